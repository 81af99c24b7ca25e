/- CrcLinear's region 8: four rows are laid and summed, in whatever order. -/
import Derived.Test.YtbienfoijomibaaDoorSlots
import Derived.Test.YtbienfoijomibaaDoorQAx2
import Derived.Test.YtbienfoijomibaaDoorQAx3
namespace Go.Proofs.YtbienfoijomibaaDoor.QA
open Go.RowKit Go.Proofs.YtbienfoijomibaaDoorW.PrintWords Go.Proofs.YtbienfoijomibaaDoorW.PrintLast Go.Proofs.YtbienfoijomibaaDoorW.PrintMore Go.Slots
set_option linter.unusedVariables false
set_option linter.unusedSimpArgs false
/-- A row that lies: its value and its cells. -/
def Lies (W : World) (v : Value) (xs : List (List Int)) : Prop := ∃ A c, v = .slice A xs.length c ∧ xs.length ≤ c ∧ Kd.C (Kd.slice 5 (Kd.int .u8)) W A xs.length xs
theorem Lies.step {W W' : World} {v : Value} {xs : List (List Int)} (h : Lies W v xs) (hb : Below W.heap.size W W') : Lies W' v xs := by
  obtain ⟨A, c, rfl, hc, hC⟩ := h
  exact ⟨A, c, rfl, hc, Kd.C_below hC hb⟩
section
variable {P : Program} {ops : Array Oper} {Q : Exit → Act → World → Prop} {K : Act → World → Prop} {o : Oper} {b : Act} {w : World}
theorem value_step (v : Value) (hw : Region.wanted o (yielded ops b.tmps) = true) (hrun : (execOp b.eval o).run P w = .ok (.value v) w) (h : K (b.put o.dst v) w) :
    if Region.wanted o (yielded ops b.tmps) = true then Oper.wp P o b w K Q else K (b.put o.dst undef) w := by
  rw [if_pos hw]
  unfold Oper.wp
  rw [hrun]
  exact h
theorem lit_step {N' : Tmp} (hd : o.dst = some N') (hw : Region.wanted o (yielded ops b.tmps) = true) {A : Option Addr} {c : Nat} {row : List Int} (hC : Kd.C (Kd.int .u8) w A row.length row) (hc : row.length ≤ c)
    (hrun : (execOp b.eval o).run P w = .ok (.value (.slice (some ⟨w.heap.size, 0, none⟩) 1 1)) (w.alloc (.cells #[.slice A row.length c] 28)))
    (h : ∀ v W', Lies W' v [row] → Below w.heap.size w W' → K (b.put o.dst v) W') :
    if Region.wanted o (yielded ops b.tmps) = true then Oper.wp P o b w K Q else K (b.put o.dst undef) w := by
  refine Kd.N_lit_step (Kd.slice 5 (Kd.int .u8)) w.heap.size 28 (w0 := w) hw (N' := N') hd (xs := ([row] : List (List Int))) (inner := [.slice A row.length c]) (ok := fun _ => True) (okp := fun k => k < w.heap.size) hrun
    (Reps.one (show Kd.FK (Kd.slice 5 (Kd.int .u8)) _ _ row [.slice A row.length c] from Kd.FK_slice_mk hc (Kd.C_F (Kd.heap_int .u8) hC)) (Reps.none _ _)) (fun _ _ => trivial) trivial (Below.refl _ _) (Nat.le_refl _) (by simp) ?_
  intro v w1 ho hb _ _
  obtain ⟨A', c', rfl⟩ := Kd.N_slice ho
  obtain ⟨_, h2, h3⟩ := Kd.N_reads' ho
  exact h _ w1 ⟨A', c', rfl, h2, h3⟩ hb
end

def ops8 : Array Oper := #[{ dst := some 38, op := Op.move (Operand.tmp 10), type := 28, pos := "law.go:77", after := #[], guard := none }, { dst := some 39, op := Op.buildSlice 22 1 #[(0, Operand.tmp 38)], type := 22, pos := "law.go:77", after := #[{ on := 0, ground := Ground.data }], guard := none }, { dst := some 40, op := Op.call { callee := Callee.value (Operand.func 9), args := #[Operand.tmp 39], argTypes := #[22] }, type := 23, pos := "law.go:77", after := #[{ on := 1, ground := Ground.data }], guard := none }, { dst := some 41, op := Op.move (Operand.tmp 0), type := 28, pos := "law.go:77", after := #[], guard := none }, { dst := some 42, op := Op.move (Operand.tmp 9), type := 3, pos := "law.go:77", after := #[], guard := none }, { dst := some 43, op := Op.slice 28 (Operand.tmp 41) none (some (Operand.tmp 42)) none, type := 28, pos := "law.go:77", after := #[{ on := 3, ground := Ground.data }, { on := 4, ground := Ground.data }], guard := none }, { dst := some 44, op := Op.buildSlice 22 1 #[(0, Operand.tmp 43)], type := 22, pos := "law.go:77", after := #[{ on := 5, ground := Ground.data }], guard := none }, { dst := some 45, op := Op.call { callee := Callee.value (Operand.func 9), args := #[Operand.tmp 44], argTypes := #[22] }, type := 23, pos := "law.go:77", after := #[{ on := 6, ground := Ground.data }, { on := 2, ground := Ground.chain }], guard := none }, { dst := some 46, op := Op.move (Operand.tmp 1), type := 28, pos := "law.go:77", after := #[], guard := none }, { dst := some 47, op := Op.move (Operand.tmp 9), type := 3, pos := "law.go:77", after := #[], guard := none }, { dst := some 48, op := Op.slice 28 (Operand.tmp 46) none (some (Operand.tmp 47)) none, type := 28, pos := "law.go:77", after := #[{ on := 8, ground := Ground.data }, { on := 9, ground := Ground.data }], guard := none }, { dst := some 49, op := Op.buildSlice 22 1 #[(0, Operand.tmp 48)], type := 22, pos := "law.go:77", after := #[{ on := 10, ground := Ground.data }], guard := none }, { dst := some 50, op := Op.call { callee := Callee.value (Operand.func 9), args := #[Operand.tmp 49], argTypes := #[22] }, type := 23, pos := "law.go:77", after := #[{ on := 11, ground := Ground.data }, { on := 7, ground := Ground.chain }], guard := none }, { dst := some 51, op := Op.binOp BinOp.xor 23 (Operand.tmp 45) (Operand.tmp 50) 23, type := 23, pos := "law.go:77", after := #[{ on := 7, ground := Ground.data }, { on := 12, ground := Ground.data }], guard := none }, { dst := some 52, op := Op.move (Operand.tmp 11), type := 28, pos := "law.go:77", after := #[], guard := none }, { dst := some 53, op := Op.buildSlice 22 1 #[(0, Operand.tmp 52)], type := 22, pos := "law.go:77", after := #[{ on := 14, ground := Ground.data }], guard := none }, { dst := some 54, op := Op.call { callee := Callee.value (Operand.func 9), args := #[Operand.tmp 53], argTypes := #[22] }, type := 23, pos := "law.go:77", after := #[{ on := 15, ground := Ground.data }, { on := 12, ground := Ground.chain }], guard := none }, { dst := some 55, op := Op.binOp BinOp.xor 23 (Operand.tmp 51) (Operand.tmp 54) 23, type := 23, pos := "law.go:77", after := #[{ on := 13, ground := Ground.data }, { on := 16, ground := Ground.data }], guard := none }, { dst := some 56, op := Op.binOp BinOp.neq 23 (Operand.tmp 40) (Operand.tmp 55) 23, type := 4, pos := "law.go:77", after := #[{ on := 2, ground := Ground.data }, { on := 17, ground := Ground.data }], guard := none }, { dst := some 57, op := Op.move (Operand.tmp 56), type := 4, pos := "law.go:77", after := #[{ on := 18, ground := Ground.data }, { on := 16, ground := Ground.chain }], guard := none }, { dst := some 58, op := Op.call { callee := Callee.value (Operand.func 8), args := #[], argTypes := #[] }, type := 4, pos := "law.go:77", after := #[{ on := 19, ground := Ground.chain }, { on := 19, ground := Ground.guard }], guard := some (19, false) }, { dst := some 59, op := Op.unOp UnOp.not 4 (Operand.tmp 58), type := 4, pos := "law.go:77", after := #[{ on := 20, ground := Ground.data }, { on := 19, ground := Ground.guard }], guard := some (19, false) }, { dst := some 60, op := Op.pick (Operand.tmp 57) (Operand.const (Value.bool true)) (Operand.tmp 59), type := 4, pos := "law.go:77", after := #[{ on := 19, ground := Ground.data }, { on := 21, ground := Ground.data }], guard := none }]


set_option maxRecDepth 100000 in
theorem deps8 : depsB ops8 72 = true := by kernel_rfl
/-- What the region's slots bear. -/
def lin (A0 A1 A10 A11 : Option Addr) (c0 c1 c10 c11 : Nat) (l0 l1 x10 x11 y0 y1 : List Int) (n t0 t1 t2 t3 : Int) (s : Tmp) (v : Value) (W : World) : Prop :=
  match s with
  | 38 => v = .slice A10 x10.length c10
  | 39 => Lies W v [x10]
  | 40 => v = .int .u32 t0
  | 41 => v = .slice A0 l0.length c0
  | 42 => v = .int .i64 n
  | 43 => v = .slice A0 y0.length c0
  | 44 => Lies W v [y0]
  | 45 => v = .int .u32 t1
  | 46 => v = .slice A1 l1.length c1
  | 47 => v = .int .i64 n
  | 48 => v = .slice A1 y1.length c1
  | 49 => Lies W v [y1]
  | 50 => v = .int .u32 t2
  | 51 => v = .int .u32 (Go.bits .xor .u32 t1 t2)
  | 52 => v = .slice A11 x11.length c11
  | 53 => Lies W v [x11]
  | 54 => v = .int .u32 t3
  | 55 => v = .int .u32 (Go.bits .xor .u32 (Go.bits .xor .u32 t1 t2) t3)
  | 56 => v = .bool false
  | 57 => v = .bool false
  | 58 => v = .bool true
  | 59 => v = .bool false
  | 60 => v = .bool false
  | _ => True
theorem lin_mono {A0 A1 A10 A11 : Option Addr} {c0 c1 c10 c11 : Nat} {l0 l1 x10 x11 y0 y1 : List Int} {n t0 t1 t2 t3 : Int} (s : Tmp) (v : Value) (W W' : World) (hb : Below W.heap.size W W')
    (h : lin A0 A1 A10 A11 c0 c1 c10 c11 l0 l1 x10 x11 y0 y1 n t0 t1 t2 t3 s v W) : lin A0 A1 A10 A11 c0 c1 c10 c11 l0 l1 x10 x11 y0 y1 n t0 t1 t2 t3 s v W' := by
  unfold lin at h ⊢
  split at h <;> first | exact h | exact h.step hb
set_option maxRecDepth 100000 in
theorem frame8 (v0 v1 v2 v3 v4 v5 v6 v7 v8 v9 v10 v11 v12 v13 v14 v15 v16 v17 v18 v19 v20 v21 v22 v23 v24 v25 v26 v27 v28 v29 v30 v31 v32 v33 v34 v35 v36 v37 v38 v39 v40 v41 v42 v43 v44 v45 v46 v47 v48 v49 v50 v51 v52 v53 v54 v55 v56 v57 v58 v59 v60 v61 v62 v63 v64 v65 v66 v67 v68 v69 v70 v71 : Value) (u : Tmp → Value) : frame ops8 #[v0, v1, v2, v3, v4, v5, v6, v7, v8, v9, v10, v11, v12, v13, v14, v15, v16, v17, v18, v19, v20, v21, v22, v23, v24, v25, v26, v27, v28, v29, v30, v31, v32, v33, v34, v35, v36, v37, v38, v39, v40, v41, v42, v43, v44, v45, v46, v47, v48, v49, v50, v51, v52, v53, v54, v55, v56, v57, v58, v59, v60, v61, v62, v63, v64, v65, v66, v67, v68, v69, v70, v71] u = [v0, v1, v2, v3, v4, v5, v6, v7, v8, v9, v10, v11, v12, v13, v14, v15, v16, v17, v18, v19, v20, v21, v22, v23, v24, v25, v26, v27, v28, v29, v30, v31, v32, v33, v34, v35, v36, v37, u 38, u 39, u 40, u 41, u 42, u 43, u 44, u 45, u 46, u 47, u 48, u 49, u 50, u 51, u 52, u 53, u 54, u 55, u 56, u 57, u 58, u 59, u 60, v61, v62, v63, v64, v65, v66, v67, v68, v69, v70, v71] := by kernel_rfl
/-- Each operation finds its slots' claims and makes its own. -/
theorem lin_steps {Q : Exit → Act → World → Prop} {tmps : Array Value} {W0 : World} {A0 A1 A10 A11 : Option Addr} {c0 c1 c10 c11 : Nat} {l0 l1 x10 x11 y0 y1 : List Int} {n t0 t1 t2 t3 : Int}
    (e0 : tmps.getD 0 undef = .slice A0 l0.length c0) (e1 : tmps.getD 1 undef = .slice A1 l1.length c1) (e9 : tmps.getD 9 undef = .int .i64 n) (e10 : tmps.getD 10 undef = .slice A10 x10.length c10) (e11 : tmps.getD 11 undef = .slice A11 x11.length c11)
    (hx : Kd.C (Kd.int .u8) W0 A10 x10.length x10) (hxc : x10.length ≤ c10) (hz : Kd.C (Kd.int .u8) W0 A11 x11.length x11) (hzc : x11.length ≤ c11)
    (ha : Kd.C (Kd.int .u8) W0 A0 y0.length y0) (hac : y0.length ≤ c0) (hb : Kd.C (Kd.int .u8) W0 A1 y1.length y1) (hbc : y1.length ≤ c1) (hT : Tab W0)
    (cut0 : ∀ W, (Instr.slice 28 (.slice A0 l0.length c0) none (some (.int .i64 n)) none).run Tryd.prog W = .ok (.slice A0 y0.length c0) W)
    (cut1 : ∀ W, (Instr.slice 28 (.slice A1 l1.length c1) none (some (.int .i64 n)) none).run Tryd.prog W = .ok (.slice A1 y1.length c1) W)
    (s0 : crc_Sum.f [x10] = some t0) (s1 : crc_Sum.f [y0] = some t1) (s2 : crc_Sum.f [y1] = some t2) (s3 : crc_Sum.f [x11] = some t3) (hne : (t0 != (Go.bits .xor .u32 (Go.bits .xor .u32 t1 t2) t3)) = false) :
    AllOk (StepOk Tryd.prog ops8 Q tmps [] (lin A0 A1 A10 A11 c0 c1 c10 c11 l0 l1 x10 x11 y0 y1 n t0 t1 t2 t3) (fun W => Below W0.heap.size W0 W)) ops8.toList := by
  have call : ∀ {b : Act} {w : World} {K : Act → World → Prop} {N' : Tmp} {x : Operand} {o : Oper} {ts : Array TypeId} {v : Value} {row : List Int} {t : Int}, Lies w v [row] → crc_Sum.f [row] = some t → Below W0.heap.size W0 w → b.eval x = v → Region.wanted o (yielded ops8 b.tmps) = true → o.dst = some N' →
      o.op = .call { callee := .value (.func 9), args := #[x], argTypes := ts } → (∀ w', Below w.heap.size w w' → Below W0.heap.size W0 w' → K (b.put o.dst (.int .u32 t)) w') → if Region.wanted o (yielded ops8 b.tmps) = true then Oper.wp Tryd.prog o b w K Q else K (b.put o.dst undef) w := by
    intro b w K N' x o ts v row t hl hs hG he hw hd hop hK
    obtain ⟨A, c, rfl, hc, hC⟩ := hl
    rw [hd] at hK ⊢
    refine goes_ Tryd.func9 (by kernel_rfl) rfl #[.slice A [row].length c] hw hd hop (by simp [he]) ?_
    refine (crc_Sum.same A c [row] t w hC hc hs ⟨hT.step hG⟩).mono ?_
    rintro e w' ⟨rfl, rfl⟩
    exact ⟨_, rfl, hK _ (Below.refl _ _) hG⟩
  have yes : ∀ {b : Act}, b.tmps.size = tmps.size → b.eval (.tmp 57) = .bool false → (yielded ops8 b.tmps 19 == some false) = true := by
    intro b hn he
    have h57 : b.tmps[57]? = some (.bool false) := by
      simp only [Act.eval, Array.getD_eq_getD_getElem?] at he
      cases hh : b.tmps[57]? with
      | none => rw [hh] at he; cases he
      | some v => rw [hh] at he; exact congrArg some he
    have : yielded ops8 b.tmps 19 = (match (some 57 : Option Tmp).bind fun x => b.tmps[x]? with | some (.bool b) => some b | _ => none) := rfl
    rw [this]
    simp [h57]
  refine ⟨?_, ?_, ?_, ?_, ?_, ?_, ?_, ?_, ?_, ?_, ?_, ?_, ?_, ?_, ?_, ?_, ?_, ?_, ?_, ?_, ?_, ?_, ?_, trivial⟩ <;> intro b w hn hdf hG hnew hold K hK
  · have e := (hold 10 (by kernel_rfl) (by kernel_rfl)).trans e10
    exact value_step _ rfl (by show Result.ok (Next.value (b.eval (.tmp 10))) w = _; rw [e]) (hK _ w rfl (Below.refl _ _) hG)
  · have e : b.eval (.tmp 38) = .slice A10 x10.length c10 := hnew 38 (by kernel_rfl) (by kernel_rfl)
    refine lit_step (N' := 39) rfl rfl (Kd.C_below hx hG) hxc ?_ (fun v W' hl hb => hK v W' hl hb (below_step hG hb))
    generalize b.eval = ρ at e
    go_simp
  · exact call (hnew 39 (by kernel_rfl) (by kernel_rfl)) s0 hG rfl rfl rfl rfl (fun w' hb hG' => hK _ w' rfl hb hG')
  · have e := (hold 0 (by kernel_rfl) (by kernel_rfl)).trans e0
    exact value_step _ rfl (by show Result.ok (Next.value (b.eval (.tmp 0))) w = _; rw [e]) (hK _ w rfl (Below.refl _ _) hG)
  · have e := (hold 9 (by kernel_rfl) (by kernel_rfl)).trans e9
    exact value_step _ rfl (by show Result.ok (Next.value (b.eval (.tmp 9))) w = _; rw [e]) (hK _ w rfl (Below.refl _ _) hG)
  · have e : b.eval (.tmp 41) = .slice A0 l0.length c0 := hnew 41 (by kernel_rfl) (by kernel_rfl)
    have f : b.eval (.tmp 42) = .int .i64 n := hnew 42 (by kernel_rfl) (by kernel_rfl)
    refine value_step (.slice A0 y0.length c0) rfl ?_ (hK _ w rfl (Below.refl _ _) hG)
    generalize b.eval = ρ at e f
    have hc := cut0 w
    go_simp
  · have e : b.eval (.tmp 43) = .slice A0 y0.length c0 := hnew 43 (by kernel_rfl) (by kernel_rfl)
    refine lit_step (N' := 44) rfl rfl (Kd.C_below ha hG) hac ?_ (fun v W' hl hb => hK v W' hl hb (below_step hG hb))
    generalize b.eval = ρ at e
    go_simp
  · exact call (hnew 44 (by kernel_rfl) (by kernel_rfl)) s1 hG rfl rfl rfl rfl (fun w' hb hG' => hK _ w' rfl hb hG')
  · have e := (hold 1 (by kernel_rfl) (by kernel_rfl)).trans e1
    exact value_step _ rfl (by show Result.ok (Next.value (b.eval (.tmp 1))) w = _; rw [e]) (hK _ w rfl (Below.refl _ _) hG)
  · have e := (hold 9 (by kernel_rfl) (by kernel_rfl)).trans e9
    exact value_step _ rfl (by show Result.ok (Next.value (b.eval (.tmp 9))) w = _; rw [e]) (hK _ w rfl (Below.refl _ _) hG)
  · have e : b.eval (.tmp 46) = .slice A1 l1.length c1 := hnew 46 (by kernel_rfl) (by kernel_rfl)
    have f : b.eval (.tmp 47) = .int .i64 n := hnew 47 (by kernel_rfl) (by kernel_rfl)
    refine value_step (.slice A1 y1.length c1) rfl ?_ (hK _ w rfl (Below.refl _ _) hG)
    generalize b.eval = ρ at e f
    have hc := cut1 w
    go_simp
  · have e : b.eval (.tmp 48) = .slice A1 y1.length c1 := hnew 48 (by kernel_rfl) (by kernel_rfl)
    refine lit_step (N' := 49) rfl rfl (Kd.C_below hb hG) hbc ?_ (fun v W' hl hb => hK v W' hl hb (below_step hG hb))
    generalize b.eval = ρ at e
    go_simp
  · exact call (hnew 49 (by kernel_rfl) (by kernel_rfl)) s2 hG rfl rfl rfl rfl (fun w' hb hG' => hK _ w' rfl hb hG')
  · have e : b.eval (.tmp 45) = .int .u32 t1 := hnew 45 (by kernel_rfl) (by kernel_rfl)
    have f : b.eval (.tmp 50) = .int .u32 t2 := hnew 50 (by kernel_rfl) (by kernel_rfl)
    refine value_step (.int .u32 (Go.bits .xor .u32 t1 t2)) rfl ?_ (hK _ w rfl (Below.refl _ _) hG)
    generalize b.eval = ρ at e f
    go_simp
  · have e := (hold 11 (by kernel_rfl) (by kernel_rfl)).trans e11
    exact value_step _ rfl (by show Result.ok (Next.value (b.eval (.tmp 11))) w = _; rw [e]) (hK _ w rfl (Below.refl _ _) hG)
  · have e : b.eval (.tmp 52) = .slice A11 x11.length c11 := hnew 52 (by kernel_rfl) (by kernel_rfl)
    refine lit_step (N' := 53) rfl rfl (Kd.C_below hz hG) hzc ?_ (fun v W' hl hb => hK v W' hl hb (below_step hG hb))
    generalize b.eval = ρ at e
    go_simp
  · exact call (hnew 53 (by kernel_rfl) (by kernel_rfl)) s3 hG rfl rfl rfl rfl (fun w' hb hG' => hK _ w' rfl hb hG')
  · have e : b.eval (.tmp 51) = .int .u32 (Go.bits .xor .u32 t1 t2) := hnew 51 (by kernel_rfl) (by kernel_rfl)
    have f : b.eval (.tmp 54) = .int .u32 t3 := hnew 54 (by kernel_rfl) (by kernel_rfl)
    refine value_step (.int .u32 (Go.bits .xor .u32 (Go.bits .xor .u32 t1 t2) t3)) rfl ?_ (hK _ w rfl (Below.refl _ _) hG)
    generalize b.eval = ρ at e f
    go_simp
  · have e : b.eval (.tmp 40) = .int .u32 t0 := hnew 40 (by kernel_rfl) (by kernel_rfl)
    have f : b.eval (.tmp 55) = .int .u32 (Go.bits .xor .u32 (Go.bits .xor .u32 t1 t2) t3) := hnew 55 (by kernel_rfl) (by kernel_rfl)
    refine value_step (.bool false) rfl ?_ (hK _ w rfl (Below.refl _ _) hG)
    generalize b.eval = ρ at e f
    go_simp
  · have e : b.eval (.tmp 56) = .bool false := hnew 56 (by kernel_rfl) (by kernel_rfl)
    exact value_step _ rfl (by show Result.ok (Next.value (b.eval (.tmp 56))) w = _; rw [e]) (hK _ w rfl (Below.refl _ _) hG)
  · have e : b.eval (.tmp 57) = .bool false := hnew 57 (by kernel_rfl) (by kernel_rfl)
    refine goes_ Tryd.func8 (by kernel_rfl) rfl #[] (yes hn e) rfl rfl (by simp) ?_
    refine (tidemarklaw02_known.calls true w rfl ⟨hT.step hG⟩).mono ?_
    rintro e w' ⟨rfl, hb⟩
    exact ⟨_, rfl, hK _ _ rfl hb (below_step hG hb)⟩
  · have e : b.eval (.tmp 57) = .bool false := hnew 57 (by kernel_rfl) (by kernel_rfl)
    have f : b.eval (.tmp 58) = .bool true := hnew 58 (by kernel_rfl) (by kernel_rfl)
    refine value_step (.bool false) (yes hn e) ?_ (hK _ w rfl (Below.refl _ _) hG)
    generalize b.eval = ρ at e f
    go_simp
  · have e : b.eval (.tmp 57) = .bool false := hnew 57 (by kernel_rfl) (by kernel_rfl)
    have f : b.eval (.tmp 59) = .bool false := hnew 59 (by kernel_rfl) (by kernel_rfl)
    refine value_step (.bool false) rfl ?_ (hK _ w rfl (Below.refl _ _) hG)
    generalize b.eval = ρ at e f
    go_simp
end Go.Proofs.YtbienfoijomibaaDoor.QA
