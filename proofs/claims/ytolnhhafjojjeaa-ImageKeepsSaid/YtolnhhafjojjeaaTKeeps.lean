/- ImageKeeps, walked. -/
import Derived.Test.YtolnhhafjojjeaaTLit5
import Derived.Test.YtolnhhafjojjeaaPureKeeps
namespace Go.Proofs.Ytolnhhafjojjeaa.QA
open Go.RowKit Go.Proofs.YtolnhhafjojjeaaW.PrintWords Go.Proofs.YtolnhhafjojjeaaW.PrintLast Go.Proofs.YtolnhhafjojjeaaW.PrintMore
set_option linter.unusedVariables false
set_option linter.unusedSimpArgs false
section
variable {P : Program} {ops : Array Oper} {rest : List Oper} {o : Oper} {a : Act} {Q : Exit → Act → World → Prop}
/-- x[:m]. -/
theorem upto_event {W : World} (hgd : o.guard = none) {ty e : TypeId} {x y : Operand} (ho : o.op = .slice ty x none (some y) none) {A : Option Addr} {n c m : Nat} {mi : Int} (hmi : mi = (m : Int)) (hx : a.eval x = .slice A n c) (hy : a.eval y = .int .i64 mi) (hm : m ≤ c)
    (ht : P.underlying ty = some (.slice e)) {sz : Nat} (hsz : (P.info? e).map (·.size) = some sz) (h : wpList P ops Q rest (a.put o.dst (.slice A m c)) W) : wpList P ops Q (o :: rest) a W := by
  subst hmi
  refine wpList_plain hgd fun K hK => ?_
  have hrun : (execOp a.eval o).run P W = .ok (.value (.slice A m c)) W := by
    cases hq : P.info? e with
    | none => simp [hq] at hsz
    | some inf =>
      have h1 : (m : Int) ≤ (c : Int) := by omega
      have h2 : (0 : Int) ≤ (m : Int) := by omega
      unfold execOp
      simp only [ho, hx, hy, Option.map_some, Option.map_none]
      have hadd : (fun a : Addr => Addr.add a 0) = id := funext fun a => Addr.add_zero' a
      simp [Instr.sliceAt, Instr.slice, Instr.sliceBounds, Instr.sliceBound, asIntOf, run_underlying ht, sizeOf, typeInfo, hq, hm, Sem.run_bind, h1, h2, hadd]
  unfold Oper.wp
  rw [hrun]
  exact hK _ _ h
end
def flip (x : Int) : Int := bits .xor .u8 x 85
theorem flip_other (n : Nat) (h : n < 256) : flip (n : Int) ≠ (n : Int) := by
  have : ∀ n : Fin 256, flip (n.val : Int) ≠ (n.val : Int) := by decide +kernel
  exact this ⟨n, h⟩
theorem flip_ne (x : Int) (h0 : 0 ≤ x) (h1 : x < 256) : flip x ≠ x := by
  obtain ⟨n, rfl⟩ := Int.eq_ofNat_of_zero_le h0
  exact flip_other n (by omega)
theorem below_go {W w w1 : World} {n : Nat} (B : Below n W w) (hn : n ≤ w.heap.size) (h : Below w.heap.size w w1) : Below n W w1 :=
  (Mv.of_below h (fun _ => False)).below B hn (fun _ h => h.elim)
/-- The first j bytes turned. -/
def turnedTo (b : List Int) (j : Nat) : List Int := (b.take j).map flip ++ b.drop j
theorem turned_len (b : List Int) (j : Nat) : (turnedTo b j).length = b.length := by
  unfold turnedTo
  rw [List.length_append, List.length_map, List.length_take, List.length_drop]
  omega
theorem turned_rd (b : List Int) (j : Nat) (h : j < b.length) : (turnedTo b j)[j]? = b[j]? := by
  unfold turnedTo
  rw [List.getElem?_append_right (by simp; omega)]
  simp
  congr 1
  omega
theorem turned_step (b : List Int) (j : Nat) (h : j < b.length) : (turnedTo b j).set j (flip (b.getD j 0)) = turnedTo b (j + 1) := by
  unfold turnedTo
  have hl : ((b.take j).map flip).length = j := by simp; omega
  rw [List.set_append_right _ _ (by omega), hl, Nat.sub_self, List.drop_eq_getElem_cons h, List.set_cons_zero, List.take_succ_eq_append_getElem h]
  rw [List.map_append, List.append_assoc]
  simp [List.getD_eq_getElem?_getD, h]
theorem turned_all (b : List Int) : turnedTo b b.length = b.map flip := by simp [turnedTo]
theorem five_len (b r : List Int) (hb : b.length ≤ 140737488351232) (hr : r.length ≤ 140737488351232) : ∀ m, m < 5 → (fiveL b b r b b m).length + 100 ≤ 140737488355000 := by
  intro m hm
  have : m = 0 ∨ m = 1 ∨ m = 2 ∨ m = 3 ∨ m = 4 := by omega
  rcases this with rfl | rfl | rfl | rfl | rfl <;> simp [fiveL] <;> omega
theorem set_left (xs ys : List Int) (j : Nat) (x : Int) (h : j < xs.length) : (xs ++ ys).set j x = xs.set j x ++ ys := List.set_append_left j x h
set_option maxHeartbeats 8000000 in
set_option maxRecDepth 100000 in
theorem keeps7 {W0 : World} {A0 A1 : Option Addr} {c0 c1 : Nat} (b r : List Int) (hb : b.length ≤ 140737488351232) (hr : r.length ≤ 140737488351232) (hbw : ∀ x ∈ b, 0 ≤ x ∧ x < 256) (hC0 : Kd.C (Kd.int .u8) W0 A0 b.length b) (hc0 : b.length ≤ c0) (hC1 : Kd.C (Kd.int .u8) W0 A1 r.length r) (hc1 : r.length ≤ c1) :
    Calls Try.prog 7 #[.slice A0 b.length c0, .slice A1 r.length c1] W0 fun e w' => e = .returned (.bool true) ∧ Below W0.heap.size W0 w' := by
  have HC0 := Aside0.mk hC0
  have HC1 := Aside0.mk hC1
  have Hc0 := Aside0.mk hc0
  have Hc1 := Aside0.mk hc1
  have Hbw := Aside0.mk hbw
  have Hlb := Aside0.mk (Plain.lent_is b hb (b.length + 123) (by omega))
  have Hlr := Aside0.mk (Plain.lent_is r hr (r.length + 123) (by omega))
  have Hwb := Aside0.mk (Plain.whole_is b hb (b.length + 123) (by omega))
  have Hwr := Aside0.mk (Plain.whole_is r hr (r.length + 123) (by omega))
  obtain ⟨xb, hxb⟩ : ∃ z, z = b ++ Plain.marks := ⟨_, rfl⟩
  obtain ⟨xr, hxr⟩ : ∃ z, z = r ++ Plain.marks := ⟨_, rfl⟩
  rw [← hxb] at Hlb Hwb
  rw [← hxr] at Hlr Hwr
  have Hxb := Aside0.mk hxb
  have Hxr := Aside0.mk hxr
  have hlxb : b.length ≤ xb.length := by rw [hxb, List.length_append]; omega
  have hlxr : r.length ≤ xr.length := by rw [hxr, List.length_append]; omega
  have Htk := Aside0.mk (show xb.take b.length = b from by rw [hxb]; exact List.take_left' rfl)
  have Htr := Aside0.mk (show xr.take r.length = r from by rw [hxr]; exact List.take_left' rfl)
  have Mb := Aside0.mk hb
  have Mr := Aside0.mk hr
  clear hC0 hC1 hc0 hc1 hxb hxr hbw
  go_enter Try.func7, Try.ntmps7
  go_upto_region 3 with (first
    | ((with_reducible refine gate_dst (N := 24) rfl ?_); refine goesL_ (some 24) rfl rfl Try.func8 (by kernel_rfl) rfl #[.slice A0 b.length c0] rfl (by (try simp only [List.map_toArray, List.map_cons, List.map_nil]); first | done | rfl) ?_
       refine (tidemarklaw03_lent.calls _ A0 c0 b _ _ HC0.out Hc0.out Hlb.out).mono ?_
       rintro e w1 ⟨v0, rfl, ho0, hb_⟩
       refine ⟨_, rfl, ?_⟩
       obtain ⟨Ax, cx, rfl⟩ := Kd.R_slice ho0
       have Rx1 := Aside0.mk ho0
       have L1 := Aside0.mk hb_
       clear ho0 hb_)
    | ((with_reducible refine gate_dst (N := 26) rfl ?_); refine goesL_ (some 26) rfl rfl Try.func8 (by kernel_rfl) rfl #[.slice A1 r.length c1] rfl (by (try simp only [List.map_toArray, List.map_cons, List.map_nil]); first | done | rfl) ?_
       refine (tidemarklaw03_lent.calls _ A1 c1 r _ _ (Kd.C_below HC1.out L1.out) Hc1.out Hlr.out).mono ?_
       rintro e w2 ⟨v0, rfl, ho0, hb_⟩
       refine ⟨_, rfl, ?_⟩
       obtain ⟨Ay, cy, rfl⟩ := Kd.R_slice ho0
       have Ry2 := Aside0.mk ho0
       have L2 := Aside0.mk hb_
       clear ho0 hb_))
  have hcx : b.length ≤ cx := Nat.le_trans hlxb (Kd.R_reads' Rx1.out).2.1
  have hcy : r.length ≤ cy := Nat.le_trans hlxr (Kd.R_reads' Ry2.out).2.1
  have Xw2 := Aside0.mk (Kd.C_below (Kd.R_reads' Rx1.out).2.2 L2.out)
  have Yw2 := Aside0.mk (Kd.R_reads' Ry2.out).2.2
  have X2 := Aside0.mk (show Kd.C (Kd.int .u8) w2 Ax b.length b from by
    have h := Kd.C_take (m := b.length) Xw2.out hlxb
    rwa [Htk.out] at h)
  have Y2 := Aside0.mk (show Kd.C (Kd.int .u8) w2 Ay r.length r from by
    have h := Kd.C_take (m := r.length) Yw2.out hlxr
    rwa [Htr.out] at h)
  have B2 := Aside0.mk ((Mv.of_below L2.out (fun _ => False)).below L1.out L1.out.size (fun _ h => h.elim))
  go_upto_region 10 with (first
    | ((with_reducible refine gate_dst (N := 30) rfl ?_); refine upto_event rfl (y := .tmp 29) rfl (m := b.length) rfl rfl rfl hcx Try.underlying22 (by kernel_rfl) ?_)
    | ((with_reducible refine gate_dst (N := 34) rfl ?_); refine upto_event rfl (y := .tmp 33) rfl (m := r.length) rfl rfl rfl hcy Try.underlying22 (by kernel_rfl) ?_)
    | ((with_reducible refine gate_dst (N := 39) rfl ?_); refine goesL_ (some 39) rfl rfl Try.func14 (by kernel_rfl) rfl #[.slice Ax b.length cx, .int .i64 0, .int .i64 (b.length : Int)] rfl (by (try simp only [List.map_toArray, List.map_cons, List.map_nil]); first | done | rfl) ?_
       refine (image_Cut.calls Ax cx b 0 (b.length : Int) b 0 _ X2.out hcx (Pure.keep_cut b Mb.out)).mono ?_
       rintro e w3 ⟨v0, rfl, ho0, hb_⟩
       refine ⟨_, rfl, ?_⟩
       obtain ⟨Ac, cc, rfl⟩ := Kd.R_slice ho0
       have Rc := Aside0.mk ho0
       have L3 := Aside0.mk hb_
       have X3 := Aside0.mk (Kd.C_below X2.out hb_)
       have Y3 := Aside0.mk (Kd.C_below Y2.out hb_)
       clear ho0 hb_)
    | ((with_reducible refine gate_dst (N := 46) rfl ?_); refine goesL_ (some 46) rfl rfl Try.func16 (by kernel_rfl) rfl #[.slice Ax b.length cx, .int .i64 (b.length : Int), .slice none 0 0] rfl (by (try simp only [List.map_toArray, List.map_cons, List.map_nil]); first | done | rfl) ?_
       refine (image_Lay.calls Ax cx b (b.length : Int) none 0 [] b 0 _ X3.out hcx (Kd.C_nil _ _) (Nat.le_refl _) (Pure.keep_lay b Mb.out)).mono ?_
       rintro e w4 ⟨v0, rfl, ho0, hb_⟩
       refine ⟨_, rfl, ?_⟩
       obtain ⟨Ad, cd, rfl⟩ := Kd.R_slice ho0
       have Rd := Aside0.mk ho0
       have L4 := Aside0.mk hb_
       have X4 := Aside0.mk (Kd.C_below X3.out hb_)
       have Y4 := Aside0.mk (Kd.C_below Y3.out hb_)
       clear ho0 hb_)
    | ((with_reducible refine gate_dst (N := 52) rfl ?_); refine goesL_ (some 52) rfl rfl Try.func16 (by kernel_rfl) rfl #[.slice Ay r.length cy, .int .i64 0, .slice Ay r.length cy] rfl (by (try simp only [List.map_toArray, List.map_cons, List.map_nil]); first | done | rfl) ?_
       refine (image_Lay.calls Ay cy r 0 Ay cy r r 0 _ Y4.out hcy Y4.out hcy (Pure.keep_self r Mr.out)).mono ?_
       rintro e w5 ⟨v0, rfl, ho0, hb_⟩
       refine ⟨_, rfl, ?_⟩
       obtain ⟨Ag, cg, rfl⟩ := Kd.R_slice ho0
       have Rg := Aside0.mk ho0
       have L5 := Aside0.mk hb_
       have X5 := Aside0.mk (Kd.C_below X4.out hb_)
       have Y5 := Aside0.mk (Kd.C_below Y4.out hb_)
       clear ho0 hb_)
    | ((with_reducible refine gate_dst (N := 59) rfl ?_); refine goesL_ (some 59) rfl rfl Try.func14 (by kernel_rfl) rfl #[.slice Ax b.length cx, .int .i64 0, .int .i64 (b.length : Int)] rfl (by (try simp only [List.map_toArray, List.map_cons, List.map_nil]); first | done | rfl) ?_
       refine (image_Cut.calls Ax cx b 0 (b.length : Int) b 0 _ X5.out hcx (Pure.keep_cut b Mb.out)).mono ?_
       rintro e w6 ⟨v0, rfl, ho0, hb_⟩
       refine ⟨_, rfl, ?_⟩
       obtain ⟨Ai, ci, rfl⟩ := Kd.R_slice ho0
       have Ri := Aside0.mk ho0
       have L6 := Aside0.mk hb_
       have X6 := Aside0.mk (Kd.C_below X5.out hb_)
       have Y6 := Aside0.mk (Kd.C_below Y5.out hb_)
       clear ho0 hb_)
    | ((with_reducible refine gate_dst (N := 66) rfl ?_); refine goesL_ (some 66) rfl rfl Try.func16 (by kernel_rfl) rfl #[.slice Ax b.length cx, .int .i64 (b.length : Int), .slice none 0 0] rfl (by (try simp only [List.map_toArray, List.map_cons, List.map_nil]); first | done | rfl) ?_
       refine (image_Lay.calls Ax cx b (b.length : Int) none 0 [] b 0 _ X6.out hcx (Kd.C_nil _ _) (Nat.le_refl _) (Pure.keep_lay b Mb.out)).mono ?_
       rintro e w7 ⟨v0, rfl, ho0, hb_⟩
       refine ⟨_, rfl, ?_⟩
       obtain ⟨Ak, ck, rfl⟩ := Kd.R_slice ho0
       have Rk := Aside0.mk ho0
       have L7 := Aside0.mk hb_
       have X7 := Aside0.mk (Kd.C_below X6.out hb_)
       have Y7 := Aside0.mk (Kd.C_below Y6.out hb_)
       clear ho0 hb_))
  go_upto_region 12 with (first
    | (go_at_call 12; refine (num_same _ _).mono ?_; rintro e w' ⟨rfl, rfl⟩)
    | ((with_reducible refine gate_dst (N := 93) rfl ?_); refine gate_guard rfl ?_; refine goesL_ (some 93) rfl rfl Try.func11 (by kernel_rfl) rfl #[] rfl (by (try simp only [List.map_toArray, List.map_cons, List.map_nil]); first | done | rfl) ?_
       refine (tidemarklaw03_alive.calls true _ rfl).mono ?_
       rintro e w8 ⟨rfl, hb_⟩
       refine ⟨_, rfl, ?_⟩
       have L8 := Aside0.mk hb_
       have X8 := Aside0.mk (Kd.C_below X7.out hb_)
       have Y8 := Aside0.mk (Kd.C_below Y7.out hb_)
       clear hb_))
  have B3 := Aside0.mk (below_go B2.out B2.out.size L3.out)
  have B4 := Aside0.mk (below_go B3.out (Nat.le_trans B2.out.size L3.out.size) L4.out)
  have s3 := L3.out.size
  have s4 := L4.out.size
  have s5 := L5.out.size
  have s6 := L6.out.size
  have s7 := L7.out.size
  have s8 := L8.out.size
  have s2 := B2.out.size
  have B5 := Aside0.mk (below_go B4.out (by omega) L5.out)
  have B6 := Aside0.mk (below_go B5.out (by omega) L6.out)
  have B7 := Aside0.mk (below_go B6.out (by omega) L7.out)
  have B8 := Aside0.mk (below_go B7.out (by omega) L8.out)
  have D4 := Aside0.mk (below_go L3.out (by omega) L4.out)
  have D5 := Aside0.mk (below_go D4.out (by omega) L5.out)
  have D6 := Aside0.mk (below_go D5.out (by omega) L6.out)
  have D7 := Aside0.mk (below_go D6.out (by omega) L7.out)
  have D8 := Aside0.mk (below_go D7.out (by omega) L8.out)
  clear s3 s4 s5 s6 s7 s8 s2
  go_upto_region 14 with (first
    | ((with_reducible refine gate_dst (N := 101) rfl ?_); refine lit5_event rfl rfl rfl rfl rfl rfl rfl (lit41 w8 Ac Ad Ag Ai Ak b.length b.length r.length b.length b.length cc cd cg ci ck) ?_
       intro gA w9 hgA hA hb9
       have NA := Aside0.mk hgA
       have HA := Aside0.mk hA
       have L9 := Aside0.mk hb9
       have B9 := Aside0.mk (below_go B8.out B8.out.size hb9)
       have cv0 := Kd.C_string (P := Try.prog) (A := A0) (c := c0) (src := 22) (dst := 9) Try.underlying22 Try.underlying5 Try.underlying9 (Kd.C_below HC0.out B9.out)
       have cv1 := Kd.C_string (P := Try.prog) (A := A1) (c := c1) (src := 22) (dst := 9) Try.underlying22 Try.underlying5 Try.underlying9 (Kd.C_below HC1.out B9.out)
       clear hgA hA hb9)
    | ((with_reducible refine gate_dst (N := 112) rfl ?_); refine lit5_event rfl rfl rfl rfl rfl rfl rfl (lit42 w9 (strOfNums b) (strOfNums b) (strOfNums r) (strOfNums b) (strOfNums b)) ?_
       intro gW w10 hgW hW hb10
       clear cv0 cv1
       have HWs := Aside0.mk hW
       have L10 := Aside0.mk hb10
       clear hgW hW hb10)
    | ((with_reducible refine gate_dst (N := 113) rfl ?_); refine goesL_ (some 113) rfl rfl Try.func18 (by kernel_rfl) rfl #[.slice (some ⟨gA, 0, none⟩) 5 5, .slice (some ⟨gW, 0, none⟩) 5 5] rfl (by (try simp only [List.map_toArray, List.map_cons, List.map_nil]); first | done | rfl) ?_
       refine (apart18 (Wb := w2) (v := five (.slice Ac b.length cc) (.slice Ad b.length cd) (.slice Ag r.length cg) (.slice Ai b.length ci) (.slice Ak b.length ck)) (xs0 := fiveL b b r b b) (n := fun m => (fiveL b b r b b m).length) (Fr.make5 Rc.out Rd.out Rg.out Ri.out Rk.out L3.out L4.out L5.out L6.out L7.out (below_go (below_go L8.out L8.out.size L9.out) (Nat.le_trans L8.out.size L9.out.size) L10.out) (Nat.le_trans L8.out.size NA.out) (blk_below HA.out L10.out)) (fun m hm => rfl) (five_len b r Mb.out Mr.out) HWs.out).mono ?_
       rintro e w11 ⟨rfl, hb_⟩
       refine ⟨_, rfl, ?_⟩
       have E11 := Aside0.mk hb_
       have B11 := Aside0.mk (below_go B2.out B2.out.size hb_)
       clear hb_)
    | ((with_reducible refine gate_dst (N := 118) rfl ?_); refine gate_guard rfl ?_; refine goesL_ (some 118) rfl rfl Try.func13 (by kernel_rfl) rfl #[.slice Ax xb.length cx, .slice A0 b.length c0] rfl (by (try simp only [List.map_toArray, List.map_cons, List.map_nil]); first | done | rfl) ?_
       refine (tidemarklaw03_whole.calls (b.length + 123) Ax cx xb A0 c0 b true _ (Kd.C_below Xw2.out E11.out) (Kd.R_reads' Rx1.out).2.1 (Kd.C_below HC0.out B11.out) Hc0.out Hwb.out).mono ?_
       rintro e w12 ⟨rfl, hb_⟩
       refine ⟨_, rfl, ?_⟩
       have E12 := Aside0.mk (below_go E11.out E11.out.size hb_)
       have B12 := Aside0.mk (below_go B11.out B11.out.size hb_)
       clear hb_)
    | ((with_reducible refine gate_dst (N := 124) rfl ?_); refine gate_guard rfl ?_; refine goesL_ (some 124) rfl rfl Try.func13 (by kernel_rfl) rfl #[.slice Ay xr.length cy, .slice A1 r.length c1] rfl (by (try simp only [List.map_toArray, List.map_cons, List.map_nil]); first | done | rfl) ?_
       refine (tidemarklaw03_whole.calls (r.length + 123) Ay cy xr A1 c1 r true _ (Kd.C_below Yw2.out E12.out) (Kd.R_reads' Ry2.out).2.1 (Kd.C_below HC1.out B12.out) Hc1.out Hwr.out).mono ?_
       rintro e w13 ⟨rfl, hb_⟩
       refine ⟨_, rfl, ?_⟩
       have E13 := Aside0.mk (below_go E12.out E12.out.size hb_)
       have B13 := Aside0.mk (below_go B12.out B12.out.size hb_)
       clear hb_))
  have R13 := Aside0.mk (show Kd.R (Kd.int .u8) 5 w13 W0.heap.size (fun _ => True) (.slice Ax xb.length cx) (turnedTo b 0 ++ Plain.marks) from by
    have h := Kd.R_below (Kd.R_below Rx1.out L2.out) E13.out
    rw [Hxb.out] at h ⊢
    exact h)
  have hlm : Aside0 (xb.length = b.length + Plain.marks.length) := ⟨by rw [Hxb.out, List.length_append]⟩
  clear Rc Rd Rg Ri Rk HA HWs Xw2 Yw2 X2 Y2 X3 Y3 X4 Y4 X5 Y5 X6 Y6 X7 Y7 X8 Y8 L1 L2 L3 L4 L5 L6 L7 L8 L9 L10 D4 D5 D6 D7 D8 E11 E12 E13 B2 B3 B4 B5 B6 B7 B8 B9 B11 B12 NA Ry2 Rx1 Htr Htk Hlb Hlr Hwb Hwr hlxb hlxr
  go_wp2_with fail
  go_loopg [19] b.length (fun kq v19 w' => ∃ (j : Nat), v19 = .int .i64 (j : Int) ∧ Aside0 (j + kq = b.length) ∧ Aside0 (Kd.R (Kd.int .u8) 5 w' W0.heap.size (fun _ => True) (.slice Ax xb.length cx) (turnedTo b j ++ Plain.marks)) ∧ Aside0 (Below W0.heap.size W0 w'))
  case atStart => exact ⟨0, rfl, ⟨by omega⟩, R13, B13⟩
  case round =>
    clear R13 B13
    obtain ⟨j, rfl, hjk, hR, hB⟩ := hrel
    cases gk with
    | zero =>
      obtain rfl : j = b.length := hjk.out
      have hd1 : ¬ ((b.length : Int) < (b.length : Int)) := by omega
      obtain ⟨Wl, hWl, hR⟩ : ∃ W, W = _ ∧ Aside0 (Kd.R (Kd.int .u8) 5 W W0.heap.size (fun _ => True) (.slice Ax xb.length cx) (turnedTo b b.length ++ Plain.marks)) := ⟨_, rfl, hR⟩
      subst hWl
      obtain ⟨fl, hfl⟩ : ∃ z, z = b.map flip := ⟨_, rfl⟩
      have hlen : fl.length = b.length := by rw [hfl, List.length_map]
      have hC := (Kd.R_reads' hR.out).2.2
      have hC2 := Kd.C_take (m := b.length) hC (by rw [List.length_append, turned_len]; omega)
      rw [turned_all, List.take_left' (by rw [List.length_map]), ← hfl] at hC2
      have hf : fl.length ≤ 140737488351232 := by rw [hlen]; exact Mb.out
      have hcf : fl.length ≤ cx := by rw [hlen]; exact hcx
      have hother : ∀ j : Nat, j < fl.length → rd fl j ≠ rd b j := by
        intro j hj
        have hj2 : j < b.length := by omega
        have e1 : rd fl j = flip (rd b j) := by
          unfold rd
          rw [Int.toNat_natCast, hfl]
          simp [List.getD_eq_getElem?_getD, hj2]
        rw [e1]
        have hm : rd b j ∈ b := by
          unfold rd
          rw [Int.toNat_natCast, List.getD_eq_getElem?_getD, List.getElem?_eq_getElem hj2]
          exact List.getElem_mem _
        have := Hbw.out _ hm
        exact flip_ne _ this.1 this.2
      have K18 := Aside0.mk (fun (w : World) (h : Kd.C (Kd.int .u8) w Ax fl.length fl) => image_Cut.calls Ax cx fl 0 (fl.length : Int) fl 0 w h hcf (Pure.keep_cut fl hf))
      have K19 := Aside0.mk (fun (w : World) (h : Kd.C (Kd.int .u8) w Ax fl.length fl) => image_Lay.calls Ax cx fl 0 none 0 [] fl 0 w h hcf (Kd.C_nil _ _) (Nat.le_refl _) (Pure.keep_lay0 fl hf))
      have K20 := Aside0.mk (fun (w : World) (h : Kd.C (Kd.int .u8) w Ax fl.length fl) (h0 : Kd.C (Kd.int .u8) w A0 b.length b) => image_Part.calls (fl.length + 1) Ax cx fl A0 c0 b 0 (fl.length : Int) 0 w h hcf h0 Hc0.out (Pure.keep_part fl b hlen hf hother _ (Nat.lt_succ_self _)))
      have V := Aside0.mk (fun (w : World) (A : Option Addr) (c : Nat) (h : Kd.C (Kd.int .u8) w A fl.length fl) => Kd.C_string (P := Try.prog) (A := A) (c := c) (src := 22) (dst := 9) Try.underlying22 Try.underlying5 Try.underlying9 h)
      have U := Aside0.mk V.out
      have hC3 := Aside0.mk hC2
      have Hcf := Aside0.mk hcf
      rw [hlen] at K18 K19 K20 V hC3 
      have BW := Aside0.mk (show Below W0.heap.size W0 Wl from hB.out)
      clear hC hC2 hf hcf hother hR hB Hbw
      have Hlen := Aside0.mk hlen
      clear hlen hfl
      go_upto_region 21 with (first
    | ((with_reducible refine gate_dst (N := 145) rfl ?_); refine goesL_ (some 145) rfl rfl Try.func14 (by kernel_rfl) rfl #[.slice Ax b.length cx, .int .i64 0, .int .i64 (b.length : Int)] rfl (by (try simp only [List.map_toArray, List.map_cons, List.map_nil]); first | done | rfl) ?_
       refine (K18.out _ hC3.out).mono ?_
       rintro e w14 ⟨v0, rfl, ho0, hb_⟩
       refine ⟨_, rfl, ?_⟩
       obtain ⟨Ap, cp, rfl⟩ := Kd.R_slice ho0
       have Pp := Aside0.mk (Kd.R_reads' ho0).2.2
       have T14 := Aside0.mk (below_go BW.out BW.out.size hb_)
       have C14 := Aside0.mk (Kd.C_below hC3.out hb_)
       have M14 := Aside0.mk hb_
       clear ho0 hb_)
    | ((with_reducible refine gate_dst (N := 150) rfl ?_); refine goesL_ (some 150) rfl rfl Try.func16 (by kernel_rfl) rfl #[.slice Ax b.length cx, .int .i64 0, .slice none 0 0] rfl (by (try simp only [List.map_toArray, List.map_cons, List.map_nil]); first | done | rfl) ?_
       refine (K19.out _ C14.out).mono ?_
       rintro e w15 ⟨v0, rfl, ho0, hb_⟩
       refine ⟨_, rfl, ?_⟩
       obtain ⟨Aq, cq, rfl⟩ := Kd.R_slice ho0
       have Pq := Aside0.mk (Kd.R_reads' ho0).2.2
       have T15 := Aside0.mk (below_go T14.out T14.out.size hb_)
       have C15 := Aside0.mk (Kd.C_below C14.out hb_)
       have M15 := Aside0.mk hb_
       clear ho0 hb_)
    | ((with_reducible refine gate_dst (N := 156) rfl ?_); refine goesL_ (some 156) rfl rfl Try.func9 (by kernel_rfl) rfl #[.slice Ax b.length cx, .slice A0 b.length c0] rfl (by (try simp only [List.map_toArray, List.map_cons, List.map_nil]); first | done | rfl) ?_
       refine (K20.out _ C15.out (Kd.C_below HC0.out T15.out)).mono ?_
       rintro e w16 ⟨rfl, hd_⟩
       refine ⟨_, rfl, ?_⟩
       have M16 := Aside0.mk hd_.below
       have T16 := Aside0.mk (below_go T15.out T15.out.size hd_.below)
       clear hd_))
      have V1 := U.out _ _ cp (Kd.C_below (Kd.C_below Pp.out M15.out) M16.out)
      have V2 := U.out _ _ cq (Kd.C_below Pq.out M16.out)
      have V3 := V.out _ _ cx (Kd.C_below C15.out M16.out)
      go_wp2_with (first
        | (go_at_call 12; refine (num_same _ _).mono ?_; rintro e w' ⟨rfl, rfl⟩))
      go_ret
      exact ⟨rfl, T16.out⟩
    | succ k1 =>
      have hj0 : j < b.length := by have := hjk.out; omega
      have hj1 : (j : Int) < (b.length : Int) := by omega
      have hj2 : decide ((j : Int) < (b.length : Int)) = true := decide_eq_true hj1
      have hbl := Mb.out
      obtain ⟨Ws, hWs, hR⟩ : ∃ W, W = _ ∧ Aside0 (Kd.R (Kd.int .u8) 5 W W0.heap.size (fun _ => True) (.slice Ax xb.length cx) (turnedTo b j ++ Plain.marks)) := ⟨_, rfl, hR⟩
      subst hWs
      obtain ⟨g, cap, cur, he, hg, hjc, hput⟩ := row_open hR.out j (by rw [List.length_append, turned_len]; omega)
      injection he with e1 e2 e3
      subst e1 e3
      have Hg := Aside0.mk hg
      have Hput := Aside0.mk hput
      obtain ⟨bj, hbj⟩ : ∃ z, z = b.getD j 0 := ⟨_, rfl⟩
      have Hbj := Aside0.mk hbj
      clear hbj
      have hce : Ws.cell? ⟨g, j, none⟩ = some (.int .u8 bj) := by
        obtain ⟨ad, e, hc⟩ := Kd.at_int (Kd.R_reads' hR.out).2.2 (j : Int) (by omega) (by rw [List.length_append, turned_len]; omega)
        injection e with e
        subst e
        rw [Int.toNat_natCast, Addr.add_mid, Nat.zero_add] at hc
        rw [hc, Hbj.out]
        unfold rd
        rw [Int.toNat_natCast, List.getD_eq_getElem?_getD, List.getElem?_append_left (by rw [turned_len]; exact hj0), turned_rd _ _ hj0, ← List.getD_eq_getElem?_getD]
      clear hg hput e2
      go_wp2_with (first
        | ((with_reducible refine gate_store (t := 5) (p := 140) (v := .tmp 139) rfl ?_); refine put_event rfl rfl (g := g) (i := j) (v := .int .u8 (flip bj)) rfl rfl rfl rfl Hg.out hjc (by kernel_rfl) ?_
           intro w20 hb20 mv20
           have hlo := Kd.R_base hR.out g rfl
           have R20 := Aside0.mk (Hput.out w20 _ hb20)
           have B20 := Aside0.mk (mv20.below hB.out hB.out.size (fun k hk => hk ▸ hlo))
           clear hb20 mv20 hlo))
      go_roundg k1
      case measure => omega
      case rel => exact ⟨j + 1, rfl, ⟨by have := hjk.out; omega⟩, ⟨by
        have := R20.out
        rwa [set_left _ _ _ _ (by rw [turned_len]; exact hj0), Hbj.out, turned_step b j hj0] at this⟩, B20⟩
end Go.Proofs.Ytolnhhafjojjeaa.QA
