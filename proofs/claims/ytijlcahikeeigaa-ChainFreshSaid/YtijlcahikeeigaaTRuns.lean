/- What 'written' keeps while it writes: the four open transactions in one block, rows that are only read, and moves by types. -/
import Derived.Test.YtijlcahikeeigaaWritten
import Derived.Test.YtijlcahikeeigaaTAt
import Derived.Deep.MidRow
import Derived.Laws.CopyRow
namespace Go.Proofs.Ytijlcahikeeigaa.QA
open Go.RowKit Go.Proofs.YtijlcahikeeigaaW.PrintWords Go.Proofs.YtijlcahikeeigaaW.PrintLast Go.Proofs.YtijlcahikeeigaaW.PrintMore
set_option linter.unusedVariables false
set_option linter.unusedSimpArgs false
theorem into15 (n top : Int) (ht : top = 4 ∨ top = 50) (w : World) : Calls Try.prog 15 #[.int .i64 n, .int .i64 top] w fun e w' => e = .returned (.int .i64 (Log.into n top)) ∧ w = w' := by
  have h0 : (top == 0) = false := by rcases ht with rfl | rfl <;> decide
  have hm1 : -50 < Int.tmod n top := by
    rcases ht with rfl | rfl
    · have := Int.lt_tmod_of_pos n (show (0 : Int) < 4 by decide); omega
    · have := Int.lt_tmod_of_pos n (show (0 : Int) < 50 by decide); omega
  have hm2 : Int.tmod n top < 50 := by
    rcases ht with rfl | rfl
    · have := Int.tmod_lt_of_pos n (show (0 : Int) < 4 by decide); omega
    · have := Int.tmod_lt_of_pos n (show (0 : Int) < 50 by decide); omega
  have ht0 : 0 < top ∧ top ≤ 50 := by rcases ht with rfl | rfl <;> decide
  unfold Log.into
  generalize hg : Int.tmod n top = m at hm1 hm2 ⊢
  by_cases h : m < 0
  · have hd := decide_eq_true h
    rw [if_pos h]
    go_enter Try.func15, Try.ntmps15
    go_wp2
    go_ret
    exact ⟨rfl, rfl⟩
  · have hd := decide_eq_false h
    rw [if_neg h]
    go_enter Try.func15, Try.ntmps15
    go_wp2
    go_ret
    exact ⟨rfl, rfl⟩
end Go.Proofs.Ytijlcahikeeigaa.QA
namespace Go.Proofs.Ytijlcahikeeigaa.QA
open Go.RowKit Go.Proofs.YtijlcahikeeigaaW.PrintWords Go.Proofs.YtijlcahikeeigaaW.PrintLast Go.Proofs.YtijlcahikeeigaaW.PrintMore
set_option linter.unusedVariables false
set_option linter.unusedSimpArgs false
/-- Block k holds cells of type e. -/
def Ty (w : World) (k e : Nat) : Prop := ∃ cells, w.heap[k]? = some (.cells cells e (0, 0))
theorem Ty.eq {w : World} {k e t : Nat} {cs : Array Value} (h : Ty w k e) (hb : w.heap[k]? = some (.cells cs t (0, 0))) : e = t := by
  obtain ⟨c, hc⟩ := h
  rw [hc] at hb
  injection hb with hb
  injection hb
theorem Ty.uniq {w : World} {k e t : Nat} (h : Ty w k e) (h2 : Ty w k t) : e = t := by
  obtain ⟨c, hc⟩ := h2
  exact h.eq hc
theorem R_own_ty {α : Type} {d : Kd α} {e base : Nat} {ok : Nat → Prop} {w : World} {v : Value} {xs : List α} (h : d.R e w base ok v xs) {k : Nat} (hk : some k = v.ownBlock) : Ty w k e := by
  obtain ⟨_, inner, ho, _⟩ := h
  exact own_typed ho k hk.symm
/-- A move that touches no block of a row's types. -/
theorem R_tm {α : Type} {d : Kd α} {e base : Nat} {ok S : Nat → Prop} {w w1 : World} {v : Value} {xs : List α} (h : d.R e w base ok v xs) (m : Mv w w1 S) (hS : ∀ k q, S k → base ≤ k → q ∈ e :: d.E → ¬ Ty w k q) : d.R e w1 base ok v xs := by
  refine Kd.R_mono (Kd.R_kept (Kd.R_bound h) m.kept (fun k hk hs => ?_)) (fun k hk => hk.1)
  obtain ⟨_, hb, _, q, hq, c, hc⟩ := hk
  exact hS k q hs hb hq ⟨c, hc⟩
/-- A row of whole numbers that is only read: blocks of type 3, from base on. -/
def Ro (w : World) (base : Nat) (v : Value) (xs : List Int) : Prop :=
  ∃ A c, v = .slice A xs.length c ∧ xs.length ≤ c ∧ c ≤ maxLen ∧ Kd.F (Kd.int .i64) w (fun k => base ≤ k ∧ k < w.heap.size ∧ Ty w k 3) A xs.length xs
theorem Ro.nil (w : World) (base : Nat) : Ro w base (.slice none 0 0) [] := ⟨none, 0, rfl, Nat.le_refl _, Nat.zero_le _, Kd.F_nil _ _ _⟩
theorem Ro.move {w w1 : World} {base : Nat} {S : Nat → Prop} {v : Value} {xs : List Int} (h : Ro w base v xs) (m : Mv w w1 S) (hS : ∀ k, S k → base ≤ k → ¬ Ty w k 3) : Ro w1 base v xs := by
  obtain ⟨A, c, he, hc, hm, hF⟩ := h
  have hb : ∀ k, (base ≤ k ∧ k < w.heap.size ∧ Ty w k 3) → w1.heap[k]? = w.heap[k]? := fun k hk => m.block k hk.2.1 (fun hs => hS k hs hk.1 hk.2.2)
  refine ⟨A, c, he, hc, hm, Kd.F_mono (Kd.F_step hF (fun k hk _ => hb k hk)) (fun k hk => ⟨hk.1, Nat.lt_of_lt_of_le hk.2.1 m.size, ?_⟩)⟩
  obtain ⟨cs, hcs⟩ := hk.2.2
  exact ⟨cs, (hb k hk).trans hcs⟩
theorem Ro.below {w w1 : World} {base : Nat} {v : Value} {xs : List Int} (h : Ro w base v xs) (hb : Below w.heap.size w w1) : Ro w1 base v xs := by
  obtain ⟨A, c, he, hc, hm, hF⟩ := h
  refine ⟨A, c, he, hc, hm, Kd.F_mono (Kd.F_below hF hb) (fun k hk => ⟨hk.1, Nat.lt_of_lt_of_le hk.2.1 hb.size, ?_⟩)⟩
  obtain ⟨cs, hcs⟩ := hk.2.2
  exact ⟨cs, (hb.block k hk.2.1).trans hcs⟩
theorem Ro.of_R {w : World} {base : Nat} {ok : Nat → Prop} {v : Value} {xs : List Int} (h : Kd.R (Kd.int .i64) 3 w base ok v xs) : Ro w base v xs := by
  obtain ⟨A, c, rfl, hc, hC⟩ := Kd.R_reads h
  have hm : c ≤ maxLen := by
    obtain ⟨_, inner, ho, _⟩ := h
    rcases ho.2 with ⟨he, _⟩ | ⟨g, cap, cur, he, _, _, _, hm, _⟩
    · injection he with _ _ h3; omega
    · injection he with _ _ h3; omega
  refine ⟨A, c, rfl, hc, hm, Kd.F_mono (Kd.R_F (Kd.R_bound h)) (fun k hk => ⟨hk.2.1, hk.2.2.1, ?_⟩)⟩
  obtain ⟨q, hq, cs, hcs⟩ := hk.2.2.2
  have : q = 3 := by simpa [Kd.int, Kd.scalar] using hq
  exact ⟨cs, this ▸ hcs⟩
theorem Ro.slice {w : World} {base : Nat} {v : Value} {xs : List Int} (h : Ro w base v xs) : ∃ A c, v = .slice A xs.length c ∧ xs.length ≤ c ∧ c ≤ maxLen ∧ Kd.C (Kd.int .i64) w A xs.length xs := by
  obtain ⟨A, c, he, hc, hm, hF⟩ := h
  exact ⟨A, c, he, hc, hm, Kd.F_now hF⟩
/-- Its beginning, and no room behind. -/
theorem Ro.take {w : World} {base : Nat} {A : Option Addr} {c : Nat} {xs : List Int} (h : Ro w base (.slice A xs.length c) xs) (n : Nat) (hn : n ≤ xs.length) (A' : Option Addr) (hA : A' = A) : Ro w base (.slice A' n n) (xs.take n) := by
  subst hA
  obtain ⟨A, c', he, hc, hm, hF⟩ := h
  injection he with h1 h2 h3
  subst h1 h3
  have hl : (xs.take n).length = n := by simp; omega
  exact ⟨_, n, by rw [hl], by omega, by omega, Kd.F_take hF hn⟩
abbrev Tri := Value × Value × Bool
def tri (x : Tri) : Array Value := #[x.1, x.2.1, .bool x.2.2]
def cells12 (t : Nat → Tri) : Array Value := #[(t 0).1, (t 0).2.1, .bool (t 0).2.2, (t 1).1, (t 1).2.1, .bool (t 1).2.2, (t 2).1, (t 2).2.1, .bool (t 2).2.2, (t 3).1, (t 3).2.1, .bool (t 3).2.2]
def upd (t : Nat → Tri) (k : Nat) (x : Tri) : Nat → Tri := fun j => if j = k then x else t j
theorem range12 {w : World} {g : Nat} {t : Nat → Tri} (h : w.heap[g]? = some (.cells (cells12 t) 34 (0, 0))) (k : Nat) (hk : k < 4) : w.rangeAt g (k * 3) [(t k).1, (t k).2.1, .bool (t k).2.2] := by
  intro j v hv
  rw [blk_cell h]
  have : k = 0 ∨ k = 1 ∨ k = 2 ∨ k = 3 := by omega
  have hj : j = 0 ∨ j = 1 ∨ j = 2 := by have := (List.getElem?_eq_some_iff.1 hv).1; simp at this; omega
  rcases this with rfl | rfl | rfl | rfl <;> rcases hj with rfl | rfl | rfl <;> exact hv
section
variable {P : Program} {ops : Array Oper} {rest : List Oper} {o : Oper} {a : Act} {Q : Exit → Act → World → Prop}
theorem store3_event {W : World} (hgd : o.guard = none) {ty : TypeId} {x : Tmp} {y : Operand} (ho : o.op = .store ty (.tmp x) y) {g k : Nat} (hk : k < 4) {new : Tri} (hx : a.eval (.tmp x) = .pointer (some ⟨g, k * 3, none⟩)) (hy : a.eval y = .agg (tri new))
    {t : Nat → Tri} (hg : W.heap[g]? = some (.cells (cells12 t) 34 (0, 0))) (hi : (P.info? ty).map (·.size) = some 3) (h1 : new.1.oneCell' = true) (h2 : new.2.1.oneCell' = true)
    (h : ∀ w1, w1.heap[g]? = some (.cells (cells12 (upd t k new)) 34 (0, 0)) → Mv W w1 (fun k => k = g) → wpList P ops Q rest (a.put o.dst undef) w1) : wpList P ops Q (o :: rest) a W := by
  have h1' : ∀ v ∈ [new.1, new.2.1, Value.bool new.2.2], v.oneCell' = true := by
    intro v hv
    simp only [List.mem_cons, List.mem_nil_iff, or_false] at hv
    rcases hv with rfl | rfl | rfl
    · exact h1
    · exact h2
    · rfl
  have hst := run_storeCells_at (P := P) g (k * 3) 34 [new.1, new.2.1, .bool new.2.2] 0 (cells12 t) W hg (by simp [cells12]; omega) h1'
  have hnew : ((cells12 t).toList.take (k * 3 + 0) ++ [new.1, new.2.1, .bool new.2.2] ++ (cells12 t).toList.drop (k * 3 + 0 + 3)).toArray = cells12 (upd t k new) := by
    have : k = 0 ∨ k = 1 ∨ k = 2 ∨ k = 3 := by omega
    rcases this with rfl | rfl | rfl | rfl <;> simp [cells12, upd]
  refine wpList_plain hgd fun K hK => ?_
  have hrun : (execOp a.eval o).run P W = .ok .skip (W.setRow g (cells12 (upd t k new))) := by
    rw [← hnew]
    cases hq : P.info? ty with
    | none => simp [hq] at hi
    | some i =>
      have hs : i.size = 3 := by simpa [hq] using hi
      unfold execOp
      simp [ho, hx, hy, Instr.storeAt, Instr.sureAddr, storeVar, sizeOf, typeInfo, hq, Value.cells, tri, hs]
      simp at hst
      rw [hst]
      rfl
  unfold Oper.wp
  rw [hrun]
  exact hK _ _ (h _ (setRow_heap W g _ _ 34 (0, 0) hg) (Mv.setRow W g _))
/-- One cell of a block is stored; nothing is left to simp. -/
theorem put_event {W : World} (hgd : o.guard = none) {ty : TypeId} {p : Tmp} {y : Operand} (ho : o.op = .store ty (.tmp p) y) {g i : Nat} {v : Value} (hx : a.eval (.tmp p) = .pointer (some ⟨g, i, none⟩)) (hy : a.eval y = v) (h1 : v.oneCell' = true) (hv : v.cells = #[v])
    {t : TypeId} {cs : Array Value} (hg : W.heap[g]? = some (.cells cs t (0, 0))) (hi : i < cs.size) (hsz : (P.info? ty).map (·.size) = some 1)
    (h : ∀ w1, w1.heap[g]? = some (.cells (cs.setIfInBounds i v) t (0, 0)) → Mv W w1 (fun k => k = g) → wpList P ops Q rest (a.put o.dst undef) w1) : wpList P ops Q (o :: rest) a W := by
  have hst := run_storeCells_at (P := P) g i t [v] 0 cs W hg (by simp; omega) (by simp [h1])
  have hnew : (cs.toList.take (i + 0) ++ [v] ++ cs.toList.drop (i + 0 + [v].length)).toArray = cs.setIfInBounds i v := by
    apply Array.ext'
    simp only [Nat.add_zero, List.length_singleton, List.append_assoc, List.singleton_append, Array.toList_setIfInBounds]
    rw [List.set_eq_take_append_cons_drop, if_pos (by simpa using hi)]
  refine wpList_plain hgd fun K hK => ?_
  have hrun : (execOp a.eval o).run P W = .ok .skip (W.setRow g (cs.setIfInBounds i v)) := by
    rw [← hnew]
    cases hq : P.info? ty with
    | none => simp [hq] at hsz
    | some inf =>
      have hs : inf.size = 1 := by simpa [hq] using hsz
      unfold execOp
      simp only [ho, hx, hy, Instr.storeAt, Instr.sureAddr, storeVar, sizeOf, typeInfo]
      simp [hq, hv, hs]
      simp at hst
      rw [hst]
      rfl
  unfold Oper.wp
  rw [hrun]
  exact hK _ _ (h _ (setRow_heap W g _ _ t (0, 0) hg) (Mv.setRow W g _))
/-- x[:m:m]. -/
theorem cut_event {W : World} (hgd : o.guard = none) {ty e : TypeId} {x y z : Operand} (ho : o.op = .slice ty x none (some y) (some z)) {A : Option Addr} {n c m : Nat} {mi : Int} (hmi : mi = (m : Int)) (hx : a.eval x = .slice A n c) (hy : a.eval y = .int .i64 mi) (hz : a.eval z = .int .i64 mi) (hm : m ≤ c)
    (ht : P.underlying ty = some (.slice e)) {sz : Nat} (hsz : (P.info? e).map (·.size) = some sz) (h : wpList P ops Q rest (a.put o.dst (.slice A m m)) W) : wpList P ops Q (o :: rest) a W := by
  subst hmi
  refine wpList_plain hgd fun K hK => ?_
  have hrun : (execOp a.eval o).run P W = .ok (.value (.slice A m m)) W := by
    cases hq : P.info? e with
    | none => simp [hq] at hsz
    | some inf =>
      have h1 : (m : Int) ≤ (c : Int) := by omega
      have h2 : (0 : Int) ≤ (m : Int) := by omega
      unfold execOp
      simp only [ho, hx, hy, hz, Option.map_some, Option.map_none]
      have hadd : (fun a : Addr => Addr.add a 0) = id := funext fun a => Addr.add_zero' a
      simp [Instr.sliceAt, Instr.slice, Instr.sliceBounds, Instr.sliceBound, asIntOf, run_underlying ht, sizeOf, typeInfo, hq, hm, Sem.run_bind, h1, h2, hadd]
  unfold Oper.wp
  rw [hrun]
  exact hK _ _ h
/-- append onto a slice that is full: new memory. -/
theorem grow_event {W : World} (hgd : o.guard = none) (s x : Operand) (hop : o.op = .call { callee := .builtin .append, args := #[s, x], argTypes := #[23, 23] })
    (ht : P.underlying 23 = some (.slice 3)) (hinfo : (P.info? 3).map (fun i => (i.zero, i.size, i.bytes)) = some (some (.int .i64 0), 1, 8))
    {A : Option Addr} {xs : List Int} {n : Nat} (p : Int) (hn : n = xs.length) (hs : a.eval s = .slice A n n) (hx : a.eval x = .slice (some ⟨W.heap.size, 0, none⟩) 1 1) (hC : (Kd.int .i64).C W A xs.length xs) (hl : xs.length ≤ 100000)
    (h : ∀ v1 w1, Kd.R (Kd.int .i64) 3 w1 W.heap.size (fun _ => True) v1 (xs ++ [p]) → Below W.heap.size W w1 → wpList P ops Q rest (a.put o.dst v1) w1) : wpList P ops Q (o :: rest) a (W.alloc (.cells #[.int .i64 p] 3)) := by
  subst hn
  cases hi : P.info? 3 with
  | none => simp [hi] at hinfo
  | some i =>
    simp only [hi, Option.map_some, Option.some.injEq, Prod.mk.injEq] at hinfo
    obtain ⟨hz, hsz, hby⟩ := hinfo
    refine wpList_append_grows _ hgd s x 23 hop 3 i (.int .i64 0) 1 8 ht hi hz hsz hby rfl (by decide) A xs.length xs.length (encs (Value.int .i64) xs) hs (fun hA => ?_) (by simp [encs]) (fun b hb j u hj => ?_) ⟨W.heap.size, 0, none⟩ 1 1 [.int .i64 p] hx rfl (fun j u hj => ?_) (by simp [Value.oneCell']) (by omega) (by simp only [maxLen]; omega) (by omega) (fun v' w' ho hg => ?_)
    · by_cases h0 : xs.length = 0
      · exact ⟨h0, h0⟩
      · obtain ⟨ad, e, _⟩ := Kd.at_int hC 0 (by omega) (by omega)
        rw [hA] at e
        cases e
    · have hjl : j < xs.length := by have := (List.getElem?_eq_some_iff.1 hj).1; simpa [encs] using this
      obtain ⟨ad, e, hc⟩ := Kd.at_int hC j (by omega) (by omega)
      rw [hb] at e
      injection e with e
      subst e
      rw [Int.toNat_natCast] at hc
      have hu : u = .int .i64 (rd xs j) := by
        have : (encs (Value.int .i64) xs)[j]? = some (.int .i64 (rd xs j)) := by simp [encs, rd, hjl]
        rw [this] at hj
        exact (Option.some.inj hj).symm
      rw [hu, World.cell?_alloc_lt _ _ _ (World.block_lt_of_cell? W _ hc)]
      exact hc
    · have hj0 : j = 0 := by have := (List.getElem?_eq_some_iff.1 hj).1; simp at this; omega
      subst hj0
      have : u = .int .i64 p := by simpa using hj.symm
      rw [this]
      have hb : (W.alloc (.cells #[.int .i64 p] 3)).heap[W.heap.size]? = some (.cells #[.int .i64 p] 3 (0, 0)) := heap_alloc_new W _
      exact (blk_cell hb 0).trans rfl
    · have hbel : Below W.heap.size W w' := by
        have h1 : Below W.heap.size W (W.alloc (.cells #[.int .i64 p] 3)) := below_alloc (Below.refl _ _) _
        exact (Mv.of_grown hg).below h1 h1.size (fun k hk => by cases hk)
      have hr : Kd.R (Kd.int .i64) 3 w' W.heap.size (fun _ => True) v' (xs ++ [p]) := by
        refine Kd.R_lower (base := (W.alloc (.cells #[.int .i64 p] 3)).heap.size) ?_ (by simp)
        refine Kd.R_of_own (enc := Value.int .i64) (h1 := fun _ => rfl) ?_ (fun _ _ => trivial)
        rw [List.length_append, List.length_singleton]
        have : encs (Value.int .i64) (xs ++ [p]) = encs (Value.int .i64) xs ++ [.int .i64 p] := by simp [encs]
        rw [this]
        exact ho
      exact h v' w' hr hbel
end
end Go.Proofs.Ytijlcahikeeigaa.QA
