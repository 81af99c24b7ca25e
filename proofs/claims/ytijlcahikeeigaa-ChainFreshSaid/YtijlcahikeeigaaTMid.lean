/- What 'written' keeps, in one structure; behind stores into its own boxes. -/
import Derived.Test.YtijlcahikeeigaaTRuns
import Derived.Test.YtijlcahikeeigaaLogUpto
import Derived.StillTailTactics
namespace Go.Proofs.Ytijlcahikeeigaa.QA
open Go.RowKit Go.Proofs.YtijlcahikeeigaaW.PrintWords Go.Proofs.YtijlcahikeeigaaW.PrintLast Go.Proofs.YtijlcahikeeigaaW.PrintMore
set_option linter.unusedVariables false
set_option linter.unusedSimpArgs false
/-- An act of the plan. -/
def k58 : Kd (Int × Int × Int) := Kd.pair (Kd.int .i64) (Kd.pair (Kd.int .i64) (Kd.int .i64))
theorem k58_open {w : World} {x : Int × Int × Int} {cs : List Value} (h : k58.K w x cs) : cs = [.int .i64 x.1, .int .i64 x.2.1, .int .i64 x.2.2] := by
  obtain ⟨_, _, rfl, rfl, ⟨_, _, rfl, rfl, rfl⟩⟩ := h
  exact rfl
theorem at_T58 {w : World} {A : Option Addr} {n : Nat} {xs : List (Int × Int × Int)} (h : Kd.C k58 w A n xs) (i : Int) (h0 : 0 ≤ i) (h1 : i < n) : ∃ ad, A = some ad ∧ w.cell? (ad.add (i.toNat * 3)) = some (.int .i64 (xs.getD i.toNat (0, 0, 0)).1) ∧ w.cell? ⟨(ad.add (i.toNat * 3)).block, (ad.add (i.toNat * 3)).off + 1, none⟩ = some (.int .i64 (xs.getD i.toNat (0, 0, 0)).2.1) ∧ w.cell? ⟨(ad.add (i.toNat * 3)).block, (ad.add (i.toNat * 3)).off + 2, none⟩ = some (.int .i64 (xs.getD i.toNat (0, 0, 0)).2.2) := by
  obtain ⟨ad, c, e, _, hK, hc0⟩ := Kd.C_get h (0, 0, 0) i h0 h1
  have hc : ∀ j u, c[j]? = some u → w.cell? (ad.add (i.toNat * 3 + j)) = some u := hc0
  obtain rfl := k58_open hK
  exact ⟨ad, e, hc 0 _ rfl, by rw [← add_field _ _ 1 (by omega)]; exact hc 1 _ rfl, by rw [← add_field _ _ 2 (by omega)]; exact hc 2 _ rfl⟩
/-- What 'written' keeps. -/
structure Wr13 (W0 w : World) (g4 g7 : Nat) (t : Nat → Tri) (vl vw : Value) (s : Log.Log) : Prop where
  bel : Below W0.heap.size W0 w
  h4 : w.heap[g4]? = some (.cells (cells12 fun _ => (.slice none 0 0, .slice none 0 0, false)) 34 (0, 0))
  h7 : w.heap[g7]? = some (.cells (cells12 t) 34 (0, 0))
  b4 : W0.heap.size ≤ g4
  b7 : W0.heap.size ≤ g7
  ne : g4 ≠ g7
  runs : ∀ k, k < 4 → Ro w W0.heap.size (t k).1 (s.runs.getD k Log.noRun).all ∧ Ro w W0.heap.size (t k).2.1 (s.runs.getD k Log.noRun).left ∧ (t k).2.2 = (s.runs.getD k Log.noRun).back
  lines : Kd.R k43 43 w W0.heap.size (fun _ => True) vl s.lines
  ways : Kd.R (Kd.slice 3 (Kd.int .i64)) 23 w W0.heap.size (fun _ => True) vw s.ways
theorem e3int : ∀ q ∈ 3 :: (Kd.int .i64).E, q = 3 := by decide
theorem info23 : (Try.prog.info? 23).map (fun i => (i.zero, i.size, i.bytes)) = some (some (.slice none 0 0), 1, 24) := by kernel_rfl
theorem e43 : ∀ q ∈ 43 :: k43.E, q ≠ 33 ∧ q ≠ 41 ∧ q ≠ 34 ∧ q ≠ 23 := by decide
theorem e23 : ∀ q ∈ 23 :: (Kd.slice 3 (Kd.int .i64)).E, q ≠ 33 ∧ q ≠ 41 ∧ q ≠ 34 ∧ q ≠ 43 := by decide
section
variable {W0 w w1 : World} {g4 g7 g11 g12 : Nat} {t : Nat → Tri} {vl vw va vlf : Value} {s : Log.Log} {x : Log.Run} {r : S41} {S : Nat → Prop}
theorem Wr13.size (h : Wr13 W0 w g4 g7 t vl vw s) : W0.heap.size ≤ w.heap.size := h.bel.size
theorem Wr13.move (h : Wr13 W0 w g4 g7 t vl vw s) (m : Mv w w1 S) (hS : ∀ k, S k → W0.heap.size ≤ k ∧ ∀ q, Ty w k q → q = 33 ∨ q = 41) : Wr13 W0 w1 g4 g7 t vl vw s := by
  have hty : ∀ k q, S k → q ≠ 33 ∧ q ≠ 41 → ¬ Ty w k q := fun k q hk hq ht => ((hS k hk).2 q ht).elim hq.1 hq.2
  refine ⟨m.below h.bel h.size (fun k hk => (hS k hk).1), m.blk h.h4 (fun hk => hty _ 34 hk (by decide) ⟨_, h.h4⟩), m.blk h.h7 (fun hk => hty _ 34 hk (by decide) ⟨_, h.h7⟩), h.b4, h.b7, h.ne, fun k hk => ?_,
    R_tm h.lines m (fun k q hs _ hq => hty k q hs ⟨(e43 q hq).1, (e43 q hq).2.1⟩), R_tm h.ways m (fun k q hs _ hq => hty k q hs ⟨(e23 q hq).1, (e23 q hq).2.1⟩)⟩
  obtain ⟨r1, r2, r3⟩ := h.runs k hk
  exact ⟨r1.move m (fun k hs _ => hty k 3 hs (by decide)), r2.move m (fun k hs _ => hty k 3 hs (by decide)), r3⟩
theorem Wr13.below (h : Wr13 W0 w g4 g7 t vl vw s) (hb : Below w.heap.size w w1) : Wr13 W0 w1 g4 g7 t vl vw s :=
  h.move (Mv.of_below hb (fun _ => False)) (fun _ hk => hk.elim)
/-- Behind the store of the result. -/
theorem Wr13.post (h : Wr13 W0 w g4 g7 t vl vw s) (m : Mv w w1 (fun k => k = g4)) : Below W0.heap.size W0 w1 ∧
    (∀ k, k < 4 → Ro w1 W0.heap.size (t k).1 (s.runs.getD k Log.noRun).all ∧ Ro w1 W0.heap.size (t k).2.1 (s.runs.getD k Log.noRun).left ∧ (t k).2.2 = (s.runs.getD k Log.noRun).back) ∧
    Kd.R k43 43 w1 W0.heap.size (fun _ => True) vl s.lines ∧ Kd.R (Kd.slice 3 (Kd.int .i64)) 23 w1 W0.heap.size (fun _ => True) vw s.ways := by
  have hty : ∀ k q, k = g4 → q ≠ 34 → ¬ Ty w k q := fun k q hk hq ht => hq ((hk ▸ ht : Ty w g4 q).eq h.h4)
  refine ⟨m.below h.bel h.size (fun k hk => hk ▸ h.b4), fun k hk => ?_, R_tm h.lines m (fun k q hs _ hq => hty k q hs (e43 q hq).2.2.1), R_tm h.ways m (fun k q hs _ hq => hty k q hs (e23 q hq).2.2.1)⟩
  obtain ⟨r1, r2, r3⟩ := h.runs k hk
  exact ⟨r1.move m (fun k hs _ => hty k 3 hs (by decide)), r2.move m (fun k hs _ => hty k 3 hs (by decide)), r3⟩
theorem Wr13.lsn (h : Wr13 W0 w g4 g7 t vl vw s) (z : Int) : Wr13 W0 w g4 g7 t vl vw { s with lsn := z } := ⟨h.bel, h.h4, h.h7, h.b4, h.b7, h.ne, h.runs, h.lines, h.ways⟩
def rec41 (r : S41) : Array Value := #[.int .i64 r.f0, .int .i64 r.f1, .int .i64 r.f2, .int .i64 r.f3, .int .i64 r.f4, .int .i64 r.f5, .slice none 0 0, .slice none 0 0, .int .i64 r.f8, .slice none 0 0, .slice none 0 0]
/-- .. with the boxes of 'x' and of 'r'. -/
structure Mid13 (W0 w : World) (g4 g7 g11 g12 : Nat) (t : Nat → Tri) (vl vw : Value) (s : Log.Log) (va vlf : Value) (x : Log.Run) (r : S41) : Prop where
  wr : Wr13 W0 w g4 g7 t vl vw s
  h11 : w.heap[g11]? = some (.cells #[va, vlf, .bool x.back] 33 (0, 0))
  h12 : w.heap[g12]? = some (.cells (rec41 r) 41 (0, 0))
  b11 : W0.heap.size ≤ g11
  b12 : W0.heap.size ≤ g12
  ra : Ro w W0.heap.size va x.all
  rl : Ro w W0.heap.size vlf x.left
theorem Mid13.move (h : Mid13 W0 w g4 g7 g11 g12 t vl vw s va vlf x r) (m : Mv w w1 S) (hS : ∀ k, S k → W0.heap.size ≤ k ∧ ∀ q, Ty w k q → q = 33 ∨ q = 41) {vlf' : Value} {x' : Log.Run} {r' : S41}
    (h11 : w1.heap[g11]? = some (.cells #[va, vlf', .bool x'.back] 33 (0, 0))) (h12 : w1.heap[g12]? = some (.cells (rec41 r') 41 (0, 0))) (hx : x'.all = x.all) (rl : Ro w1 W0.heap.size vlf' x'.left) : Mid13 W0 w1 g4 g7 g11 g12 t vl vw s va vlf' x' r' :=
  ⟨h.wr.move m hS, h11, h12, h.b11, h.b12, by rw [hx]; exact h.ra.move m (fun k hs _ ht => ((hS k hs).2 3 ht).elim (by decide) (by decide)), rl⟩
theorem Mid13.below (h : Mid13 W0 w g4 g7 g11 g12 t vl vw s va vlf x r) (hb : Below w.heap.size w w1) : Mid13 W0 w1 g4 g7 g11 g12 t vl vw s va vlf x r :=
  ⟨h.wr.below hb, blk_below h.h11 hb, blk_below h.h12 hb, h.b11, h.b12, h.ra.below hb, h.rl.below hb⟩
theorem Mid13.ne (h : Mid13 W0 w g4 g7 g11 g12 t vl vw s va vlf x r) : g11 ≠ g12 := fun e => by
  have := Ty.eq ⟨_, h.h11⟩ (e ▸ h.h12)
  exact absurd this (by decide)
/-- A store into the box of 'r'. -/
theorem Mid13.set12 (h : Mid13 W0 w g4 g7 g11 g12 t vl vw s va vlf x r) (m : Mv w w1 (fun k => k = g12)) {r' : S41} (h12 : w1.heap[g12]? = some (.cells (rec41 r') 41 (0, 0))) : Mid13 W0 w1 g4 g7 g11 g12 t vl vw s va vlf x r' := by
  have hS : ∀ k, k = g12 → W0.heap.size ≤ k ∧ ∀ q, Ty w k q → q = 33 ∨ q = 41 := fun k hk => ⟨hk ▸ h.b12, fun q hq => .inr ((hk ▸ hq : Ty w g12 q).eq h.h12)⟩
  exact h.move m hS (m.blk h.h11 h.ne) h12 rfl (h.rl.move m (fun k hs _ ht => ((hS k hs).2 3 ht).elim (by decide) (by decide)))
/-- A store into the box of 'x': 'Back'. -/
theorem Mid13.setBack (h : Mid13 W0 w g4 g7 g11 g12 t vl vw s va vlf x r) (m : Mv w w1 (fun k => k = g11)) {b : Bool} (h11 : w1.heap[g11]? = some (.cells #[va, vlf, .bool b] 33 (0, 0))) : Mid13 W0 w1 g4 g7 g11 g12 t vl vw s va vlf { x with back := b } r := by
  have hS : ∀ k, k = g11 → W0.heap.size ≤ k ∧ ∀ q, Ty w k q → q = 33 ∨ q = 41 := fun k hk => ⟨hk ▸ h.b11, fun q hq => .inl ((hk ▸ hq : Ty w g11 q).eq h.h11)⟩
  exact h.move m hS h11 (m.blk h.h12 (fun e => h.ne e.symm)) rfl (h.rl.move m (fun k hs _ ht => ((hS k hs).2 3 ht).elim (by decide) (by decide)))
/-- .. : 'Left'. -/
theorem Mid13.setLeft (h : Mid13 W0 w g4 g7 g11 g12 t vl vw s va vlf x r) (m : Mv w w1 (fun k => k = g11)) {vlf' : Value} {l : List Int} (hl : Ro w W0.heap.size vlf' l) (h11 : w1.heap[g11]? = some (.cells #[va, vlf', .bool x.back] 33 (0, 0))) : Mid13 W0 w1 g4 g7 g11 g12 t vl vw s va vlf' { x with left := l } r := by
  have hS : ∀ k, k = g11 → W0.heap.size ≤ k ∧ ∀ q, Ty w k q → q = 33 ∨ q = 41 := fun k hk => ⟨hk ▸ h.b11, fun q hq => .inl ((hk ▸ hq : Ty w g11 q).eq h.h11)⟩
  exact h.move m hS h11 (m.blk h.h12 (fun e => h.ne e.symm)) rfl (hl.move m (fun k hs _ ht => ((hS k hs).2 3 ht).elim (by decide) (by decide)))
/-- .. : 'All'. -/
theorem Mid13.setAll (h : Mid13 W0 w g4 g7 g11 g12 t vl vw s va vlf x r) (m : Mv w w1 (fun k => k = g11)) {va' : Value} {l : List Int} (hl : Ro w W0.heap.size va' l) (h11 : w1.heap[g11]? = some (.cells #[va', vlf, .bool x.back] 33 (0, 0))) : Mid13 W0 w1 g4 g7 g11 g12 t vl vw s va' vlf { x with all := l } r := by
  have hS : ∀ k, k = g11 → W0.heap.size ≤ k ∧ ∀ q, Ty w k q → q = 33 ∨ q = 41 := fun k hk => ⟨hk ▸ h.b11, fun q hq => .inl ((hk ▸ hq : Ty w g11 q).eq h.h11)⟩
  have hno : ∀ k, k = g11 → W0.heap.size ≤ k → ¬ Ty w k 3 := fun k hs _ ht => ((hS k hs).2 3 ht).elim (by decide) (by decide)
  exact ⟨h.wr.move m hS, h11, m.blk h.h12 (fun e => h.ne e.symm), h.b11, h.b12, hl.move m hno, h.rl.move m hno⟩
/-- A transaction is laid to its place. -/
theorem Wr13.setRun (h : Wr13 W0 w g4 g7 t vl vw s) (m : Mv w w1 (fun k => k = g7)) {kn : Nat} (hkn : kn < 4) (hlen : s.runs.length = 4) {new : Tri} (hg : w1.heap[g7]? = some (.cells (cells12 (upd t kn new)) 34 (0, 0))) {x : Log.Run}
    (ha : Ro w W0.heap.size new.1 x.all) (hl : Ro w W0.heap.size new.2.1 x.left) (hb : new.2.2 = x.back) : Wr13 W0 w1 g4 g7 (upd t kn new) vl vw { s with runs := s.runs.set kn x } := by
  have hty : ∀ k q, k = g7 → q ≠ 34 → ¬ Ty w k q := fun k q hk hq ht => hq ((hk ▸ ht : Ty w g7 q).eq h.h7)
  refine ⟨m.below h.bel h.size (fun k hk => hk ▸ h.b7), m.blk h.h4 h.ne, hg, h.b4, h.b7, h.ne, fun k hk => ?_,
    R_tm h.lines m (fun k q hs _ hq => hty k q hs (e43 q hq).2.2.1), R_tm h.ways m (fun k q hs _ hq => hty k q hs (e23 q hq).2.2.1)⟩
  have hno : ∀ k, k = g7 → W0.heap.size ≤ k → ¬ Ty w k 3 := fun k hs _ ht => hty k 3 hs (by decide) ht
  dsimp only
  rw [Log.getD_set _ _ _ _ (by rw [hlen]; exact hk)]
  by_cases hkk : kn = k
  · rw [if_pos hkk]
    simp only [upd, hkk.symm, if_true]
    exact ⟨ha.move m hno, hl.move m hno, hb⟩
  · rw [if_neg hkk]
    simp only [upd, if_neg (show ¬ k = kn from fun e => hkk e.symm)]
    obtain ⟨r1, r2, r3⟩ := h.runs k hk
    exact ⟨r1.move m hno, r2.move m hno, r3⟩
/-- A line more. -/
theorem Wr13.growLines (h : Wr13 W0 w g4 g7 t vl vw s) (hg : w.grownBy w1 vl.ownBlock) (hb : Below W0.heap.size W0 w1) {vl' : Value} {l : List S43} (hl : Kd.R k43 43 w1 W0.heap.size (fun _ => True) vl' l) : Wr13 W0 w1 g4 g7 t vl' vw { s with lines := l } := by
  have m := Mv.of_grown hg
  have hty : ∀ k q, some k = vl.ownBlock → q ≠ 43 → ¬ Ty w k q := fun k q hk hq ht => hq (ht.uniq (R_own_ty h.lines hk))
  refine ⟨hb, m.blk h.h4 (fun hk => hty _ 34 hk (by decide) ⟨_, h.h4⟩), m.blk h.h7 (fun hk => hty _ 34 hk (by decide) ⟨_, h.h7⟩), h.b4, h.b7, h.ne, fun k hk => ?_, hl, R_tm h.ways m (fun k q hs _ hq => hty k q hs (e23 q hq).2.2.2)⟩
  obtain ⟨r1, r2, r3⟩ := h.runs k hk
  exact ⟨r1.move m (fun k hs _ => hty k 3 hs (by decide)), r2.move m (fun k hs _ => hty k 3 hs (by decide)), r3⟩
/-- A way more. -/
theorem Wr13.growWays (h : Wr13 W0 w g4 g7 t vl vw s) (hg : w.grownBy w1 vw.ownBlock) (hb : Below W0.heap.size W0 w1) {vw' : Value} {l : List (List Int)} (hl : Kd.R (Kd.slice 3 (Kd.int .i64)) 23 w1 W0.heap.size (fun _ => True) vw' l) : Wr13 W0 w1 g4 g7 t vl vw' { s with ways := l } := by
  have m := Mv.of_grown hg
  have hty : ∀ k q, some k = vw.ownBlock → q ≠ 23 → ¬ Ty w k q := fun k q hk hq ht => hq (ht.uniq (R_own_ty h.ways hk))
  refine ⟨hb, m.blk h.h4 (fun hk => hty _ 34 hk (by decide) ⟨_, h.h4⟩), m.blk h.h7 (fun hk => hty _ 34 hk (by decide) ⟨_, h.h7⟩), h.b4, h.b7, h.ne, fun k hk => ?_, R_tm h.lines m (fun k q hs _ hq => hty k q hs (e43 q hq).2.2.2), hl⟩
  obtain ⟨r1, r2, r3⟩ := h.runs k hk
  exact ⟨r1.move m (fun k hs _ => hty k 3 hs (by decide)), r2.move m (fun k hs _ => hty k 3 hs (by decide)), r3⟩
end
end Go.Proofs.Ytijlcahikeeigaa.QA
namespace Go.Proofs.Ytijlcahikeeigaa.QA
open Go.RowKit Go.Proofs.YtijlcahikeeigaaW.PrintWords Go.Proofs.YtijlcahikeeigaaW.PrintLast Go.Proofs.YtijlcahikeeigaaW.PrintMore
set_option linter.unusedVariables false
set_option linter.unusedSimpArgs false
section
variable {P : Program} {ops : Array Oper} {rest : List Oper} {o : Oper} {a : Act} {Q : Exit → Act → World → Prop}
theorem lit_event {W : World} (hgd : o.guard = none) {t e : TypeId} {y : Operand} {v : Value} {cells : Array Value} (ho : o.op = .buildSlice t 1 #[(0, y)]) (hy : a.eval y = v)
    (hrun : (Instr.buildSlice t 1 #[(0, v)]).run P W = .ok (.slice (some ⟨W.heap.size, 0, none⟩) 1 1) (W.alloc (.cells cells e)))
    (h : wpList P ops Q rest (a.put o.dst (.slice (some ⟨W.heap.size, 0, none⟩) 1 1)) (W.alloc (.cells cells e))) : wpList P ops Q (o :: rest) a W := by
  refine wpList_plain hgd fun K hK => ?_
  unfold Oper.wp execOp
  simp only [ho, List.map_toArray, List.map_cons, List.map_nil, hy, Sem.run_bind, hrun, Result.andThen_ok, Sem.run_pure]
  exact hK _ _ h
theorem build_event {W : World} (hgd : o.guard = none) {t : TypeId} {y z : Operand} {v u : Value} {cells : Array Value} (ho : o.op = .build t #[(0, y), (1, z)]) (hy : a.eval y = v) (hz : a.eval z = u)
    (hrun : (Instr.build t #[(0, v), (1, u)]).run P W = .ok (.agg cells) W)
    (h : wpList P ops Q rest (a.put o.dst (.agg cells)) W) : wpList P ops Q (o :: rest) a W := by
  refine wpList_plain hgd fun K hK => ?_
  unfold Oper.wp execOp
  simp only [ho, List.map_toArray, List.map_cons, List.map_nil, hy, hz, Sem.run_bind, hrun, Result.andThen_ok, Sem.run_pure]
  exact hK _ _ h
end
theorem still_load {P : Program} {ops : Array Oper} {w : World} {Q : Act → Prop} {a : Act} {o : Oper} {rest : List Oper} (hw : Region.wanted o (yielded ops a.tmps) = true) {ty : TypeId} {x : Operand} (ho : o.op = .load ty x) {g : Nat} (hx : a.eval x = .pointer (some ⟨g, 0, none⟩))
    {t : TypeId} {cs : Array Value} {fr : Nat × Nat} {d : TypeDesc} (hg : w.heap[g]? = some (.cells cs t fr)) (hu : P.underlying ty = some d) (hd : (match d with | .struct _ | .array _ _ => true | _ => false) = true) (hi : (P.info? ty).map (·.size) = some cs.size)
    (h : wpStill P ops w Q rest (a.put o.dst (.agg cs))) : wpStill P ops w Q (o :: rest) a := by
  refine wpStill_step fun K hK => ?_
  rw [if_pos hw]
  unfold Oper.still execOp
  simp only [ho, hx, Instr.loadAt, Instr.sureAddr, Sem.run_bind, Sem.run_pure, Result.andThen_ok, run_loadVar_row w g t ty cs fr d hg hu hd hi]
  exact ⟨rfl, hK _ h⟩
def line43 (ls q0 q1 q2 q3 q4 q5 q8 : Int) : Array Value := #[.int .i64 ls, .int .i64 q0, .int .i64 q1, .int .i64 q2, .int .i64 q3, .int .i64 q4, .int .i64 q5, .slice none 0 0, .slice none 0 0, .int .i64 q8, .slice none 0 0, .slice none 0 0]
theorem build43 (W : World) (ls q0 q1 q2 q3 q4 q5 q8 : Int) : (Instr.build 43 #[(0, .int .i64 ls), (1, .agg (rec41 ⟨q0, q1, q2, q3, q4, q5, [], [], q8, [], []⟩))]).run Try.prog W = .ok (.agg (line43 ls q0 q1 q2 q3 q4 q5 q8)) W := by
  kernel_rfl
theorem lit22 (W : World) (ls q0 q1 q2 q3 q4 q5 q8 : Int) : (Instr.buildSlice 22 1 #[(0, .agg (line43 ls q0 q1 q2 q3 q4 q5 q8))]).run Try.prog W = .ok (.slice (some ⟨W.heap.size, 0, none⟩) 1 1) (W.alloc (.cells (line43 ls q0 q1 q2 q3 q4 q5 q8) 43)) := by
  kernel_rfl
end Go.Proofs.Ytijlcahikeeigaa.QA
