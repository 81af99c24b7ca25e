/- What a stretch of a walk leaves: all blocks but those of S; and stores of whole states. -/
import Derived.Test.YtijlcahikeeigaaQAx0
import Derived.Laws.Tables
namespace Go.Proofs.Ytijlcahikeeigaa.QA
open Go.RowKit Go.Proofs.YtijlcahikeeigaaW.PrintWords Go.Proofs.YtijlcahikeeigaaW.PrintLast Go.Proofs.YtijlcahikeeigaaW.PrintMore
set_option linter.unusedVariables false
set_option linter.unusedSimpArgs false
/-- From w to W nothing has changed but blocks of S, and what is new. -/
structure Mv (w W : World) (S : Nat → Prop) : Prop where
  os : W.os = w.os
  tape : W.tape = w.tape
  output : W.output = w.output
  size : w.heap.size ≤ W.heap.size
  block : ∀ k, k < w.heap.size → ¬ S k → W.heap[k]? = w.heap[k]?
section
variable {w W W1 W2 : World} {S S2 : Nat → Prop}
theorem Mv.refl (w : World) (S : Nat → Prop) : Mv w w S := ⟨rfl, rfl, rfl, Nat.le_refl _, fun _ _ _ => rfl⟩
theorem Mv.of_below (h : Below w.heap.size w W) (S : Nat → Prop) : Mv w W S := ⟨h.os, h.tape, h.output, h.size, fun k hk _ => h.block k hk⟩
theorem Mv.mono (h : Mv w W S) (hs : ∀ k, S k → S2 k) : Mv w W S2 := ⟨h.os, h.tape, h.output, h.size, fun k hk hn => h.block k hk (fun h2 => hn (hs k h2))⟩
theorem Mv.then_ (h : Mv w W S) (k : Mv W W2 S2) (hs : ∀ k, S2 k → S k ∨ w.heap.size ≤ k) : Mv w W2 S :=
  ⟨k.os.trans h.os, k.tape.trans h.tape, k.output.trans h.output, Nat.le_trans h.size k.size, fun i hi hn => (k.block i (Nat.lt_of_lt_of_le hi h.size) (fun h2 => (hs i h2).elim hn (fun h3 => by omega))).trans (h.block i hi hn)⟩
theorem Mv.of_grown {row : Option Nat} (h : w.grownBy W row) : Mv w W (fun k => some k = row) := ⟨h.os, h.tape, h.output, h.size, fun k hk hn => h.block k hk hn⟩
theorem Mv.setRow (w : World) (g : Nat) (cs : Array Value) : Mv w (w.setRow g cs) (fun k => k = g) :=
  ⟨by simp, by simp, by simp, by simp, fun k _ hn => setRow_other w g k cs hn⟩
theorem Mv.setCell (w : World) (a : Addr) (v : Value) : Mv w (w.setCell a v) (fun k => k = a.block) :=
  ⟨rfl, rfl, rfl, by simp [World.setCell], fun k _ hn => Below.heap_setCell w a v k hn⟩
theorem Mv.below {w0 : World} {B : Nat} (h : Mv w W S) (hb : Below B w0 w) (hB : B ≤ w.heap.size) (hs : ∀ k, S k → B ≤ k) : Below B w0 W :=
  hb.trans ⟨h.os, h.tape, h.output, h.size, fun k hk => h.block k (by omega) (fun h2 => by have := hs k h2; omega)⟩
theorem Mv.blk {g : Nat} {o : Obj} (h : Mv w W S) (hg : w.heap[g]? = some o) (hn : ¬ S g) : W.heap[g]? = some o := (h.block g (blk_lt hg) hn).trans hg
theorem Mv.kept (h : Mv w W S) : Kept w W S := ⟨h.size, fun i hi hn => h.block i hi hn⟩
end
section
variable {P : Program} {ops : Array Oper} {rest : List Oper} {o : Oper} {a : Act} {Q : Exit → Act → World → Prop}
/-- A whole state is stored. -/
theorem store_event {W : World} (hgd : o.guard = none) {ty : TypeId} {x : Tmp} {y : Operand} (ho : o.op = .store ty (.tmp x) y) {g : Nat} {cells : Array Value} (hx : a.eval (.tmp x) = .pointer (some ⟨g, 0, none⟩)) (hy : a.eval y = .agg cells)
    {t : TypeId} {old : Array Value} (hg : W.heap[g]? = some (.cells old t (0, 0))) (hi : (P.info? ty).map (·.size) = some cells.size) (hold : old.size = cells.size) (h1 : cells.all (·.oneCell') = true)
    (h : ∀ w1, w1.heap[g]? = some (.cells cells t (0, 0)) → Mv W w1 (fun k => k = g) → wpList P ops Q rest (a.put o.dst undef) w1) : wpList P ops Q (o :: rest) a W :=
  wpList_store_row hgd ty (.tmp x) y ho g cells hx hy t old hg hi hold h1 (h _ (setRow_heap W g old cells t (0, 0) hg) (Mv.setRow W g cells))
/-- An operation that leaves no value. -/
theorem skip_event {W w1 : World} (hgd : o.guard = none) (hrun : (execOp a.eval o).run P W = .ok .skip w1) (h : wpList P ops Q rest (a.put o.dst undef) w1) : wpList P ops Q (o :: rest) a W := by
  refine wpList_plain hgd fun K hK => ?_
  unfold Oper.wp
  rw [hrun]
  exact hK _ _ h
/-- One cell is stored. -/
theorem store1_event {W : World} (hgd : o.guard = none) {g i : Nat} {v : Value} {cs : Array Value} {t : TypeId} (hg : W.heap[g]? = some (.cells cs t (0, 0)))
    (hrun : (execOp a.eval o).run P W = .ok .skip (W.setCell ⟨g, i, none⟩ v))
    (h : ∀ w1, w1.heap[g]? = some (.cells (cs.setIfInBounds i v) t (0, 0)) → Mv W w1 (fun k => k = g) → wpList P ops Q rest (a.put o.dst undef) w1) : wpList P ops Q (o :: rest) a W :=
  skip_event hgd hrun (h _ (blk_set hg i v) (Mv.setCell W _ v))
end
end Go.Proofs.Ytijlcahikeeigaa.QA
