/- Moves: what a stretch of a walk leaves (ported by program from chapters 12 and 15). A map of one's own, keyed by whole numbers, told as a list of keys and what stands there, keys rising. Chapter 18's state, as the program keeps it, in plain Lean. How chapter 18's state lies in memory. Each block of its own bears a role; blocks of unlike roles are unlike. Small functions walked: within, undone, updated, num; keeps, kept, fits, Used; holder. kept, fits, Used walked: the sum of what the open ones keep, in whatever order they are met. fits, Used, holder walked. errors.As at the two errors of the package, walked (after the kit's worked example 'toyas', with Unwrap besides); refused, number. copied walked: the same content in a map of its own. -/
import Derived.Test.YtcdfdckdodgbpaaGreatDoorProg
import Derived.Below
import Derived.Deep.Draws
import Derived.Deep.AppendLies
import Derived.Maps.AppendAt
import Derived.OwnWalk
import Derived.Laws.BytesArg
import Derived.Laws.MakeOwn
import Derived.Laws.OwnMore
import Derived.Deep.OwnRows
import Derived.Tactics
import Derived.Lib.ConvBytes
import Derived.Laws.Slices
import Derived.WalkKit
import Derived.KernelRfl
import Derived.RowKit3
import Derived.Deep.LoopGhost
import Derived.Deep.QuietTactic
import Derived.BigQuiet
import Derived.WideLaws
import Derived.Deep.DeepCutAuto
import Derived.Deep.CutBlock
import Derived.Deep.RegionHeld3
import Derived.Laws.Rows
import Derived.Lib.AppendStr
import Derived.ArgAppend
import Derived.Laws.IdiomCopy
import Derived.OrdersHeld
import Derived.Laws.BitsLemmas
import Derived.RowKit
import Derived.Test.YtcdfdckdodgbpaaGreatDoorWWords
import Derived.Test.YtcdfdckdodgbpaaGreatDoorWLast
import Derived.Test.YtcdfdckdodgbpaaGreatDoorWTab
import Derived.Test.YtcdfdckdodgbpaaGreatDoorWFour
import Derived.Test.YtcdfdckdodgbpaaGreatDoorWQPut
import Derived.Test.YtcdfdckdodgbpaaGreatDoorWApart
import Derived.Test.YtcdfdckdodgbpaaGreatDoorWArr
import Derived.Test.YtcdfdckdodgbpaaGreatDoorWZeros
import Derived.Test.YtcdfdckdodgbpaaGreatDoorWFoot
import Derived.Test.YtcdfdckdodgbpaaGreatDoorWKept
import Derived.Test.YtcdfdckdodgbpaaGreatDoorWShare
import Derived.Test.YtcdfdckdodgbpaaGreatDoorWN
import Derived.Test.YtcdfdckdodgbpaaGreatDoorWFootNe
import Derived.Test.YtcdfdckdodgbpaaGreatDoorWAt
import Derived.Test.YtcdfdckdodgbpaaGreatDoorWEqStruct
import Derived.Test.YtcdfdckdodgbpaaGreatDoorWRepsOne
import Derived.Test.YtcdfdckdodgbpaaGreatDoorWInv
import Derived.Test.YtcdfdckdodgbpaaGreatDoorWInvWords
import Derived.Test.YtcdfdckdodgbpaaGreatDoorWGuard
import Derived.Test.YtcdfdckdodgbpaaGreatDoorWNEv
import Derived.Test.YtcdfdckdodgbpaaGreatDoorWMore
import Derived.Maps.OwnOps
import Derived.Maps.OwnSet
import Derived.Maps.RangeWalk
import Derived.Maps.Ext
import Derived.Laws.Tables
import Derived.Deep.MidRow
import Derived.Laws.CopyRow
import Derived.Outline
import Derived.Deep.DeepMust
import Derived.Test.YtcdfdckdodgbpaaGreatDoorQAx2
import Derived.LaidEql
import Derived.Stop.Asserts
import Derived.RowKitTokens
import Derived.Laws.IdiomRangeMap
/-! TRows -/
namespace Go.Proofs.YtcdfdckdodgbpaaGreatDoor.QA
open Go.RowKit Go.Proofs.YtcdfdckdodgbpaaGreatDoorW.PrintWords Go.Proofs.YtcdfdckdodgbpaaGreatDoorW.PrintLast Go.Proofs.YtcdfdckdodgbpaaGreatDoorW.PrintMore
set_option linter.unusedVariables false
set_option linter.unusedSimpArgs false
/-- From w to W nothing has changed but blocks of S, and what is new. -/
structure Mv (w W : World) (S : Nat → Prop) : Prop where
  os : W.os = w.os
  tape : W.tape = w.tape
  output : W.output = w.output
  size : w.heap.size ≤ W.heap.size
  block : ∀ k, k < w.heap.size → ¬ S k → W.heap[k]? = w.heap[k]?
section
variable {w W W1 W2 : World} {S S2 : Nat → Prop}
theorem Mv.refl (w : World) (S : Nat → Prop) : Mv w w S := ⟨rfl, rfl, rfl, Nat.le_refl _, fun _ _ _ => rfl⟩
theorem Mv.of_below (h : Below w.heap.size w W) (S : Nat → Prop) : Mv w W S := ⟨h.os, h.tape, h.output, h.size, fun k hk _ => h.block k hk⟩
theorem Mv.mono (h : Mv w W S) (hs : ∀ k, S k → S2 k) : Mv w W S2 := ⟨h.os, h.tape, h.output, h.size, fun k hk hn => h.block k hk (fun h2 => hn (hs k h2))⟩
theorem Mv.then_ (h : Mv w W S) (k : Mv W W2 S2) (hs : ∀ k, S2 k → S k ∨ w.heap.size ≤ k) : Mv w W2 S :=
  ⟨k.os.trans h.os, k.tape.trans h.tape, k.output.trans h.output, Nat.le_trans h.size k.size, fun i hi hn => (k.block i (Nat.lt_of_lt_of_le hi h.size) (fun h2 => (hs i h2).elim hn (fun h3 => by omega))).trans (h.block i hi hn)⟩
theorem Mv.of_grown {row : Option Nat} (h : w.grownBy W row) : Mv w W (fun k => some k = row) := ⟨h.os, h.tape, h.output, h.size, fun k hk hn => h.block k hk hn⟩
theorem Mv.setRow (w : World) (g : Nat) (cs : Array Value) : Mv w (w.setRow g cs) (fun k => k = g) :=
  ⟨by simp, by simp, by simp, by simp, fun k _ hn => setRow_other w g k cs hn⟩
theorem Mv.setCell (w : World) (a : Addr) (v : Value) : Mv w (w.setCell a v) (fun k => k = a.block) :=
  ⟨rfl, rfl, rfl, by simp [World.setCell], fun k _ hn => Below.heap_setCell w a v k hn⟩
theorem Mv.below {w0 : World} {B : Nat} (h : Mv w W S) (hb : Below B w0 w) (hB : B ≤ w.heap.size) (hs : ∀ k, S k → B ≤ k) : Below B w0 W :=
  hb.trans ⟨h.os, h.tape, h.output, h.size, fun k hk => h.block k (by omega) (fun h2 => by have := hs k h2; omega)⟩
theorem Mv.blk {g : Nat} {o : Obj} (h : Mv w W S) (hg : w.heap[g]? = some o) (hn : ¬ S g) : W.heap[g]? = some o := (h.block g (blk_lt hg) hn).trans hg
theorem Mv.kept (h : Mv w W S) : Kept w W S := ⟨h.size, fun i hi hn => h.block i hi hn⟩
end
section
variable {P : Program} {ops : Array Oper} {rest : List Oper} {o : Oper} {a : Act} {Q : Exit → Act → World → Prop}
/-- A whole state is stored. -/
theorem store_event {W : World} (hgd : o.guard = none) {ty : TypeId} {x : Tmp} {y : Operand} (ho : o.op = .store ty (.tmp x) y) {g : Nat} {cells : Array Value} (hx : a.eval (.tmp x) = .pointer (some ⟨g, 0, none⟩)) (hy : a.eval y = .agg cells)
    {t : TypeId} {old : Array Value} (hg : W.heap[g]? = some (.cells old t (0, 0))) (hi : (P.info? ty).map (·.size) = some cells.size) (hold : old.size = cells.size) (h1 : cells.all (·.oneCell') = true)
    (h : ∀ w1, w1.heap[g]? = some (.cells cells t (0, 0)) → Mv W w1 (fun k => k = g) → wpList P ops Q rest (a.put o.dst undef) w1) : wpList P ops Q (o :: rest) a W :=
  wpList_store_row hgd ty (.tmp x) y ho g cells hx hy t old hg hi hold h1 (h _ (setRow_heap W g old cells t (0, 0) hg) (Mv.setRow W g cells))
/-- An operation that leaves no value. -/
theorem skip_event {W w1 : World} (hgd : o.guard = none) (hrun : (execOp a.eval o).run P W = .ok .skip w1) (h : wpList P ops Q rest (a.put o.dst undef) w1) : wpList P ops Q (o :: rest) a W := by
  refine wpList_plain hgd fun K hK => ?_
  unfold Oper.wp
  rw [hrun]
  exact hK _ _ h
/-- One cell is stored. -/
theorem store1_event {W : World} (hgd : o.guard = none) {g i : Nat} {v : Value} {cs : Array Value} {t : TypeId} (hg : W.heap[g]? = some (.cells cs t (0, 0)))
    (hrun : (execOp a.eval o).run P W = .ok .skip (W.setCell ⟨g, i, none⟩ v))
    (h : ∀ w1, w1.heap[g]? = some (.cells (cs.setIfInBounds i v) t (0, 0)) → Mv W w1 (fun k => k = g) → wpList P ops Q rest (a.put o.dst undef) w1) : wpList P ops Q (o :: rest) a W :=
  skip_event hgd hrun (h _ (blk_set hg i v) (Mv.setCell W _ v))
end
/-- Block k holds cells of type e. -/
def Ty (w : World) (k e : Nat) : Prop := ∃ cells, w.heap[k]? = some (.cells cells e (0, 0))
theorem Ty.eq {w : World} {k e t : Nat} {cs : Array Value} (h : Ty w k e) (hb : w.heap[k]? = some (.cells cs t (0, 0))) : e = t := by
  obtain ⟨c, hc⟩ := h
  rw [hc] at hb
  injection hb with hb
  injection hb
theorem Ty.uniq {w : World} {k e t : Nat} (h : Ty w k e) (h2 : Ty w k t) : e = t := by
  obtain ⟨c, hc⟩ := h2
  exact h.eq hc
theorem R_own_ty {α : Type} {d : Kd α} {e base : Nat} {ok : Nat → Prop} {w : World} {v : Value} {xs : List α} (h : d.R e w base ok v xs) {k : Nat} (hk : some k = v.ownBlock) : Ty w k e := by
  obtain ⟨_, inner, ho, _⟩ := h
  exact own_typed ho k hk.symm
/-- A move that touches no block of a row's types. -/
theorem R_tm {α : Type} {d : Kd α} {e base : Nat} {ok S : Nat → Prop} {w w1 : World} {v : Value} {xs : List α} (h : d.R e w base ok v xs) (m : Mv w w1 S) (hS : ∀ k q, S k → base ≤ k → q ∈ e :: d.E → ¬ Ty w k q) : d.R e w1 base ok v xs := by
  refine Kd.R_mono (Kd.R_kept (Kd.R_bound h) m.kept (fun k hk hs => ?_)) (fun k hk => hk.1)
  obtain ⟨_, hb, _, q, hq, c, hc⟩ := hk
  exact hS k q hs hb hq ⟨c, hc⟩
section
variable {P : Program} {ops : Array Oper} {rest : List Oper} {o : Oper} {a : Act} {Q : Exit → Act → World → Prop}
/-- One cell of a block is stored; nothing is left to simp. -/
theorem put_event {W : World} (hgd : o.guard = none) {ty : TypeId} {p : Tmp} {y : Operand} (ho : o.op = .store ty (.tmp p) y) {g i : Nat} {v : Value} (hx : a.eval (.tmp p) = .pointer (some ⟨g, i, none⟩)) (hy : a.eval y = v) (h1 : v.oneCell' = true) (hv : v.cells = #[v])
    {t : TypeId} {cs : Array Value} (hg : W.heap[g]? = some (.cells cs t (0, 0))) (hi : i < cs.size) (hsz : (P.info? ty).map (·.size) = some 1)
    (h : ∀ w1, w1.heap[g]? = some (.cells (cs.setIfInBounds i v) t (0, 0)) → Mv W w1 (fun k => k = g) → wpList P ops Q rest (a.put o.dst undef) w1) : wpList P ops Q (o :: rest) a W := by
  have hst := run_storeCells_at (P := P) g i t [v] 0 cs W hg (by simp; omega) (by simp [h1])
  have hnew : (cs.toList.take (i + 0) ++ [v] ++ cs.toList.drop (i + 0 + [v].length)).toArray = cs.setIfInBounds i v := by
    apply Array.ext'
    simp only [Nat.add_zero, List.length_singleton, List.append_assoc, List.singleton_append, Array.toList_setIfInBounds]
    rw [List.set_eq_take_append_cons_drop, if_pos (by simpa using hi)]
  refine wpList_plain hgd fun K hK => ?_
  have hrun : (execOp a.eval o).run P W = .ok .skip (W.setRow g (cs.setIfInBounds i v)) := by
    rw [← hnew]
    cases hq : P.info? ty with
    | none => simp [hq] at hsz
    | some inf =>
      have hs : inf.size = 1 := by simpa [hq] using hsz
      unfold execOp
      simp only [ho, hx, hy, Instr.storeAt, Instr.sureAddr, storeVar, sizeOf, typeInfo]
      simp [hq, hv, hs]
      simp at hst
      rw [hst]
      rfl
  unfold Oper.wp
  rw [hrun]
  exact hK _ _ (h _ (setRow_heap W g _ _ t (0, 0) hg) (Mv.setRow W g _))
end
/-- What a row of one's own reads hangs on its block alone. -/
theorem C_of_block {w w1 w2 : World} {base : Nat} {ok : Nat → Prop} {v : Value} {xs : List Int} (h : Kd.R (Kd.int .i64) 3 w base ok v xs) (hk : ∀ k, v.ownBlock = some k → w1.heap[k]? = w.heap[k]?) : Kd.R (Kd.int .i64) 3 w1 base ok v xs :=
  Kd.R_mono (Kd.R_move (Kd.R_tight2 rfl h) (fun k hk2 => hk k hk2.1.symm)) (fun k hk2 => hk2.2)
end Go.Proofs.YtcdfdckdodgbpaaGreatDoor.QA

/-! TOwn -/
namespace Go.Proofs.YtcdfdckdodgbpaaGreatDoor.QA
open Go.RowKit Go.Maps Go.Proofs.YtcdfdckdodgbpaaGreatDoorW.PrintWords Go.Proofs.YtcdfdckdodgbpaaGreatDoorW.PrintLast Go.Proofs.YtcdfdckdodgbpaaGreatDoorW.PrintMore
set_option linter.unusedVariables false
set_option linter.unusedSimpArgs false
/-- Keys rise. -/
def Up {β : Type} (l : List (Int × β)) : Prop := l.Pairwise (fun a b => a.1 < b.1)
def look {β : Type} (l : List (Int × β)) (x : Int) : Option β := (l.find? (fun p => p.1 == x)).map (·.2)
def insK {β : Type} (p : Int × β) : List (Int × β) → List (Int × β)
  | [] => [p]
  | q :: r => if p.1 < q.1 then p :: q :: r else q :: insK p r
def del {β : Type} (l : List (Int × β)) (x : Int) : List (Int × β) := l.filter (fun p => !(p.1 == x))
def put {β : Type} (l : List (Int × β)) (x : Int) (c : β) : List (Int × β) := insK (x, c) (del l x)
section
variable {β : Type} {l l1 l2 : List (Int × β)} {x y : Int} {c d : β}
theorem look_nil (x : Int) : look ([] : List (Int × β)) x = none := rfl
theorem look_cons (q : Int × β) (l : List (Int × β)) (x : Int) : look (q :: l) x = if q.1 = x then some q.2 else look l x := by
  unfold look
  rw [List.find?_cons]
  by_cases e : q.1 = x
  · simp [e]
  · have : (q.1 == x) = false := by simpa using e
    rw [this, if_neg e]
theorem look_mem (h : look l x = some c) : (x, c) ∈ l := by
  unfold look at h
  cases hf : l.find? (fun p => p.1 == x) with
  | none => rw [hf] at h; cases h
  | some p =>
    rw [hf] at h
    have h1 := List.mem_of_find?_eq_some hf
    have h2 := List.find?_some hf
    simp at h2 h
    subst h2 h
    exact h1
theorem look_none (h : look l x = none) (c : β) : (x, c) ∉ l := by
  unfold look at h
  intro hm
  rw [Option.map_eq_none_iff, List.find?_eq_none] at h
  exact h _ hm (by simp)
theorem Up.nodup (h : Up l) : l.Nodup := h.imp (fun hab e => by rw [e] at hab; exact absurd hab (Int.lt_irrefl _))
theorem Up.eq (h : Up l) {p q : Int × β} (hp : p ∈ l) (hq : q ∈ l) (e : p.1 = q.1) : p = q := by
  induction l with
  | nil => cases hp
  | cons a r ih =>
    have h2 := List.pairwise_cons.1 h
    rcases List.mem_cons.1 hp with rfl | hp2
    · rcases List.mem_cons.1 hq with rfl | hq2
      · rfl
      · have := h2.1 q hq2; omega
    · rcases List.mem_cons.1 hq with rfl | hq2
      · have := h2.1 p hp2; omega
      · exact ih h2.2 hp2 hq2
theorem Up.look (h : Up l) (hm : (x, c) ∈ l) : QA.look l x = some c := by
  cases hl : QA.look l x with
  | none => exact absurd hm (look_none hl c)
  | some d => exact congrArg some (congrArg Prod.snd (h.eq (look_mem hl) hm rfl))
theorem Up.nil : Up ([] : List (Int × β)) := List.Pairwise.nil
theorem Up.del (h : Up l) (x : Int) : Up (QA.del l x) := h.filter _
theorem mem_del (l : List (Int × β)) (x : Int) (p : Int × β) : p ∈ del l x ↔ p ∈ l ∧ p.1 ≠ x := by
  unfold del
  rw [List.mem_filter]
  simp
theorem mem_insK (p q : Int × β) : ∀ l : List (Int × β), q ∈ insK p l ↔ q = p ∨ q ∈ l
  | [] => by simp [insK]
  | a :: r => by
    unfold insK
    split
    · simp
    · rw [List.mem_cons, mem_insK p q r, List.mem_cons]
      exact ⟨fun h => by rcases h with h | h | h <;> simp [h], fun h => by rcases h with h | h | h <;> simp [h]⟩
theorem mem_put (l : List (Int × β)) (x : Int) (c : β) (q : Int × β) : q ∈ put l x c ↔ q = (x, c) ∨ (q ∈ l ∧ q.1 ≠ x) := by
  unfold put
  rw [mem_insK, mem_del]
theorem insK_up (p : Int × β) : ∀ l : List (Int × β), Up l → (∀ q ∈ l, q.1 ≠ p.1) → Up (insK p l)
  | [], _, _ => List.pairwise_singleton _ _
  | a :: r, h, hn => by
    have h2 := List.pairwise_cons.1 h
    unfold insK
    split
    · rename_i hlt
      refine List.pairwise_cons.2 ⟨fun b hb => ?_, h⟩
      rcases List.mem_cons.1 hb with rfl | hb
      · exact hlt
      · have := h2.1 b hb; omega
    · rename_i hlt
      refine List.pairwise_cons.2 ⟨fun b hb => ?_, insK_up p r h2.2 (fun q hq => hn q (List.mem_cons_of_mem _ hq))⟩
      rcases (mem_insK p b r).1 hb with rfl | hb
      · have := hn a (List.mem_cons_self ..); omega
      · exact h2.1 b hb
theorem Up.put (h : Up l) (x : Int) (c : β) : Up (QA.put l x c) := insK_up _ _ (h.del x) (fun q hq => ((mem_del l x q).1 hq).2)
theorem look_of (h : Up l) (x : Int) (o : Option β) (ho : ∀ c, o = some c ↔ (x, c) ∈ l) : look l x = o := by
  cases o with
  | none =>
    cases hl : look l x with
    | none => rfl
    | some c => exact absurd ((ho c).2 (look_mem hl)) (by simp)
  | some c => exact h.look ((ho c).1 rfl)
theorem look_put (h : Up l) (x : Int) (c : β) (y : Int) : look (put l x c) y = if y = x then some c else look l y := by
  refine look_of (h.put x c) y _ (fun d => ?_)
  rw [mem_put]
  by_cases e : y = x
  · subst e; simp; exact eq_comm
  · rw [if_neg e]
    constructor
    · intro hl; exact .inr ⟨look_mem hl, e⟩
    · rintro (h1 | ⟨h1, _⟩)
      · exact absurd (congrArg Prod.fst h1) e
      · exact h.look h1
theorem look_del (h : Up l) (x y : Int) : look (del l x) y = if y = x then none else look l y := by
  refine look_of (h.del x) y _ (fun d => ?_)
  rw [mem_del]
  by_cases e : y = x
  · simp [e]
  · rw [if_neg e]
    exact ⟨fun hl => ⟨look_mem hl, e⟩, fun h1 => h.look h1.1⟩
theorem Up.ext (h1 : Up l1) (h2 : Up l2) (h : ∀ x, QA.look l1 x = QA.look l2 x) : l1 = l2 := by
  induction l1 generalizing l2 with
  | nil =>
    cases l2 with
    | nil => rfl
    | cons a r => have := h a.1; rw [look_cons, if_pos rfl] at this; cases this
  | cons a r ih =>
    cases l2 with
    | nil => have := h a.1; rw [look_cons, if_pos rfl] at this; cases this
    | cons b s =>
      have p1 := List.pairwise_cons.1 h1
      have p2 := List.pairwise_cons.1 h2
      have ha := h a.1
      rw [look_cons, if_pos rfl] at ha
      have hb := h b.1
      rw [look_cons b, if_pos rfl] at hb
      have ma := look_mem ha.symm
      have mb := look_mem hb
      have e : a.1 = b.1 := by
        rcases List.mem_cons.1 ma with e | ma
        · exact congrArg Prod.fst e
        · rcases List.mem_cons.1 mb with e | mb
          · exact (congrArg Prod.fst e).symm
          · have x1 := p2.1 _ ma; have x2 := p1.1 _ mb; omega
      have e2 : a = b := by
        have hh := ha
        rw [look_cons, if_pos e.symm] at hh
        injection hh with hh
        exact Prod.ext e hh
      subst e2
      rw [ih p1.2 p2.2 (fun x => ?_)]
      have hx := h x
      rw [look_cons, look_cons] at hx
      by_cases ex : a.1 = x
      · subst ex
        cases h3 : QA.look r a.1 with
        | none =>
          cases h4 : QA.look s a.1 with
          | none => rfl
          | some d => have := p2.1 _ (look_mem h4); exact absurd this (Int.lt_irrefl _)
        | some d => have := p1.1 _ (look_mem h3); exact absurd this (Int.lt_irrefl _)
      · rw [if_neg ex, if_neg ex] at hx
        exact hx
theorem length_insK (p : Int × β) : ∀ l : List (Int × β), (insK p l).length = l.length + 1
  | [] => rfl
  | a :: r => by
    unfold insK
    split
    · rfl
    · simp [length_insK p r]
theorem del_none (h : look l x = none) : del l x = l := by
  unfold del
  rw [List.filter_eq_self]
  intro p hp
  simp
  intro e
  exact look_none h p.2 (e ▸ hp)
theorem length_put_none (h : look l x = none) (c : β) : (put l x c).length = l.length + 1 := by
  unfold put
  rw [length_insK, del_none h]
theorem length_del_some (h : Up l) (hx : look l x = some c) : (del l x).length + 1 = l.length := by
  induction l with
  | nil => cases hx
  | cons a r ih =>
    have p := List.pairwise_cons.1 h
    rw [look_cons] at hx
    by_cases e : a.1 = x
    · have : look r x = none := by
        cases h4 : look r x with
        | none => rfl
        | some d => have := p.1 _ (look_mem h4); omega
      have h5 : del (a :: r) x = del r x := by unfold del; rw [List.filter_cons_of_neg (by simp [e])]
      rw [h5, del_none this]
      rfl
    · rw [if_neg e] at hx
      have h5 : del (a :: r) x = a :: del r x := by unfold del; rw [List.filter_cons_of_pos (by simp [e])]
      rw [h5, List.length_cons, ih p.2 hx, List.length_cons]
theorem length_put_some (h : Up l) (hx : look l x = some c) (d : β) : (put l x d).length = l.length := by
  unfold put
  rw [length_insK, length_del_some h hx]
theorem length_put_le (l : List (Int × β)) (x : Int) (d : β) : (put l x d).length ≤ l.length + 1 := by
  unfold put
  rw [length_insK]
  have : (del l x).length ≤ l.length := List.length_filter_le _ _
  omega
theorem look_map {γ : Type} (f : Int → β → γ) (l : List (Int × β)) (x : Int) : look (l.map fun p => (p.1, f p.1 p.2)) x = (look l x).map (f x) := by
  induction l with
  | nil => rfl
  | cons a r ih =>
    rw [List.map_cons, look_cons, look_cons]
    by_cases e : a.1 = x
    · subst e; simp
    · simp [e, ih]
theorem del_map {γ : Type} (f : Int × β → γ) (l : List (Int × β)) (x : Int) : del (l.map fun p => (p.1, f p)) x = (del l x).map fun p => (p.1, f p) := by
  unfold del
  rw [List.filter_map]
  rfl
theorem insK_map {γ : Type} (f : Int × β → γ) (q : Int × β) : ∀ l : List (Int × β), insK (q.1, f q) (l.map fun p => (p.1, f p)) = (insK q l).map fun p => (p.1, f p)
  | [] => rfl
  | a :: r => by
    simp only [List.map_cons, insK]
    split
    · rfl
    · rw [insK_map f q r]; rfl
theorem put_map {γ : Type} (f : Int × β → γ) (l : List (Int × β)) (x : Int) (c : β) : put (l.map fun p => (p.1, f p)) x (f (x, c)) = (put l x c).map fun p => (p.1, f p) := by
  unfold put
  rw [del_map]
  exact insK_map f (x, c) _
theorem Up.map {γ : Type} (h : Up l) (f : Int × β → γ) : Up (l.map fun p => (p.1, f p)) := by
  unfold Up
  rw [List.pairwise_map]
  exact h
end
/-- How a map's elements look as values. -/
structure Shape (β : Type) where shape ::
  mk : β → Value
  un : Value → Option β
  un_mk : ∀ c, un (mk c) = some c
  mk_un : ∀ v c, un v = some c → v = mk c
def Shape.R {β : Type} (s : Shape β) : Value → Option (DataW β × List MemPlace) := fun v => (s.un v).map fun c => (.held c, [])
def ptrS : Shape Nat where
  mk b := .pointer (some ⟨b, 0, none⟩)
  un v := match v with
    | .pointer (some ⟨b, 0, none⟩) => some b
    | _ => none
  un_mk _ := rfl
  mk_un v c h := by
    split at h
    · injection h with h; rw [h]
    · cases h
def mapS : Shape Nat where
  mk b := .map (some b)
  un v := match v with
    | .map (some b) => some b
    | _ => none
  un_mk _ := rfl
  mk_un v c h := by
    split at h
    · injection h with h; rw [h]
    · cases h
def u64S : Shape Int where
  mk c := .int .u64 c
  un v := match v with
    | .int .u64 c => some c
    | _ => none
  un_mk _ := rfl
  mk_un v c h := by
    split at h
    · injection h with h; rw [h]
    · cases h
def dat {β : Type} (l : List (Int × β)) : DataW β := .map (l.map fun p => (.int .i64 p.1, .held p.2))
section
variable {β : Type} {l : List (Int × β)}
theorem same_i64 (x y : Int) : (Lit.int .i64 y).sameKey (.int .i64 x) = (y == x) := by
  by_cases e : y = x
  · subst e; simp [Lit.sameKey]
  · simp [Lit.sameKey, e]
theorem dat_del (l : List (Int × β)) (x : Int) : (dat l).del (.int .i64 x) = dat (del l x) := by
  unfold dat DataW.del del
  simp only
  rw [List.filter_map]
  congr 2
  congr 1
  funext p
  simp [same_i64]
theorem dat_insert (p : Int × β) : ∀ l : List (Int × β), DataW.insert (.int .i64 p.1, .held p.2) (l.map fun q => (Lit.int .i64 q.1, DataW.held q.2)) = (insK p l).map fun q => (Lit.int .i64 q.1, DataW.held q.2)
  | [] => rfl
  | a :: r => by
    simp only [List.map_cons, DataW.insert, insK, Lit.before, decide_eq_true_eq]
    split
    · rfl
    · rw [dat_insert p r]; rfl
theorem dat_put (l : List (Int × β)) (x : Int) (c : β) : (dat l).put (.int .i64 x) (.held c) = dat (put l x c) := by
  have h := dat_del l x
  unfold dat DataW.del at h
  unfold dat DataW.put put
  simp only at h ⊢
  injection h with h
  rw [h]
  exact congrArg _ (dat_insert (x, c) _)
theorem dat_at (l : List (Int × β)) (x : Int) (z : DataW β) : (dat l).atKey (.int .i64 x) z = match look l x with | some c => .held c | none => z := by
  unfold dat DataW.atKey look
  simp only
  rw [List.find?_map]
  have : ((fun p : Lit × DataW β => p.1.sameKey (.int .i64 x)) ∘ fun p : Int × β => (Lit.int .i64 p.1, DataW.held p.2)) = fun p => p.1 == x := by
    funext p
    simp [same_i64]
  rw [this]
  cases l.find? (fun p => p.1 == x) <;> rfl
theorem dat_has (l : List (Int × β)) (x : Int) : Maps.has (dat l) (.int .i64 x) = (look l x).isSome := by
  cases h : look l x with
  | none =>
    refine Maps.has_false_of_atKey (fun z => ?_)
    rw [dat_at, h]
  | some c =>
    refine Maps.has_true_of_atKey (y := .held c) (fun z => ?_)
    rw [dat_at, h]
theorem dat_size (l : List (Int × β)) : Maps.size (dat l) = l.length := by simp [dat, Maps.size]
end
/-- The map in block b has just the entries of l. -/
structure OM {β : Type} (P : Program) (s : Shape β) (w : World) (b : Nat) (l : List (Int × β)) : Prop where
  own : w.ownsMap P 3 s.R b l.length (dat l)
  up : Up l
section
variable {β : Type} {P : Program} {s : Shape β} {w w1 : World} {b : Nat} {l : List (Int × β)} {S : Nat → Prop}
theorem OM.lt (h : OM P s w b l) : b < w.heap.size := h.own.lt
theorem OM.block (h : OM P s w b l) (hb : w1.heap[b]? = w.heap[b]?) : OM P s w1 b l := by
  obtain ⟨⟨es, clock, hb0, F, hs, hD⟩, hu⟩ := h
  exact ⟨⟨es, clock, hb.trans hb0, F, hs, hD⟩, hu⟩
theorem OM.move (h : OM P s w b l) (m : Mv w w1 S) (hb : ¬ S b) : OM P s w1 b l := h.block (m.block b h.lt hb)
theorem OM.ne_cells (h : OM P s w b l) {g t : Nat} {cs : Array Value} {fr : Nat × Nat} (hg : w.heap[g]? = some (.cells cs t fr)) : b ≠ g := by
  rintro rfl
  obtain ⟨⟨es, clock, hb0, _⟩, _⟩ := h
  rw [hb0] at hg
  cases hg
theorem Mv.of_turned {b : Nat} (h : w.mapTurned w1 b) : Mv w w1 (fun k => k = b) := (Mv.of_grown h.grown).mono (fun k hk => by injection hk)
theorem own_fix {R : Value → Option (DataW β × List MemPlace)} {n : Nat} (h : w.ownsMap P 3 R b n (dat l)) : w.ownsMap P 3 R b l.length (dat l) := by
  obtain ⟨es, clock, hb, F, hs, hD⟩ := h
  refine ⟨es, clock, hb, F, ?_, hD⟩
  have h1 := congrArg Maps.size hD
  rw [dat_size, size_eq, length_sorted] at h1
  rw [h1]; simp
theorem OM.made (w : World) (s : Shape β) : OM P s (w.alloc (.map #[] 0)) w.heap.size [] := ⟨World.ownsMap_made w P 3 s.R, Up.nil⟩
end
/-- What the walk needs of the program: its keys are whole numbers. -/
theorem key3 : Keyed Tryz.prog 3 := int_keyed Tryz.underlying3
theorem keyOf3 {x : Int} (h : (Lit.int .i64 x).wf = true) : keyOf Tryz.prog 3 (.int .i64 x) = some (.int .i64 x) := keyOf_int_mk Tryz.underlying3 h
section
variable {β : Type} {s : Shape β} {w : World} {b : Nat} {l : List (Int × β)} {ops : Array Oper} {rest : List Oper} {o : Oper} {a : Act} {Q : Exit → Act → World → Prop}
theorem OM.look_run (h : OM Tryz.prog s w b l) {t e : TypeId} (ht : Tryz.prog.underlying t = some (.map 3 e)) {z : Value} (hz : (zeroValue e).run Tryz.prog w = .ok z w) {x : Int} (hx : (Lit.int .i64 x).wf = true) (c : Bool) :
    (Instr.lookup t (.map (some b)) (.int .i64 x) c).run Tryz.prog w = .ok (if c then .tuple #[((look l x).map s.mk).getD z, .bool (look l x).isSome] else ((look l x).map s.mk).getD z) w := by
  obtain ⟨⟨es, clock, hb, F, _, hD⟩, _⟩ := h
  rcases Maps.fit_look c key3 ht hz hb F (keyOf3 hx) with ⟨hrun, _, hat⟩ | ⟨e0, y, _, _, hrun, hRv, hat, _⟩
  · rw [← hD] at hat
    have : look l x = none := by
      cases hl : look l x with
      | none => rfl
      | some d =>
        have h1 := hat .nil
        rw [dat_at, hl] at h1
        cases h1
    rw [hrun, this]
    rfl
  · rw [← hD] at hat
    unfold Shape.R at hRv
    cases hu : s.un e0.val with
    | none => rw [hu] at hRv; cases hRv
    | some d =>
      rw [hu] at hRv
      have hy : (DataW.held d, ([] : List MemPlace)) = y := Option.some.inj hRv
      have : look l x = some d := by
        cases hl : look l x with
        | none =>
          have h1 := hat .nil
          rw [dat_at, hl, ← hy] at h1
          cases h1
        | some d2 =>
          have h1 := hat .nil
          rw [dat_at, hl, ← hy] at h1
          exact congrArg some (DataW.held.inj h1)
      rw [hrun, this, s.mk_un _ _ hu]
      rfl
theorem om_look_some (hg : o.guard = none) (m x : Operand) (t : TypeId) (hop : o.op = Op.lookup t m x false) (e : TypeId) (ht : Tryz.prog.underlying t = some (.map 3 e)) {z : Value} (hz : (zeroValue e).run Tryz.prog w = .ok z w)
    (hm : a.eval m = .map (some b)) (h : OM Tryz.prog s w b l) {kx : Int} (hx : a.eval x = .int .i64 kx) (hw : (Lit.int .i64 kx).wf = true) {c : β} (hl : look l kx = some c)
    (hK : wpList Tryz.prog ops Q rest (a.put o.dst (s.mk c)) w) : wpList Tryz.prog ops Q (o :: rest) a w := by
  refine wpList_plain hg fun K' hK' => ?_
  have hrun := h.look_run ht hz hw false
  rw [hl] at hrun
  unfold Oper.wp
  simp [execOp, hop, hm, hx, hrun, Result.andThen]
  exact hK' _ _ hK
theorem om_look_none (hg : o.guard = none) (m x : Operand) (t : TypeId) (hop : o.op = Op.lookup t m x false) (e : TypeId) (ht : Tryz.prog.underlying t = some (.map 3 e)) {z : Value} (hz : (zeroValue e).run Tryz.prog w = .ok z w)
    (hm : a.eval m = .map (some b)) (h : OM Tryz.prog s w b l) {kx : Int} (hx : a.eval x = .int .i64 kx) (hw : (Lit.int .i64 kx).wf = true) (hl : look l kx = none)
    (hK : wpList Tryz.prog ops Q rest (a.put o.dst z) w) : wpList Tryz.prog ops Q (o :: rest) a w := by
  refine wpList_plain hg fun K' hK' => ?_
  have hrun := h.look_run ht hz hw false
  rw [hl] at hrun
  unfold Oper.wp
  simp [execOp, hop, hm, hx, hrun, Result.andThen]
  exact hK' _ _ hK
/-- 'v, ok := m[k]'. -/
theorem om_look_ok (hg : o.guard = none) (m x : Operand) (t : TypeId) (hop : o.op = Op.lookup t m x true) (e : TypeId) (ht : Tryz.prog.underlying t = some (.map 3 e)) {z : Value} (hz : (zeroValue e).run Tryz.prog w = .ok z w)
    (hm : a.eval m = .map (some b)) (h : OM Tryz.prog s w b l) {kx : Int} (hx : a.eval x = .int .i64 kx) (hw : (Lit.int .i64 kx).wf = true) {v : Value} {ok : Bool} (hv : ((look l kx).map s.mk).getD z = v) (hok : (look l kx).isSome = ok)
    (hK : wpList Tryz.prog ops Q rest (a.put o.dst (.tuple #[v, .bool ok])) w) : wpList Tryz.prog ops Q (o :: rest) a w := by
  refine wpList_plain hg fun K' hK' => ?_
  have hrun := h.look_run ht hz hw true
  rw [hv, hok] at hrun
  unfold Oper.wp
  simp [execOp, hop, hm, hx, hrun, Result.andThen]
  exact hK' _ _ hK
theorem om_put (hg : o.guard = none) (m x v : Operand) (t : TypeId) (hop : o.op = Op.mapUpdate t m x v) (e : TypeId) (ht : Tryz.prog.underlying t = some (.map 3 e))
    (hm : a.eval m = .map (some b)) (h : OM Tryz.prog s w b l) (hn : l.length < maxLen) {kx : Int} (hx : a.eval x = .int .i64 kx) (hw : (Lit.int .i64 kx).wf = true) (c : β) (hv : a.eval v = s.mk c)
    (hK : ∀ w1, OM Tryz.prog s w1 b (put l kx c) → Mv w w1 (fun k => k = b) → wpList Tryz.prog ops Q rest (a.put o.dst undef) w1) : wpList Tryz.prog ops Q (o :: rest) a w := by
  refine wpList_mapUpdate_own w hg m x v t hop 3 e key3 ht s.R b l.length (dat l) hm h.own hn _ _ (.int .i64 kx) hx hv (keyOf3 hw) (.held c) [] (by unfold Shape.R; rw [s.un_mk]; rfl) ?_
  intro w1 ho hgr
  rw [dat_put] at ho
  exact hK w1 ⟨own_fix ho, h.up.put kx c⟩ ((Mv.of_grown hgr).mono (fun k hk => by injection hk))
theorem om_del (hg : o.guard = none) (m x : Operand) (t : TypeId) (hop : o.op = Op.call { callee := Callee.builtin Builtin.delete, args := #[m, x], argTypes := #[t, 3] }) (e : TypeId) (ht : Tryz.prog.underlying t = some (.map 3 e))
    (hm : a.eval m = .map (some b)) (h : OM Tryz.prog s w b l) {kx : Int} (hx : a.eval x = .int .i64 kx) (hw : (Lit.int .i64 kx).wf = true)
    (hK : ∀ w1, OM Tryz.prog s w1 b (del l kx) → Mv w w1 (fun k => k = b) → wpList Tryz.prog ops Q rest (a.put o.dst (.tuple #[])) w1) : wpList Tryz.prog ops Q (o :: rest) a w := by
  refine wpList_delete_own w hg m x t 3 hop e key3 ht s.R b l.length (dat l) hm h.own _ (.int .i64 kx) hx (keyOf3 hw) ?_
  intro w1 ho hgr
  rw [dat_del] at ho
  exact hK w1 ⟨own_fix ho, h.up.del kx⟩ (Mv.of_turned hgr)
theorem om_len (hg : o.guard = none) (m : Operand) (t : TypeId) (hop : o.op = Op.call { callee := Callee.builtin Builtin.len, args := #[m], argTypes := #[t] }) (e : TypeId) (ht : Tryz.prog.underlying t = some (.map 3 e))
    (hm : a.eval m = .map (some b)) (h : OM Tryz.prog s w b l) (hK : wpList Tryz.prog ops Q rest (a.put o.dst (.int .i64 (l.length : Int))) w) : wpList Tryz.prog ops Q (o :: rest) a w := by
  refine wpList_len_own w hg m t hop 3 e ht s.R b l.length (dat l) hm h.own ?_
  rw [dat_size]
  exact hK
end
/-- A range over the map in block b under way, its place in block r: ds has been met. -/
structure OR {β : Type} (P : Program) (s : Shape β) (w : World) (b r : Nat) (l ds : List (Int × β)) : Prop where
  rng : ∃ lf cnt, w.ranges P 3 s.R b r l.length (dat l) lf cnt ∧ ∀ p, p ∈ ds ↔ p ∈ l ∧ lf (.int .i64 p.1) = false
  nodup : ds.Nodup
  up : Up l
section
variable {β : Type} {P : Program} {s : Shape β} {w w1 : World} {b r : Nat} {l ds : List (Int × β)} {S : Nat → Prop}
theorem OR.sub (h : OR P s w b r l ds) {p : Int × β} (hp : p ∈ ds) : p ∈ l := by
  obtain ⟨lf, cnt, _, hm⟩ := h.rng
  exact ((hm p).1 hp).1
theorem nodup_le {α : Type} : ∀ (ds l : List α), ds.Nodup → (∀ p ∈ ds, p ∈ l) → ds.length ≤ l.length
  | [], l, _, _ => Nat.zero_le _
  | a :: r, l, hn, hs => by
    have h2 := List.nodup_cons.1 hn
    obtain ⟨l1, l2, rfl⟩ := List.append_of_mem (hs a (List.mem_cons_self ..))
    have := nodup_le r (l1 ++ l2) h2.2 (fun p hp => by
      have h3 := hs p (List.mem_cons_of_mem _ hp)
      have h4 : p ≠ a := fun e => h2.1 (e ▸ hp)
      rw [List.mem_append, List.mem_cons] at h3
      rw [List.mem_append]
      rcases h3 with h3 | h3 | h3
      · exact .inl h3
      · exact absurd h3 h4
      · exact .inr h3)
    simp only [List.length_append, List.length_cons] at this ⊢
    omega
theorem OR.le (h : OR P s w b r l ds) : ds.length ≤ l.length := nodup_le _ _ h.nodup (fun p hp => h.sub hp)
theorem OR.owns (h : OR P s w b r l ds) : OM P s w b l := by
  obtain ⟨lf, cnt, hr, _⟩ := h.rng
  exact ⟨hr.owns, h.up⟩
theorem OR.lt (h : OR P s w b r l ds) : r < w.heap.size := by
  obtain ⟨lf, cnt, hr, _⟩ := h.rng
  exact hr.lt
theorem ranges_block {k : TypeId} {R : Value → Option (DataW β × List MemPlace)} {b r n : Nat} {D : DataW β} {left : Lit → Bool} {cnt : Nat} (h : w.ranges P k R b r n D left cnt)
    (hb : w1.heap[b]? = w.heap[b]?) (hr : w1.heap[r]? = w.heap[r]?) : w1.ranges P k R b r n D left cnt := by
  obtain ⟨es, clock, since, seen, c0, h1, h2, h3, h4, h5, h6⟩ := h
  exact ⟨es, clock, since, seen, c0, hb.trans h1, h2, h3, h4, hr.trans h5, h6⟩
theorem OR.move (h : OR P s w b r l ds) (m : Mv w w1 S) (hb : ¬ S b) (hr : ¬ S r) : OR P s w1 b r l ds := by
  have h1 := h.owns.lt
  have h2 := h.lt
  obtain ⟨⟨lf, cnt, hrg, hm⟩, hn, hu⟩ := h
  exact ⟨⟨lf, cnt, ranges_block hrg (m.block b h1 hb) (m.block r h2 hr), hm⟩, hn, hu⟩
end
section
variable {β : Type} {s : Shape β} {w : World} {b : Nat} {l : List (Int × β)} {ops : Array Oper} {rest : List Oper} {o : Oper} {a : Act} {Q : Exit → Act → World → Prop}
theorem om_range (hg : o.guard = none) (m : Operand) (t : TypeId) (hop : o.op = Op.range t m) (e : TypeId) (ht : Tryz.prog.underlying t = some (.map 3 e)) (hm : a.eval m = .map (some b)) (h : OM Tryz.prog s w b l)
    (hK : ∀ w1, OR Tryz.prog s w1 b w.heap.size l [] → Mv w w1 (fun _ => False) → w1.heap.size = w.heap.size + 1 → wpList Tryz.prog ops Q rest (a.put o.dst (.pointer (some ⟨w.heap.size, 0, none⟩))) w1) : wpList Tryz.prog ops Q (o :: rest) a w := by
  refine wpList_range_own w hg m t hop 3 e key3 ht s.R b l.length (dat l) hm h.own ?_
  intro w1 hr hgr hs
  refine hK w1 ⟨⟨_, _, hr, fun p => ⟨fun hp => (by cases hp), fun hp => ?_⟩⟩, List.nodup_nil, h.up⟩ ((Mv.of_grown hgr).mono (fun k hk => by cases hk)) hs
  have h1 := hp.2
  rw [dat_has, h.up.look hp.1] at h1
  cases h1
theorem om_next (hg : o.guard = none) (it : Operand) (hop : o.op = Op.next it false) {r : Nat} {ds : List (Int × β)} (hit : a.eval it = .pointer (some ⟨r, 0, none⟩)) (h : OR Tryz.prog s w b r l ds)
    (hDone : ds.Perm l → wpList Tryz.prog ops Q rest (a.put o.dst (.tuple #[.bool false])) w)
    (hMore : ∀ (x : Int) (c : β) (w1 : World), (Lit.int .i64 x).wf = true → (x, c) ∈ l → (x, c) ∉ ds → OR Tryz.prog s w1 b r l (ds ++ [(x, c)]) → Mv w w1 (fun k => k = r) → w1.heap.size = w.heap.size →
      (Instr.entry (.pointer (some ⟨r, 0, none⟩))).run Tryz.prog w1 = .ok (.tuple #[.int .i64 x, s.mk c]) w1 → wpList Tryz.prog ops Q rest (a.put o.dst (.tuple #[.bool true, .int .i64 x, s.mk c])) w1) :
    wpList Tryz.prog ops Q (o :: rest) a w := by
  obtain ⟨⟨lf, cnt, hr, hmem⟩, hn, hu⟩ := h
  refine wpList_next_ranges w hg it hop 3 key3 s.R (Value.int .i64) s.mk (fun key kl hkey => by obtain ⟨x, rfl, _⟩ := Maps.keyOf_int_inv Tryz.underlying3 hkey; exact ⟨x, rfl⟩)
    (fun v y hv => by unfold Shape.R at hv; cases hu2 : s.un v with | none => (rw [hu2] at hv; cases hv) | some c => exact ⟨c, s.mk_un _ _ hu2⟩) b r l.length (dat l) lf cnt hit hr ?_ ?_
  · intro _ hl
    refine hDone ((List.perm_ext_iff_of_nodup hn hu.nodup).2 (fun p => ?_))
    rw [hmem, hl]
    simp
  · intro x c kl y w1 cnt1 hkey hlk hv hat hr1 _ hgr hsz hen
    obtain ⟨x1, ex, rfl, hwx⟩ := Maps.keyOf_int_inv Tryz.underlying3 hkey
    cases ex
    unfold Shape.R at hv
    rw [s.un_mk] at hv
    have hy : (DataW.held c, ([] : List MemPlace)) = y := Option.some.inj hv
    have hlook : look l x = some c := by
      have h1 := hat .nil
      rw [dat_at, ← hy] at h1
      cases hl : look l x with
      | none => rw [hl] at h1; cases h1
      | some d => rw [hl] at h1; exact congrArg some (DataW.held.inj h1)
    have hin := look_mem hlook
    have hnot : (x, c) ∉ ds := fun h2 => by
      have := ((hmem _).1 h2).2
      rw [hlk] at this
      cases this
    refine hMore x c w1 hwx hin hnot ⟨⟨_, cnt1, hr1, fun p => ?_⟩, ?_, hu⟩ ((Mv.of_grown hgr).mono (fun k hk => by injection hk)) hsz hen
    · rw [List.mem_append, List.mem_singleton, hmem, same_i64]
      constructor
      · rintro (⟨h1, h2⟩ | h1)
        · exact ⟨h1, by rw [h2]; rfl⟩
        · rw [h1]
          exact ⟨hin, by simp⟩
      · rintro ⟨h1, h2⟩
        by_cases e : p.1 = x
        · exact .inr (hu.eq h1 hin e)
        · have : (p.1 == x) = false := by simpa using e
          rw [this] at h2
          exact .inl ⟨h1, by simpa using h2⟩
    · rw [List.nodup_append]
      refine ⟨hn, by simp, fun p hp q hq e => ?_⟩
      rw [List.mem_singleton] at hq
      subst hq
      subst e
      exact hnot hp
end
section
variable {w : World} {b : Nat} {ops : Array Oper} {rest : List Oper} {o : Oper} {a : Act} {Q : Exit → Act → World → Prop}
theorem om_look_ptr (hg : o.guard = none) (m x : Operand) (t : TypeId) (hop : o.op = Op.lookup t m x false) (e : TypeId) (ht : Tryz.prog.underlying t = some (.map 3 e)) {z : Value} (hz : (zeroValue e).run Tryz.prog w = .ok z w) {l : List (Int × Nat)}
    (hm : a.eval m = .map (some b)) (h : OM Tryz.prog ptrS w b l) {kx : Int} (hx : a.eval x = .int .i64 kx) (hw : (Lit.int .i64 kx).wf = true) {c : Nat} (hl : look l kx = some c)
    (hK : wpList Tryz.prog ops Q rest (a.put o.dst (.pointer (some ⟨c, 0, none⟩))) w) : wpList Tryz.prog ops Q (o :: rest) a w := om_look_some hg m x t hop e ht hz hm h hx hw hl hK
theorem om_next_ptr (hg : o.guard = none) (it : Operand) (hop : o.op = Op.next it false) {l : List (Int × Nat)} {r : Nat} {ds : List (Int × Nat)} (hit : a.eval it = .pointer (some ⟨r, 0, none⟩)) (h : OR Tryz.prog ptrS w b r l ds)
    (hDone : ds.Perm l → wpList Tryz.prog ops Q rest (a.put o.dst (.tuple #[.bool false])) w)
    (hMore : ∀ (x : Int) (c : Nat) (w1 : World), (Lit.int .i64 x).wf = true → (x, c) ∈ l → (x, c) ∉ ds → OR Tryz.prog ptrS w1 b r l (ds ++ [(x, c)]) → Mv w w1 (fun k => k = r) → w1.heap.size = w.heap.size →
      (Instr.entry (.pointer (some ⟨r, 0, none⟩))).run Tryz.prog w1 = .ok (.tuple #[.int .i64 x, .pointer (some ⟨c, 0, none⟩)]) w1 → wpList Tryz.prog ops Q rest (a.put o.dst (.tuple #[.bool true, .int .i64 x, .pointer (some ⟨c, 0, none⟩)])) w1) :
    wpList Tryz.prog ops Q (o :: rest) a w := om_next hg it hop hit h hDone hMore
theorem om_look_map (hg : o.guard = none) (m x : Operand) (t : TypeId) (hop : o.op = Op.lookup t m x false) (e : TypeId) (ht : Tryz.prog.underlying t = some (.map 3 e)) {z : Value} (hz : (zeroValue e).run Tryz.prog w = .ok z w) {l : List (Int × Nat)}
    (hm : a.eval m = .map (some b)) (h : OM Tryz.prog mapS w b l) {kx : Int} (hx : a.eval x = .int .i64 kx) (hw : (Lit.int .i64 kx).wf = true) {c : Nat} (hl : look l kx = some c)
    (hK : wpList Tryz.prog ops Q rest (a.put o.dst (.map (some c))) w) : wpList Tryz.prog ops Q (o :: rest) a w := om_look_some hg m x t hop e ht hz hm h hx hw hl hK
theorem om_next_map (hg : o.guard = none) (it : Operand) (hop : o.op = Op.next it false) {l : List (Int × Nat)} {r : Nat} {ds : List (Int × Nat)} (hit : a.eval it = .pointer (some ⟨r, 0, none⟩)) (h : OR Tryz.prog mapS w b r l ds)
    (hDone : ds.Perm l → wpList Tryz.prog ops Q rest (a.put o.dst (.tuple #[.bool false])) w)
    (hMore : ∀ (x : Int) (c : Nat) (w1 : World), (Lit.int .i64 x).wf = true → (x, c) ∈ l → (x, c) ∉ ds → OR Tryz.prog mapS w1 b r l (ds ++ [(x, c)]) → Mv w w1 (fun k => k = r) → w1.heap.size = w.heap.size →
      (Instr.entry (.pointer (some ⟨r, 0, none⟩))).run Tryz.prog w1 = .ok (.tuple #[.int .i64 x, .map (some c)]) w1 → wpList Tryz.prog ops Q rest (a.put o.dst (.tuple #[.bool true, .int .i64 x, .map (some c)])) w1) :
    wpList Tryz.prog ops Q (o :: rest) a w := om_next hg it hop hit h hDone hMore
theorem om_look_u64 (hg : o.guard = none) (m x : Operand) (t : TypeId) (hop : o.op = Op.lookup t m x false) (e : TypeId) (ht : Tryz.prog.underlying t = some (.map 3 e)) {z : Value} (hz : (zeroValue e).run Tryz.prog w = .ok z w) {l : List (Int × Int)}
    (hm : a.eval m = .map (some b)) (h : OM Tryz.prog u64S w b l) {kx : Int} (hx : a.eval x = .int .i64 kx) (hw : (Lit.int .i64 kx).wf = true) {c : Int} (hl : look l kx = some c)
    (hK : wpList Tryz.prog ops Q rest (a.put o.dst (.int .u64 c)) w) : wpList Tryz.prog ops Q (o :: rest) a w := om_look_some hg m x t hop e ht hz hm h hx hw hl hK
theorem om_next_u64 (hg : o.guard = none) (it : Operand) (hop : o.op = Op.next it false) {l : List (Int × Int)} {r : Nat} {ds : List (Int × Int)} (hit : a.eval it = .pointer (some ⟨r, 0, none⟩)) (h : OR Tryz.prog u64S w b r l ds)
    (hDone : ds.Perm l → wpList Tryz.prog ops Q rest (a.put o.dst (.tuple #[.bool false])) w)
    (hMore : ∀ (x : Int) (c : Int) (w1 : World), (Lit.int .i64 x).wf = true → (x, c) ∈ l → (x, c) ∉ ds → OR Tryz.prog u64S w1 b r l (ds ++ [(x, c)]) → Mv w w1 (fun k => k = r) → w1.heap.size = w.heap.size →
      (Instr.entry (.pointer (some ⟨r, 0, none⟩))).run Tryz.prog w1 = .ok (.tuple #[.int .i64 x, .int .u64 c]) w1 → wpList Tryz.prog ops Q rest (a.put o.dst (.tuple #[.bool true, .int .i64 x, .int .u64 c])) w1) :
    wpList Tryz.prog ops Q (o :: rest) a w := om_next hg it hop hit h hDone hMore
end
end Go.Proofs.YtcdfdckdodgbpaaGreatDoor.QA

/-! TModel -/
namespace Go.Proofs.YtcdfdckdodgbpaaGreatDoor.QA
set_option linter.unusedVariables false
set_option linter.unusedSimpArgs false
/-- A change: key, value, gone. -/
abbrev Chg := S52
abbrev Con := List (Int × Int)
structure Txn where
  pages : List (Int × Con)
  lengths : List Int
  changes : List Chg
structure PSt where
  pages : Int
  slots : Int
  log : Int
  frames : Int
  table : Int
  keys : Int
  opn : List (Int × Txn)
  left : List Con
  used : Int
  done : List (List Chg)
def undone (n : Int) : Int := 46 + n
def updated (n : Int) : Int := 38 + 2 * n
def sumU (l : List Int) : Int := (l.map undone).sum
def keepsT (t : Txn) : Int := 99 + sumU t.lengths
def keptL (l : List (Int × Txn)) : Int := (l.map fun q => keepsT q.2).sum
def PSt.kept (m : PSt) : Int := keptL m.opn
def PSt.fits (m : PSt) (more keep : Int) : Bool := decide (m.used + more + m.kept + keep ≤ m.log)
/-- Does a transaction hold the page? -/
def holds (t : Txn) (pg : Int) : Bool := (look t.pages pg).isSome
def PSt.holder (m : PSt) (pg : Int) : Int := ((m.opn.find? fun q => holds q.2 pg).map (·.1)).getD 0
def maxId : Int := 64
def PSt.beginE (m : PSt) (id : Int) : Int := if (id < 1 ∨ 64 < id) ∨ (look m.opn id).isSome then 160 else if (m.opn.length : Int) = m.table then 161 else if m.fits 34 99 then 0 else 170
def txn0 : Txn := ⟨[], [], []⟩
def PSt.begin_ (m : PSt) (id : Int) : PSt := if m.beginE id = 0 then { m with opn := put m.opn id txn0, used := m.used + 34 } else m
/-- What asked answers: 0, or the error. -/
def PSt.askedE (m : PSt) (id key : Int) : Int :=
  if (look m.opn id).isNone then 160 else if key < 0 ∨ m.keys - 1 < key then 50
  else if m.holder (key.tmod m.pages) ≠ 0 ∧ m.holder (key.tmod m.pages) ≠ id then 150 else 0
def PSt.txn (m : PSt) (id : Int) : Txn := (look m.opn id).getD txn0
/-- The content of a page as a transaction has it. -/
def PSt.con (m : PSt) (id pg : Int) : Con := (look (m.txn id).pages pg).getD (m.left.getD pg.toNat [])
def PSt.setT (m : PSt) (id : Int) (t : Txn) : PSt := { m with opn := put m.opn id t }
def Txn.hold (t : Txn) (pg : Int) (c : Con) : Txn := { t with pages := put t.pages pg c }
def PSt.get (m : PSt) (id key : Int) : PSt := if m.askedE id key = 0 then m.setT id ((m.txn id).hold (key.tmod m.pages) (m.con id (key.tmod m.pages))) else m
def PSt.getV (m : PSt) (id key : Int) : Int := if m.askedE id key = 0 then (look (m.con id (key.tmod m.pages)) key).getD 0 else 0
def PSt.getB (m : PSt) (id key : Int) : Bool := if m.askedE id key = 0 then (look (m.con id (key.tmod m.pages)) key).isSome else false
/-- A slot's bytes. -/
def slotB (key value : Int) (there : Bool) : List Int := (plain_slot.f 20 key value there).getD []
/-- How long the range is in which two lists part. -/
def lenB (a b : List Int) : Int := (plain_length.f 20 a b).getD 0
def app (c : Con) (x : Chg) : Con := if x.f2 then del c x.f0 else put c x.f0 x.f1
/-- How long the change is. -/
def PSt.lenC (m : PSt) (id : Int) (x : Chg) : Int :=
  lenB (slotB x.f0 ((look (m.con id (x.f0.tmod m.pages)) x.f0).getD 0) (look (m.con id (x.f0.tmod m.pages)) x.f0).isSome) (slotB x.f0 x.f1 (!x.f2))
def PSt.over (m : PSt) (id : Int) (undo : Bool) : PSt :=
  if undo then { m with opn := del m.opn id, used := m.used + 66 + sumU (m.txn id).lengths }
  else { m with opn := del m.opn id, used := m.used + 66, left := m.left.mapIdx fun i c => (look (m.txn id).pages (i : Int)).getD c, done := m.done ++ [(m.txn id).changes] }
def PSt.full (m : PSt) (id : Int) (x : Chg) : Bool :=
  !x.f2 && !(look (m.con id (x.f0.tmod m.pages)) x.f0).isSome && decide (((m.con id (x.f0.tmod m.pages)).length : Int) = m.slots)
def PSt.changedE (m : PSt) (id : Int) (x : Chg) : Int :=
  if m.askedE id x.f0 ≠ 0 then m.askedE id x.f0 else if m.full id x then 42
  else if 0 < m.lenC id x ∧ m.fits (updated (m.lenC id x)) (undone (m.lenC id x)) = false then 170 else 0
def PSt.changed (m : PSt) (id : Int) (x : Chg) : PSt :=
  if m.askedE id x.f0 ≠ 0 then m else if m.full id x then m
  else if 0 < m.lenC id x then
    if m.fits (updated (m.lenC id x)) (undone (m.lenC id x)) then
      { (m.setT id ({ pages := put (m.txn id).pages (x.f0.tmod m.pages) (app (m.con id (x.f0.tmod m.pages)) x), lengths := (m.txn id).lengths ++ [m.lenC id x], changes := (m.txn id).changes ++ [x] } : Txn)) with used := m.used + updated (m.lenC id x) }
    else m.over id true
  else m.setT id ((m.txn id).hold (x.f0.tmod m.pages) (m.con id (x.f0.tmod m.pages)))
def PSt.endE (m : PSt) (id : Int) : Int := if (look m.opn id).isNone then 160 else 0
def PSt.commit (m : PSt) (id : Int) : PSt := if m.endE id = 0 then m.over id false else m
def PSt.abort (m : PSt) (id : Int) : PSt := if m.endE id = 0 then m.over id true else m
def PSt.checkN (m : PSt) (dirty : Int) : Int := 35 + 26 * (m.opn.length : Int) + 9 * min (max dirty 0) m.pages
def PSt.checkE (m : PSt) (dirty : Int) : Int := if m.fits (m.checkN dirty) 0 then 0 else 170
def PSt.check (m : PSt) (dirty : Int) : PSt := if m.checkE dirty = 0 then { m with used := m.used + m.checkN dirty } else m
def PSt.renewE (m : PSt) : Int := if 0 < m.opn.length then 210 else 0
def PSt.renew (m : PSt) : PSt := if m.renewE = 0 then { m with used := 0 } else m
def PSt.delE (m : PSt) (id key : Int) : Int := if m.askedE id key ≠ 0 then m.askedE id key else if m.getB id key then (m.get id key).changedE id ⟨key, 0, true⟩ else 0
def PSt.delB (m : PSt) (id key : Int) : Bool := m.getB id key && decide ((m.get id key).changedE id ⟨key, 0, true⟩ = 0)
def PSt.delete (m : PSt) (id key : Int) : PSt := if m.getB id key then (m.get id key).changed id ⟨key, 0, true⟩ else m.get id key
/-- All keys and their values. -/
def PSt.all (m : PSt) : Con := m.left.foldl (fun a c => c.foldl (fun a p => put a p.1 p.2) a) []
def foldC (l : List (List Chg)) : Con := l.foldl (fun a t => t.foldl app a) []
/-! ### what holds of a state -/
structure OkC (m : PSt) (c : Con) (pg : Int) : Prop where
  up : Up c
  len : (c.length : Int) ≤ m.slots
  key : ∀ p ∈ c, 0 ≤ p.1 ∧ p.1 < m.keys ∧ p.1.tmod m.pages = pg
  val : ∀ p ∈ c, (Lit.int .u64 p.2).wf = true
structure OkT (m : PSt) (id : Int) (t : Txn) : Prop where
  id : 1 ≤ id ∧ id ≤ 64
  up : Up t.pages
  page : ∀ pg c, look t.pages pg = some c → 0 ≤ pg ∧ pg < m.pages ∧ OkC m c pg
  len : ∀ n ∈ t.lengths, 1 ≤ n ∧ n ≤ 16
  same : t.changes.length = t.lengths.length
structure Ok (m : PSt) : Prop where
  pages : 1 ≤ m.pages ∧ m.pages ≤ 16
  slots : 1 ≤ m.slots ∧ m.slots ≤ 8
  log : 1024 ≤ m.log ∧ m.log ≤ 65536
  table : 1 ≤ m.table ∧ m.table ≤ 8
  keys : 1 ≤ m.keys ∧ m.keys ≤ 1048576
  up : Up m.opn
  txn : ∀ id t, look m.opn id = some t → OkT m id t
  size : (m.opn.length : Int) ≤ m.table
  left : (m.left.length : Int) = m.pages
  page : ∀ (i : Nat) c, m.left[i]? = some c → OkC m c (i : Int)
  used : 0 ≤ m.used
  room : m.used + m.kept ≤ m.log
  lock : ∀ id t id' t' pg, look m.opn id = some t → look m.opn id' = some t' → holds t pg = true → holds t' pg = true → id = id'
/-! ### sums -/
theorem sumU_nonneg {l : List Int} (h : ∀ n ∈ l, 1 ≤ n) : 47 * (l.length : Int) ≤ sumU l := by
  induction l with
  | nil => simp [sumU]
  | cons a r ih =>
    have h1 := h a (List.mem_cons_self ..)
    have h2 := ih (fun n hn => h n (List.mem_cons_of_mem _ hn))
    unfold sumU at h2 ⊢
    rw [List.map_cons, List.sum_cons, List.length_cons]
    unfold undone at h2 ⊢
    push_cast
    omega
theorem sumU_append (l : List Int) (n : Int) : sumU (l ++ [n]) = sumU l + undone n := by simp [sumU]
theorem perm_sum {l1 l2 : List Int} (h : l1.Perm l2) : l1.sum = l2.sum := by
  induction h with
  | nil => rfl
  | cons x _ ih => rw [List.sum_cons, List.sum_cons, ih]
  | swap x y l => simp only [List.sum_cons]; omega
  | trans _ _ h1 h2 => exact h1.trans h2
theorem keptL_perm {l1 l2 : List (Int × Txn)} (h : l1.Perm l2) : keptL l1 = keptL l2 := by
  unfold keptL
  exact perm_sum (h.map _)
theorem keptL_append (l : List (Int × Txn)) (q : Int × Txn) : keptL (l ++ [q]) = keptL l + keepsT q.2 := by simp [keptL]
theorem insK_perm {β : Type} (p : Int × β) : ∀ l : List (Int × β), (insK p l).Perm (p :: l)
  | [] => List.Perm.refl _
  | a :: r => by
    unfold insK
    split
    · exact List.Perm.refl _
    · exact ((insK_perm p r).cons a).trans (List.Perm.swap p a r)
theorem del_perm {β : Type} {l : List (Int × β)} (h : Up l) {x : Int} {c : β} (hx : look l x = some c) : ((x, c) :: del l x).Perm l := by
  refine (List.perm_ext_iff_of_nodup ?_ h.nodup).2 (fun p => ?_)
  · exact List.nodup_cons.2 ⟨fun hm => ((mem_del l x _).1 hm).2 rfl, (h.del x).nodup⟩
  · rw [List.mem_cons, mem_del]
    constructor
    · rintro (rfl | h1)
      · exact look_mem hx
      · exact h1.1
    · intro hp
      by_cases e : p.1 = x
      · exact .inl (h.eq hp (look_mem hx) e)
      · exact .inr ⟨hp, e⟩
theorem keptL_put_new {l : List (Int × Txn)} {id : Int} {t : Txn} (h : look l id = none) : keptL (put l id t) = keptL l + keepsT t := by
  unfold put
  rw [keptL_perm (insK_perm _ _), del_none h]
  unfold keptL
  rw [List.map_cons, List.sum_cons]
  dsimp only at *
  omega
theorem keptL_del {l : List (Int × Txn)} (hu : Up l) {id : Int} {t : Txn} (h : look l id = some t) : keptL (del l id) + keepsT t = keptL l := by
  rw [← keptL_perm (del_perm hu h)]
  unfold keptL
  rw [List.map_cons, List.sum_cons]
  dsimp only at *
  omega
theorem keptL_put {l : List (Int × Txn)} (hu : Up l) {id : Int} {t t' : Txn} (h : look l id = some t) : keptL (put l id t') + keepsT t = keptL l + keepsT t' := by
  unfold put
  rw [keptL_perm (insK_perm _ _)]
  have := keptL_del hu h
  unfold keptL at *
  rw [List.map_cons, List.sum_cons]
  dsimp only at *
  omega
end Go.Proofs.YtcdfdckdodgbpaaGreatDoor.QA

/-! TMem -/
namespace Go.Proofs.YtcdfdckdodgbpaaGreatDoor.QA
open Go.RowKit Go.Maps Go.Proofs.YtcdfdckdodgbpaaGreatDoorW.PrintWords Go.Proofs.YtcdfdckdodgbpaaGreatDoorW.PrintLast Go.Proofs.YtcdfdckdodgbpaaGreatDoorW.PrintMore
set_option linter.unusedVariables false
set_option linter.unusedSimpArgs false
abbrev kChg : Kd Chg := k52
abbrev kDone : Kd (List Chg) := Kd.slice 52 kChg
inductive TRole where
  | cell | pages | lens | chgs | page (pg : Int)
inductive Role where
  | out | glob | state | openM | leftA | left (pg : Int) | done | t (id : Int) (what : TRole)
structure Lay where
  role : Nat → Role
  p : Nat
  ob : Nat
  gl : Nat
  tb : Int → Nat
  pb : Int → Nat
  cb : Int → Int → Nat
  lb : Nat → Option Nat
structure TxC (w : World) (L : Lay) (id : Int) (t : Txn) (vl vc : Value) : Prop where
  cell : w.heap[L.tb id]? = some (.cells #[.map (some (L.pb id)), vl, vc] 82 (0, 0))
  lens : Kd.R (Kd.int .i64) 3 w 0 (fun k => L.role k = .t id .lens) vl t.lengths
  chgs : Kd.R kChg 52 w 0 (fun k => L.role k = .t id .chgs) vc t.changes
  rt : L.role (L.tb id) = .t id .cell
  rp : L.role (L.pb id) = .t id .pages
  pages : OM Tryz.prog mapS w (L.pb id) (t.pages.map fun q => (q.1, L.cb id q.1))
  rc : ∀ pg c, look t.pages pg = some c → L.role (L.cb id pg) = .t id (.page pg)
/-- A transaction's memory; hole: a page of which nothing is said. -/
structure Tx (w : World) (L : Lay) (hole : Int → Int → Prop) (id : Int) (t : Txn) : Prop where
  cells : ∃ vl vc, TxC w L id t vl vc
  page : ∀ pg c, look t.pages pg = some c → ¬ hole id pg → OM Tryz.prog u64S w (L.cb id pg) c
def none2 : Int → Int → Prop := fun _ _ => False
/-- A committed page's memory. -/
def Lf (w : World) (L : Lay) (i : Nat) (c : Con) : Prop :=
  (L.lb i = none ∧ c = []) ∨ ∃ b, L.lb i = some b ∧ L.role b = .left (i : Int) ∧ OM Tryz.prog u64S w b c
def stCells (m : PSt) (L : Lay) (vd : Value) : Array Value :=
  #[.int .i64 m.pages, .int .i64 m.slots, .int .i64 m.log, .int .i64 m.frames, .int .i64 m.table, .int .i64 m.keys, .map (some L.ob), .slice (some ⟨L.gl, 0, none⟩) m.left.length m.left.length, .int .i64 m.used, vd]
def lbV : Option Nat → Value := fun o => .map o
def leftV (L : Lay) (n : Nat) : Array Value := ((List.range n).map fun i => lbV (L.lb i)).toArray
/-- What the package variable errors.errorType holds. -/
abbrev hnd (t : Nat) : Value := .pointer (some ⟨4, t, none⟩)
def Glob (w : World) : Prop := w.cell? ⟨0, 0, none⟩ = some (.iface 151 (.agg #[hnd 84]))
theorem Glob.lt {w : World} (h : Glob w) : 0 < w.heap.size := World.block_lt_of_cell? w _ h
theorem Glob.block {w w1 : World} (h : Glob w) (hb : w1.heap[0]? = w.heap[0]?) : Glob w1 := (World.cell?_of_block hb).trans h
structure StC (w : World) (L : Lay) (m : PSt) (vd : Value) : Prop where
  cell : w.heap[L.p]? = some (.cells (stCells m L vd) 70 (0, 0))
  done : Kd.R kDone 45 w 0 (fun k => L.role k = .done) vd m.done
  rp : L.role L.p = .state
  ro : L.role L.ob = .openM
  rg : L.role L.gl = .leftA
  open_ : OM Tryz.prog ptrS w L.ob (m.opn.map fun q => (q.1, L.tb q.1))
  leftA : w.heap[L.gl]? = some (.cells (leftV L m.left.length) 75 (0, 0))
  left : ∀ i c, m.left[i]? = some c → Lf w L i c
  fresh : ∀ k, w.heap.size ≤ k → L.role k = .out
  g0 : Glob w
  r0 : L.role 0 = .glob
structure St (w : World) (L : Lay) (hole : Int → Int → Prop) (m : PSt) : Prop where
  c : ∃ vd, StC w L m vd
  tx : ∀ id t, look m.opn id = some t → Tx w L hole id t
/-- What an operation does: it changes blocks that have a role, and makes new ones. -/
structure Goes (w : World) (L : Lay) (w' : World) (L' : Lay) : Prop where
  mv : Mv w w' (fun k => L.role k ≠ .out ∧ L.role k ≠ .glob)
  out : ∀ k, k < w.heap.size → L.role k = .out → L'.role k = .out
  p : L'.p = L.p
  gl : ∀ k, k < w.heap.size → L.role k = .glob → L'.role k = .glob
section
variable {w w1 w2 : World} {L L1 L2 : Lay} {hole : Int → Int → Prop} {id : Int} {t : Txn} {m : PSt} {vl vc vd : Value} {S : Nat → Prop}
theorem Goes.refl (w : World) (L : Lay) : Goes w L w L := ⟨Mv.refl _ _, fun _ _ h => h, rfl, fun _ _ h => h⟩
theorem Goes.trans (h : Goes w L w1 L1) (k : Goes w1 L1 w2 L2) : Goes w L w2 L2 :=
  ⟨h.mv.then_ k.mv (fun i hi => by
    by_cases h1 : i < w.heap.size
    · exact .inl ⟨fun h2 => hi.1 (h.out i h1 h2), fun h2 => hi.2 (h.gl i h1 h2)⟩
    · exact .inr (by omega)), fun i hi ho => k.out i (Nat.lt_of_lt_of_le hi h.mv.size) (h.out i hi ho), k.p.trans h.p, fun i hi ho => k.gl i (Nat.lt_of_lt_of_le hi h.mv.size) (h.gl i hi ho)⟩
theorem Goes.of_mv (h : Mv w w1 S) (hS : ∀ k, S k → L.role k ≠ .out ∧ L.role k ≠ .glob) : Goes w L w1 L := ⟨h.mono hS, fun _ _ h => h, rfl, fun _ _ h => h⟩
theorem Goes.of_below (h : Below w.heap.size w w1) : Goes w L w1 L := ⟨Mv.of_below h _, fun _ _ h => h, rfl, fun _ _ h => h⟩
/-- The relabelled: roles of blocks that were there and out are out still. -/
theorem Goes.relabel (hp : L1.p = L.p) (h : ∀ k, k < w.heap.size → L.role k = .out → L1.role k = .out) (h2 : ∀ k, k < w.heap.size → L.role k = .glob → L1.role k = .glob) : Goes w L w L1 := ⟨Mv.refl _ _, h, hp, h2⟩
theorem lt_of_blk {k : Nat} {o : Obj} (h : w.heap[k]? = some o) : k < w.heap.size := blk_lt h
theorem TxC.mono (h : TxC w L id t vl vc) (hk : ∀ k x, k < w.heap.size → L.role k = .t id x → (∀ pg, x ≠ .page pg) → w1.heap[k]? = w.heap[k]?) (hr : ∀ k x, k < w.heap.size → L.role k = .t id x → L1.role k = .t id x)
    (ht : L1.tb id = L.tb id) (hp : L1.pb id = L.pb id) (hc : ∀ q ∈ t.pages, L1.cb id q.1 = L.cb id q.1) (hcl : ∀ pg c, look t.pages pg = some c → L.cb id pg < w.heap.size) : TxC w1 L1 id t vl vc := by
  have h1 := lt_of_blk h.cell
  have h2 := h.pages.lt
  refine ⟨?_, ?_, ?_, ?_, ?_, ?_, ?_⟩
  · rw [ht, hp, hk _ _ h1 h.rt (by simp)]; exact h.cell
  · exact Kd.R_mono (Kd.R_step (Kd.R_bound h.lens) (fun k ho hlt => hk k _ hlt ho.1 (by simp))) (fun k ho => hr k _ ho.2.2.1 ho.1)
  · exact Kd.R_mono (Kd.R_step (Kd.R_bound h.chgs) (fun k ho hlt => hk k _ hlt ho.1 (by simp))) (fun k ho => hr k _ ho.2.2.1 ho.1)
  · rw [ht]; exact hr _ _ h1 h.rt
  · rw [hp]; exact hr _ _ h2 h.rp
  · have : (t.pages.map fun q => (q.1, L1.cb id q.1)) = t.pages.map fun q => (q.1, L.cb id q.1) := by
      apply List.map_congr_left; intro q hq; rw [hc q hq]
    rw [this, hp]
    exact h.pages.block (hk _ _ h2 h.rp (by simp))
  · intro pg c hl; rw [hc (pg, c) (look_mem hl)]; exact hr _ _ (hcl pg c hl) (h.rc pg c hl)
theorem Tx.lt (h : Tx w L none2 id t) {pg : Int} {c : Con} (hl : look t.pages pg = some c) : L.cb id pg < w.heap.size := (h.page pg c hl (fun h => h)).lt
/-- Blocks of this transaction are as they were, and have the role they had. -/
theorem Tx.mono (h : Tx w L none2 id t) (hk : ∀ k x, k < w.heap.size → L.role k = .t id x → w1.heap[k]? = w.heap[k]?) (hr : ∀ k x, k < w.heap.size → L.role k = .t id x → L1.role k = .t id x)
    (ht : L1.tb id = L.tb id) (hp : L1.pb id = L.pb id) (hc : ∀ q ∈ t.pages, L1.cb id q.1 = L.cb id q.1) : Tx w1 L1 none2 id t := by
  obtain ⟨vl, vc, hC⟩ := h.cells
  refine ⟨⟨vl, vc, hC.mono (fun k x hlt hx _ => hk k x hlt hx) hr ht hp hc (fun pg c hl => h.lt hl)⟩, fun pg c hl hh => ?_⟩
  rw [hc (pg, c) (look_mem hl)]
  exact (h.page pg c hl (fun h => h)).block (hk _ _ (h.lt hl) (hC.rc pg c hl))
theorem Lf.mono {i : Nat} {c : Con} (h : Lf w L i c) (hk : ∀ k, k < w.heap.size → L.role k = .left (i : Int) → w1.heap[k]? = w.heap[k]?) (hr : ∀ k, k < w.heap.size → L.role k = .left (i : Int) → L1.role k = .left (i : Int)) (hl : L1.lb i = L.lb i) : Lf w1 L1 i c := by
  rcases h with ⟨h1, h2⟩ | ⟨b, h1, h2, h3⟩
  · exact .inl ⟨hl.trans h1, h2⟩
  · exact .inr ⟨b, hl.trans h1, hr b h3.lt h2, h3.block (hk b h3.lt h2)⟩
theorem done_mono {ds : List (List Chg)} (h : Kd.R kDone 45 w 0 (fun k => L.role k = .done) vd ds) (hk : ∀ k, k < w.heap.size → L.role k = .done → w1.heap[k]? = w.heap[k]?) (hr : ∀ k, k < w.heap.size → L.role k = .done → L1.role k = .done) : Kd.R kDone 45 w1 0 (fun k => L1.role k = .done) vd ds :=
  Kd.R_mono (Kd.R_step (Kd.R_bound h) (fun k ho hlt => hk k hlt ho.1)) (fun k ho => hr k ho.2.2.1 ho.1)
/-- Nothing that has a role has changed. -/
theorem St.move (h : St w L none2 m) (hm : Mv w w1 S) (hS : ∀ k, S k → L.role k = .out) : St w1 L none2 m := by
  obtain ⟨⟨vd, c⟩, tx⟩ := h
  have key : ∀ k r, k < w.heap.size → L.role k = r → r ≠ .out → w1.heap[k]? = w.heap[k]? := fun k r hlt hr hne => hm.block k hlt (fun hs => hne (hr ▸ hS k hs))
  refine ⟨⟨vd, ?_⟩, fun id t hl => (tx id t hl).mono (fun k x hlt hx => key k _ hlt hx (by simp)) (fun _ _ _ h => h) rfl rfl (fun _ _ => rfl)⟩
  exact ⟨(key _ _ (lt_of_blk c.cell) c.rp (by simp)).trans c.cell, done_mono c.done (fun k hlt hk => key k _ hlt hk (by simp)) (fun _ _ h => h), c.rp, c.ro, c.rg, c.open_.block (key _ _ c.open_.lt c.ro (by simp)),
    (key _ _ (lt_of_blk c.leftA) c.rg (by simp)).trans c.leftA, fun i cc hi => (c.left i cc hi).mono (fun k hlt hk => key k _ hlt hk (by simp)) (fun _ _ h => h) rfl, fun k hk => c.fresh k (Nat.le_trans hm.size hk), c.g0.block (key _ _ c.g0.lt c.r0 (by simp)), c.r0⟩
theorem St.below (h : St w L none2 m) (hb : Below w.heap.size w w1) : St w1 L none2 m := h.move (Mv.of_below hb (fun _ => False)) (fun _ h => h.elim)
/-- A new content hangs at a page that the transaction does not hold yet. -/
def Lay.attach (L : Lay) (id pg : Int) (b : Nat) : Lay :=
  { L with role := fun k => if k = b then .t id (.page pg) else L.role k, cb := fun i q => if i = id ∧ q = pg then b else L.cb i q }
theorem St.attach (h : St w L none2 m) {pg : Int} {b : Nat} (hb : w.heap.size ≤ b) (hb1 : b < w1.heap.size) (hB : Below w.heap.size w w1) (hn : ∀ t, look m.opn id = some t → look t.pages pg = none) : St w1 (L.attach id pg b) none2 m := by
  obtain ⟨⟨vd, c⟩, tx⟩ := h.below hB
  have hr : ∀ k r, k < w1.heap.size → L.role k = r → r ≠ .out → (L.attach id pg b).role k = r := by
    intro k r hk e hne
    show (if k = b then _ else L.role k) = r
    by_cases e2 : k = b
    · have h2 := (h.c.elim fun _ c => c.fresh b hb)
      rw [e2, h2] at e
      exact absurd e.symm hne
    · rw [if_neg e2]; exact e
  refine ⟨⟨vd, ?_⟩, fun i t hl => (tx i t hl).mono (fun _ _ _ _ => rfl) (fun k x hlt hx => hr k _ hlt hx (by simp)) rfl rfl (fun q hq => ?_)⟩
  · exact ⟨c.cell, done_mono c.done (fun _ _ _ => rfl) (fun k hlt hk => hr k _ hlt hk (by simp)), hr _ _ (lt_of_blk c.cell) c.rp (by simp), hr _ _ c.open_.lt c.ro (by simp), hr _ _ (lt_of_blk c.leftA) c.rg (by simp), c.open_,
      c.leftA, fun i cc hi => (c.left i cc hi).mono (fun _ _ _ => rfl) (fun k hlt hk => hr k _ hlt hk (by simp)) rfl, fun k hk => (by
        show (if k = b then _ else L.role k) = _
        rw [if_neg (by omega)]
        exact c.fresh k hk), c.g0, hr _ _ c.g0.lt c.r0 (by simp)⟩
  · show (if i = id ∧ q.1 = pg then b else L.cb i q.1) = L.cb i q.1
    by_cases e : i = id ∧ q.1 = pg
    · obtain ⟨rfl, rfl⟩ := e
      exact absurd hq (look_none (hn t hl) q.2)
    · rw [if_neg e]
end
end Go.Proofs.YtcdfdckdodgbpaaGreatDoor.QA

/-! TSmall -/
namespace Go.Proofs.YtcdfdckdodgbpaaGreatDoor.QA
open Go.RowKit Go.Maps Go.Proofs.YtcdfdckdodgbpaaGreatDoorW.PrintWords Go.Proofs.YtcdfdckdodgbpaaGreatDoorW.PrintLast Go.Proofs.YtcdfdckdodgbpaaGreatDoorW.PrintMore
set_option linter.unusedVariables false
set_option linter.unusedSimpArgs false
theorem wrp {x y : Int} (e : y = x) (h : -9223372036854775808 ≤ x ∧ x ≤ 9223372036854775807) : IntKind.i64.wrap y = x := by subst e; rw [IntKind.wrap_i64]; omega
theorem wf64 {x : Int} (h : -9223372036854775808 ≤ x ∧ x ≤ 9223372036854775807) : (Lit.int .i64 x).wf = true := by
  simp [Lit.wf, IntKind.min, IntKind.max, IntKind.signed, IntKind.bits]
  omega
theorem of_wf64 {x : Int} (h : (Lit.int .i64 x).wf = true) : -9223372036854775808 ≤ x ∧ x ≤ 9223372036854775807 := by
  simp [Lit.wf, IntKind.min, IntKind.max, IntKind.signed, IntKind.bits] at h
  omega
theorem within33 (n lo hi : Int) (w : World) : Calls Tryz.prog 33 #[.int .i64 n, .int .i64 lo, .int .i64 hi] w fun e w' => e = .returned (.bool (decide (lo ≤ n ∧ n ≤ hi))) ∧ w = w' := by
  by_cases h1 : lo ≤ n
  · by_cases h2 : n ≤ hi
    · have d0 : decide (lo ≤ n ∧ n ≤ hi) = true := decide_eq_true ⟨h1, h2⟩
      rw [d0]
      have d1 := decide_eq_true h1
      have d2 := decide_eq_true h2
      clear d0
      go_enter Tryz.func33, Tryz.ntmps33
      go_wp2
      go_ret
      exact ⟨rfl, rfl⟩
    · have d0 : decide (lo ≤ n ∧ n ≤ hi) = false := decide_eq_false (fun h => h2 h.2)
      rw [d0]
      have d1 := decide_eq_true h1
      have d2 := decide_eq_false h2
      clear d0
      go_enter Tryz.func33, Tryz.ntmps33
      go_wp2
      go_ret
      exact ⟨rfl, rfl⟩
  · have d0 : decide (lo ≤ n ∧ n ≤ hi) = false := decide_eq_false (fun h => h1 h.1)
    rw [d0]
    have d1 := decide_eq_false h1
    clear d0
    go_enter Tryz.func33, Tryz.ntmps33
    go_wp2
    go_ret
    exact ⟨rfl, rfl⟩
theorem undone48 (n : Int) (h : 0 ≤ n ∧ n ≤ 1000000) (w : World) : Calls Tryz.prog 43 #[.int .i64 n] w fun e w' => e = .returned (.int .i64 (undone n)) ∧ w = w' := by
  have hw : IntKind.i64.wrap (46 + n) = undone n := wrp rfl (by unfold undone; omega)
  clear h
  go_enter Tryz.func43, Tryz.ntmps43
  go_wp2
  go_ret
  exact ⟨rfl, rfl⟩
theorem updated47 (n : Int) (h : 0 ≤ n ∧ n ≤ 1000000) (w : World) : Calls Tryz.prog 53 #[.int .i64 n] w fun e w' => e = .returned (.int .i64 (updated n)) ∧ w = w' := by
  have hw0 : IntKind.i64.wrap (2 * n) = 2 * n := wrp rfl (by omega)
  have hw : IntKind.i64.wrap (38 + 2 * n) = updated n := wrp rfl (by unfold updated; omega)
  clear h
  go_enter Tryz.func53, Tryz.ntmps53
  go_wp2
  go_ret
  exact ⟨rfl, rfl⟩
theorem num19 (n : Int) (w : World) : Calls Tryz.prog 10 #[.int .i64 n] w fun e w' => e = .returned (.int .i64 n) ∧ w = w' := by
  go_enter Tryz.func10, Tryz.ntmps10
  go_wp2
  go_ret
  exact ⟨rfl, rfl⟩
theorem sumU_take (l : List Int) (i : Nat) (hi : i < l.length) : sumU (l.take (i + 1)) = sumU (l.take i) + undone (rd l (i : Int)) := by
  rw [List.take_succ_eq_append_getElem hi, sumU_append]
  congr 2
  simp [rd, hi]
theorem sumU_take_le (l : List Int) (h : ∀ n ∈ l, 1 ≤ n) (i : Nat) : 0 ≤ sumU (l.take i) ∧ sumU (l.take i) ≤ sumU l := by
  have h1 := sumU_nonneg (l := l.take i) (fun n hn => h n (List.mem_of_mem_take hn))
  have h2 := sumU_nonneg (l := l.drop i) (fun n hn => h n (List.mem_of_mem_drop hn))
  have h3 : sumU l = sumU (l.take i) + sumU (l.drop i) := by
    conv => lhs; rw [← List.take_append_drop i l]
    unfold sumU
    rw [List.map_append, List.sum_append]
  omega
theorem rd_mem (l : List Int) (i : Nat) (hi : i < l.length) : rd l (i : Int) ∈ l := by
  have : rd l (i : Int) = l[i] := by simp [rd, hi]
  rw [this]
  exact List.getElem_mem hi
set_option maxHeartbeats 2000000 in
set_option maxRecDepth 100000 in
theorem keeps39 {w : World} {L : Lay} {id : Int} {t : Txn} {vl vc : Value} (h : TxC w L id t vl vc) (hn : ∀ n ∈ t.lengths, 1 ≤ n ∧ n ≤ 16) (hs : sumU t.lengths ≤ 1000000) :
    Calls Tryz.prog 54 #[.pointer (some ⟨L.tb id, 0, none⟩)] w fun e w' => e = .returned (.int .i64 (keepsT t)) ∧ Below w.heap.size w w' := by
  obtain ⟨A, c, hv⟩ := Kd.R_slice h.lens
  subst hv
  have hC := (Kd.R_reads' h.lens).2.2
  have hc1 : w.cell? ⟨L.tb id, 1, none⟩ = some (.slice A t.lengths.length c) := blk_cell h.cell 1
  have HC := Aside0.mk hC
  have HN := Aside0.mk hn
  have HS := Aside0.mk hs
  clear hC hn hs h
  obtain ⟨p, hp⟩ : ∃ p, p = L.tb id := ⟨_, rfl⟩
  rw [← hp] at hc1 ⊢
  clear hp
  unfold keepsT
  obtain ⟨l, hl⟩ : ∃ l, l = t.lengths := ⟨_, rfl⟩
  rw [← hl] at hc1 HC HN HS ⊢
  clear hl
  go_enter Tryz.func54, Tryz.ntmps54
  go_wp2
  go_loopg [3, 5, 11] l.length (fun kq v3 v5 v11 wr => ∃ (j : Nat), v3 = .int .i64 (99 + sumU (l.take j)) ∧ v11 = .int .i64 (j : Int) ∧ Aside0 (j + kq = l.length) ∧ Aside0 (Below w.heap.size w wr))
  case atStart => exact ⟨0, rfl, rfl, ⟨by omega⟩, ⟨Below.refl _ _⟩⟩
  case round =>
    obtain ⟨j, rfl, rfl, hjk, hBl⟩ := hrel
    cases gk with
    | zero =>
      obtain rfl : j = l.length := hjk.out
      have hd1 : ¬ ((l.length : Int) < (l.length : Int)) := by omega
      rw [List.take_length]
      go_wp2
      go_ret
      exact ⟨rfl, hBl.out⟩
    | succ k1 =>
      have hj0 : j < l.length := by have := hjk.out; omega
      have hj1 : (j : Int) < (l.length : Int) := by omega
      obtain ⟨Ws, hWs, hBl⟩ : ∃ W, W = _ ∧ Aside0 (Below w.heap.size w W) := ⟨_, rfl, hBl⟩
      subst hWs
      obtain ⟨x, hx⟩ : ∃ x, x = rd l (j : Int) := ⟨_, rfl⟩
      obtain ⟨ad1, e1, h1⟩ := Kd.at_int (Kd.C_below HC.out hBl.out) (j : Int) (by omega) hj1
      subst e1
      rw [Int.toNat_natCast, ← hx] at h1
      have hxr : 1 ≤ x ∧ x ≤ 16 := HN.out x (hx ▸ rd_mem l j hj0)
      have hst := sumU_take l j hj0
      rw [← hx] at hst
      have hle := sumU_take_le l (fun n hn => (HN.out n hn).1) j
      have hle2 := sumU_take_le l (fun n hn => (HN.out n hn).1) (j + 1)
      have hw1 : IntKind.i64.wrap (99 + sumU (l.take j) + undone x) = 99 + sumU (l.take (j + 1)) := wrp (by rw [hst]; omega) (by have := HS.out; omega)
      have hlen := sumU_nonneg (fun n hn => (HN.out n hn).1)
      have hw2 : IntKind.i64.wrap ((j : Int) + 1) = ((j + 1 : Nat) : Int) := wrp (by omega) (by have := HS.out; omega)
      have HX := Aside0.mk hxr
      clear hlen hx hxr hst hle hle2
      go_wp2_with (first
        | ((with_reducible refine gate_dst (N := 17) rfl ?_); refine goesL_ (some 17) rfl rfl Tryz.func43 (by kernel_rfl) rfl #[.int .i64 x] rfl (by (try simp only [List.map_toArray, List.map_cons, List.map_nil]); first | done | rfl) ?_
           refine (undone48 x (by have := HX.out; omega) _).mono ?_
           rintro e w2 ⟨rfl, rfl⟩
           refine ⟨_, rfl, ?_⟩))
      go_roundg k1
      case measure => omega
      case rel => exact ⟨j + 1, rfl, rfl, ⟨by have := hjk.out; omega⟩, hBl⟩
end Go.Proofs.YtcdfdckdodgbpaaGreatDoor.QA

/-! TKept -/
namespace Go.Proofs.YtcdfdckdodgbpaaGreatDoor.QA
open Go.RowKit Go.Maps Go.Proofs.YtcdfdckdodgbpaaGreatDoorW.PrintWords Go.Proofs.YtcdfdckdodgbpaaGreatDoorW.PrintLast Go.Proofs.YtcdfdckdodgbpaaGreatDoorW.PrintMore
set_option linter.unusedVariables false
set_option linter.unusedSimpArgs false
/-- What an entry of the open ones' map keeps. -/
def keepOf (m : PSt) (q : Int × Nat) : Int := keepsT ((look m.opn q.1).getD txn0)
theorem keep_sum (m : PSt) (hu : Up m.opn) (f : Int → Nat) : ((m.opn.map fun q => (q.1, f q.1)).map (keepOf m)).sum = m.kept := by
  unfold PSt.kept keptL
  rw [List.map_map]
  congr 1
  apply List.map_congr_left
  intro q hq
  show keepsT ((look m.opn q.1).getD txn0) = keepsT q.2
  rw [hu.look (c := q.2) hq]
  rfl
theorem keepsT_pos {t : Txn} (h : ∀ n ∈ t.lengths, 1 ≤ n) : 99 ≤ keepsT t := by
  have := sumU_nonneg h
  unfold keepsT
  omega
theorem sum_nonneg {l : List Int} (h : ∀ x ∈ l, 0 ≤ x) : 0 ≤ l.sum := by
  induction l with
  | nil => simp
  | cons a r ih =>
    have h1 := h a (List.mem_cons_self ..)
    have h2 := ih (fun x hx => h x (List.mem_cons_of_mem _ hx))
    rw [List.sum_cons]
    omega
theorem sum_le_sub {α : Type} (g : α → Int) : ∀ (ds l : List α), ds.Nodup → (∀ p ∈ ds, p ∈ l) → (∀ p ∈ l, 0 ≤ g p) → (ds.map g).sum ≤ (l.map g).sum
  | [], l, _, _, hg => by
    refine sum_nonneg (fun x hx => ?_)
    obtain ⟨p, hp, rfl⟩ := List.mem_map.1 hx
    exact hg p hp
  | a :: r, l, hn, hs, hg => by
    have h2 := List.nodup_cons.1 hn
    obtain ⟨l1, l2, rfl⟩ := List.append_of_mem (hs a (List.mem_cons_self ..))
    have := sum_le_sub g r (l1 ++ l2) h2.2 (fun p hp => by
      have h3 := hs p (List.mem_cons_of_mem _ hp)
      have h4 : p ≠ a := fun e => h2.1 (e ▸ hp)
      rw [List.mem_append, List.mem_cons] at h3
      rw [List.mem_append]
      rcases h3 with h3 | h3 | h3
      · exact .inl h3
      · exact absurd h3 h4
      · exact .inr h3) (fun p hp => hg p (by rw [List.mem_append] at hp; rw [List.mem_append, List.mem_cons]; exact hp.elim .inl (fun h => .inr (.inr h))))
    simp only [List.map_append, List.map_cons, List.sum_append, List.sum_cons] at this ⊢
    omega
theorem Ok.keep_nonneg {m : PSt} (h : Ok m) (q : Int × Txn) (hq : q ∈ m.opn) : 99 ≤ keepsT q.2 := keepsT_pos (fun n hn => ((h.txn q.1 q.2 (h.up.look hq)).len n hn).1)
theorem Ok.keep_le {m : PSt} (h : Ok m) {id : Int} {t : Txn} (ht : look m.opn id = some t) : keepsT t ≤ m.kept := by
  have h1 := sum_le_sub (fun q : Int × Txn => keepsT q.2) [(id, t)] m.opn (by simp) (fun p hp => by rw [List.mem_singleton.1 hp]; exact look_mem ht) (fun p hp => by have := h.keep_nonneg p hp; omega)
  unfold PSt.kept keptL
  simpa using h1
theorem Ok.kept_le {m : PSt} (h : Ok m) : m.kept ≤ 65536 := by have := h.room; have := h.used; have := h.log; omega
theorem Ok.sumU_le {m : PSt} (h : Ok m) {id : Int} {t : Txn} (ht : look m.opn id = some t) : sumU t.lengths ≤ 65437 := by
  have h1 := h.keep_le ht
  have h2 := h.kept_le
  unfold keepsT at h1
  omega
/-- The open ones' map, as it lies in memory. -/
def opnL (m : PSt) (L : Lay) : List (Int × Nat) := m.opn.map fun q => (q.1, L.tb q.1)
theorem opnL_mem {m : PSt} {L : Lay} (hu : Up m.opn) {x : Int} {c : Nat} (h : (x, c) ∈ opnL m L) : ∃ t, look m.opn x = some t ∧ c = L.tb x := by
  obtain ⟨q, hq, e⟩ := List.mem_map.1 h
  have e1 := congrArg Prod.fst e
  have e2 := congrArg Prod.snd e
  dsimp only at e1 e2
  subst e1
  exact ⟨q.2, hu.look hq, e2.symm⟩
theorem opnL_look (m : PSt) (L : Lay) (x : Int) : look (opnL m L) x = (look m.opn x).map fun _ => L.tb x := look_map (fun x _ => L.tb x) m.opn x
theorem lt_alloc {w : World} {k : Nat} (h : k < w.heap.size) (o : Obj) : (w.alloc o).heap[k]? = w.heap[k]? := (below_alloc (Below.refl w.heap.size w) o).block k h
set_option maxHeartbeats 2000000 in
set_option maxRecDepth 100000 in
theorem kept25 {w : World} {L : Lay} {m : PSt} (h : St w L none2 m) (hk : Ok m) :
    Calls Tryz.prog 40 #[.pointer (some ⟨L.p, 0, none⟩)] w fun e w' => e = .returned (.int .i64 m.kept) ∧ Below w.heap.size w w' := by
  obtain ⟨⟨vd, hC⟩, htx⟩ := h
  have hc6 : w.cell? ⟨L.p, 6, none⟩ = some (.map (some L.ob)) := blk_cell hC.cell 6
  have HO := Aside0.mk (show OM Tryz.prog ptrS w L.ob (opnL m L) from hC.open_)
  have HT := Aside0.mk htx
  have HK := Aside0.mk hk
  clear hC htx hk
  obtain ⟨p, hp⟩ : ∃ p, p = L.p := ⟨_, rfl⟩
  rw [← hp] at hc6 ⊢
  clear hp
  go_enter Tryz.func40, Tryz.ntmps40
  go_wp2_with (first
    | (at_range; refine om_range rfl _ 67 rfl 72 Tryz.underlying67 rfl HO.out ?_
       intro w0 hr0 hm0 hs0
       have R0 := Aside0.mk hr0
       have M0 := Aside0.mk hm0
       have S0 := Aside0.mk hs0
       clear hr0 hm0 hs0))
  go_frame
  obtain ⟨r, hr⟩ : ∃ r, r = w.heap.size := ⟨_, rfl⟩
  have HR := Aside0.mk hr
  rw [← hr] at R0
  have e1 : (⟨w.heap.size, 0, none⟩ : Addr) = ⟨r, 0, none⟩ := by rw [hr]
  rw [e1]
  clear e1 hr hc6
  go_loopg [3, 5] (opnL m L).length (fun kq v3 v5 wr => ∃ (ds : List (Int × Nat)), v3 = .int .i64 (ds.map (keepOf m)).sum ∧ Aside0 (ds.length + kq = (opnL m L).length) ∧ Aside0 (OR Tryz.prog ptrS wr L.ob r (opnL m L) ds) ∧ Aside0 (Below w.heap.size w wr))
  case atStart => exact ⟨[], rfl, ⟨by simp⟩, R0, ⟨(Mv.below M0.out (Below.refl w.heap.size w) (Nat.le_refl _) (fun k hk => hk.elim))⟩⟩
  case round =>
    clear R0 M0 S0
    obtain ⟨ds, rfl, hcnt, hR, hB⟩ := hrel
    obtain ⟨Ws, hWs, hB⟩ : ∃ W, W = _ ∧ Aside0 (Below w.heap.size w W) := ⟨_, rfl, hB⟩
    subst hWs
    go_wp2_with (first
      | (at_next; refine om_next_ptr rfl _ rfl rfl hR.out ?_ ?_))
    · intro hperm
      have hsum : (ds.map (keepOf m)).sum = m.kept := (perm_sum (hperm.map _)).trans (keep_sum m HK.out.up L.tb)
      rw [hsum]
      clear hsum hperm
      go_wp2
      go_ret
      exact ⟨rfl, hB.out⟩
    · intro x c w1 hwx hin hnot hr1 hm1 hs1 hen
      obtain ⟨t, hlt, hct⟩ := opnL_mem HK.out.up hin
      subst hct
      have R1 := Aside0.mk hr1
      have hB1 := Aside0.mk (hm1.below hB.out hB.out.size (fun k hk => by subst hk; have := HR.out; omega))
      have hle := hr1.le
      rw [List.length_append, List.length_singleton] at hle
      have HLE := Aside0.mk hle
      have HL := Aside0.mk hlt
      have hks : keepOf m (x, L.tb x) = keepsT t := by unfold keepOf; rw [hlt]; rfl
      have hsum : ((ds ++ [(x, L.tb x)]).map (keepOf m)).sum = (ds.map (keepOf m)).sum + keepsT t := by rw [List.map_append, List.sum_append, List.map_singleton, List.sum_singleton, hks]
      have hg : ∀ q ∈ opnL m L, 0 ≤ keepOf m q := by
        intro q hq
        obtain ⟨t2, ht2, _⟩ := opnL_mem (x := q.1) (c := q.2) HK.out.up hq
        unfold keepOf
        rw [ht2]
        have := HK.out.keep_nonneg (q.1, t2) (look_mem ht2)
        exact Int.le_trans (by omega) this
      have hup := sum_le_sub (keepOf m) _ _ hr1.nodup (fun q hq => hr1.sub hq) hg
      have hlo : 0 ≤ (ds.map (keepOf m)).sum := sum_nonneg (fun z hz => by obtain ⟨q, hq, rfl⟩ := List.mem_map.1 hz; exact hg q (hR.out.sub hq))
      rw [hsum] at hup
      have hup2 : ((opnL m L).map (keepOf m)).sum = m.kept := keep_sum m HK.out.up L.tb
      have hkl := HK.out.kept_le
      have hkp := HK.out.keep_nonneg (x, t) (look_mem hlt)
      obtain ⟨s1, hs1e⟩ : ∃ s1, s1 = ((ds ++ [(x, L.tb x)]).map (keepOf m)).sum := ⟨_, rfl⟩
      have hw1 : IntKind.i64.wrap ((ds.map (keepOf m)).sum + keepsT t) = s1 := wrp (hsum.symm.trans hs1e.symm) (by rw [hs1e, hsum]; dsimp only at hkp; omega)
      have HS1 := Aside0.mk hs1e
      clear hs1e hwx hin hnot hr1 hm1 hs1 hle hks hsum hg hup hlo hup2 hkl hkp hlt
      have HTX := Aside0.mk (((HT.out x t HL.out).mono (w1 := w1) (L1 := L) (fun k y hk _ => hB1.out.block k hk) (fun _ _ _ h => h) rfl rfl (fun _ _ => rfl)))
      go_wp2_with (first
        | ((with_reducible refine gate_dst (N := 17) rfl ?_); refine goesL_ (some 17) rfl rfl Tryz.func54 (by kernel_rfl) rfl #[.pointer (some ⟨L.tb x, 0, none⟩)] rfl (by (try simp only [List.map_toArray, List.map_cons, List.map_nil]); first | done | rfl) ?_
           obtain ⟨vl, vc, hTC⟩ := HTX.out.cells
           refine (keeps39 hTC (HK.out.txn x t HL.out).len (by have := HK.out.sumU_le HL.out; omega)).mono ?_
           rintro e w2 ⟨rfl, hb2⟩
           refine ⟨_, rfl, ?_⟩
           have B2 := Aside0.mk hb2
           clear hb2))
      go_roundg (gk - 1)
      case measure => have := hcnt.out; have := HLE.out; omega
      case rel => exact ⟨_, by rw [HS1.out], ⟨by have := hcnt.out; have := HLE.out; rw [List.length_append, List.length_singleton]; omega⟩, ⟨R1.out.move (Mv.of_below B2.out (fun _ => False)) (fun h => h) (fun h => h)⟩, ⟨(Mv.of_below B2.out (fun _ => False)).below hB1.out hB1.out.size (fun _ h => h.elim)⟩⟩
end Go.Proofs.YtcdfdckdodgbpaaGreatDoor.QA

/-! TFits -/
namespace Go.Proofs.YtcdfdckdodgbpaaGreatDoor.QA
open Go.RowKit Go.Maps Go.Proofs.YtcdfdckdodgbpaaGreatDoorW.PrintWords Go.Proofs.YtcdfdckdodgbpaaGreatDoorW.PrintLast Go.Proofs.YtcdfdckdodgbpaaGreatDoorW.PrintMore
set_option linter.unusedVariables false
set_option linter.unusedSimpArgs false
theorem St.cells {w : World} {L : Lay} {m : PSt} {hole : Int → Int → Prop} (h : St w L hole m) : w.cell? ⟨L.p, 0, none⟩ = some (.int .i64 m.pages) ∧ w.cell? ⟨L.p, 1, none⟩ = some (.int .i64 m.slots) ∧ w.cell? ⟨L.p, 2, none⟩ = some (.int .i64 m.log) ∧
    w.cell? ⟨L.p, 4, none⟩ = some (.int .i64 m.table) ∧ w.cell? ⟨L.p, 5, none⟩ = some (.int .i64 m.keys) ∧ w.cell? ⟨L.p, 6, none⟩ = some (.map (some L.ob)) ∧ w.cell? ⟨L.p, 7, none⟩ = some (.slice (some ⟨L.gl, 0, none⟩) m.left.length m.left.length) ∧ w.cell? ⟨L.p, 8, none⟩ = some (.int .i64 m.used) := by
  obtain ⟨vd, hC⟩ := h.c
  exact ⟨blk_cell hC.cell 0, blk_cell hC.cell 1, blk_cell hC.cell 2, blk_cell hC.cell 4, blk_cell hC.cell 5, blk_cell hC.cell 6, blk_cell hC.cell 7, blk_cell hC.cell 8⟩
theorem St.drew {w : World} {L : Lay} {m : PSt} (h : St w L none2 m) : St w.drew L none2 m := h.below (below_drew (Below.refl _ _))
set_option maxHeartbeats 2000000 in
set_option maxRecDepth 100000 in
theorem fits34 {w : World} {L : Lay} {m : PSt} (h : St w L none2 m) (hk : Ok m) (more keep : Int) (hm : 0 ≤ more ∧ more ≤ 1000000) (hp : 0 ≤ keep ∧ keep ≤ 1000000) :
    Calls Tryz.prog 34 #[.pointer (some ⟨L.p, 0, none⟩), .int .i64 more, .int .i64 keep] w fun e w' => e = .returned (.bool (m.fits more keep)) ∧ Below w.heap.size w w' := by
  have HD := Aside0.mk h.drew
  have H := Aside0.mk h
  have HK := Aside0.mk hk
  have h1 := hk.used
  have h2 := hk.kept_le
  have h3 := hk.room
  have h4 := hk.log
  have h5 : 0 ≤ m.kept := sum_nonneg (fun x hx => by obtain ⟨q, hq, rfl⟩ := List.mem_map.1 hx; have := hk.keep_nonneg q hq; omega)
  have hw1 : IntKind.i64.wrap (m.used + more) = m.used + more := wrp rfl (by omega)
  have hw2 : IntKind.i64.wrap (m.used + more + m.kept) = m.used + more + m.kept := wrp rfl (by omega)
  have hw3 : IntKind.i64.wrap (m.used + more + m.kept + keep) = m.used + more + m.kept + keep := wrp rfl (by omega)
  clear h1 h2 h3 h4 h5 hm hp h hk
  obtain ⟨c0, c1, c2, c4, c5, c6, c7, c8⟩ := HD.out.cells
  clear c0 c1 c4 c5 c6 c7
  unfold PSt.fits
  go_enter Tryz.func34, Tryz.ntmps34
  go_upto_region 1 with fail
  go_region_held3 (fun w' => w'.cell? ⟨L.p, 2, none⟩ = some (.int .i64 m.log) ∧ w'.cell? ⟨L.p, 8, none⟩ = some (.int .i64 m.used)) (go_keep)
    (first
      | (go_at_call 40; refine (kept25 HD.out HK.out).mono ?_; rintro e w1 ⟨rfl, hb⟩
         have B1 := Aside0.mk hb
         obtain ⟨d0, d1, d2, d4, d5, d6, d7, d8⟩ := (HD.out.below B1.out).cells
         clear d0 d1 d4 d5 d6 d7
         clear hb))
  go_wp2
  go_ret
  exact ⟨rfl, (below_drew (Below.refl w.heap.size w)).trans B1.out⟩
set_option maxHeartbeats 2000000 in
set_option maxRecDepth 100000 in
theorem used13 {w : World} {L : Lay} {m : PSt} (h : St w L none2 m) (hk : Ok m) :
    Calls Tryz.prog 28 #[.pointer (some ⟨L.p, 0, none⟩)] w fun e w' => e = .returned (.tuple #[.int .i64 m.used, .int .i64 m.kept]) ∧ Below w.heap.size w w' := by
  have HD := Aside0.mk h.drew
  have HK := Aside0.mk hk
  clear h hk
  obtain ⟨c0, c1, c2, c4, c5, c6, c7, c8⟩ := HD.out.cells
  clear c0 c1 c2 c4 c5 c6 c7
  go_enter Tryz.func28, Tryz.ntmps28
  go_upto_region 1 with fail
  go_region_held3 (fun w' => w'.cell? ⟨L.p, 8, none⟩ = some (.int .i64 m.used)) (go_keep)
    (first
      | (go_at_call 40; refine (kept25 HD.out HK.out).mono ?_; rintro e w1 ⟨rfl, hb⟩
         have B1 := Aside0.mk hb
         obtain ⟨d0, d1, d2, d4, d5, d6, d7, d8⟩ := (HD.out.below B1.out).cells
         clear d0 d1 d2 d4 d5 d6 d7
         clear hb))
  go_wp2
  go_ret2
  exact ⟨rfl, (below_drew (Below.refl w.heap.size w)).trans B1.out⟩
/-- Which of the open ones holds the page. -/
theorem holder_some {m : PSt} (hk : Ok m) {id : Int} {t : Txn} {pg : Int} (hl : look m.opn id = some t) (hh : holds t pg = true) : m.holder pg = id := by
  unfold PSt.holder
  cases hf : m.opn.find? fun q => holds q.2 pg with
  | none =>
    rw [List.find?_eq_none] at hf
    exact absurd hh (hf _ (look_mem hl))
  | some q =>
    have h1 := List.mem_of_find?_eq_some hf
    have h2 := List.find?_some hf
    exact hk.lock q.1 q.2 id t pg (hk.up.look h1) hl h2 hh
theorem holder_none {m : PSt} (hk : Ok m) {pg : Int} (h : ∀ id t, look m.opn id = some t → holds t pg = false) : m.holder pg = 0 := by
  unfold PSt.holder
  cases hf : m.opn.find? fun q => holds q.2 pg with
  | none => rfl
  | some q =>
    have h1 := List.mem_of_find?_eq_some hf
    have h2 := List.find?_some hf
    have h3 := h q.1 q.2 (hk.up.look h1)
    rw [h3] at h2
    cases h2
theorem zero59 (w : World) : (zeroValue 75).run Tryz.prog w = .ok (.map none) w := by kernel_rfl
theorem zero85 (w : World) : (zeroValue 72).run Tryz.prog w = .ok (.pointer none) w := by kernel_rfl
theorem neq59n (w : World) : (binOp .neq 75 (.map none) (.map none)).run Tryz.prog w = .ok (.bool false) w := by kernel_rfl
theorem neq59s (b : Nat) (w : World) : (binOp .neq 75 (.map (some b)) (.map none)).run Tryz.prog w = .ok (.bool true) w := by kernel_rfl
theorem zero49 (w : World) : (zeroValue 47).run Tryz.prog w = .ok (.int .u64 0) w := by kernel_rfl
set_option maxHeartbeats 2000000 in
set_option maxRecDepth 100000 in
theorem holder49 {w : World} {L : Lay} {m : PSt} (h : St w L none2 m) (hk : Ok m) (pg : Int) (hpg : (Lit.int .i64 pg).wf = true) :
    Calls Tryz.prog 47 #[.pointer (some ⟨L.p, 0, none⟩), .int .i64 pg] w fun e w' => e = .returned (.int .i64 (m.holder pg)) ∧ Below w.heap.size w w' := by
  obtain ⟨⟨vd, hC⟩, htx⟩ := h
  have hc6 : w.cell? ⟨L.p, 6, none⟩ = some (.map (some L.ob)) := blk_cell hC.cell 6
  have HO := Aside0.mk (show OM Tryz.prog ptrS w L.ob (opnL m L) from hC.open_)
  have HT := Aside0.mk htx
  have HK := Aside0.mk hk
  have HP := Aside0.mk hpg
  clear hC htx hk hpg
  obtain ⟨p, hp⟩ : ∃ p, p = L.p := ⟨_, rfl⟩
  rw [← hp] at hc6 ⊢
  clear hp
  have hnn := neq59n
  have hns := neq59s
  go_enter Tryz.func47, Tryz.ntmps47
  go_wp2_with (first
    | (at_range; refine om_range rfl _ 67 rfl 72 Tryz.underlying67 rfl HO.out ?_
       intro w0 hr0 hm0 hs0
       have R0 := Aside0.mk hr0
       have M0 := Aside0.mk hm0
       have S0 := Aside0.mk hs0
       clear hr0 hm0 hs0))
  go_frame
  obtain ⟨r, hr⟩ : ∃ r, r = w.heap.size := ⟨_, rfl⟩
  have HR := Aside0.mk hr
  rw [← hr] at R0
  have e1 : (⟨w.heap.size, 0, none⟩ : Addr) = ⟨r, 0, none⟩ := by rw [hr]
  rw [e1]
  clear e1 hr hc6
  go_loopg [5, 6] (opnL m L).length (fun kq v5 v6 wr => ∃ (ds : List (Int × Nat)), Aside0 (ds.length + kq = (opnL m L).length) ∧ Aside0 (OR Tryz.prog ptrS wr L.ob r (opnL m L) ds) ∧ Aside0 (Below w.heap.size w wr) ∧ Aside0 (∀ q ∈ ds, ∀ t, look m.opn q.1 = some t → holds t pg = false))
  case atStart => exact ⟨[], ⟨by simp⟩, R0, ⟨(Mv.below M0.out (Below.refl w.heap.size w) (Nat.le_refl _) (fun k hk => hk.elim))⟩, ⟨fun q hq => (by cases hq)⟩⟩
  case round =>
    clear R0 M0 S0
    obtain ⟨ds, hcnt, hR, hB, hN⟩ := hrel
    obtain ⟨Ws, hWs, hB⟩ : ∃ W, W = _ ∧ Aside0 (Below w.heap.size w W) := ⟨_, rfl, hB⟩
    subst hWs
    go_wp2_with (first
      | (at_next; refine om_next_ptr rfl _ rfl rfl hR.out ?_ ?_))
    · intro hperm
      have hz : m.holder pg = 0 := holder_none HK.out (fun id t hl => hN.out (id, L.tb id) (hperm.mem_iff.2 (look_mem (by rw [opnL_look, hl]; rfl))) t hl)
      have HZ := Aside0.mk hz
      clear hperm hz
      go_wp2
      go_ret
      exact ⟨by rw [HZ.out]; rfl, hB.out⟩
    · intro x c w1 hwx hin hnot hr1 hm1 hs1 hen
      obtain ⟨t, hlt, hct⟩ := opnL_mem HK.out.up hin
      subst hct
      have R1 := Aside0.mk hr1
      have hB1 := Aside0.mk (hm1.below hB.out hB.out.size (fun k hk => by subst hk; have := HR.out; omega))
      have hle := hr1.le
      rw [List.length_append, List.length_singleton] at hle
      have HLE := Aside0.mk hle
      have HL := Aside0.mk hlt
      clear hwx hin hnot hr1 hm1 hs1 hle hlt
      have HTX := Aside0.mk (((HT.out x t HL.out).mono (w1 := w1) (L1 := L) (fun k y hk _ => hB1.out.block k hk) (fun _ _ _ h => h) rfl rfl (fun _ _ => rfl)))
      obtain ⟨vl, vc, hTC⟩ := HTX.out.cells
      have hc0 : w1.cell? ⟨L.tb x, 0, none⟩ = some (.map (some (L.pb x))) := blk_cell hTC.cell 0
      have HTC := Aside0.mk hTC
      clear hTC
      have hlk : look (t.pages.map fun q => (q.1, L.cb x q.1)) pg = (look t.pages pg).map fun _ => L.cb x pg := look_map (fun pg _ => L.cb x pg) t.pages pg
      cases hh : look t.pages pg with
      | none =>
        rw [hh] at hlk
        have HLK := Aside0.mk hlk
        have HH := Aside0.mk hh
        clear hlk hh
        go_wp2_with (first
          | (at_lookup; refine om_look_none rfl _ _ 80 rfl 75 Tryz.underlying80 (zero59 _) rfl HTC.out.pages rfl HP.out HLK.out ?_))
        go_roundg (gk - 1)
        case measure => have := hcnt.out; have := HLE.out; omega
        case rel =>
          refine ⟨_, ⟨by have := hcnt.out; have := HLE.out; rw [List.length_append, List.length_singleton]; omega⟩, R1, hB1, ⟨fun q hq t2 ht2 => ?_⟩⟩
          rcases List.mem_append.1 hq with hq | hq
          · exact hN.out q hq t2 ht2
          · rw [List.mem_singleton] at hq
            subst hq
            rw [HL.out] at ht2
            injection ht2 with ht2
            subst ht2
            unfold holds
            rw [HH.out]
            rfl
      | some cc =>
        rw [hh] at hlk
        have hz : m.holder pg = x := holder_some HK.out HL.out (by unfold holds; rw [hh]; rfl)
        have HZ := Aside0.mk hz
        have HLK := Aside0.mk hlk
        clear hlk hh hz
        go_wp2_with (first
          | (at_lookup; refine om_look_map rfl _ _ 80 rfl 75 Tryz.underlying80 (zero59 _) rfl HTC.out.pages rfl HP.out HLK.out ?_))
        go_ret
        exact ⟨by rw [HZ.out]; rfl, hB1.out⟩
end Go.Proofs.YtcdfdckdodgbpaaGreatDoor.QA

/-! TErr -/
namespace Go.Proofs.YtcdfdckdodgbpaaGreatDoor.QA
open Go.RowKit Go.Maps Go.Proofs.YtcdfdckdodgbpaaGreatDoorW.PrintWords Go.Proofs.YtcdfdckdodgbpaaGreatDoorW.PrintLast Go.Proofs.YtcdfdckdodgbpaaGreatDoorW.PrintMore
set_option linter.unusedVariables false
set_option linter.unusedSimpArgs false
open Go.Extern.Stop Go.Stop Go.Extern
/-- An error of the package, that says the code; n: how often it is wrapped. -/
inductive Err (w : World) (code : Int) : Nat → Value → Prop
  | base (b : Nat) : w.heap[b]? = some (.cells #[.int .i64 code] 109 (0, 0)) → Err w code 0 (.iface 105 (.pointer (some ⟨b, 0, none⟩)))
  | met (b n : Nat) (s : Value) (v : Value) : w.heap[b]? = some (.cells #[s, v] 103 (0, 0)) → Err w code n v → Err w code (n + 1) (.iface 100 (.pointer (some ⟨b, 0, none⟩)))
theorem Err.keep {w w1 : World} {code : Int} {n : Nat} {v : Value} (h : Err w code n v) (hb : Below w.heap.size w w1) : Err w1 code n v := by
  induction h with
  | base b hc => exact .base b (blk_below hc hb)
  | met b n s v hc _ ih => exact .met b n s v (blk_below hc hb) ih
theorem Err.not_nil {w : World} {code : Int} {n : Nat} {v : Value} (h : Err w code n v) : ∃ t x, v = .iface t x := by
  cases h with
  | base b hc => exact ⟨_, _, rfl⟩
  | met b n s v hc _ => exact ⟨_, _, rfl⟩
theorem refused44 (code : Int) (w : World) : Calls Tryz.prog 46 #[.int .i64 code] w fun e w' => ∃ v, e = .returned v ∧ Err w' code 0 v ∧ Below w.heap.size w w' := by
  go_enter Tryz.func46, Tryz.ntmps46
  go_wp2
  go_ret
  exact ⟨_, rfl, .base w.heap.size (heap_alloc_new w _), below_alloc (Below.refl _ _) _⟩
/-! ### closed facts on the model's entries, at this program's types -/
theorem valueOf104 (t : Addr) (w : World) : (ReflectliteValue.unpack (.iface 107 (.pointer (some t)))).run Tryz.prog w
    = .ok (.agg #[hnd 107, .pointer (some ⟨w.heap.size, 0, none⟩), .int .u64 150]) (w.alloc (.cells #[.pointer (some t)] 107)) := by kernel_rfl
theorem type104 (a : Addr) (w : World) : (ReflectliteValue.methodAny (ReflectliteValue.valueError "reflectlite.Value.Type" 0) (fun t _ _ _ => ReflectliteType.toType t) #[.agg #[hnd 107, .pointer (some a), .int .u64 150]]).run Tryz.prog w
    = .ok (.iface 151 (.agg #[hnd 107])) w := by kernel_rfl
theorem kind104 (w : World) : ((ReflectliteType.abiMethod fun t => (fun a : Nat => Value.int IntKind.u8 (a : Int)) <$> Rtype.kind t) #[hnd 107]).run Tryz.prog w = .ok (.int .u8 22) w := by kernel_rfl
theorem kind102 (w : World) : ((ReflectliteType.abiMethod fun t => (fun a : Nat => Value.int IntKind.u8 (a : Int)) <$> Rtype.kind t) #[hnd 105]).run Tryz.prog w = .ok (.int .u8 22) w := by kernel_rfl
theorem rlm (z : Sem Value) (f : TypeId → Addr → Nat → Nat → Sem Value) (v : Value) :
    ReflectliteValue.method z f #[v] = (do match ← ReflectliteValue.parts v with | none => z | some (t, a, fl) => f t a fl (fl % 32)) := rfl
theorem parts104 (a : Addr) (w : World) : (ReflectliteValue.parts (.agg #[hnd 107, .pointer (some a), .int .u64 150])).run Tryz.prog w = .ok (some (107, a, 150)) w := by kernel_rfl
theorem isNil104 (a p : Addr) (W : World) (ha : W.cell? a = some (.pointer (some p))) :
    (ReflectliteValue.method (ReflectliteValue.valueError "reflectlite.Value.IsNil" 0) ReflectliteValue.isNil #[.agg #[hnd 107, .pointer (some a), .int .u64 150]]).run Tryz.prog W = .ok (.bool false) W := by
  rw [rlm]
  simp only [Sem.run_bind, parts104, Result.andThen]
  simp [ReflectliteValue.isNil, loadVar, isAgg, underlying, Tryz.underlying107, ha, Result.andThen]
theorem elem104 (w : World) : (ReflectliteType.method ReflectliteType.elem #[.agg #[hnd 107]]).run Tryz.prog w = .ok (.iface 151 (.agg #[hnd 105])) w := by kernel_rfl
theorem implements102 (w : World) : (ReflectliteType.relation "Implements" ReflectliteType.implements_ #[.agg #[hnd 105], .iface 151 (.agg #[hnd 84])]).run Tryz.prog w = .ok (.bool true) w := by kernel_rfl
theorem typeOf102 (v : Value) (w : World) : (ReflectliteType.typeOf #[.iface 105 v]).run Tryz.prog w = .ok (.iface 151 (.agg #[hnd 105])) w := by kernel_rfl
theorem typeOf107 (v : Value) (w : World) : (ReflectliteType.typeOf #[.iface 100 v]).run Tryz.prog w = .ok (.iface 151 (.agg #[hnd 100])) w := by kernel_rfl
theorem assignable102 (w : World) : (ReflectliteType.relation "AssignableTo" ReflectliteType.assignableTo #[.agg #[hnd 105], .iface 151 (.agg #[hnd 105])]).run Tryz.prog w = .ok (.bool true) w := by kernel_rfl
theorem assignable107 (w : World) : (ReflectliteType.relation "AssignableTo" ReflectliteType.assignableTo #[.agg #[hnd 100], .iface 151 (.agg #[hnd 105])]).run Tryz.prog w = .ok (.bool false) w := by kernel_rfl
theorem valueOf102 (e : Addr) (w : World) : (ReflectliteValue.unpack (.iface 105 (.pointer (some e)))).run Tryz.prog w
    = .ok (.agg #[hnd 105, .pointer (some ⟨w.heap.size, 0, none⟩), .int .u64 150]) (w.alloc (.cells #[.pointer (some e)] 105)) := by kernel_rfl
theorem elemOf104 (w : World) : (Rtype.elem? 107).run Tryz.prog w = .ok (some 105) w := by kernel_rfl
theorem mk102 (p : Addr) (w : World) : (ReflectliteValue.mk 105 p ReflectliteValue.flagAddr).run Tryz.prog w = .ok (.agg #[hnd 105, .pointer (some p), .int .u64 406]) w := by kernel_rfl
theorem elemV104 (a p : Addr) (W : World) (ha : W.cell? a = some (.pointer (some p))) :
    (ReflectliteValue.method (ReflectliteValue.valueError "reflectlite.Value.Elem" 0) ReflectliteValue.elem #[.agg #[hnd 107, .pointer (some a), .int .u64 150]]).run Tryz.prog W
      = .ok (.agg #[hnd 105, .pointer (some p), .int .u64 406]) W := by
  rw [rlm]
  simp only [Sem.run_bind, parts104, Result.andThen]
  simp [ReflectliteValue.elem, loadVar, isAgg, underlying, Tryz.underlying107, ha, Result.andThen, elemOf104, mk102]
theorem rls (v x : Value) : ReflectliteValue.set #[v, x] = (do
    let (some (dst, a, fl), some (src, b, _)) := (← ReflectliteValue.parts v, ← ReflectliteValue.parts x)
      | unsupported (.noEntry "extern/(internal/reflectlite.Value).Set.zeroValue")
    if fl / ReflectliteValue.flagAddr % 2 == 0 then unsupported (.noEntry "extern/(internal/reflectlite.Value).Set.unaddressable")
    let val ← loadVar src b
    if ← Rtype.directlyAssignable dst src then storeVar dst a val
    else if ← Rtype.implements dst src then
      if (← Rtype.kind src) == 20 then
        match val with
        | .nilIface => unsupported (.noEntry "extern/reflectlite: a nil value of one interface type handed on as a value of another")
        | _ => storeVar dst a val
      else storeVar dst a (.iface src val)
    else panicString ("reflectlite.Set: value of type " ++ (← Rtype.spelt src) ++ " is not assignable to type " ++ (← Rtype.spelt dst))
    pure (.tuple #[])) := rfl
theorem parts102a (a : Addr) (w : World) : (ReflectliteValue.parts (.agg #[hnd 105, .pointer (some a), .int .u64 406])).run Tryz.prog w = .ok (some (105, a, 406)) w := by kernel_rfl
theorem parts102 (a : Addr) (w : World) : (ReflectliteValue.parts (.agg #[hnd 105, .pointer (some a), .int .u64 150])).run Tryz.prog w = .ok (some (105, a, 150)) w := by kernel_rfl
theorem direct102 (w : World) : (Rtype.directlyAssignable 105 105).run Tryz.prog w = .ok true w := by kernel_rfl
theorem size102 (w : World) : (sizeOf 105).run Tryz.prog w = .ok 1 w := by kernel_rfl
theorem set102 (ta b e : Addr) (old : Value) (W : World) (hb : W.cell? b = some (.pointer (some e))) (ht : W.cell? ta = some old) (hf : W.frozen? ta = false) :
    (ReflectliteValue.set #[.agg #[hnd 105, .pointer (some ta), .int .u64 406], .agg #[hnd 105, .pointer (some b), .int .u64 150]]).run Tryz.prog W
      = .ok (.tuple #[]) (W.setCell ta (.pointer (some e))) := by
  rw [rls]
  simp only [Sem.run_bind, parts102a, parts102, Result.andThen]
  simp [ReflectliteValue.flagAddr, loadVar, isAgg, underlying, Tryz.underlying105, hb, Result.andThen, direct102, storeVar, Value.cells, storeCells, Addr.add]
  rw [run_store Tryz.prog W ta _ _ (by rfl)]
  simp [ht, hf]
theorem noAs102 (v : Value) (w : World) : (Instr.typeAssert (.iface 105 v) 84 156 true).run Tryz.prog w = .ok (.tuple #[.nilIface, .bool false]) w := run_typeAssert_lacksB Tryz.underlying156 (by kernel_rfl) (by kernel_rfl) v 84 w
theorem noAs107 (v : Value) (w : World) : (Instr.typeAssert (.iface 100 v) 84 156 true).run Tryz.prog w = .ok (.tuple #[.nilIface, .bool false]) w := run_typeAssert_lacksB Tryz.underlying156 (by kernel_rfl) (by kernel_rfl) v 84 w
theorem hasUnwrap107 (v : Value) (w : World) : (Instr.typeAssert (.iface 100 v) 84 159 true).run Tryz.prog w = .ok (.tuple #[.iface 100 v, .bool true]) w := run_typeAssert_hasB Tryz.underlying159 (by kernel_rfl) v 84 w
theorem methodKind (h : Value) (w : World) : (Go.method 306 151 (.agg #[h]) "Kind").run Tryz.prog w = .ok (119, h) w := by kernel_rfl
theorem methodElem (h : Value) (w : World) : (Go.method 306 151 (.agg #[h]) "Elem").run Tryz.prog w = .ok (131, .agg #[h]) w := by kernel_rfl
theorem methodImplements (h : Value) (w : World) : (Go.method 306 151 (.agg #[h]) "Implements").run Tryz.prog w = .ok (132, .agg #[h]) w := by kernel_rfl
theorem methodAssignableTo (h : Value) (w : World) : (Go.method 306 151 (.agg #[h]) "AssignableTo").run Tryz.prog w = .ok (129, .agg #[h]) w := by kernel_rfl
theorem methodUnwrap (h : Value) (w : World) : (Go.method 306 100 h "Unwrap").run Tryz.prog w = .ok (123, h) w := by kernel_rfl
theorem unwrap120 (b : Nat) (s v : Value) (w : World) (h : w.heap[b]? = some (.cells #[s, v] 103 (0, 0))) : Calls Tryz.prog 123 #[.pointer (some ⟨b, 0, none⟩)] w fun e w' => e = .returned v ∧ w = w' := by
  have hc : w.cell? ⟨b, 1, none⟩ = some v := blk_cell h 1
  clear h
  go_enter Tryz.func123, Tryz.ntmps123
  go_wp2
  go_ret
  exact ⟨rfl, rfl⟩
set_option maxHeartbeats 4000000 in
set_option maxRecDepth 100000 in
/-- errors.as at an error of the package. -/
theorem as74 {w : World} {code : Int} {n : Nat} {v : Value} (h : Err w code n v) (T : Nat) (g : Nat) (old : Value) (ht : w.heap[T]? = some (.cells #[old] 105 (0, 0))) (hg : w.heap[g]? = some (.cells #[.pointer (some ⟨T, 0, none⟩)] 107 (0, 0))) :
    Calls Tryz.prog 71 #[v, .iface 107 (.pointer (some ⟨T, 0, none⟩)), .agg #[hnd 107, .pointer (some ⟨g, 0, none⟩), .int .u64 150], .iface 151 (.agg #[hnd 105])] w
      fun e w' => e = .returned (.bool true) ∧ ∃ b, w'.heap[b]? = some (.cells #[.int .i64 code] 109 (0, 0)) ∧ w'.heap[T]? = some (.cells #[.pointer (some ⟨b, 0, none⟩)] 105 (0, 0)) ∧ Mv w w' (fun k => k = T) := by
  have h71 := @run_callFunc_extern Tryz.prog 68 _ (fun args => ReflectliteValue.unpack (args.getD 0 (.tuple #[]))) Tryz.func68 (by kernel_rfl) (by kernel_rfl) (by kernel_rfl) (by kernel_rfl)
  have h85 := @run_callFunc_extern Tryz.prog 87 _ ReflectliteType.typeOf Tryz.func87 (by kernel_rfl) (by kernel_rfl) (by kernel_rfl) (by kernel_rfl)
  have h125 := @run_callFunc_extern Tryz.prog 129 _ (ReflectliteType.relation "AssignableTo" ReflectliteType.assignableTo) Tryz.func129 (by kernel_rfl) (by kernel_rfl) (by kernel_rfl) (by kernel_rfl)
  have h86 := @run_callFunc_extern Tryz.prog 88 _ (ReflectliteValue.method (ReflectliteValue.valueError "reflectlite.Value.Elem" 0) ReflectliteValue.elem) Tryz.func88 (by kernel_rfl) (by kernel_rfl) (by kernel_rfl) (by kernel_rfl)
  have h87 := @run_callFunc_extern Tryz.prog 89 _ ReflectliteValue.set Tryz.func89 (by kernel_rfl) (by kernel_rfl) (by kernel_rfl) (by kernel_rfl)
  have mA := methodAssignableTo
  have mU := methodUnwrap
  have tO := typeOf102
  have tP := typeOf107
  have aS := assignable102
  have aN := assignable107
  have v102 := valueOf102
  have nA := noAs107
  have hU := hasUnwrap107
  have H := Aside0.mk h
  have HT := Aside0.mk ht
  have HG := Aside0.mk hg
  have hlt := blk_lt ht
  have hlg := blk_lt hg
  clear h ht hg
  go_enter Tryz.func71, Tryz.ntmps71
  go_wp2
  have hb0 : (w.alloc (Obj.cells #[hnd 107, .pointer (some ⟨g, 0, none⟩), .int .u64 150] 128)).heap[w.heap.size]? = some (.cells #[hnd 107, .pointer (some ⟨g, 0, none⟩), .int .u64 150] 128 (0, 0)) := heap_alloc_new w _
  have B0 := Aside0.mk (below_alloc (Below.refl w.heap.size w) (Obj.cells #[hnd 107, .pointer (some ⟨g, 0, none⟩), .int .u64 150] 128))
  have G0 := Aside0.mk hb0
  clear hb0
  have E0 := Aside0.mk (H.out.keep B0.out)
  generalize w.alloc (Obj.cells #[hnd 107, .pointer (some ⟨g, 0, none⟩), .int .u64 150] 128) = w0 at B0 G0 E0 ⊢
  obtain ⟨x, hx⟩ : ∃ x, x = w.heap.size := ⟨_, rfl⟩
  rw [← hx] at G0
  have e1 : (⟨w.heap.size, 0, none⟩ : Addr) = ⟨x, 0, none⟩ := by rw [hx]
  rw [e1]
  clear e1 hx
  go_loopg [0] n (fun kq v0 wr => Aside0 (Err wr code kq v0) ∧ Aside0 (wr.heap[x]? = some (.cells #[hnd 107, .pointer (some ⟨g, 0, none⟩), .int .u64 150] 128 (0, 0))) ∧ Aside0 (Below w.heap.size w wr))
  case atStart => exact ⟨E0, G0, B0⟩
  case round =>
    clear E0 G0 B0 H
    obtain ⟨hE, hG, hB⟩ := hrel
    obtain ⟨Ws, hWs, hB⟩ : ∃ W, W = _ ∧ Aside0 (Below w.heap.size w W) := ⟨_, rfl, hB⟩
    subst hWs
    have hE' := hE.out
    have hTs := blk_below HT.out hB.out
    have hGs := blk_below HG.out hB.out
    cases hE' with
    | base b hb =>
      have hgc : Ws.cell? ⟨g, 0, none⟩ = some (.pointer (some ⟨T, 0, none⟩)) := blk_cell hGs 0
      have hx0 : Ws.cell? ⟨x, 0, none⟩ = some (hnd 107) := blk_cell hG.out 0
      have hx1 : Ws.cell? ⟨x, 1, none⟩ = some (.pointer (some ⟨g, 0, none⟩)) := blk_cell hG.out 1
      have hx2 : Ws.cell? ⟨x, 2, none⟩ = some (.int .u64 150) := blk_cell hG.out 2
      have el := elemV104 ⟨g, 0, none⟩ ⟨T, 0, none⟩ Ws hgc
      have hTl := blk_lt hTs
      have hTc : Ws.cell? ⟨T, 0, none⟩ = some old := blk_cell hTs 0
      have hTf : Ws.frozen? ⟨T, 0, none⟩ = false := blk_frozen hTs 0
      have st := set102 ⟨T, 0, none⟩ ⟨Ws.heap.size, 0, none⟩ ⟨b, 0, none⟩ old (Ws.alloc (.cells #[.pointer (some ⟨b, 0, none⟩)] 105)) (by rw [World.cell?_alloc_at _ _ _ _ (by simp)]; rfl)
        (by rw [World.cell?_alloc_lt _ _ ⟨T, 0, none⟩ hTl]; exact hTc) (by rw [World.frozen?_alloc_old _ _ ⟨T, 0, none⟩ (Nat.ne_of_lt hTl)]; exact hTf)
      have HB := Aside0.mk hb
      have HTs := Aside0.mk hTs
      have HTl := Aside0.mk hTl
      have hgx := hgc
      clear hb hTs hGs hTc hTf hTl
      go_wp2
      go_ret
      have hbl := below_alloc (Below.refl Ws.heap.size Ws) (Obj.cells #[.pointer (some ⟨b, 0, none⟩)] 105)
      have hne : b ≠ T := fun e => by have h1 := HB.out; rw [e, HTs.out] at h1; cases h1
      have hT2 : (Ws.alloc (Obj.cells #[.pointer (some ⟨b, 0, none⟩)] 105)).heap[T]? = some (.cells #[old] 105 (0, 0)) := blk_below HTs.out hbl
      refine ⟨rfl, b, ?_, blk_set hT2 0 _, ?_⟩
      · rw [Below.heap_setCell _ _ _ b hne]; exact blk_below HB.out hbl
      · refine (Mv.of_below (hB.out.trans (hbl.mono hB.out.size)) _).then_ (Mv.setCell _ _ _) (fun k hk => .inl hk)
    | met b n2 s v2 hb hv =>
      have hbc : Ws.cell? ⟨b, 1, none⟩ = some v2 := blk_cell hb 1
      obtain ⟨tv, xv, hvx⟩ := hv.not_nil
      have HV := Aside0.mk hv
      subst hvx
      clear hv hTs hGs hb
      go_wp2
      go_roundg n2
      case measure => omega
      case rel => exact ⟨HV, hG, hB⟩
theorem Glob.below {w w1 : World} (h : Glob w) (hb : Below w.heap.size w w1) : Glob w1 := h.block (hb.block 0 h.lt)
set_option maxHeartbeats 4000000 in
set_option maxRecDepth 100000 in
/-- errors.As at an error of the package. -/
theorem as43 {w : World} {code : Int} {n : Nat} {v : Value} (h : Err w code n v) (hg0 : Glob w) (T : Nat) (old : Value) (ht : w.heap[T]? = some (.cells #[old] 105 (0, 0))) :
    Calls Tryz.prog 50 #[v, .iface 107 (.pointer (some ⟨T, 0, none⟩))] w
      fun e w' => e = .returned (.bool true) ∧ ∃ b, w'.heap[b]? = some (.cells #[.int .i64 code] 109 (0, 0)) ∧ w'.heap[T]? = some (.cells #[.pointer (some ⟨b, 0, none⟩)] 105 (0, 0)) ∧ Mv w w' (fun k => k = T) := by
  have h71 := @run_callFunc_extern Tryz.prog 68 _ (fun args => ReflectliteValue.unpack (args.getD 0 (.tuple #[]))) Tryz.func68 (by kernel_rfl) (by kernel_rfl) (by kernel_rfl) (by kernel_rfl)
  have h72 := @run_callFunc_extern Tryz.prog 69 _ (ReflectliteValue.methodAny (ReflectliteValue.valueError "reflectlite.Value.Type" 0) (fun t _ _ _ => ReflectliteType.toType t)) Tryz.func69 (by kernel_rfl) (by kernel_rfl) (by kernel_rfl) (by kernel_rfl)
  have h73 := @run_callFunc_extern Tryz.prog 70 _ (ReflectliteValue.method (ReflectliteValue.valueError "reflectlite.Value.IsNil" 0) ReflectliteValue.isNil) Tryz.func70 (by kernel_rfl) (by kernel_rfl) (by kernel_rfl) (by kernel_rfl)
  have h115 := @run_callFunc_extern Tryz.prog 119 _ (ReflectliteType.abiMethod fun t => do pure (.int .u8 (← Rtype.kind t))) Tryz.func119 (by kernel_rfl) (by kernel_rfl) (by kernel_rfl) (by kernel_rfl)
  have h127 := @run_callFunc_extern Tryz.prog 131 _ (ReflectliteType.method ReflectliteType.elem) Tryz.func131 (by kernel_rfl) (by kernel_rfl) (by kernel_rfl) (by kernel_rfl)
  have h128 := @run_callFunc_extern Tryz.prog 132 _ (ReflectliteType.relation "Implements" ReflectliteType.implements_) Tryz.func132 (by kernel_rfl) (by kernel_rfl) (by kernel_rfl) (by kernel_rfl)
  have f71 := valueOf104
  have f72 := type104
  have mK := methodKind
  have mE := methodElem
  have mI := methodImplements
  have k104 := kind104
  have k102 := kind102
  have e104 := elem104
  have i102 := implements102
  obtain ⟨tv, xv, hvx⟩ := h.not_nil
  have H := Aside0.mk h
  have HT := Aside0.mk ht
  subst hvx
  clear h ht
  obtain ⟨w2, hw2⟩ : ∃ w2, w2 = (w.alloc (.cells #[.pointer (some ⟨T, 0, none⟩)] 107)).alloc (.cells #[hnd 107, .pointer (some ⟨w.heap.size, 0, none⟩), .int .u64 150] 128) := ⟨_, rfl⟩
  have hb1 : Below w.heap.size w (w.alloc (.cells #[.pointer (some ⟨T, 0, none⟩)] 107)) := below_alloc (Below.refl _ _) _
  have hc1 : (w.alloc (.cells #[.pointer (some ⟨T, 0, none⟩)] 107)).heap[w.heap.size]? = some (.cells #[.pointer (some ⟨T, 0, none⟩)] 107 (0, 0)) := heap_alloc_new w _
  have hb2 : Below w.heap.size w w2 := by rw [hw2]; exact below_alloc hb1 _
  have hc2 : w2.heap[w.heap.size]? = some (.cells #[.pointer (some ⟨T, 0, none⟩)] 107 (0, 0)) := by rw [hw2]; exact blk_below hc1 (below_alloc (Below.refl _ _) _)
  have hy2 : w2.heap[w.heap.size + 1]? = some (.cells #[hnd 107, .pointer (some ⟨w.heap.size, 0, none⟩), .int .u64 150] 128 (0, 0)) := by
    rw [hw2]
    have h1 := heap_alloc_new (w.alloc (.cells #[.pointer (some ⟨T, 0, none⟩)] 107)) (Obj.cells #[hnd 107, .pointer (some ⟨w.heap.size, 0, none⟩), .int .u64 150] 128)
    simpa using h1
  have HB2 := Aside0.mk hb2
  have HC2 := Aside0.mk hc2
  have HY2 := Aside0.mk hy2
  have HGG := Aside0.mk (show w2.cell? ⟨0, 0, none⟩ = some (.iface 151 (.agg #[hnd 84])) from hg0.below hb2)
  clear hb1 hc1 hb2 hc2 hy2 hg0
  go_enter Tryz.func50, Tryz.ntmps50
  go_upto_region 6 with fail
  rw [← hw2]
  obtain ⟨x, hx⟩ : ∃ x, x = w.heap.size := ⟨_, rfl⟩
  rw [← hx] at HC2 HY2
  have e1 : (⟨w.heap.size + 1, 0, none⟩ : Addr) = ⟨x + 1, 0, none⟩ := by rw [hx]
  rw [e1]
  have hx0 : w2.cell? ⟨x + 1, 0, none⟩ = some (hnd 107) := blk_cell HY2.out 0
  have hx1 : w2.cell? ⟨x + 1, 1, none⟩ = some (.pointer (some ⟨x, 0, none⟩)) := blk_cell HY2.out 1
  have hx2 : w2.cell? ⟨x + 1, 2, none⟩ = some (.int .u64 150) := blk_cell HY2.out 2
  have n73 := isNil104 ⟨x, 0, none⟩ ⟨T, 0, none⟩ w2 (blk_cell HC2.out 0)
  have hgg := HGG.out
  clear e1 hw2 hx
  go_wp2_with (first
    | ((with_reducible refine gate_dst (N := 41) rfl ?_); refine goesL_ (some 41) rfl rfl Tryz.func71 (by kernel_rfl) rfl #[.iface tv xv, .iface 107 (.pointer (some ⟨T, 0, none⟩)), .agg #[hnd 107, .pointer (some ⟨x, 0, none⟩), .int .u64 150], .iface 151 (.agg #[hnd 105])] rfl (by (try simp only [List.map_toArray, List.map_cons, List.map_nil]); first | done | rfl) ?_
       refine (as74 (H.out.keep HB2.out) T x old (blk_below HT.out HB2.out) HC2.out).mono ?_
       rintro e w3 ⟨rfl, b, hb, hT, hm⟩
       refine ⟨_, rfl, ?_⟩
       have HF := Aside0.mk (show ∃ b, w3.heap[b]? = some (.cells #[.int .i64 code] 109 (0, 0)) ∧ w3.heap[T]? = some (.cells #[.pointer (some ⟨b, 0, none⟩)] 105 (0, 0)) ∧ Mv w w3 (fun k => k = T) from ⟨b, hb, hT, (Mv.of_below HB2.out _).then_ hm (fun k hk => .inl hk)⟩)
       clear hb hT hm))
  go_ret
  exact ⟨rfl, HF.out⟩
set_option maxHeartbeats 4000000 in
set_option maxRecDepth 100000 in
theorem number35 {w : World} {code : Int} {n : Nat} {v : Value} (h : Err w code n v) (hg0 : Glob w) :
    Calls Tryz.prog 36 #[v] w fun e w' => e = .returned (.int .i64 code) ∧ Below w.heap.size w w' := by
  have hb : Below w.heap.size w (w.alloc (.cells #[.pointer none] 105)) := below_alloc (Below.refl _ _) _
  have HE := Aside0.mk (h.keep hb)
  have HG := Aside0.mk (hg0.below hb)
  have HB := Aside0.mk hb
  have HT := Aside0.mk (show (w.alloc (.cells #[.pointer none] 105)).heap[w.heap.size]? = some (.cells #[.pointer none] 105 (0, 0)) from heap_alloc_new w _)
  clear h hg0 hb
  go_enter Tryz.func36, Tryz.ntmps36
  go_wp2_with (first
    | ((with_reducible refine gate_dst (N := 6) rfl ?_); refine goesL_ (some 6) rfl rfl Tryz.func50 (by kernel_rfl) rfl #[v, .iface 107 (.pointer (some ⟨w.heap.size, 0, none⟩))] rfl (by (try simp only [List.map_toArray, List.map_cons, List.map_nil]); first | done | rfl) ?_
       refine (as43 HE.out HG.out w.heap.size _ HT.out).mono ?_
       rintro e w3 ⟨rfl, b, hb, hT, hm⟩
       refine ⟨_, rfl, ?_⟩
       have hc0 : w3.cell? ⟨w.heap.size, 0, none⟩ = some (.pointer (some ⟨b, 0, none⟩)) := blk_cell hT 0
       have hc1 : w3.cell? ⟨b, 0, none⟩ = some (.int .i64 code) := blk_cell hb 0
       have HF := Aside0.mk (hm.below HB.out HB.out.size (fun k hk => by omega))
       clear hb hT hm))
  go_ret
  exact ⟨rfl, HF.out⟩
theorem number35n (w : World) : Calls Tryz.prog 36 #[.nilIface] w fun e w' => e = .returned (.int .i64 0) ∧ Below w.heap.size w w' := by
  have hb : Below w.heap.size w (w.alloc (.cells #[.pointer none] 105)) := below_alloc (Below.refl _ _) _
  have HB := Aside0.mk hb
  clear hb
  go_enter Tryz.func36, Tryz.ntmps36
  go_wp2
  go_ret
  exact ⟨rfl, HB.out⟩
end Go.Proofs.YtcdfdckdodgbpaaGreatDoor.QA

/-! TCopied -/
namespace Go.Proofs.YtcdfdckdodgbpaaGreatDoor.QA
open Go.RowKit Go.Maps Go.Proofs.YtcdfdckdodgbpaaGreatDoorW.PrintWords Go.Proofs.YtcdfdckdodgbpaaGreatDoorW.PrintLast Go.Proofs.YtcdfdckdodgbpaaGreatDoorW.PrintMore
set_option linter.unusedVariables false
set_option linter.unusedSimpArgs false
/-- A content as a value: nil where nothing is there, or a map. -/
inductive CV (w : World) : Value → Con → Prop
  | nil : CV w (.map none) []
  | map (b : Nat) (c : Con) : OM Tryz.prog u64S w b c → CV w (.map (some b)) c
theorem Up.ext_mem {β : Type} {l1 l2 : List (Int × β)} (h1 : Up l1) (h2 : Up l2) (h : ∀ p, p ∈ l1 ↔ p ∈ l2) : l1 = l2 :=
  h1.ext h2 (fun x => look_of h1 x _ (fun c => by
    rw [h]
    exact ⟨fun hl => look_mem hl, fun hm => h2.look hm⟩))
set_option maxHeartbeats 2000000 in
set_option maxRecDepth 100000 in
theorem copied51 {w : World} {v : Value} {c : Con} (h : CV w v c) (hl : c.length < 1000000) :
    Calls Tryz.prog 49 #[v] w fun e w' => ∃ b, e = .returned (.map (some b)) ∧ OM Tryz.prog u64S w' b c ∧ w.heap.size ≤ b ∧ Below w.heap.size w w' := by
  have hmm := @run_makeMap Tryz.prog
  have B0 := Aside0.mk (below_alloc (Below.refl w.heap.size w) (.map #[] 0))
  have O0 := Aside0.mk (OM.made (P := Tryz.prog) w u64S)
  have HL := Aside0.mk hl
  cases h with
  | nil =>
    go_enter Tryz.func49, Tryz.ntmps49
    go_upto_region 2 with fail
    obtain ⟨g, hg⟩ : ∃ g, g = w.heap.size := ⟨_, rfl⟩
    have HG := Aside0.mk hg
    rw [← hg] at O0
    have e1 : (w.heap.size : Nat) = g := hg.symm
    rw [e1]
    generalize w.alloc (Obj.map #[] 0) = w1 at B0 O0 ⊢
    clear e1 hg
    have hrg := run_range_nilMap (P := Tryz.prog) w1 75 _ _ Tryz.underlying75
    have hnx : ∀ ty, (Instr.next (.pointer (some ⟨w1.heap.size, 0, none⟩)) false ty).run Tryz.prog (w1.alloc (.mapIter none 0 #[] 0)) = _ := fun ty => run_next_nilMap _ ty 0 0 #[]
    have B1 := Aside0.mk (below_alloc B0.out (.mapIter none 0 #[] 0))
    have O1 := Aside0.mk (O0.out.move (Mv.of_below (below_alloc (Below.refl _ w1) (.mapIter none 0 #[] 0)) (fun _ => False)) (fun h => h))
    go_wp2
    refine wp_loop_rounds 1 ?_
    rw [rounds_succ]
    go_wp2
    go_ret
    exact ⟨_, rfl, O1.out, by rw [HG.out]; exact Nat.le_refl _, B1.out⟩
  | map b c hb =>
    have HB := Aside0.mk hb
    clear hb hl
    obtain ⟨g, hg⟩ : ∃ g, g = w.heap.size := ⟨_, rfl⟩
    have HG := Aside0.mk hg
    have hbg : b ≠ g := by have := HB.out.lt; omega
    rw [← hg] at O0
    go_enter Tryz.func49, Tryz.ntmps49
    go_upto_region 2 with fail
    have e1 : (w.heap.size : Nat) = g := hg.symm
    rw [e1]
    have H1 := Aside0.mk (HB.out.move (Mv.of_below (below_alloc (Below.refl w.heap.size w) (.map #[] 0)) (fun _ => False)) (fun h => h))
    generalize w.alloc (Obj.map #[] 0) = w1 at B0 O0 H1 ⊢
    clear e1 hg
    go_wp2_with (first
      | (at_range; refine om_range rfl _ 75 rfl 47 Tryz.underlying75 rfl H1.out ?_
         intro w2 hr0 hm0 hs0
         have R0 := Aside0.mk hr0
         have M0 := Aside0.mk hm0
         have O2 := Aside0.mk (O0.out.move hm0 (fun h => h))
         have B2 := Aside0.mk (hm0.below B0.out B0.out.size (fun k hk => hk.elim))
         clear hr0 hm0 hs0))
    go_frame
    obtain ⟨r, hr⟩ : ∃ r, r = w1.heap.size := ⟨_, rfl⟩
    have HR := Aside0.mk (show g < r from by rw [hr]; exact O0.out.lt)
    rw [← hr] at R0
    have e1 : (⟨w1.heap.size, 0, none⟩ : Addr) = ⟨r, 0, none⟩ := by rw [hr]
    rw [e1]
    clear e1 hr
    go_loopg [4, 5] c.length (fun kq v4 v5 wr => ∃ (ds out : List (Int × Int)), Aside0 (ds.length + kq = c.length) ∧ Aside0 (OR Tryz.prog u64S wr b r c ds) ∧ Aside0 (OM Tryz.prog u64S wr g out) ∧ Aside0 (∀ p, p ∈ out ↔ p ∈ ds) ∧ Aside0 (Below w.heap.size w wr))
    case atStart => exact ⟨[], [], ⟨by simp⟩, R0, O2, ⟨fun _ => Iff.rfl⟩, B2⟩
    case round =>
      clear R0 M0 O2 B2 B0 O0 H1
      obtain ⟨ds, out, hcnt, hR, hO, hP, hB⟩ := hrel
      obtain ⟨Ws, hWs, hB⟩ : ∃ W, W = _ ∧ Aside0 (Below w.heap.size w W) := ⟨_, rfl, hB⟩
      subst hWs
      go_wp2_with (first
        | (at_next; refine om_next_u64 rfl _ rfl rfl hR.out ?_ ?_))
      · intro hperm
        have hoc := Aside0.mk (hO.out.up.ext_mem HB.out.up (fun p => (hP.out p).trans hperm.mem_iff))
        clear hperm
        go_wp2
        go_ret
        exact ⟨g, rfl, by rw [← hoc.out]; exact hO.out, by have := HG.out; omega, hB.out⟩
      · intro x z w3 hwx hin hnot hr1 hm1 hs1 hen
        have R1 := Aside0.mk hr1
        have hB1 := Aside0.mk (hm1.below hB.out hB.out.size (fun k hk => by subst hk; have := HR.out; have := HG.out; omega))
        have hO1 := Aside0.mk (hO.out.move hm1 (fun h => by have := HR.out; omega))
        have hle := hr1.le
        rw [List.length_append, List.length_singleton] at hle
        have HLE := Aside0.mk hle
        have HW := Aside0.mk hwx
        have HIN := Aside0.mk hin
        have hol : out.length ≤ c.length := nodup_le _ _ hO.out.up.nodup (fun p hp => hR.out.sub ((hP.out p).1 hp))
        have HOL := Aside0.mk hol
        clear hwx hin hnot hr1 hm1 hs1 hle hol
        go_wp2_with (first
          | (at_mapUpdate; refine om_put rfl _ _ _ 75 rfl 47 Tryz.underlying75 rfl hO1.out (by have := HOL.out; have := HL.out; unfold maxLen; omega) rfl HW.out z rfl ?_
             intro w4 ho hm
             have O4 := Aside0.mk ho
             have R4 := Aside0.mk (R1.out.move hm (fun h => hbg h) (fun h => by have := HR.out; omega))
             have B4 := Aside0.mk (hm.below hB1.out hB1.out.size (fun k hk => by subst hk; have := HG.out; omega))
             clear ho hm))
        go_roundg (gk - 1)
        case measure => have := hcnt.out; have := HLE.out; omega
        case rel =>
          refine ⟨_, _, ⟨by have := hcnt.out; have := HLE.out; rw [List.length_append, List.length_singleton]; omega⟩, R4, O4, ⟨fun p => ?_⟩, B4⟩
          rw [mem_put, List.mem_append, List.mem_singleton, hP.out]
          constructor
          · rintro (h | ⟨h, _⟩)
            · exact .inr h
            · exact .inl h
          · rintro (h | h)
            · by_cases e : p.1 = x
              · exact .inl (HB.out.up.eq (hR.out.sub h) HIN.out e)
              · exact .inr ⟨h, e⟩
            · exact .inl h
end Go.Proofs.YtcdfdckdodgbpaaGreatDoor.QA
