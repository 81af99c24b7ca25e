/- Moves, and rows of whole numbers of one's own, told by their number (ported by program from chapter 12's TMoves, TRuns, TFam). -/
import Derived.Test.YtjalkjoaepbhbaaProg
import Derived.Below
import Derived.Deep.Draws
import Derived.Deep.AppendLies
import Derived.Maps.AppendAt
import Derived.OwnWalk
import Derived.Laws.BytesArg
import Derived.Laws.MakeOwn
import Derived.Laws.OwnMore
import Derived.Deep.OwnRows
import Derived.Tactics
import Derived.Lib.ConvBytes
import Derived.Laws.Slices
import Derived.WalkKit
import Derived.KernelRfl
import Derived.RowKit3
import Derived.Deep.LoopGhost
import Derived.Deep.QuietTactic
import Derived.BigQuiet
import Derived.WideLaws
import Derived.Deep.DeepCutAuto
import Derived.Deep.CutBlock
import Derived.Deep.RegionHeld3
import Derived.Laws.Rows
import Derived.Lib.AppendStr
import Derived.ArgAppend
import Derived.Laws.IdiomCopy
import Derived.OrdersHeld
import Derived.Laws.BitsLemmas
import Derived.RowKit
import Derived.Test.YtjalkjoaepbhbaaWWords
import Derived.Test.YtjalkjoaepbhbaaWLast
import Derived.Test.YtjalkjoaepbhbaaWTab
import Derived.Test.YtjalkjoaepbhbaaWFour
import Derived.Test.YtjalkjoaepbhbaaWQPut
import Derived.Test.YtjalkjoaepbhbaaWApart
import Derived.Test.YtjalkjoaepbhbaaWArr
import Derived.Test.YtjalkjoaepbhbaaWZeros
import Derived.Test.YtjalkjoaepbhbaaWFoot
import Derived.Test.YtjalkjoaepbhbaaWKept
import Derived.Test.YtjalkjoaepbhbaaWShare
import Derived.Test.YtjalkjoaepbhbaaWN
import Derived.Test.YtjalkjoaepbhbaaWFootNe
import Derived.Test.YtjalkjoaepbhbaaWAt
import Derived.Test.YtjalkjoaepbhbaaWEqStruct
import Derived.Test.YtjalkjoaepbhbaaWRepsOne
import Derived.Test.YtjalkjoaepbhbaaWInv
import Derived.Test.YtjalkjoaepbhbaaWInvWords
import Derived.Test.YtjalkjoaepbhbaaWGuard
import Derived.Test.YtjalkjoaepbhbaaWNEv
import Derived.Test.YtjalkjoaepbhbaaWMore
import Derived.Maps.OwnOps
import Derived.Maps.OwnSet
import Derived.Maps.RangeWalk
import Derived.Maps.Ext
import Derived.Laws.Tables
import Derived.Deep.MidRow
import Derived.Laws.CopyRow
import Derived.Outline
import Derived.Deep.DeepMust
namespace Go.Proofs.Ytjalkjoaepbhbaa.QA
open Go.RowKit Go.Proofs.YtjalkjoaepbhbaaW.PrintWords Go.Proofs.YtjalkjoaepbhbaaW.PrintLast Go.Proofs.YtjalkjoaepbhbaaW.PrintMore
set_option linter.unusedVariables false
set_option linter.unusedSimpArgs false
/-- From w to W nothing has changed but blocks of S, and what is new. -/
structure Mv (w W : World) (S : Nat → Prop) : Prop where
  os : W.os = w.os
  tape : W.tape = w.tape
  output : W.output = w.output
  size : w.heap.size ≤ W.heap.size
  block : ∀ k, k < w.heap.size → ¬ S k → W.heap[k]? = w.heap[k]?
section
variable {w W W1 W2 : World} {S S2 : Nat → Prop}
theorem Mv.refl (w : World) (S : Nat → Prop) : Mv w w S := ⟨rfl, rfl, rfl, Nat.le_refl _, fun _ _ _ => rfl⟩
theorem Mv.of_below (h : Below w.heap.size w W) (S : Nat → Prop) : Mv w W S := ⟨h.os, h.tape, h.output, h.size, fun k hk _ => h.block k hk⟩
theorem Mv.mono (h : Mv w W S) (hs : ∀ k, S k → S2 k) : Mv w W S2 := ⟨h.os, h.tape, h.output, h.size, fun k hk hn => h.block k hk (fun h2 => hn (hs k h2))⟩
theorem Mv.then_ (h : Mv w W S) (k : Mv W W2 S2) (hs : ∀ k, S2 k → S k ∨ w.heap.size ≤ k) : Mv w W2 S :=
  ⟨k.os.trans h.os, k.tape.trans h.tape, k.output.trans h.output, Nat.le_trans h.size k.size, fun i hi hn => (k.block i (Nat.lt_of_lt_of_le hi h.size) (fun h2 => (hs i h2).elim hn (fun h3 => by omega))).trans (h.block i hi hn)⟩
theorem Mv.of_grown {row : Option Nat} (h : w.grownBy W row) : Mv w W (fun k => some k = row) := ⟨h.os, h.tape, h.output, h.size, fun k hk hn => h.block k hk hn⟩
theorem Mv.setRow (w : World) (g : Nat) (cs : Array Value) : Mv w (w.setRow g cs) (fun k => k = g) :=
  ⟨by simp, by simp, by simp, by simp, fun k _ hn => setRow_other w g k cs hn⟩
theorem Mv.setCell (w : World) (a : Addr) (v : Value) : Mv w (w.setCell a v) (fun k => k = a.block) :=
  ⟨rfl, rfl, rfl, by simp [World.setCell], fun k _ hn => Below.heap_setCell w a v k hn⟩
theorem Mv.below {w0 : World} {B : Nat} (h : Mv w W S) (hb : Below B w0 w) (hB : B ≤ w.heap.size) (hs : ∀ k, S k → B ≤ k) : Below B w0 W :=
  hb.trans ⟨h.os, h.tape, h.output, h.size, fun k hk => h.block k (by omega) (fun h2 => by have := hs k h2; omega)⟩
theorem Mv.blk {g : Nat} {o : Obj} (h : Mv w W S) (hg : w.heap[g]? = some o) (hn : ¬ S g) : W.heap[g]? = some o := (h.block g (blk_lt hg) hn).trans hg
theorem Mv.kept (h : Mv w W S) : Kept w W S := ⟨h.size, fun i hi hn => h.block i hi hn⟩
end
section
variable {P : Program} {ops : Array Oper} {rest : List Oper} {o : Oper} {a : Act} {Q : Exit → Act → World → Prop}
/-- A whole state is stored. -/
theorem store_event {W : World} (hgd : o.guard = none) {ty : TypeId} {x : Tmp} {y : Operand} (ho : o.op = .store ty (.tmp x) y) {g : Nat} {cells : Array Value} (hx : a.eval (.tmp x) = .pointer (some ⟨g, 0, none⟩)) (hy : a.eval y = .agg cells)
    {t : TypeId} {old : Array Value} (hg : W.heap[g]? = some (.cells old t (0, 0))) (hi : (P.info? ty).map (·.size) = some cells.size) (hold : old.size = cells.size) (h1 : cells.all (·.oneCell') = true)
    (h : ∀ w1, w1.heap[g]? = some (.cells cells t (0, 0)) → Mv W w1 (fun k => k = g) → wpList P ops Q rest (a.put o.dst undef) w1) : wpList P ops Q (o :: rest) a W :=
  wpList_store_row hgd ty (.tmp x) y ho g cells hx hy t old hg hi hold h1 (h _ (setRow_heap W g old cells t (0, 0) hg) (Mv.setRow W g cells))
/-- An operation that leaves no value. -/
theorem skip_event {W w1 : World} (hgd : o.guard = none) (hrun : (execOp a.eval o).run P W = .ok .skip w1) (h : wpList P ops Q rest (a.put o.dst undef) w1) : wpList P ops Q (o :: rest) a W := by
  refine wpList_plain hgd fun K hK => ?_
  unfold Oper.wp
  rw [hrun]
  exact hK _ _ h
/-- One cell is stored. -/
theorem store1_event {W : World} (hgd : o.guard = none) {g i : Nat} {v : Value} {cs : Array Value} {t : TypeId} (hg : W.heap[g]? = some (.cells cs t (0, 0)))
    (hrun : (execOp a.eval o).run P W = .ok .skip (W.setCell ⟨g, i, none⟩ v))
    (h : ∀ w1, w1.heap[g]? = some (.cells (cs.setIfInBounds i v) t (0, 0)) → Mv W w1 (fun k => k = g) → wpList P ops Q rest (a.put o.dst undef) w1) : wpList P ops Q (o :: rest) a W :=
  skip_event hgd hrun (h _ (blk_set hg i v) (Mv.setCell W _ v))
end
/-- Block k holds cells of type e. -/
def Ty (w : World) (k e : Nat) : Prop := ∃ cells, w.heap[k]? = some (.cells cells e (0, 0))
theorem Ty.eq {w : World} {k e t : Nat} {cs : Array Value} (h : Ty w k e) (hb : w.heap[k]? = some (.cells cs t (0, 0))) : e = t := by
  obtain ⟨c, hc⟩ := h
  rw [hc] at hb
  injection hb with hb
  injection hb
theorem Ty.uniq {w : World} {k e t : Nat} (h : Ty w k e) (h2 : Ty w k t) : e = t := by
  obtain ⟨c, hc⟩ := h2
  exact h.eq hc
theorem R_own_ty {α : Type} {d : Kd α} {e base : Nat} {ok : Nat → Prop} {w : World} {v : Value} {xs : List α} (h : d.R e w base ok v xs) {k : Nat} (hk : some k = v.ownBlock) : Ty w k e := by
  obtain ⟨_, inner, ho, _⟩ := h
  exact own_typed ho k hk.symm
/-- A move that touches no block of a row's types. -/
theorem R_tm {α : Type} {d : Kd α} {e base : Nat} {ok S : Nat → Prop} {w w1 : World} {v : Value} {xs : List α} (h : d.R e w base ok v xs) (m : Mv w w1 S) (hS : ∀ k q, S k → base ≤ k → q ∈ e :: d.E → ¬ Ty w k q) : d.R e w1 base ok v xs := by
  refine Kd.R_mono (Kd.R_kept (Kd.R_bound h) m.kept (fun k hk hs => ?_)) (fun k hk => hk.1)
  obtain ⟨_, hb, _, q, hq, c, hc⟩ := hk
  exact hS k q hs hb hq ⟨c, hc⟩
section
variable {P : Program} {ops : Array Oper} {rest : List Oper} {o : Oper} {a : Act} {Q : Exit → Act → World → Prop}
/-- One cell of a block is stored; nothing is left to simp. -/
theorem put_event {W : World} (hgd : o.guard = none) {ty : TypeId} {p : Tmp} {y : Operand} (ho : o.op = .store ty (.tmp p) y) {g i : Nat} {v : Value} (hx : a.eval (.tmp p) = .pointer (some ⟨g, i, none⟩)) (hy : a.eval y = v) (h1 : v.oneCell' = true) (hv : v.cells = #[v])
    {t : TypeId} {cs : Array Value} (hg : W.heap[g]? = some (.cells cs t (0, 0))) (hi : i < cs.size) (hsz : (P.info? ty).map (·.size) = some 1)
    (h : ∀ w1, w1.heap[g]? = some (.cells (cs.setIfInBounds i v) t (0, 0)) → Mv W w1 (fun k => k = g) → wpList P ops Q rest (a.put o.dst undef) w1) : wpList P ops Q (o :: rest) a W := by
  have hst := run_storeCells_at (P := P) g i t [v] 0 cs W hg (by simp; omega) (by simp [h1])
  have hnew : (cs.toList.take (i + 0) ++ [v] ++ cs.toList.drop (i + 0 + [v].length)).toArray = cs.setIfInBounds i v := by
    apply Array.ext'
    simp only [Nat.add_zero, List.length_singleton, List.append_assoc, List.singleton_append, Array.toList_setIfInBounds]
    rw [List.set_eq_take_append_cons_drop, if_pos (by simpa using hi)]
  refine wpList_plain hgd fun K hK => ?_
  have hrun : (execOp a.eval o).run P W = .ok .skip (W.setRow g (cs.setIfInBounds i v)) := by
    rw [← hnew]
    cases hq : P.info? ty with
    | none => simp [hq] at hsz
    | some inf =>
      have hs : inf.size = 1 := by simpa [hq] using hsz
      unfold execOp
      simp only [ho, hx, hy, Instr.storeAt, Instr.sureAddr, storeVar, sizeOf, typeInfo]
      simp [hq, hv, hs]
      simp at hst
      rw [hst]
      rfl
  unfold Oper.wp
  rw [hrun]
  exact hK _ _ (h _ (setRow_heap W g _ _ t (0, 0) hg) (Mv.setRow W g _))
/-- append onto a slice that is full: new memory. -/
theorem grow_event {W : World} (hgd : o.guard = none) (s x : Operand) (hop : o.op = .call { callee := .builtin .append, args := #[s, x], argTypes := #[39, 39] })
    (ht : P.underlying 39 = some (.slice 3)) (hinfo : (P.info? 3).map (fun i => (i.zero, i.size, i.bytes)) = some (some (.int .i64 0), 1, 8))
    {A : Option Addr} {xs : List Int} {n : Nat} (p : Int) (hn : n = xs.length) (hs : a.eval s = .slice A n n) (hx : a.eval x = .slice (some ⟨W.heap.size, 0, none⟩) 1 1) (hC : (Kd.int .i64).C W A xs.length xs) (hl : xs.length ≤ 100000)
    (h : ∀ v1 w1, Kd.R (Kd.int .i64) 3 w1 W.heap.size (fun _ => True) v1 (xs ++ [p]) → Below W.heap.size W w1 → wpList P ops Q rest (a.put o.dst v1) w1) : wpList P ops Q (o :: rest) a (W.alloc (.cells #[.int .i64 p] 3)) := by
  subst hn
  cases hi : P.info? 3 with
  | none => simp [hi] at hinfo
  | some i =>
    simp only [hi, Option.map_some, Option.some.injEq, Prod.mk.injEq] at hinfo
    obtain ⟨hz, hsz, hby⟩ := hinfo
    refine wpList_append_grows _ hgd s x 39 hop 3 i (.int .i64 0) 1 8 ht hi hz hsz hby rfl (by decide) A xs.length xs.length (encs (Value.int .i64) xs) hs (fun hA => ?_) (by simp [encs]) (fun b hb j u hj => ?_) ⟨W.heap.size, 0, none⟩ 1 1 [.int .i64 p] hx rfl (fun j u hj => ?_) (by simp [Value.oneCell']) (by omega) (by simp only [maxLen]; omega) (by omega) (fun v' w' ho hg => ?_)
    · by_cases h0 : xs.length = 0
      · exact ⟨h0, h0⟩
      · obtain ⟨ad, e, _⟩ := Kd.at_int hC 0 (by omega) (by omega)
        rw [hA] at e
        cases e
    · have hjl : j < xs.length := by have := (List.getElem?_eq_some_iff.1 hj).1; simpa [encs] using this
      obtain ⟨ad, e, hc⟩ := Kd.at_int hC j (by omega) (by omega)
      rw [hb] at e
      injection e with e
      subst e
      rw [Int.toNat_natCast] at hc
      have hu : u = .int .i64 (rd xs j) := by
        have : (encs (Value.int .i64) xs)[j]? = some (.int .i64 (rd xs j)) := by simp [encs, rd, hjl]
        rw [this] at hj
        exact (Option.some.inj hj).symm
      rw [hu, World.cell?_alloc_lt _ _ _ (World.block_lt_of_cell? W _ hc)]
      exact hc
    · have hj0 : j = 0 := by have := (List.getElem?_eq_some_iff.1 hj).1; simp at this; omega
      subst hj0
      have : u = .int .i64 p := by simpa using hj.symm
      rw [this]
      have hb : (W.alloc (.cells #[.int .i64 p] 3)).heap[W.heap.size]? = some (.cells #[.int .i64 p] 3 (0, 0)) := heap_alloc_new W _
      exact (blk_cell hb 0).trans rfl
    · have hbel : Below W.heap.size W w' := by
        have h1 : Below W.heap.size W (W.alloc (.cells #[.int .i64 p] 3)) := below_alloc (Below.refl _ _) _
        exact (Mv.of_grown hg).below h1 h1.size (fun k hk => by cases hk)
      have hr : Kd.R (Kd.int .i64) 3 w' W.heap.size (fun _ => True) v' (xs ++ [p]) := by
        refine Kd.R_lower (base := (W.alloc (.cells #[.int .i64 p] 3)).heap.size) ?_ (by simp)
        refine Kd.R_of_own (enc := Value.int .i64) (h1 := fun _ => rfl) ?_ (fun _ _ => trivial)
        rw [List.length_append, List.length_singleton]
        have : encs (Value.int .i64) (xs ++ [p]) = encs (Value.int .i64) xs ++ [.int .i64 p] := by simp [encs]
        rw [this]
        exact ho
      exact h v' w' hr hbel
end
section
variable {P : Program} {ops : Array Oper} {rest : List Oper} {o : Oper} {a : Act} {Q : Exit → Act → World → Prop}
theorem keep_event {W : World} {base : Nat} (hbase : base ≤ W.heap.size) (hgd : o.guard = none) (s x : Operand) (hop : o.op = .call { callee := .builtin .append, args := #[s, x], argTypes := #[39, 39] })
    (ht : P.underlying 39 = some (.slice 3)) (hinfo : (P.info? 3).map (fun i => (i.zero, i.size, i.bytes)) = some (some (.int .i64 0), 1, 8))
    {A : Option Addr} {c : Nat} {xs : List Int} (p : Int) (hs : a.eval s = .slice A xs.length c) (hx : a.eval x = .slice (some ⟨W.heap.size, 0, none⟩) 1 1) (hR : Kd.R (Kd.int .i64) 3 W base (fun _ => True) (.slice A xs.length c) xs) (hl : xs.length ≤ 100000)
    (h : ∀ v1 w1, Kd.R (Kd.int .i64) 3 w1 base (fun _ => True) v1 (xs ++ [p]) → Mv W w1 (fun k => some k = (Value.slice A xs.length c).ownBlock) → (v1.ownBlock = (Value.slice A xs.length c).ownBlock ∨ ∃ b, v1.ownBlock = some b ∧ W.heap.size ≤ b) → Kd.C (Kd.int .i64) w1 A xs.length xs → wpList P ops Q rest (a.put o.dst v1) w1) :
    wpList P ops Q (o :: rest) a (W.alloc (.cells #[.int .i64 p] 3)) := by
  have hC0 := (Kd.R_reads' hR).2.2
  have hown := Kd.own_of_R hR
  have hCn : ∀ {w1 : World}, (∀ k, (Value.slice A xs.length c).ownBlock = some k → w1.heap[k]? = W.heap[k]?) → Kd.C (Kd.int .i64) w1 A xs.length xs := by
    intro w1 hk
    exact (Kd.R_reads' (Kd.R_move (Kd.R_tight rfl hR) (fun k hk2 => hk k hk2.symm))).2.2
  rcases hown.2 with ⟨he, h0⟩ | ⟨g, cap, cur, he, hbg, hg, hnc, hcm, hcs, htk⟩
  · injection he with e1 e2 e3
    subst e1
    have hnil : xs = [] := List.length_eq_zero_iff.1 e2
    subst hnil
    subst e3
    refine grow_event hgd s x hop ht hinfo p (n := 0) rfl hs hx hC0 (by simp) ?_
    intro v1 w1 hR1 hb
    refine h v1 w1 (Kd.R_lower hR1 hbase) (Mv.of_below hb _) ?_ (Kd.C_nil _ _)
    cases hv : v1.ownBlock with
    | none => exact .inl rfl
    | some b => exact .inr ⟨b, rfl, Kd.R_base hR1 b hv⟩
  · injection he with e1 e2 e3
    subst e1 e3
    cases hi : P.info? 3 with
    | none => simp [hi] at hinfo
    | some i =>
      simp only [hi, Option.map_some, Option.some.injEq, Prod.mk.injEq] at hinfo
      obtain ⟨hz, hsz, hby⟩ := hinfo
      have hlt : g < W.heap.size := blk_lt hg
      rw [Nat.mul_one] at htk
      have hga : (W.alloc (.cells #[.int .i64 p] 3)).heap[g]? = some (.cells cur 3 (0, 0)) := ((below_alloc (Below.refl W.heap.size W) (.cells #[.int .i64 p] 3)).block g hlt).trans hg
      have hcell : ∀ j u, (encs (Value.int .i64) xs)[j]? = some u → (W.alloc (.cells #[.int .i64 p] 3)).cell? ⟨g, 0 + j, none⟩ = some u := by
        intro j u hj
        rw [Nat.zero_add, blk_cell hga]
        have hjl := (List.getElem?_eq_some_iff.1 hj).1
        rw [encs_length] at hjl
        have : (cur.toList.take xs.length)[j]? = some u := by rw [htk]; exact hj
        rw [List.getElem?_take_of_lt hjl] at this
        simpa using this
      refine wpList_append_arg _ hgd s x 39 hop 3 i (.int .i64 0) 1 8 ht hi hz hsz hby rfl (by decide) g 0 xs.length c (encs (Value.int .i64) xs) hs (by simp [encs]) hcell ⟨W.heap.size, 0, none⟩ 1 1 [.int .i64 p] hx rfl (fun j u hj => ?_) (by simp [Value.oneCell']) (fun hr j hj => ?_) (by simp only [maxLen]; omega) (by omega) (fun hr => ?_) (fun hr v' w' ho hgr => ?_)
      · have hj0 : j = 0 := by have := (List.getElem?_eq_some_iff.1 hj).1; simp at this; omega
        subst hj0
        have : u = .int .i64 p := by simpa using hj.symm
        rw [this]
        exact (blk_cell (show (W.alloc (.cells #[.int .i64 p] 3)).heap[W.heap.size]? = some (.cells #[.int .i64 p] 3 (0, 0)) from heap_alloc_new W _) 0).trans rfl
      · have hj0 : j = 0 := by simp at hj; omega
        subst hj0
        refine ⟨?_, blk_frozen hga _⟩
        rw [blk_cell hga, Array.getElem?_eq_getElem (by omega)]
        rfl
      · have hset : (W.alloc (.cells #[.int .i64 p] 3)).setCells g (0 + xs.length * 1) [.int .i64 p] = (W.alloc (.cells #[.int .i64 p] 3)).setCell ⟨g, xs.length, none⟩ (.int .i64 p) := by
          simp [World.setCells]
        rw [hset]
        have hb2 := blk_set hga xs.length (.int .i64 p)
        have hm2 : Mv W ((W.alloc (.cells #[.int .i64 p] 3)).setCell ⟨g, xs.length, none⟩ (.int .i64 p)) (fun k => some k = (Value.slice (some ⟨g, 0, none⟩) xs.length c).ownBlock) :=
          (Mv.of_below (below_alloc (Below.refl _ _) _) _).then_ (Mv.setCell _ ⟨g, xs.length, none⟩ (.int .i64 p)) (fun k hk => .inl (by rw [hk]; rfl))
        have hR1 : Kd.R (Kd.int .i64) 3 ((W.alloc (.cells #[.int .i64 p] 3)).setCell ⟨g, xs.length, none⟩ (.int .i64 p)) base (fun _ => True) (.slice (some ⟨g, 0, none⟩) (xs.length + 1) c) (xs ++ [p]) := by
          refine Kd.R_of_own (enc := Value.int .i64) (h1 := fun _ => rfl) ?_ (fun _ _ => trivial)
          refine ⟨by simp [encs], .inr ⟨g, c, _, by simp, hbg, hb2, by simp; omega, hcm, by simpa using hcs, ?_⟩⟩
          rw [Nat.mul_one, List.length_append, List.length_singleton, Array.toList_setIfInBounds]
          rw [List.take_add_one, List.take_set_of_le (Nat.le_refl _), htk, List.getElem?_set_self (by simp; omega)]
          simp [encs]
        refine h _ _ hR1 hm2 (.inl rfl) ?_
        have h3 := (Kd.R_reads' hR1).2.2
        have h4 := Kd.C_take (m := xs.length) h3 (by simp)
        rw [List.take_left'] at h4
        · exact h4
        · rfl
      · have hbel : Below W.heap.size W w' := by
          have h1 : Below W.heap.size W (W.alloc (.cells #[.int .i64 p] 3)) := below_alloc (Below.refl _ _) _
          exact (Mv.of_grown hgr).below h1 h1.size (fun k hk => by cases hk)
        have hR1 : Kd.R (Kd.int .i64) 3 w' W.heap.size (fun _ => True) v' (xs ++ [p]) := by
          refine Kd.R_lower (base := (W.alloc (.cells #[.int .i64 p] 3)).heap.size) ?_ (by simp)
          refine Kd.R_of_own (enc := Value.int .i64) (h1 := fun _ => rfl) ?_ (fun _ _ => trivial)
          rw [List.length_append, List.length_singleton]
          have : encs (Value.int .i64) (xs ++ [p]) = encs (Value.int .i64) xs ++ [.int .i64 p] := by simp [encs]
          rw [this]
          exact ho
        refine h v' w' (Kd.R_lower hR1 hbase) (Mv.of_below hbel _) ?_ (hCn (fun k hk => hbel.block k (by simp [Value.ownBlock] at hk; omega)))
        cases hv : v'.ownBlock with
        | none =>
          obtain ⟨g2, c2, e2, _⟩ := Kd.R_form hR1 (by simp)
          rw [e2] at hv
          cases hv
        | some b => exact .inr ⟨b, rfl, Kd.R_base hR1 b hv⟩
end
theorem R_tail {xs : List Int} {w : World} {base : Nat} {ok : Nat → Prop} {A : Option Addr} {n c : Nat} (h : Kd.R (Kd.int .i64) 3 w base ok (.slice A n c) xs) : n = xs.length := (Kd.R_reads' h).1
/-- What a row of one's own reads hangs on its block alone. -/
theorem C_of_block {w w1 w2 : World} {base : Nat} {ok : Nat → Prop} {v : Value} {xs : List Int} (h : Kd.R (Kd.int .i64) 3 w base ok v xs) (hk : ∀ k, v.ownBlock = some k → w1.heap[k]? = w.heap[k]?) : Kd.R (Kd.int .i64) 3 w1 base ok v xs :=
  Kd.R_mono (Kd.R_move (Kd.R_tight2 rfl h) (fun k hk2 => hk k hk2.1.symm)) (fun k hk2 => hk2.2)
def arr4 (v : Nat → Value) : Array Value := #[v 0, v 1, v 2, v 3]
theorem arr4_at (v : Nat → Value) (m : Nat) (h : m < 4) : (arr4 v)[m]? = some (v m) := by
  have : m = 0 ∨ m = 1 ∨ m = 2 ∨ m = 3 := by omega
  rcases this with rfl | rfl | rfl | rfl <;> rfl
structure Fr (Wb w : World) (gA : Nat) (v : Nat → Value) (xs : Nat → List Int) : Prop where
  bel : Below Wb.heap.size Wb w
  hA : w.heap[gA]? = some (.cells (arr4 v) 39 (0, 0))
  bA : Wb.heap.size ≤ gA
  rows : ∀ m, m < 4 → Kd.R (Kd.int .i64) 3 w Wb.heap.size (fun _ => True) (v m) (xs m)
  apart : ∀ m n, m < 4 → n < 4 → m ≠ n → ∀ k, (v m).ownBlock = some k → (v n).ownBlock ≠ some k
def updL (xs : Nat → List Int) (m : Nat) (y : List Int) : Nat → List Int := fun j => if j = m then y else xs j
theorem Fr.set {Wb w w1 : World} {gA : Nat} {v : Nat → Value} {xs : Nat → List Int} (h : Fr Wb w gA v xs) {m g : Nat} (hm : m < 4) (hg : (v m).ownBlock = some g) (hgr : w.grownBy w1 (some g)) (hb : Below Wb.heap.size Wb w1) {y : List Int} (hy : Kd.R (Kd.int .i64) 3 w1 Wb.heap.size (fun _ => True) (v m) y) : Fr Wb w1 gA v (updL xs m y) := by
  have hne : g ≠ gA := fun e => by
    have := (R_own_ty (h.rows m hm) hg.symm).eq (e ▸ h.hA)
    exact absurd this (by decide)
  refine ⟨hb, (hgr.block gA (blk_lt h.hA) (fun e => hne (Option.some.inj e).symm)).trans h.hA, h.bA, fun n hn => ?_, h.apart⟩
  unfold updL
  by_cases e : n = m
  · subst e; rw [if_pos rfl]; exact hy
  · rw [if_neg e]
    exact C_of_block (w2 := w) (h.rows n hn) (fun k hk => hgr.block k (Kd.R_lt (h.rows n hn) k hk) (fun he => h.apart m n hm hn (fun e2 => e e2.symm) g hg (by rw [hk, he])))
theorem Fr.below {Wb w w1 : World} {gA : Nat} {v : Nat → Value} {xs : Nat → List Int} (h : Fr Wb w gA v xs) (hb : Below w.heap.size w w1) : Fr Wb w1 gA v xs :=
  ⟨(Mv.of_below hb (fun _ => False)).below h.bel h.bel.size (fun _ hk => hk.elim), blk_below h.hA hb, h.bA, fun m hm => Kd.R_below (h.rows m hm) hb, h.apart⟩
def mark (m : Nat) (n : Nat) : List Int := List.replicate n (-1 - (m : Int))
/-- Row m reads its marks. -/
def RdM (w : World) (v : Nat → Value) (n : Nat → Nat) (m : Nat) : Prop :=
  (v m = .slice none 0 0 ∧ n m = 0) ∨ ∃ g c, v m = .slice (some ⟨g, 0, none⟩) (n m) c ∧ n m ≤ c ∧ Kd.C (Kd.int .i64) w (some ⟨g, 0, none⟩) (n m) (mark m (n m))
theorem C_blk3 {w w1 : World} {g n : Nat} {xs : List Int} (h : Kd.C (Kd.int .i64) w (some ⟨g, 0, none⟩) n xs) (hg : w1.heap[g]? = w.heap[g]?) : Kd.C (Kd.int .i64) w1 (some ⟨g, 0, none⟩) n xs := by
  have hf : ∀ i : Nat, w1.cell? ((⟨g, 0, none⟩ : Addr).add i) = w.cell? ((⟨g, 0, none⟩ : Addr).add i) := fun i => World.cell?_of_block (by rw [Addr.add_mid]; exact hg)
  have h1 := Kd.reads_of_C (enc := Value.int .i64) (d := (0 : Int)) (h1 := fun _ => rfl) h
  refine Kd.C_of_reads (d := (0 : Int)) (h1 := fun _ => rfl) ⟨h1.1, h1.2.1, fun hn => ?_⟩
  obtain ⟨ad, e, hc⟩ := h1.2.2 hn
  injection e with e
  subst e
  exact ⟨_, rfl, fun j hj => (hf j).trans (hc j hj)⟩
theorem RdM.move {w w1 : World} {v : Nat → Value} {n : Nat → Nat} {m : Nat} (h : RdM w v n m) (hk : ∀ k, (v m).ownBlock = some k → w1.heap[k]? = w.heap[k]?) : RdM w1 v n m := by
  rcases h with h | ⟨g, c, e, hc, hC⟩
  · exact .inl h
  · exact .inr ⟨g, c, e, hc, C_blk3 hC (hk g (by rw [e]; rfl))⟩
theorem RdM.slice {w : World} {v : Nat → Value} {n : Nat → Nat} {m : Nat} (h : RdM w v n m) : ∃ A c, v m = .slice A (n m) c ∧ n m ≤ c ∧ Kd.C (Kd.int .i64) w A (n m) (mark m (n m)) := by
  rcases h with ⟨e, h0⟩ | ⟨g, c, e, hc, hC⟩
  · rw [h0]
    exact ⟨none, 0, e, Nat.le_refl _, Kd.C_nil _ _⟩
  · exact ⟨_, c, e, hc, hC⟩
theorem mark_len (m n : Nat) : (mark m n).length = n := by simp [mark]
theorem mark_add (m n : Nat) : mark m n ++ [-1 - (m : Int)] = mark m (n + 1) := by
  unfold mark
  rw [List.replicate_succ']
theorem mark_take (m n k : Nat) (h : k ≤ n) : (mark m n).take k = mark m k := by
  unfold mark
  rw [List.take_replicate, Nat.min_eq_left h]
theorem RdM.of_R {w : World} {base : Nat} {v : Nat → Value} {n : Nat → Nat} {m : Nat} (h : Kd.R (Kd.int .i64) 3 w base (fun _ => True) (v m) (mark m (n m))) : RdM w v n m := by
  have hC := Kd.R_reads h
  have hown := Kd.own_of_R h
  rcases hown.2 with ⟨he, h0⟩ | ⟨g, cap, cur, he, _, _, hnc, _⟩
  · exact .inl ⟨he, by rw [mark_len] at h0; exact h0⟩
  · obtain ⟨A, c, e2, hc, hC⟩ := hC
    rw [mark_len] at he e2 hc hC hnc
    rw [he] at e2
    injection e2 with e3 e4 e5
    subst e3 e5
    exact .inr ⟨g, cap, he, hnc, hC⟩
/-- The second pass: the first i rows are lengthened, in 'long'; all still read what they did. -/
structure Fl (Wb Wc w : World) (gA : Nat) (v : Nat → Value) (n : Nat → Nat) (i : Nat) (vlong : Value) : Prop where
  bel : Below Wb.heap.size Wb w
  hA : w.heap[gA]? = some (.cells (arr4 v) 39 (0, 0))
  bA : Wb.heap.size ≤ gA
  tA : gA < Wc.heap.size
  sz : Wc.heap.size ≤ w.heap.size
  bc : Wb.heap.size ≤ Wc.heap.size
  reads : ∀ m, m < 4 → RdM w v n m
  rows : ∀ m, i ≤ m → m < 4 → Kd.R (Kd.int .i64) 3 w Wb.heap.size (fun _ => True) (v m) (mark m (n m))
  old : ∀ m k, m < 4 → (v m).ownBlock = some k → k < Wc.heap.size
  apart : ∀ m n, m < 4 → n < 4 → m ≠ n → ∀ k, (v m).ownBlock = some k → (v n).ownBlock ≠ some k
  neA : ∀ m k, m < 4 → (v m).ownBlock = some k → k ≠ gA
  lblk : ∀ k, vlong.ownBlock = some k → Wc.heap.size ≤ k
  long : Kd.R (Kd.slice 3 (Kd.int .i64)) 39 w Wb.heap.size (fun k => (∃ m, m < i ∧ (v m).ownBlock = some k) ∨ Wc.heap.size ≤ k) vlong ((List.range i).map fun m => mark m (n m + 40))
theorem Fl.start {Wb Wc : World} {gA : Nat} {v : Nat → Value} {n : Nat → Nat} (h : Fr Wb Wc gA v (fun m => mark m (n m))) : Fl Wb Wc Wc gA v n 0 (.slice none 0 0) :=
  ⟨h.bel, h.hA, h.bA, blk_lt h.hA, Nat.le_refl _, h.bel.size, fun m hm => RdM.of_R (h.rows m hm), fun m _ hm => h.rows m hm, fun m k hm hk => Kd.R_lt (h.rows m hm) k hk, h.apart, fun m k hm hk e => absurd ((R_own_ty (h.rows m hm) hk.symm).eq (e ▸ h.hA)) (by decide), fun k hk => (by cases hk), Kd.R_nil _ _ _ _ _⟩
/-- What the inner appends of row i keep, from the world Ws of its first on: its block, or one that is new. -/
structure Fi (Wb Ws w : World) (v : Nat → Value) (n : Nat → Nat) (i j : Nat) (vm : Value) : Prop where
  mv : Mv Ws w (fun k => (v i).ownBlock = some k)
  row : Kd.R (Kd.int .i64) 3 w Wb.heap.size (fun _ => True) vm (mark i (n i + j))
  at_ : vm.ownBlock = (v i).ownBlock ∨ ∃ b, vm.ownBlock = some b ∧ Ws.heap.size ≤ b
  reads : RdM w v n i
  lt : ∀ k, (v i).ownBlock = some k → k < Ws.heap.size
theorem Fi.step {Wb Ws w w1 : World} {v : Nat → Value} {n : Nat → Nat} {i j : Nat} {A : Option Addr} {c : Nat} {v1 : Value} (h : Fi Wb Ws w v n i j (.slice A (mark i (n i + j)).length c))
    (hR : Kd.R (Kd.int .i64) 3 w1 Wb.heap.size (fun _ => True) v1 (mark i (n i + j) ++ [-1 - (i : Int)])) (hm : Mv w w1 (fun k => some k = (Value.slice A (mark i (n i + j)).length c).ownBlock))
    (hat : v1.ownBlock = (Value.slice A (mark i (n i + j)).length c).ownBlock ∨ ∃ b, v1.ownBlock = some b ∧ w.heap.size ≤ b) (hC : Kd.C (Kd.int .i64) w1 A (mark i (n i + j)).length (mark i (n i + j))) : Fi Wb Ws w1 v n i (j + 1) v1 := by
  have hS : ∀ k, some k = (Value.slice A (mark i (n i + j)).length c).ownBlock → (v i).ownBlock = some k ∨ Ws.heap.size ≤ k := by
    intro k hk
    rcases h.at_ with h1 | ⟨b, hb, hle⟩
    · exact .inl (by rw [← h1, ← hk])
    · rw [hb] at hk
      injection hk with hk
      exact .inr (hk ▸ hle)
  refine ⟨h.mv.then_ hm hS, by rw [mark_add] at hR; exact hR, ?_, ?_, h.lt⟩
  · rcases hat with hat | ⟨b, hb, hle⟩
    · rw [hat]; exact h.at_
    · exact .inr ⟨b, hb, Nat.le_trans h.mv.size hle⟩
  · rcases h.reads with h0 | ⟨g, c0, e, hc, hC0⟩
    · exact .inl h0
    · have hvi : (v i).ownBlock = some g := by rw [e]; rfl
      rcases h.at_ with h1 | ⟨b, hb, hle⟩
      · rw [hvi] at h1
        have hA : A = some ⟨g, 0, none⟩ := by
          by_cases h0 : 0 < (mark i (n i + j)).length
          · obtain ⟨g2, c2, e2, _⟩ := Kd.R_form h.row h0
            injection e2 with e3
            subst e3
            simp only [Value.ownBlock, Option.some.injEq] at h1
            rw [h1]
          · rcases (Kd.own_of_R h.row).2 with ⟨e2, _⟩ | ⟨g2, c2, cur, e2, _⟩
            · injection e2 with e3
              subst e3
              cases h1
            · injection e2 with e3
              subst e3
              simp only [Value.ownBlock, Option.some.injEq] at h1
              rw [h1]
        subst hA
        refine .inr ⟨g, c0, e, hc, ?_⟩
        have h4 := Kd.C_take (m := n i) hC (by rw [mark_len]; omega)
        rw [mark_take _ _ _ (by omega), mark_len] at h4
        exact h4
      · refine .inr ⟨g, c0, e, hc, C_blk3 hC0 (hm.block g (Nat.lt_of_lt_of_le (h.lt g hvi) h.mv.size) (fun hk => ?_))⟩
        rw [hb] at hk
        injection hk with hk
        have := h.lt g hvi
        omega
theorem Fi.start {Wb Wc Ws : World} {gA : Nat} {v : Nat → Value} {n : Nat → Nat} {i : Nat} {vlong : Value} (h : Fl Wb Wc Ws gA v n i vlong) (hi : i < 4) : Fi Wb Ws Ws v n i 0 (v i) :=
  ⟨Mv.refl _ _, h.rows i (Nat.le_refl _) hi, .inl rfl, h.reads i hi, fun k hk => Nat.lt_of_lt_of_le (h.old i k hi hk) h.sz⟩
/-- Behind the inner appends: what of the second pass stands, but for 'long'. -/
theorem Fl.inner {Wb Wc Ws w : World} {gA : Nat} {v : Nat → Value} {n : Nat → Nat} {i : Nat} {vlong vm : Value} (h : Fl Wb Wc Ws gA v n i vlong) (hi : i < 4) (f : Fi Wb Ws w v n i 40 vm) :
    Below Wb.heap.size Wb w ∧ w.heap[gA]? = some (.cells (arr4 v) 39 (0, 0)) ∧ Wc.heap.size ≤ w.heap.size ∧ (∀ m, m < 4 → RdM w v n m) ∧ (∀ m, i + 1 ≤ m → m < 4 → Kd.R (Kd.int .i64) 3 w Wb.heap.size (fun _ => True) (v m) (mark m (n m))) ∧
      Kd.R (Kd.slice 3 (Kd.int .i64)) 39 w Wb.heap.size (fun k => (∃ m, m < i ∧ (v m).ownBlock = some k) ∨ Wc.heap.size ≤ k) vlong ((List.range i).map fun m => mark m (n m + 40)) := by
  have hb : ∀ k, (v i).ownBlock = some k → Wb.heap.size ≤ k := fun k hk => Kd.R_base (h.rows i (Nat.le_refl _) hi) k hk
  have hother : ∀ m, m < 4 → m ≠ i → ∀ k, (v m).ownBlock = some k → w.heap[k]? = Ws.heap[k]? := fun m hm hne k hk =>
    f.mv.block k (Nat.lt_of_lt_of_le (h.old m k hm hk) h.sz) (fun hk2 => h.apart m i hm hi hne k hk hk2)
  refine ⟨f.mv.below h.bel h.bel.size (fun k hk => hb k hk), f.mv.blk h.hA (fun hk => h.neA i gA hi hk rfl), Nat.le_trans h.sz f.mv.size, fun m hm => ?_, fun m hle hm => C_of_block (w2 := w) (h.rows m (by omega) hm) (hother m hm (by omega)), ?_⟩
  · by_cases e : m = i
    · subst e; exact f.reads
    · exact (h.reads m hm).move (hother m hm e)
  · refine Kd.R_kept h.long f.mv.kept (fun k hk hk2 => ?_)
    rcases hk with ⟨m, hm, hmk⟩ | hk
    · exact h.apart m i (by omega) hi (by omega) k hmk hk2
    · have := h.old i k hi hk2
      omega
/-- .. and behind the append to 'long'. -/
theorem Fl.step {Wb Wc Ws w w1 : World} {gA : Nat} {v : Nat → Value} {n : Nat → Nat} {i : Nat} {vlong vlong1 vm : Value} (h : Fl Wb Wc Ws gA v n i vlong) (hi : i < 4) (f : Fi Wb Ws w v n i 40 vm) (hb : Below Wb.heap.size Wb w1) (hg : w.grownBy w1 vlong.ownBlock) (hat : vlong1.ownBlock = vlong.ownBlock ∨ ∃ b, vlong1.ownBlock = some b ∧ w.heap.size ≤ b)
    (hl : Kd.R (Kd.slice 3 (Kd.int .i64)) 39 w1 Wb.heap.size (fun k => (∃ m, m < i + 1 ∧ (v m).ownBlock = some k) ∨ Wc.heap.size ≤ k) vlong1 (((List.range i).map fun m => mark m (n m + 40)) ++ [mark i (n i + 40)])) : Fl Wb Wc w1 gA v n (i + 1) vlong1 := by
  obtain ⟨h1, h2, h3, h4, h5, h6⟩ := h.inner hi f
  have hlo : ∀ k, some k = vlong.ownBlock → Wc.heap.size ≤ k := fun k hk => h.lblk k hk.symm
  have hother : ∀ m, m < 4 → ∀ k, (v m).ownBlock = some k → w1.heap[k]? = w.heap[k]? := fun m hm k hk =>
    hg.block k (Nat.lt_of_lt_of_le (h.old m k hm hk) h3) (fun hk2 => by have := hlo k hk2; have := h.old m k hm hk; omega)
  refine ⟨hb, (hg.block gA (blk_lt h2) (fun hk => by have := hlo gA hk; have := h.tA; omega)).trans h2, h.bA, h.tA, Nat.le_trans h3 hg.size, h.bc, fun m hm => (h4 m hm).move (hother m hm), fun m hle hm => C_of_block (w2 := w) (h5 m hle hm) (hother m hm), h.old, h.apart, h.neA, fun k hk => ?_, ?_⟩
  · rcases hat with hat | ⟨b, hb2, hle⟩
    · rw [hat] at hk; exact h.lblk k hk
    · rw [hb2] at hk
      injection hk with hk
      omega
  · rw [List.range_succ, List.map_append, List.map_singleton]
    exact hl
theorem row_open {w : World} {base : Nat} {v : Value} {xs : List Int} (h : Kd.R (Kd.int .i64) 3 w base (fun _ => True) v xs) (j : Nat) (hj : j < xs.length) : ∃ g cap cur, v = .slice (some ⟨g, 0, none⟩) xs.length cap ∧ w.heap[g]? = some (.cells cur 3 (0, 0)) ∧ j < cur.size ∧
    ∀ w1 x, w1.heap[g]? = some (.cells (cur.setIfInBounds j (.int .i64 x)) 3 (0, 0)) → Kd.R (Kd.int .i64) 3 w1 base (fun _ => True) v (xs.set j x) := by
  rcases (Kd.own_of_R h).2 with ⟨_, h0⟩ | ⟨g, cap, cur, he, hb, hg, hnc, hcm, hcs, htk⟩
  · omega
  · refine ⟨g, cap, cur, he, hg, by omega, fun w1 x hw1 => ?_⟩
    refine Kd.R_of_own (enc := Value.int .i64) (h1 := fun _ => rfl) ?_ (fun _ _ => trivial)
    refine ⟨by simp [encs], .inr ⟨g, cap, _, by rw [he]; simp, hb, hw1, by simpa using hnc, hcm, by simpa using hcs, ?_⟩⟩
    rw [Nat.mul_one] at htk ⊢
    rw [List.length_set, Array.toList_setIfInBounds, List.take_set, htk]
    simp [encs, List.map_set]
theorem set_take (l : List Int) (j : Nat) (x : Int) (h : j < l.length) : (l.set j x).take (j + 1) = l.take j ++ [x] := by
  rw [List.take_add_one, List.take_set_of_le (Nat.le_refl _), List.getElem?_set_self h]
  rfl
theorem Fr.put {Wb w w1 : World} {gA : Nat} {v : Nat → Value} {xs : Nat → List Int} (h : Fr Wb w gA v xs) {m g : Nat} (hm : m < 4) (hg : (v m).ownBlock = some g) (mv : Mv w w1 (fun k => k = g)) {y : List Int} (hy : Kd.R (Kd.int .i64) 3 w1 Wb.heap.size (fun _ => True) (v m) y) : Fr Wb w1 gA v (updL xs m y) := by
  have hne : g ≠ gA := fun e => by
    have := (R_own_ty (h.rows m hm) hg.symm).eq (e ▸ h.hA)
    exact absurd this (by decide)
  refine ⟨mv.below h.bel h.bel.size (fun k hk => hk ▸ Kd.R_base (h.rows m hm) g hg), mv.blk h.hA (fun e => hne e.symm), h.bA, fun n hn => ?_, h.apart⟩
  unfold updL
  by_cases e : n = m
  · subst e; rw [if_pos rfl]; exact hy
  · rw [if_neg e]
    exact C_of_block (w2 := w) (h.rows n hn) (fun k hk => mv.block k (Kd.R_lt (h.rows n hn) k hk) (fun he => h.apart m n hm hn (fun e2 => e e2.symm) g hg (by rw [hk, he])))
section
variable {P : Program} {ops : Array Oper} {rest : List Oper} {o : Oper} {a : Act} {Q : Exit → Act → World → Prop}
theorem lit4_event {W : World} (hgd : o.guard = none) {t e : TypeId} {x0 x1 x2 x3 : Operand} (v : Nat → Value) (ho : o.op = .buildSlice t 4 #[(0, x0), (1, x1), (2, x2), (3, x3)]) (h0 : a.eval x0 = v 0) (h1 : a.eval x1 = v 1) (h2 : a.eval x2 = v 2) (h3 : a.eval x3 = v 3)
    (hrun : (Instr.buildSlice t 4 #[(0, v 0), (1, v 1), (2, v 2), (3, v 3)]).run P W = .ok (.slice (some ⟨W.heap.size, 0, none⟩) 4 4) (W.alloc (.cells (arr4 v) e)))
    (h : ∀ g w1, W.heap.size ≤ g → w1.heap[g]? = some (.cells (arr4 v) e (0, 0)) → Below W.heap.size W w1 → wpList P ops Q rest (a.put o.dst (.slice (some ⟨g, 0, none⟩) 4 4)) w1) : wpList P ops Q (o :: rest) a W := by
  refine wpList_plain hgd fun K hK => ?_
  unfold Oper.wp execOp
  simp only [ho, List.map_toArray, List.map_cons, List.map_nil, h0, h1, h2, h3, Sem.run_bind, hrun, Result.andThen_ok, Sem.run_pure]
  exact hK _ _ (h _ _ (Nat.le_refl _) (heap_alloc_new W _) (below_alloc (Below.refl _ _) _))
end
def four (a b c d : Value) : Nat → Value := fun m => if m = 0 then a else if m = 1 then b else if m = 2 then c else d
theorem lit45 (W : World) (A0 A1 A2 A3 : Option Addr) (n0 n1 n2 n3 c0 c1 c2 c3 : Nat) :
    (Instr.buildSlice 45 4 #[(0, four (.slice A0 n0 c0) (.slice A1 n1 c1) (.slice A2 n2 c2) (.slice A3 n3 c3) 0), (1, four (.slice A0 n0 c0) (.slice A1 n1 c1) (.slice A2 n2 c2) (.slice A3 n3 c3) 1), (2, four (.slice A0 n0 c0) (.slice A1 n1 c1) (.slice A2 n2 c2) (.slice A3 n3 c3) 2), (3, four (.slice A0 n0 c0) (.slice A1 n1 c1) (.slice A2 n2 c2) (.slice A3 n3 c3) 3)]).run Try.prog W = .ok (.slice (some ⟨W.heap.size, 0, none⟩) 4 4) (W.alloc (.cells (arr4 (four (.slice A0 n0 c0) (.slice A1 n1 c1) (.slice A2 n2 c2) (.slice A3 n3 c3))) 39)) := by
  kernel_rfl
/-- Four rows, each made behind the one before it. -/
theorem Fr.make {Wb w1 w2 w3 w4 w : World} {gA : Nat} {a b c d : Value} {xa xb xc xd : List Int} {oka okb okc okd : Nat → Prop} (ha : Kd.R (Kd.int .i64) 3 w1 Wb.heap.size oka a xa) (hb : Kd.R (Kd.int .i64) 3 w2 w1.heap.size okb b xb) (hc : Kd.R (Kd.int .i64) 3 w3 w2.heap.size okc c xc) (hd : Kd.R (Kd.int .i64) 3 w4 w3.heap.size okd d xd)
    (b1 : Below Wb.heap.size Wb w1) (b2 : Below w1.heap.size w1 w2) (b3 : Below w2.heap.size w2 w3) (b4 : Below w3.heap.size w3 w4) (b5 : Below w4.heap.size w4 w) (hg : w4.heap.size ≤ gA) (hA : w.heap[gA]? = some (.cells (arr4 (four a b c d)) 39 (0, 0))) : Fr Wb w gA (four a b c d) (fun m => if m = 0 then xa else if m = 1 then xb else if m = 2 then xc else xd) := by
  have s1 := b1.size
  have s2 := b2.size
  have s3 := b3.size
  have s4 := b4.size
  have s5 := b5.size
  refine ⟨?_, hA, by omega, fun m hm => ?_, fun m n hm hn hne k hk hk2 => ?_⟩
  · have e2 := (Mv.of_below b2 (fun _ => False)).below b1 s1 (fun _ h => h.elim)
    have e3 := (Mv.of_below b3 (fun _ => False)).below e2 (by omega) (fun _ h => h.elim)
    have e4 := (Mv.of_below b4 (fun _ => False)).below e3 (by omega) (fun _ h => h.elim)
    exact (Mv.of_below b5 (fun _ => False)).below e4 (by omega) (fun _ h => h.elim)
  · have ra := Kd.R_mono (Kd.R_below (Kd.R_below (Kd.R_below (Kd.R_below ha b2) b3) b4) b5) (fun _ _ => trivial)
    have rb := Kd.R_mono (Kd.R_lower (Kd.R_below (Kd.R_below (Kd.R_below hb b3) b4) b5) s1) (fun _ _ => trivial)
    have rc := Kd.R_mono (Kd.R_lower (Kd.R_below (Kd.R_below hc b4) b5) (Nat.le_trans s1 s2)) (fun _ _ => trivial)
    have rd := Kd.R_mono (Kd.R_lower (Kd.R_below hd b5) (Nat.le_trans s1 (Nat.le_trans s2 s3))) (fun _ _ => trivial)
    have : m = 0 ∨ m = 1 ∨ m = 2 ∨ m = 3 := by omega
    rcases this with rfl | rfl | rfl | rfl
    · exact ra
    · exact rb
    · exact rc
    · exact rd
  · have pa : ∀ k, a.ownBlock = some k → k < w1.heap.size := fun k h => Kd.R_lt ha k h
    have pb : ∀ k, b.ownBlock = some k → w1.heap.size ≤ k ∧ k < w2.heap.size := fun k h => ⟨Kd.R_base hb k h, Kd.R_lt hb k h⟩
    have pc : ∀ k, c.ownBlock = some k → w2.heap.size ≤ k ∧ k < w3.heap.size := fun k h => ⟨Kd.R_base hc k h, Kd.R_lt hc k h⟩
    have pd : ∀ k, d.ownBlock = some k → w3.heap.size ≤ k := fun k h => Kd.R_base hd k h
    have hm4 : m = 0 ∨ m = 1 ∨ m = 2 ∨ m = 3 := by omega
    have hn4 : n = 0 ∨ n = 1 ∨ n = 2 ∨ n = 3 := by omega
    rcases hm4 with rfl | rfl | rfl | rfl <;> rcases hn4 with rfl | rfl | rfl | rfl <;> simp [four] at hk hk2 hne <;>
      first
      | (have := pa k hk; have := pb k hk2; omega) | (have := pa k hk; have := pc k hk2; omega) | (have := pa k hk; have := pd k hk2; omega)
      | (have := pb k hk; have := pa k hk2; omega) | (have := pb k hk; have := pc k hk2; omega) | (have := pb k hk; have := pd k hk2; omega)
      | (have := pc k hk; have := pa k hk2; omega) | (have := pc k hk; have := pb k hk2; omega) | (have := pc k hk; have := pd k hk2; omega)
      | (have := pd k hk; have := pa k hk2; omega) | (have := pd k hk; have := pb k hk2; omega) | (have := pd k hk; have := pc k hk2; omega)
end Go.Proofs.Ytjalkjoaepbhbaa.QA
