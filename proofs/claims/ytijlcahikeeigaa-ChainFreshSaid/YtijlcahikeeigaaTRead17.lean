/- The statement's read: the closure that asks the list and notes what is asked. -/
import Derived.Test.YtijlcahikeeigaaQAx1
import Derived.Test.YtijlcahikeeigaaTMoves
namespace Go.Proofs.Ytijlcahikeeigaa.QA
open Go.RowKit Go.Proofs.YtijlcahikeeigaaW.PrintWords Go.Proofs.YtijlcahikeeigaaW.PrintLast Go.Proofs.YtijlcahikeeigaaW.PrintMore
set_option linter.unusedVariables false
set_option linter.unusedSimpArgs false
/-- What the list answers. -/
def rec12 (l : List S43) (all : Bool) (x : Int) : S41 × Int :=
  match l.find? (fun y => decide (y.f0 = x)) with
  | some y => (y.f1, 0)
  | none => match all, l.getLast? with
    | true, some y => ({ y.f1 with f2 := wrap64 (x - 1), f8 := wrap64 (x - 1) }, 0)
    | _, _ => (z41, 110)
def tup (p : S41 × Int) : Int × Int × Int × Int × Int × Int × List Int × List Int × Int × (List (S82)) × (List (S84)) × Int :=
  (p.1.f0, p.1.f1, p.1.f2, p.1.f3, p.1.f4, p.1.f5, p.1.f6, p.1.f7, p.1.f8, p.1.f9, p.1.f10, p.2)
theorem rd_T43_lt (l : List S43) (i : Nat) (h : i < l.length) : rd_T43 l (i : Int) = l[i] := by
  simp [rd_T43, List.getD_eq_getElem?_getD, h]
theorem wr64 {x : Int} (h0 : -9223372036854775808 ≤ x) (h1 : x ≤ 9223372036854775807) : wrap64 x = x := by unfold wrap64; omega
theorem read_l0 (l : List S43) (x : Int) (all : Bool) (hn : l.length ≤ 9223372036854775807) : ∀ (d k i : Nat), i + d = l.length → d < k → (∀ j (hj : j < l.length), j < i → l[j].f0 ≠ x) →
    tidemarkref12_Read.l0 k l x all (i : Int) = some (tup (rec12 l all x)) := by
  intro d
  induction d with
  | zero =>
    intro k i hi hk hno
    obtain ⟨k, rfl⟩ : ∃ m, k = m + 1 := ⟨k - 1, by omega⟩
    have hf : l.find? (fun y => decide (y.f0 = x)) = none := by
      rw [List.find?_eq_none]
      intro y hy
      obtain ⟨j, hj, rfl⟩ := List.getElem_of_mem hy
      simpa using hno j hj (by omega)
    simp only [tidemarkref12_Read.l0]
    rw [if_neg (by omega)]
    unfold rec12
    rw [hf]
    cases all with
    | false => simp [tup, z41]
    | true =>
      rw [if_pos rfl]
      by_cases hl : l = []
      · subst hl; simp [tup, z41]
      · have hpos : 0 < l.length := List.length_pos_iff.2 hl
        rw [if_pos (by omega), wr64 (x := (l.length : Int) - 1) (by omega) (by omega), if_pos (by omega), if_pos (by omega)]
        have e : (l.length : Int) - 1 = ((l.length - 1 : Nat) : Int) := by omega
        rw [e, rd_T43_lt l (l.length - 1) (by omega)]
        rw [List.getLast?_eq_getElem?, List.getElem?_eq_getElem (by omega)]
        rfl
  | succ d ih =>
    intro k i hi hk hno
    obtain ⟨k, rfl⟩ : ∃ m, k = m + 1 := ⟨k - 1, by omega⟩
    have hlt : i < l.length := by omega
    simp only [tidemarkref12_Read.l0]
    rw [if_pos (by omega), if_pos (by omega), rd_T43_lt l i hlt, wr64 (by omega) (by omega)]
    by_cases h : l[i].f0 = x
    · rw [if_pos h]
      have hf : l.find? (fun y => decide (y.f0 = x)) = some l[i] := by
        rw [List.find?_eq_some_iff_getElem]
        refine ⟨by simpa using h, i, hlt, rfl, fun j hj => ?_⟩
        simpa using hno j (by omega) hj
      unfold rec12
      rw [hf]
      rfl
    · rw [if_neg h]
      refine ih k (i + 1) (by omega) (by omega) (fun j hj hlt2 => ?_)
      rcases Nat.lt_or_ge j i with h2 | h2
      · exact hno j hj h2
      · obtain rfl : j = i := by omega
        exact h
theorem read_is (l : List S43) (x : Int) (all : Bool) (hn : l.length ≤ 9223372036854775807) : tidemarkref12_Read.f (l.length + 1) l x all = some (tup (rec12 l all x)) :=
  read_l0 l x all hn l.length _ 0 (by omega) (by omega) (fun j _ hj => by omega)
/-- What the closure reaches: the list that is asked, and the list of what was asked. -/
structure Ask (W0 w : World) (ga gl gb : Nat) (A0 : Option Addr) (c0 : Nat) (l : List S43) (all : Bool) (va : Value) (asked : List Int) (ok : Nat → Prop) : Prop where
  bel : Below W0.heap.size W0 w
  ha : w.heap[ga]? = some (.cells #[va] 23 (0, 0))
  hl : w.heap[gl]? = some (.cells #[.slice A0 l.length c0] 22 (0, 0))
  hb : w.heap[gb]? = some (.cells #[.bool all] 4 (0, 0))
  hr : Kd.R (Kd.int .i64) 3 w W0.heap.size (fun k => (k ≠ ga ∧ k ≠ gl ∧ k ≠ gb) ∧ ok k) va asked
  la : W0.heap.size ≤ ga
  ll : W0.heap.size ≤ gl
  lb : W0.heap.size ≤ gb
/-- What a call of the closure may change. -/
def Wr (ga : Nat) (va : Value) (k : Nat) : Prop := k = ga ∨ some k = va.ownBlock
theorem Ask.size {W0 w : World} {ga gl gb : Nat} {A0 : Option Addr} {c0 : Nat} {l : List S43} {all : Bool} {va : Value} {asked : List Int} {ok : Nat → Prop} (h : Ask W0 w ga gl gb A0 c0 l all va asked ok) : W0.heap.size ≤ w.heap.size := h.bel.size
/-- Kept through what leaves its blocks alone. -/
theorem Ask.move {W0 w w1 : World} {ga gl gb : Nat} {A0 : Option Addr} {c0 : Nat} {l : List S43} {all : Bool} {va : Value} {asked : List Int} {ok S : Nat → Prop} (h : Ask W0 w ga gl gb A0 c0 l all va asked ok) (hm : Mv w w1 S) (hS : ∀ k, S k → W0.heap.size ≤ k)
    (ha : ¬ S ga) (hl : ¬ S gl) (hb : ¬ S gb) (hok : ∀ k, ok k → ¬ S k) : Ask W0 w1 ga gl gb A0 c0 l all va asked ok :=
  ⟨hm.below h.bel h.size hS, hm.blk h.ha ha, hm.blk h.hl hl, hm.blk h.hb hb, Kd.R_kept h.hr hm.kept (fun k hk => hok k hk.2), h.la, h.ll, h.lb⟩
theorem Ask.below {W0 w w1 : World} {ga gl gb : Nat} {A0 : Option Addr} {c0 : Nat} {l : List S43} {all : Bool} {va : Value} {asked : List Int} {ok : Nat → Prop} (h : Ask W0 w ga gl gb A0 c0 l all va asked ok) (hb : Below w.heap.size w w1) : Ask W0 w1 ga gl gb A0 c0 l all va asked ok :=
  h.move (Mv.of_below hb (fun _ => False)) (fun _ hk => hk.elim) id id id (fun _ _ => id)
theorem Ask.mono {W0 w : World} {ga gl gb : Nat} {A0 : Option Addr} {c0 : Nat} {l : List S43} {all : Bool} {va : Value} {asked : List Int} {ok ok' : Nat → Prop} (h : Ask W0 w ga gl gb A0 c0 l all va asked ok) (hk : ∀ k, ok k → ok' k) : Ask W0 w ga gl gb A0 c0 l all va asked ok' :=
  ⟨h.bel, h.ha, h.hl, h.hb, Kd.R_mono h.hr (fun k h2 => ⟨h2.1, hk k h2.2⟩), h.la, h.ll, h.lb⟩
/-- A block that is new is none of the row's. -/
theorem Ask.apart {W0 w : World} {ga gl gb : Nat} {A0 : Option Addr} {c0 : Nat} {l : List S43} {all : Bool} {va : Value} {asked : List Int} {ok : Nat → Prop} (h : Ask W0 w ga gl gb A0 c0 l all va asked ok) (g : Nat) (hg : w.heap.size ≤ g) : Ask W0 w ga gl gb A0 c0 l all va asked (fun k => ok k ∧ k ≠ g) :=
  ⟨h.bel, h.ha, h.hl, h.hb, Kd.R_mono (Kd.R_bound h.hr) (fun k h2 => ⟨h2.1.1, h2.1.2, by have := h2.2.2.1; omega⟩), h.la, h.ll, h.lb⟩
set_option maxHeartbeats 1600000 in
set_option maxRecDepth 100000 in
theorem read17 {W0 w : World} {ga gl gb : Nat} {A0 : Option Addr} {c0 : Nat} {l : List S43} {all : Bool} {va : Value} {asked : List Int} {ok : Nat → Prop} (x : Int) (hn : l.length ≤ 9223372036854775807)
    (h0 : Kd.C k43 W0 A0 l.length l) (hc0 : l.length ≤ c0) (h : Ask W0 w ga gl gb A0 c0 l all va asked ok) (hfresh : ∀ k, w.heap.size ≤ k → ok k) (hlen : asked.length < 5000) :
    Calls Try.prog 17 #[.int .i64 x, .pointer (some ⟨ga, 0, none⟩), .pointer (some ⟨gl, 0, none⟩), .pointer (some ⟨gb, 0, none⟩)] w fun e w' => ∃ (n6 n7 n9 n10 c6 c7 c9 c10 : Nat) (A6 A7 A9 A10 : Option Addr) (va' : Value),
      e = .returned (.tuple #[.agg #[.int .i64 (rec12 l all x).1.f0, .int .i64 (rec12 l all x).1.f1, .int .i64 (rec12 l all x).1.f2, .int .i64 (rec12 l all x).1.f3, .int .i64 (rec12 l all x).1.f4, .int .i64 (rec12 l all x).1.f5, .slice A6 n6 c6, .slice A7 n7 c7, .int .i64 (rec12 l all x).1.f8, .slice A9 n9 c9, .slice A10 n10 c10], .int .i64 (rec12 l all x).2]) ∧
      Ask W0 w' ga gl gb A0 c0 l all va' (asked ++ [x]) ok ∧ Mv w w' (Wr ga va) ∧ (va'.ownBlock = va.ownBlock ∨ ∃ b, va'.ownBlock = some b ∧ w.heap.size ≤ b) := by
  have hu41 := Try.underlying41
  have hsz := h.size
  obtain ⟨Aa, ca, rfl⟩ := Kd.R_slice h.hr
  have hrow := h.hr
  have hne1 : gl ≠ ga := blk_ne h.hl h.ha (by decide)
  have hne2 : gb ≠ ga := blk_ne h.hb h.ha (by decide)
  have hga := blk_lt h.ha
  go_enter Try.func17, Try.ntmps17
  go_wp2_with (first
    | ((with_reducible refine gate_dst (N := 5) rfl ?_); refine box_event ?hg (N := 5) ?hd (cs := #[.int .i64 0, .int .i64 0, .int .i64 0, .int .i64 0, .int .i64 0, .int .i64 0, .slice none 0 0, .slice none 0 0, .int .i64 0, .slice none 0 0, .slice none 0 0]) (t := 41) ?hr ?_; (case hd => rfl); (case hg => rfl); (case hr => first | (go_simp; done) | (go_simp; rfl)); intro g5 hg5 w1 hb5 hbel
       have h1 := Aside0.mk ((h.apart g5 (by omega)).below hbel)
       have m1 := Aside0.mk (Mv.of_below hbel (Wr ga (.slice Aa asked.length ca)))
       have hcA : w1.cell? ⟨ga, 0, none⟩ = some (.slice Aa asked.length ca) := (blk_cell h1.out.ha 0).trans rfl
       have hlt := decide_eq_true (show ((asked.length : Nat) : Int) < 5000 by omega)
       have B5 := Aside0.mk hb5
       have n5 := Aside0.mk (show w.heap.size ≤ g5 by omega)
       clear hb5 hbel hg5)
    | ((with_reducible refine gate_builtin (b := .append) (xs := #[.tmp 12, .tmp 14]) rfl ?_); at_builtin; refine Kd.R_append (Kd.int .i64) (w0 := W0) W0.heap.size rfl (.tmp 12) (.tmp 14) 23 3 (.int .i64 0) 8 rfl Try.underlying23 info3 rfl (by decide) (by omega) (.slice Aa asked.length ca) asked x [.int .i64 x] (fun k => (k ≠ ga ∧ k ≠ gl ∧ k ≠ gb) ∧ (ok k ∧ k ≠ g5)) (fun _ => False) rfl rfl ?aP (fun _ hk => hk.elim) ?aF ?aO ?aB ?aS ?aL ?_
       (case aP => exact rfl)
       (case aF => exact fun k hk => ⟨⟨by have := blk_lt h1.out.ha; omega, by have := blk_lt h1.out.hl; omega, by have := blk_lt h1.out.hb; omega⟩, hfresh k (Nat.le_trans m1.out.size hk), by have := blk_lt B5.out; omega⟩)
       (case aO => exact h1.out.hr)
       (case aB => exact h1.out.bel)
       (case aS => exact h1.out.size)
       (case aL => omega)
       intro va' w2 ho hbB hgr hat
       have g2 := Aside0.mk (Mv.of_grown hgr)
       have ho2 := Aside0.mk ho
       have hB2 := Aside0.mk hbB
       have hat2 := Aside0.mk hat
       have a2 := Aside0.mk (blk_grown h1.out.ha hgr (fun he => (h1.out.hr.1 ga he.symm).1.1 rfl))
       have l2 := Aside0.mk (blk_grown h1.out.hl hgr (fun he => (h1.out.hr.1 gl he.symm).1.2.1 rfl))
       have b2 := Aside0.mk (blk_grown h1.out.hb hgr (fun he => (h1.out.hr.1 gb he.symm).1.2.2 rfl))
       have h52 := Aside0.mk (blk_grown B5.out hgr (fun he => by have := Kd.R_lt hrow g5 he.symm; have := n5.out; omega))
       have hfA : w2.frozen? ⟨ga, 0, none⟩ = false := blk_frozen a2.out 0
       have hcA2 : w2.cell? ⟨ga, 0, none⟩ = some (.slice Aa asked.length ca) := (blk_cell a2.out 0).trans rfl
       obtain ⟨Ab, cb, rfl⟩ := Kd.R_slice ho
       clear ho hbB hgr hat)
    | ((with_reducible refine gate_store (t := 23) (p := 1) (v := .tmp 15) rfl ?_); refine store1_event (g := ga) (i := 0) (v := .slice Ab (asked ++ [x]).length cb) rfl a2.out ?hr ?_; (case hr => first | (go_simp; done) | (go_simp; rfl))
       intro w3 a3 m3
       have h3 := Aside0.mk (show Ask W0 w3 ga gl gb A0 c0 l all (.slice Ab (asked ++ [x]).length cb) (asked ++ [x]) (fun k => ok k ∧ k ≠ g5) from
         ⟨m3.below hB2.out (Nat.le_trans h1.out.size g2.out.size) (fun k hk => by rw [hk]; exact h.la), a3, m3.blk l2.out hne1, m3.blk b2.out hne2, Kd.R_kept ho2.out m3.kept (fun k hk => hk.1.1), h.la, h.ll, h.lb⟩)
       have m13 := Aside0.mk ((m1.out.then_ g2.out (fun k hk => .inl (.inr hk))).then_ m3 (fun k hk => .inl (.inl hk)))
       have B53 := Aside0.mk (m3.blk h52.out (by have := n5.out; omega))
       have hcL : w3.cell? ⟨gl, 0, none⟩ = some (.slice A0 l.length c0) := (blk_cell h3.out.hl 0).trans rfl
       have hcB : w3.cell? ⟨gb, 0, none⟩ = some (.bool all) := (blk_cell h3.out.hb 0).trans rfl
       clear a3 m3)
    | ((with_reducible refine gate_callee (f := 18) rfl ?_); refine goesL_ (some 20) rfl rfl Try.func18 (by kernel_rfl) rfl #[.slice A0 l.length c0, .int .i64 x, .bool all] rfl (by (try simp only [List.map_toArray, List.map_cons, List.map_nil]); first | done | rfl) ?_
       refine (tidemarkref12_Read.calls (l.length + 1) (fun k => k < w3.heap.size) A0 c0 l x all _ _ _ _ _ _ _ _ _ _ _ _ w3 (Kd.V_mk hc0 (Kd.C_F k43_heap (Kd.C_below h0 h3.out.bel))) (read_is l x all hn)).mono ?_
       rintro e w4 ⟨v6, v7, v9, v10, rfl, hv6, hv7, hv9, hv10, hb4⟩
       refine ⟨_, rfl, ?_⟩
       obtain ⟨A6, c6, rfl⟩ := Kd.V_slice hv6
       obtain ⟨A7, c7, rfl⟩ := Kd.V_slice hv7
       obtain ⟨A9, c9, rfl⟩ := Kd.V_slice hv9
       obtain ⟨A10, c10, rfl⟩ := Kd.V_slice hv10
       have h4 := Aside0.mk (h3.out.below hb4)
       have m14 := Aside0.mk (m13.out.then_ (Mv.of_below hb4 (fun _ => False)) (fun _ hk => hk.elim))
       have B54 := Aside0.mk (blk_below B53.out hb4)
       clear hv6 hv7 hv9 hv10 hb4)
    | ((with_reducible refine gate_dst (N := 7) rfl ?_); refine box_event ?hg (N := 7) ?hd (cs := #[.int .i64 0, .int .i64 0, .int .i64 0, .int .i64 0, .int .i64 0, .int .i64 0, .slice none 0 0, .slice none 0 0, .int .i64 0, .slice none 0 0, .slice none 0 0]) (t := 41) ?hr ?_; (case hd => rfl); (case hg => rfl); (case hr => first | (go_simp; done) | (go_simp; rfl)); intro g7 hg7 w5 hb7 hbel
       have h5 := Aside0.mk ((h4.out.apart g7 (by omega)).below hbel)
       have m15 := Aside0.mk (m14.out.then_ (Mv.of_below hbel (fun _ => False)) (fun _ hk => hk.elim))
       have B55 := Aside0.mk (blk_below B54.out hbel)
       have B75 := Aside0.mk hb7
       have n7 := Aside0.mk (show w.heap.size ≤ g7 by have := m14.out.size; omega)
       have e7 := Aside0.mk (show g5 < g7 by have := blk_lt B54.out; omega)
       clear hb7 hbel hg7)
    | ((with_reducible refine gate_store (t := 41) (p := 7) (v := .tmp 21) rfl ?_); refine store_event rfl rfl (g := g7) rfl rfl B75.out (by kernel_rfl) rfl (by simp [Value.oneCell']) ?_
       intro w6 hb6 m6
       have h6 := Aside0.mk (h5.out.move m6 (fun k hk => by rw [hk]; have := h.size; have := n7.out; omega) (fun hk => by have := n7.out; omega) (fun hk => by have := blk_lt h.hl; have := n7.out; omega) (fun hk => by have := blk_lt h.hb; have := n7.out; omega) (fun k hk he => hk.2 he))
       have m16 := Aside0.mk (m15.out.then_ m6 (fun k hk => .inr (by rw [hk]; exact n7.out)))
       have B76 := Aside0.mk hb6
       have B56 := Aside0.mk (m6.blk B55.out (by have := e7.out; omega))
       clear hb6 m6)
    | ((with_reducible refine gate_dst (N := 23) rfl ?_); refine wpList_load_row rfl 41 (.tmp 7) rfl g7 rfl 41 _ (0, 0) _ B76.out Try.underlying41 rfl (by kernel_rfl) ?_; clear B76)
    | ((with_reducible refine gate_store (t := 41) (p := 5) (v := .tmp 23) rfl ?_); refine store_event rfl rfl (g := g5) rfl rfl B56.out (by kernel_rfl) rfl (by simp [Value.oneCell']) ?_
       intro w7 hb57 m7
       have h7 := Aside0.mk (show Ask W0 w7 ga gl gb A0 c0 l all (.slice Ab (asked ++ [x]).length cb) (asked ++ [x]) (fun k => (ok k ∧ k ≠ g5) ∧ k ≠ g7) from h6.out.move m7 (fun k hk => by rw [hk]; have := h.size; have := n5.out; omega) (fun hk => by have := n5.out; omega) (fun hk => by have := blk_lt h.hl; have := n5.out; omega) (fun hk => by have := blk_lt h.hb; have := n5.out; omega) (fun k hk he => hk.1.2 he))
       have m17 := Aside0.mk (m16.out.then_ m7 (fun k hk => .inr (by rw [hk]; exact n5.out)))
       have B57 := Aside0.mk hb57
       clear hb57 m7))
  refine bodyPost_ret (results_ct rfl _ _ g5 41 _ (0, 0) _ rfl B57.out Try.underlying41 rfl (by kernel_rfl)) rfl ?_
  exact ⟨_, _, _, _, _, _, _, _, _, _, _, _, _, rfl, h7.out.mono (fun k hk => hk.1.1), m17.out, hat2.out.imp id (fun ⟨b, hb, hle⟩ => ⟨b, hb, Nat.le_trans m1.out.size hle⟩)⟩
end Go.Proofs.Ytijlcahikeeigaa.QA
