/- The plain law of chapter 12: what both calls leave, over any records. -/
import Derived.Test.YtijlcahikeeigaaPureUndo
import Derived.Test.YtijlcahikeeigaaQAx20
namespace Go.Proofs.Ytijlcahikeeigaa.Pure
open Go.RowKit Go.Proofs.Ytijlcahikeeigaa.QA Go.Proofs.YtijlcahikeeigaaW.PrintWords Go.Proofs.YtijlcahikeeigaaW.PrintLast
set_option linter.unusedVariables false
set_option linter.unusedSimpArgs false
theorem at_good {l : List S43} {all : Bool} {birth : Int} {asked : List Int} {x : Int} (h : (atF l all birth asked x).1.2 = 0) :
    asked.length ≠ 4096 ∧ (atF l all birth asked x).2.2 = asked ++ [x] ∧ ((atF l all birth asked x).1.1.f0 ≠ 1 → 1 ≤ (atF l all birth asked x).2.1) := by
  have hne : asked.length ≠ 4096 := by
    intro hc
    unfold atF at h
    rw [if_pos hc] at h
    exact absurd h (show (120 : Int) ≠ 0 by decide)
  have hasked := atF_asked l all birth asked x
  rw [if_neg hne] at hasked
  refine ⟨hne, hasked, ?_⟩
  have hat := atF_is l all birth asked x hne
  by_cases he : (rec12 l all x).2 = 0
  · rw [if_neg (fun h => h he)] at hat
    generalize (rec12 l all x).1 = r at hat
    generalize (if r.f0 = 1 then x else r.f1) = b at hat
    generalize (if asked.length = 0 then b else birth) = bi at hat
    by_cases hh : hang r x b bi = 0
    · rw [if_neg (fun h => h hh)] at hat
      rw [hat]
      exact fun h1 => hang_pos hh h1
    · rw [if_pos hh] at hat
      rw [hat] at h
      exact absurd h (show (120 : Int) ≠ 0 by decide)
  · rw [if_pos he] at hat
    rw [hat] at h
    exact absurd h he
/-- What stands at the head of a round. -/
structure Inv (x : Int) (out asked : List Int) : Prop where
  pos : 0 < x
  pw : asked.Pairwise (· > ·)
  above : ∀ y ∈ asked, x < y
  sub : out.Sublist asked
  len : asked.length ≤ 4096
/-- What is left at the end. -/
structure Good (x : Int) (asked : List Int) (R : List Int × Int × List Int) : Prop where
  pw : R.2.2.Pairwise (· > ·)
  one : ∀ y ∈ R.2.2, 1 ≤ y
  len : R.2.2.length ≤ 4096
  sub : R.1.Sublist R.2.2
  err : R.2.1 ≠ 0 → R.1 = []
  head : ∃ t, R.2.2 = asked ++ t ∧ (asked.length < 4096 → ∃ t', t = x :: t')
theorem Inv.snoc_pw {x : Int} {out asked : List Int} (h : Inv x out asked) : (asked ++ [x]).Pairwise (· > ·) :=
  List.pairwise_append.2 ⟨h.pw, List.pairwise_singleton _ _, fun a ha b hb => by rw [List.mem_singleton.1 hb]; exact h.above a ha⟩
theorem Inv.snoc_one {x : Int} {out asked : List Int} (h : Inv x out asked) : ∀ y ∈ asked ++ [x], 1 ≤ y := by
  intro y hy
  have := h.pos
  rcases List.mem_append.1 hy with hy | hy
  · have := h.above y hy; omega
  · rw [List.mem_singleton.1 hy]; omega
/-- An end behind the read at x. -/
theorem Inv.done {x : Int} {out asked : List Int} (h : Inv x out asked) (hne : asked.length ≠ 4096) (o : List Int) (e : Int) (ho : o.Sublist (asked ++ [x])) (he : e ≠ 0 → o = []) : Good x asked (o, e, asked ++ [x]) :=
  ⟨h.snoc_pw, h.snoc_one, by have := h.len; simp; omega, ho, he, [x], rfl, fun _ => ⟨[], rfl⟩⟩
theorem Inv.full {x : Int} {out asked : List Int} (h : Inv x out asked) (hc : asked.length = 4096) (e : Int) : Good x asked ([], e, asked) :=
  ⟨h.pw, fun y hy => by have := h.above y hy; have := h.pos; omega, h.len, List.nil_sublist _, fun _ => rfl, [], by simp, fun hlt => by omega⟩
theorem Inv.next {x y : Int} {out out2 asked : List Int} (h : Inv x out asked) (hne : asked.length ≠ 4096) (h0 : 0 < y) (h1 : y < x) (ho : out2.Sublist (asked ++ [x])) : Inv y out2 (asked ++ [x]) :=
  ⟨h0, h.snoc_pw, fun z hz => by
    rcases List.mem_append.1 hz with hz | hz
    · have := h.above z hz; omega
    · rw [List.mem_singleton.1 hz]; exact h1, ho, by have := h.len; simp; omega⟩
theorem Good.back {x y : Int} {asked : List Int} {R : List Int × Int × List Int} (h : Good y (asked ++ [x]) R) : Good x asked R := by
  obtain ⟨t, ht, _⟩ := h.head
  exact ⟨h.pw, h.one, h.len, h.sub, h.err, x :: t, by rw [ht, List.append_assoc]; rfl, fun _ => ⟨t, rfl⟩⟩
theorem at_asked_cases (l : List S43) (all : Bool) (birth : Int) (asked : List Int) (x : Int) : (asked.length = 4096 ∧ (atF l all birth asked x).2.2 = asked) ∨ (asked.length ≠ 4096 ∧ (atF l all birth asked x).2.2 = asked ++ [x]) := by
  have := atF_asked l all birth asked x
  by_cases h : asked.length = 4096
  · rw [if_pos h] at this; exact .inl ⟨h, this⟩
  · rw [if_neg h] at this; exact .inr ⟨h, this⟩
theorem back_good (l : List S43) (all : Bool) : ∀ (K : Nat) (x : Int) (out asked : List Int) (birth : Int) (R : List Int × Int × List Int), backL l all K x out birth asked = some R → Inv x out asked → Good x asked R := by
  intro K
  induction K with
  | zero => intro x out asked birth R h; cases h
  | succ K ih =>
    intro x out asked birth R h hi
    simp only [backL] at h
    by_cases he : (atF l all birth asked x).1.2 = 0
    · obtain ⟨hne, hasked, hpos⟩ := at_good he
      rw [if_neg (fun h => h he), hasked] at h
      by_cases h1 : (atF l all birth asked x).1.1.f0 = 1
      · rw [if_pos h1] at h
        obtain rfl := Option.some.inj h
        exact hi.done hne _ _ (hi.sub.append (List.Sublist.refl _)) (fun h => absurd rfl h)
      · rw [if_neg h1] at h
        by_cases h2 : (atF l all birth asked x).2.1 ≤ (atF l all birth asked x).1.1.f2 ∧ (atF l all birth asked x).1.1.f2 < x
        · rw [if_pos h2] at h
          have := hpos h1
          exact (ih _ _ _ _ R h (hi.next hne (by omega) h2.2 (hi.sub.append (List.Sublist.refl _)))).back
        · rw [if_neg h2] at h
          obtain rfl := Option.some.inj h
          exact hi.done hne _ _ (List.nil_sublist _) (fun _ => rfl)
    · rw [if_pos he] at h
      obtain rfl := Option.some.inj h
      rcases at_asked_cases l all birth asked x with ⟨hc, ha⟩ | ⟨hne, ha⟩
      · rw [ha]; exact hi.full hc _
      · rw [ha]; exact hi.done hne _ _ (List.nil_sublist _) (fun _ => rfl)
theorem undoOut_sub {r : S41} {x : Int} {out asked : List Int} (h : out.Sublist asked) : (undoOut r x out).Sublist (asked ++ [x]) := by
  unfold undoOut
  split
  · exact h.append (List.Sublist.refl _)
  · exact h.trans (List.sublist_append_left _ _)
theorem undo_good (l : List S43) (all : Bool) : ∀ (K : Nat) (x : Int) (out asked : List Int) (birth : Int) (must : Bool) (R : List Int × Int × List Int), undoL l all K x out must birth asked = some R → Inv x out asked → Good x asked R := by
  intro K
  induction K with
  | zero => intro x out asked birth must R h; cases h
  | succ K ih =>
    intro x out asked birth must R h hi
    simp only [undoL] at h
    have hsub : out.Sublist (asked ++ [x]) := hi.sub.trans (List.sublist_append_left _ _)
    by_cases he : (atF l all birth asked x).1.2 = 0
    · obtain ⟨hne, hasked, hpos⟩ := at_good he
      rw [if_neg (fun h => h he), hasked] at h
      by_cases h0 : must = true ∧ (atF l all birth asked x).1.1.f0 ≠ 2
      · rw [if_pos h0] at h
        obtain rfl := Option.some.inj h
        exact hi.done hne _ _ (List.nil_sublist _) (fun _ => rfl)
      rw [if_neg h0] at h
      by_cases h1 : (atF l all birth asked x).1.1.f0 = 1
      · rw [if_pos h1] at h
        obtain rfl := Option.some.inj h
        exact hi.done hne _ _ hsub (fun h => absurd rfl h)
      rw [if_neg h1] at h
      have hp := hpos h1
      by_cases h3 : (atF l all birth asked x).1.1.f0 = 3
      · rw [if_pos h3] at h
        by_cases h8 : (atF l all birth asked x).1.1.f8 = 0
        · rw [if_pos h8] at h
          obtain rfl := Option.some.inj h
          exact hi.done hne _ _ hsub (fun h => absurd rfl h)
        rw [if_neg h8] at h
        by_cases h2 : (atF l all birth asked x).2.1 ≤ (atF l all birth asked x).1.1.f8 ∧ (atF l all birth asked x).1.1.f8 < x
        · rw [if_pos h2] at h
          exact (ih _ _ _ _ _ R h (hi.next hne (by omega) h2.2 hsub)).back
        · rw [if_neg h2] at h
          obtain rfl := Option.some.inj h
          exact hi.done hne _ _ (List.nil_sublist _) (fun _ => rfl)
      · rw [if_neg h3] at h
        by_cases h2 : (atF l all birth asked x).2.1 ≤ (atF l all birth asked x).1.1.f2 ∧ (atF l all birth asked x).1.1.f2 < x
        · rw [if_pos h2] at h
          exact (ih _ _ _ _ _ R h (hi.next hne (by omega) h2.2 (undoOut_sub hi.sub))).back
        · rw [if_neg h2] at h
          obtain rfl := Option.some.inj h
          exact hi.done hne _ _ (List.nil_sublist _) (fun _ => rfl)
    · rw [if_pos he] at h
      obtain rfl := Option.some.inj h
      rcases at_asked_cases l all birth asked x with ⟨hc, ha⟩ | ⟨hne, ha⟩
      · rw [ha]; exact hi.full hc _
      · rw [ha]; exact hi.done hne _ _ (List.nil_sublist _) (fun _ => rfl)
/-- falls -/
theorem rd_lt' (l : List Int) (i : Nat) (h : i < l.length) : rd l (i : Int) = l[i] := by
  simp [rd, List.getD_eq_getElem?_getD, h]
theorem falls_l0 (a : List Int) (hn : a.length ≤ 9223372036854775806) (hp : a.Pairwise (· > ·)) (h1 : ∀ y ∈ a, 1 ≤ y) : ∀ (d k i : Nat), i + d = a.length → d < k → tidemarklaw12_falls.l0 k a (i : Int) = some true := by
  intro d
  induction d with
  | zero =>
    intro k i hi hk
    obtain ⟨k, rfl⟩ : ∃ m, k = m + 1 := ⟨k - 1, by omega⟩
    simp only [tidemarklaw12_falls.l0]
    rw [if_neg (by omega)]
  | succ d ih =>
    intro k i hi hk
    obtain ⟨k, rfl⟩ : ∃ m, k = m + 1 := ⟨k - 1, by omega⟩
    have hlt : i < a.length := by omega
    have hone := h1 a[i] (List.getElem_mem hlt)
    simp only [tidemarklaw12_falls.l0]
    rw [if_pos (by omega), if_pos (by omega), rd_lt' a i hlt, if_neg (by omega), wr64 (x := (i : Int) + 1) (by omega) (by omega)]
    have hnext := ih k (i + 1) (by omega) (by omega)
    by_cases h0 : (i : Int) > 0
    · rw [if_pos h0, wr64 (by omega) (by omega), if_pos (by omega), if_pos (by omega)]
      have e : (i : Int) - 1 = ((i - 1 : Nat) : Int) := by omega
      rw [e, rd_lt' a (i - 1) (by omega)]
      have := List.pairwise_iff_getElem.1 hp (i - 1) i (by omega) hlt (by omega)
      rw [if_neg (by omega)]
      exact hnext
    · rw [if_neg h0]
      exact hnext
theorem falls_is (a : List Int) (hn : a.length ≤ 9223372036854775806) (hp : a.Pairwise (· > ·)) (h1 : ∀ y ∈ a, 1 ≤ y) (k : Nat) (hk : a.length < k) : tidemarklaw12_falls.f k a = some true :=
  falls_l0 a hn hp h1 a.length k 0 (by omega) hk
end Go.Proofs.Ytijlcahikeeigaa.Pure
