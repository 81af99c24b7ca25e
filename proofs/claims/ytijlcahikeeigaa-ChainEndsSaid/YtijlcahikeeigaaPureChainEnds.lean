/- ChainEnds' plain law. -/
import Derived.Test.YtijlcahikeeigaaPureEnds
namespace Go.Proofs.Ytijlcahikeeigaa.Pure
open Go.RowKit Go.Proofs.Ytijlcahikeeigaa.QA Go.Proofs.YtijlcahikeeigaaW.PrintWords Go.Proofs.YtijlcahikeeigaaW.PrintLast
set_option linter.unusedVariables false
set_option linter.unusedSimpArgs false
structure Told (x : Int) (R : List Int × Int × List Int) : Prop where
  pw : R.2.2.Pairwise (· > ·)
  one : ∀ y ∈ R.2.2, 1 ≤ y
  len : R.2.2.length ≤ 4096
  sub : R.1.Sublist R.2.2
  err : R.2.1 ≠ 0 → R.1 = []
  none_ : x ≤ 0 → R.2.2 = []
  first : 0 < x → ∃ t, R.2.2 = x :: t
  zero : x = 0 → R.2.1 = 0
  neg : x < 0 → R.2.1 = 120
theorem told_empty (x : Int) (h : x ≤ 0) : Told x ([], (if x < 0 then 120 else 0), []) :=
  ⟨List.Pairwise.nil, by simp, by simp, List.Sublist.refl _, fun _ => rfl, fun _ => rfl, fun h2 => by omega, fun h2 => if_neg (by omega), fun h2 => if_pos h2⟩
theorem told_good {x : Int} {R : List Int × Int × List Int} (hx : 0 < x) (h : Good x [] R) : Told x R := by
  obtain ⟨t, ht, hh⟩ := h.head
  obtain ⟨t', ht'⟩ := hh (by simp)
  exact ⟨h.pw, h.one, h.len, h.sub, h.err, fun h2 => by omega, fun _ => ⟨t', by rw [ht, ht']; rfl⟩, fun h2 => by omega, fun h2 => by omega⟩
theorem inv_start {x : Int} (hx : 0 < x) : Inv x [] [] := ⟨hx, List.Pairwise.nil, by simp, List.Sublist.refl _, by simp⟩
theorem told_asking (l : List S43) (all undo : Bool) (x : Int) (hn : l.length ≤ 9223372036854775807) (K : Nat) (hK : 12288 + l.length + 5 ≤ K) : ∃ R, tidemarklaw12_asking.f K l all undo x = some R ∧ Told x R := by
  unfold tidemarklaw12_asking.f
  cases undo with
  | true =>
    obtain ⟨R, h, _⟩ := undo_is l all hn x K hK
    refine ⟨R, by rw [if_pos rfl]; exact h, ?_⟩
    unfold undoF at h
    by_cases hx : x ≤ 0
    · rw [if_pos hx] at h
      obtain rfl := Option.some.inj h
      exact told_empty x hx
    · rw [if_neg hx] at h
      exact told_good (by omega) (undo_good l all K x [] [] 0 true R h (inv_start (by omega)))
  | false =>
    obtain ⟨R, h, _⟩ := back_is l all hn x K (by omega)
    refine ⟨R, by rw [if_neg (by simp)]; exact h, ?_⟩
    unfold backF at h
    by_cases hx : x ≤ 0
    · rw [if_pos hx] at h
      obtain rfl := Option.some.inj h
      exact told_empty x hx
    · rw [if_neg hx] at h
      exact told_good (by omega) (back_good l all K x [] [] 0 R h (inv_start (by omega)))
theorem scan (l : List S43) (all : Bool) (x i : Int) (a p : List Int) (ha : a.length ≤ 4096) (hp : p.length ≤ 4096) (M : Nat) (hM : ∀ K, M ≤ K → tidemarklaw12_ChainEnds.l0 K l all x (wrap64 (i + 1)) = some true) :
    ∀ (n K at_ j : Nat), 2 * (a.length - j) + (p.length - at_) ≤ n → j ≤ a.length → at_ ≤ p.length → M + 2 * n + 3 ≤ K → (a.drop j).Sublist (p.drop at_) →
      tidemarklaw12_ChainEnds.l1 K l all x i a p (at_ : Int) (j : Int) = some true ∧ (j < a.length → tidemarklaw12_ChainEnds.l2 (K - 1) l all x i a p (at_ : Int) (j : Int) = some true) := by
  intro n
  induction n with
  | zero =>
    intro K at_ j hm hj hat hK hs
    obtain ⟨K, rfl⟩ : ∃ m, K = m + 1 := ⟨K - 1, by omega⟩
    refine ⟨?_, fun h => by omega⟩
    simp only [tidemarklaw12_ChainEnds.l1]
    rw [if_neg (by omega)]
    exact hM K (by omega)
  | succ n ih =>
    intro K at_ j hm hj hat hK hs
    have h2 : j < a.length → tidemarklaw12_ChainEnds.l2 (K - 1) l all x i a p (at_ : Int) (j : Int) = some true := by
      intro hlt
      obtain ⟨K, rfl⟩ : ∃ m, K = m + 2 := ⟨K - 2, by omega⟩
      show tidemarklaw12_ChainEnds.l2 (K + 1) l all x i a p (at_ : Int) (j : Int) = some true
      simp only [tidemarklaw12_ChainEnds.l2]
      have hda : a.drop j = a[j] :: a.drop (j + 1) := (List.getElem_cons_drop hlt).symm
      rw [hda] at hs
      by_cases hp2 : at_ < p.length
      · have hdp : p.drop at_ = p[at_] :: p.drop (at_ + 1) := (List.getElem_cons_drop hp2).symm
        rw [if_pos (by omega), if_pos (by omega), if_pos (by omega), if_pos (by omega), rd_lt' p at_ hp2, rd_lt' a j hlt]
        by_cases he : p[at_] = a[j]
        · rw [if_pos he, if_neg (by omega), wr64 (by omega) (by omega)]
          have hs2 : (a.drop (j + 1)).Sublist (p.drop at_) := (List.sublist_cons_self _ _).trans hs
          exact (ih K at_ (j + 1) (by omega) (by omega) hat (by omega) hs2).1
        · rw [if_neg he, wr64 (by omega) (by omega)]
          have hs2 : (a[j] :: a.drop (j + 1)).Sublist (p.drop (at_ + 1)) := by
            rw [hdp] at hs
            rcases List.sublist_cons_iff.1 hs with h | ⟨r, hr, h⟩
            · exact h
            · injection hr with h1 h2
              exact absurd h1.symm he
          rw [← hda] at hs2
          exact (ih (K + 1) (at_ + 1) j (by omega) hj (by omega) (by omega) hs2).2 hlt
      · exfalso
        rw [show p.drop at_ = [] from List.drop_of_length_le (by omega)] at hs
        have := List.sublist_nil.1 hs
        cases this
    refine ⟨?_, h2⟩
    obtain ⟨K, rfl⟩ : ∃ m, K = m + 1 := ⟨K - 1, by omega⟩
    simp only [tidemarklaw12_ChainEnds.l1]
    by_cases hlt : j < a.length
    · rw [if_pos (by omega)]
      exact h2 hlt
    · rw [if_neg (by omega)]
      exact hM K (by omega)
theorem ends_j2 (l : List S43) (all : Bool) (x i : Int) (R : List Int × Int × List Int) (h : Told x R) (M : Nat) (hM : ∀ K, M ≤ K → tidemarklaw12_ChainEnds.l0 K l all x (wrap64 (i + 1)) = some true) (K : Nat) (hK : M + 24800 ≤ K) :
    tidemarklaw12_ChainEnds.j2 K l all x i R.1 R.2.2 false = some true := by
  obtain ⟨K, rfl⟩ : ∃ m, K = m + 1 := ⟨K - 1, by omega⟩
  simp only [tidemarklaw12_ChainEnds.j2]
  rw [if_neg (by simp)]
  have hl := h.sub.length_le
  have := h.len
  exact (scan l all x i R.1 R.2.2 (by omega) h.len M hM (12300) K 0 0 (by omega) (by omega) (by omega) (by omega) (by simpa using h.sub)).1
theorem ends_j1 (l : List S43) (all : Bool) (x i : Int) (R : List Int × Int × List Int) (h : Told x R) (M : Nat) (hM : ∀ K, M ≤ K → tidemarklaw12_ChainEnds.l0 K l all x (wrap64 (i + 1)) = some true) (K : Nat) (hK : M + 24900 ≤ K) :
    tidemarklaw12_ChainEnds.j1 K l all x i R.1 R.2.1 R.2.2 false = some true := by
  obtain ⟨K, rfl⟩ : ∃ m, K = m + 1 := ⟨K - 1, by omega⟩
  simp only [tidemarklaw12_ChainEnds.j1]
  have hlen := h.len
  rw [if_neg (by simp), falls_is R.2.2 (by omega) h.pw h.one K (by omega)]
  simp only [Option.bind_some, if_true]
  have hj := ends_j2 l all x i R h M hM K (by omega)
  by_cases h0 : x = 0
  · rw [if_pos h0, if_pos (h.zero h0)]
    have ha : R.1.length = 0 := by
      have := h.sub.length_le
      rw [h.none_ (by omega)] at this
      simpa using this
    rw [if_pos (by omega), if_neg (by omega)]
    exact hj
  · rw [if_neg h0]
    by_cases h1 : x < 0
    · rw [if_pos h1, h.neg h1]
      exact hj
    · rw [if_neg h1]
      exact hj
theorem ends_l0 (l : List S43) (all : Bool) (x : Int) (hn : l.length ≤ 9223372036854775807) (i : Int) (hi : i = 0 ∨ i = 1) (M : Nat) (hM : ∀ K, M ≤ K → tidemarklaw12_ChainEnds.l0 K l all x (wrap64 (i + 1)) = some true) (K : Nat) (hK : M + l.length + 40000 ≤ K) :
    tidemarklaw12_ChainEnds.l0 K l all x i = some true := by
  obtain ⟨K, rfl⟩ : ∃ m, K = m + 1 := ⟨K - 1, by omega⟩
  simp only [tidemarklaw12_ChainEnds.l0]
  obtain ⟨R, hR, h⟩ := told_asking l all (i == 1) x hn K (by omega)
  have hlen := h.len
  have hsl := h.sub.length_le
  rw [if_pos (by omega), hR]
  simp only [Option.bind_some]
  have hapw : R.1.Pairwise (· > ·) := h.pw.sublist h.sub
  have haone : ∀ y ∈ R.1, 1 ≤ y := fun y hy => h.one y (h.sub.subset hy)
  rw [if_neg (by omega), falls_is R.1 (by omega) hapw haone K (by omega)]
  simp only [Option.bind_some, if_true]
  have hj := ends_j1 l all x i R h M hM K (by omega)
  have inner : (if x ≤ 0 then (if (R.2.2.length : Int) = 0 then (if x > 0 then (tidemarklaw12_ChainEnds.j1 K l all x i R.1 R.2.1 R.2.2 true) else (tidemarklaw12_ChainEnds.j1 K l all x i R.1 R.2.1 R.2.2 false)) else (tidemarklaw12_ChainEnds.j1 K l all x i R.1 R.2.1 R.2.2 true)) else (if x > 0 then (if (R.2.2.length : Int) = 0 then (tidemarklaw12_ChainEnds.j1 K l all x i R.1 R.2.1 R.2.2 true) else (if 0 < (R.2.2.length : Int) then (tidemarklaw12_ChainEnds.j1 K l all x i R.1 R.2.1 R.2.2 ((rd R.2.2 0) != x)) else (none))) else (tidemarklaw12_ChainEnds.j1 K l all x i R.1 R.2.1 R.2.2 false))) = some true := by
    by_cases hx : x ≤ 0
    · have h0 : R.2.2.length = 0 := by rw [h.none_ hx]; rfl
      rw [if_pos hx, if_pos (by omega), if_neg (by omega)]
      exact hj
    · obtain ⟨t, ht⟩ := h.first (by omega)
      have hl : R.2.2.length = t.length + 1 := by rw [ht]; rfl
      have hrd : rd R.2.2 0 = x := by rw [ht]; rfl
      rw [if_neg hx, if_pos (by omega), if_neg (by omega), if_pos (by omega), hrd]
      have : (x != x) = false := by simp
      rw [this]
      exact hj
  by_cases he : R.2.1 = 0
  · rw [if_pos he]
    exact inner
  · rw [if_neg he]
    have ha : R.1.length = 0 := by rw [h.err he]; rfl
    rw [if_pos (by omega)]
    exact inner
theorem ChainEnds (l : List S43) (all : Bool) (x : Int) (hn : l.length ≤ 9223372036854775807) : tidemarklaw12_ChainEnds.f (2 * l.length + 100000) l all x = some true := by
  unfold tidemarklaw12_ChainEnds.f
  have hk : tidemarklaw12_known.f (2 * l.length + 100000) = some true := by
    have := known_is (2 * l.length + 99980)
    rwa [show 20 + (2 * l.length + 99980) = 2 * l.length + 100000 by omega] at this
  rw [hk]
  simp only [Option.bind_some, if_true]
  have h2 : ∀ K, 1 ≤ K → tidemarklaw12_ChainEnds.l0 K l all x 2 = some true := by
    intro K hK
    obtain ⟨K, rfl⟩ : ∃ m, K = m + 1 := ⟨K - 1, by omega⟩
    simp only [tidemarklaw12_ChainEnds.l0]
    rw [if_neg (by omega)]
  have h1 : ∀ K, l.length + 40001 ≤ K → tidemarklaw12_ChainEnds.l0 K l all x 1 = some true := fun K hK => ends_l0 l all x hn 1 (.inr rfl) 1 (by rw [show wrap64 (1 + 1) = 2 by rw [wr64 (by omega) (by omega)]; rfl]; exact h2) K (by omega)
  exact ends_l0 l all x hn 0 (.inl rfl) (l.length + 40001) (by rw [show wrap64 (0 + 1) = 1 by rw [wr64 (by omega) (by omega)]; rfl]; exact h1) _ (by omega)
end Go.Proofs.Ytijlcahikeeigaa.Pure
