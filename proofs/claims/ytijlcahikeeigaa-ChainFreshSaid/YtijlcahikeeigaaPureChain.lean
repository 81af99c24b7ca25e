/- The plain law of chapter 12: the program's Back and Undo are the document's. -/
import Derived.Test.YtijlcahikeeigaaQAx9
import Derived.Test.YtijlcahikeeigaaQAx14
import Derived.Test.YtijlcahikeeigaaQAx12
namespace Go.Proofs.Ytijlcahikeeigaa.Pure
open Go.RowKit Go.Proofs.Ytijlcahikeeigaa.QA Go.Proofs.YtijlcahikeeigaaW.PrintWords Go.Proofs.YtijlcahikeeigaaW.PrintLast
set_option linter.unusedVariables false
set_option linter.unusedSimpArgs false
/-- What hangs in the chain: the error. -/
def hang (r : S41) (x b bi : Int) : Int := if r.f0 < 1 ∨ r.f0 > 6 ∨ b ≠ bi then 120 else if r.f0 ≠ 1 ∧ (b < 1 ∨ b ≥ x) then 120 else 0
theorem chained_j1 (r : S41) (x b bi : Int) (hb : b = if r.f0 = 1 then x else r.f1) (k : Nat) (hk : 0 < k) (y : Bool) (hy : y = decide (r.f0 < 1 ∨ r.f0 > 6)) :
    tidemarkref12_chained.j1 k x bi y r.f0 r.f1 r.f2 r.f3 r.f4 r.f5 r.f6 r.f7 r.f8 r.f9 r.f10 = some (hang r x b bi, bi) := by
  obtain ⟨k, rfl⟩ : ∃ m, k = m + 1 := ⟨k - 1, by omega⟩
  simp only [tidemarkref12_chained.j1]
  unfold hang
  by_cases hc : r.f0 < 1 ∨ r.f0 > 6
  · have : y = true := by rw [hy]; exact decide_eq_true hc
    rw [if_pos this, if_pos (by rcases hc with h | h; exact .inl h; exact .inr (.inl h))]
  · have : ¬ y = true := by rw [hy]; simp only [decide_eq_true_eq]; exact hc
    rw [if_neg this]
    by_cases h1 : r.f0 = 1
    · rw [if_pos h1] at hb ⊢
      subst hb
      by_cases h2 : b = bi
      · rw [if_pos h2, if_neg (by rintro (h | h | h); exact hc (.inl h); exact hc (.inr h); exact h h2), if_neg (fun h => h.1 h1)]
      · rw [if_neg h2, if_pos (.inr (.inr h2))]
    · rw [if_neg h1] at hb ⊢
      subst hb
      by_cases h2 : r.f1 = bi
      · rw [if_pos h2]
        have hn : ¬ (r.f0 < 1 ∨ r.f0 > 6 ∨ r.f1 ≠ bi) := by rintro (h | h | h); exact hc (.inl h); exact hc (.inr h); exact h h2
        rw [if_neg hn]
        by_cases h3 : bi < 1
        · rw [if_pos h3, if_pos ⟨h1, .inl (by omega)⟩]
        · rw [if_neg h3]
          by_cases h4 : bi ≥ x
          · rw [if_pos h4, if_pos ⟨h1, .inr (by omega)⟩]
          · rw [if_neg h4, if_neg (fun h => h.2.elim (fun h => h3 (by omega)) (fun h => h4 (by omega)))]
      · rw [if_neg h2, if_pos (.inr (.inr h2))]
theorem chained_j0 (r : S41) (x b bi : Int) (hb : b = if r.f0 = 1 then x else r.f1) (k : Nat) (hk : 1 < k) :
    tidemarkref12_chained.j0 k x bi r.f0 r.f1 r.f2 r.f3 r.f4 r.f5 r.f6 r.f7 r.f8 r.f9 r.f10 = some (hang r x b bi, bi) := by
  obtain ⟨k, rfl⟩ : ∃ m, k = m + 1 := ⟨k - 1, by omega⟩
  simp only [tidemarkref12_chained.j0]
  by_cases h : r.f0 < 1
  · rw [if_pos h]
    exact chained_j1 r x b bi hb k (by omega) true (by simp [h])
  · rw [if_neg h]
    exact chained_j1 r x b bi hb k (by omega) _ (by simp only [decide_eq_decide]; omega)
theorem chained_is (r : S41) (x birth : Int) (first : Bool) (k : Nat) (hk : 1 < k) :
    tidemarkref12_chained.f k r.f0 r.f1 r.f2 r.f3 r.f4 r.f5 r.f6 r.f7 r.f8 r.f9 r.f10 x birth first =
      some (hang r x (if r.f0 = 1 then x else r.f1) (if first = true then (if r.f0 = 1 then x else r.f1) else birth), if first = true then (if r.f0 = 1 then x else r.f1) else birth) := by
  unfold tidemarkref12_chained.f
  cases first with
  | true =>
    rw [if_pos rfl, if_pos rfl]
    by_cases h : r.f0 = 1
    · rw [if_pos h, if_pos h]; exact chained_j0 r x _ _ (by rw [if_pos h]) k hk
    · rw [if_neg h, if_neg h]; exact chained_j0 r x _ _ (by rw [if_neg h]) k hk
  | false =>
    simp only [Bool.false_eq_true, if_false]
    exact chained_j0 r x _ _ rfl k hk
/-- 'at', told by hang. -/
theorem atF_is (l : List S43) (all : Bool) (birth : Int) (asked : List Int) (x : Int) (h : asked.length ≠ 4096) : atF l all birth asked x =
    if (rec12 l all x).2 ≠ 0 then ((z41, (rec12 l all x).2), birth, asked ++ [x]) else
    (if hang (rec12 l all x).1 x (if (rec12 l all x).1.f0 = 1 then x else (rec12 l all x).1.f1) (if asked.length = 0 then (if (rec12 l all x).1.f0 = 1 then x else (rec12 l all x).1.f1) else birth) ≠ 0 then ((z41, 120), (if asked.length = 0 then (if (rec12 l all x).1.f0 = 1 then x else (rec12 l all x).1.f1) else birth), asked ++ [x])
     else (((rec12 l all x).1, 0), (if asked.length = 0 then (if (rec12 l all x).1.f0 = 1 then x else (rec12 l all x).1.f1) else birth), asked ++ [x])) := by
  unfold atF
  rw [if_neg h]
  by_cases h2 : (rec12 l all x).2 ≠ 0
  · rw [if_pos h2, if_pos h2]
  · rw [if_neg h2, if_neg h2]
    generalize (rec12 l all x).1 = r
    generalize (if r.f0 = 1 then x else r.f1) = b
    simp only []
    generalize (if asked.length = 0 then b else birth) = bi
    unfold hang
    by_cases h3 : r.f0 < 1 ∨ r.f0 > 6 ∨ b ≠ bi
    · rw [if_pos h3, if_pos h3, if_pos (by decide)]
    · rw [if_neg h3, if_neg h3]
      by_cases h4 : r.f0 ≠ 1 ∧ (b < 1 ∨ b ≥ x)
      · rw [if_pos h4, if_pos h4, if_pos (by decide)]
      · rw [if_neg h4, if_neg h4, if_neg (by decide)]
theorem hang_or (r : S41) (x b bi : Int) : hang r x b bi = 0 ∨ hang r x b bi = 120 := by
  unfold hang
  split
  · exact .inr rfl
  · split
    · exact .inr rfl
    · exact .inl rfl
/-- A record that hangs: its birth is above 0, unless it begins. -/
theorem hang_pos {r : S41} {x b bi : Int} (h : hang r x b bi = 0) (h1 : r.f0 ≠ 1) : 1 ≤ bi := by
  unfold hang at h
  by_cases h3 : r.f0 < 1 ∨ r.f0 > 6 ∨ b ≠ bi
  · rw [if_pos h3] at h; cases h
  · rw [if_neg h3] at h
    by_cases h4 : r.f0 ≠ 1 ∧ (b < 1 ∨ b ≥ x)
    · rw [if_pos h4] at h; cases h
    · have hb : b = bi := by
        apply Classical.byContradiction
        intro hne
        exact h3 (.inr (.inr hne))
      have : ¬ b < 1 := fun hlt => h4 ⟨h1, .inl hlt⟩
      omega
theorem read_any (l : List S43) (x : Int) (all : Bool) (hn : l.length ≤ 9223372036854775807) (k : Nat) (hk : l.length < k) : tidemarkref12_Read.f k l x all = some (tup (rec12 l all x)) :=
  read_l0 l x all hn l.length k 0 (by omega) hk (fun j _ hj => by omega)
theorem back_same (l : List S43) (all : Bool) (hn : l.length ≤ 9223372036854775807) : ∀ (d K : Nat) (x : Int) (out asked : List Int) (birth : Int), asked.length + d = 4096 → d + l.length + 5 ≤ K → 0 < x → out.length ≤ asked.length →
    ∃ r, backL l all K x out birth asked = some r ∧ tidemarkref12_Back.l0 K l all out asked x birth = some r ∧ r.1.length ≤ 4096 ∧ r.2.2.length ≤ 4096 := by
  intro d
  induction d with
  | zero =>
    intro K x out asked birth ha hK hx ho
    obtain ⟨K, rfl⟩ : ∃ m, K = m + 1 := ⟨K - 1, by omega⟩
    refine ⟨([], 120, asked), ?_, ?_, by simp, by show asked.length ≤ 4096; omega⟩
    · simp only [backL]
      have : atF l all birth asked x = ((z41, 120), birth, asked) := by unfold atF; rw [if_pos (by omega)]
      rw [this, if_pos (show (120 : Int) ≠ 0 by decide)]
    · simp only [tidemarkref12_Back.l0]
      rw [if_pos hx, if_pos (by omega)]
  | succ d ih =>
    intro K x out asked birth ha hK hx ho
    obtain ⟨K, rfl⟩ : ∃ m, K = m + 1 := ⟨K - 1, by omega⟩
    have hne : asked.length ≠ 4096 := by omega
    have hat := atF_is l all birth asked x hne
    have hfirst : (((asked ++ [x]).length : Int) == 1) = decide (asked.length = 0) := by
      by_cases h : asked.length = 0
      · rw [decide_eq_true h]; simp; omega
      · rw [decide_eq_false h]; simp; omega
    simp only [tidemarkref12_Back.l0]
    rw [if_pos hx, if_neg (by omega), if_pos (by omega)]
    simp only [Option.bind_some]
    rw [read_any l x all hn K (by omega)]
    simp only [Option.bind_some, tup]
    by_cases he : (rec12 l all x).2 = 0
    · rw [if_neg (fun h => h he)] at hat
      rw [if_pos he, chained_is _ _ _ _ K (by omega), hfirst]
      simp only [Option.bind_some, decide_eq_true_eq]
      generalize (rec12 l all x).1 = r at hat
      generalize (if r.f0 = 1 then x else r.f1) = b at hat
      generalize (if asked.length = 0 then b else birth) = bi at hat
      by_cases hh : hang r x b bi = 0
      · rw [if_neg (fun h => h hh)] at hat
        rw [if_pos hh, if_pos (by omega)]
        have hB : ∀ R, (if r.f0 = 1 then some (out ++ [x], 0, asked ++ [x]) else if bi ≤ r.f2 ∧ r.f2 < x then backL l all K r.f2 (out ++ [x]) bi (asked ++ [x]) else some ([], 120, asked ++ [x])) = some R → backL l all (K + 1) x out birth asked = some R := by
          intro R hR
          simp only [backL]
          rw [hat]
          simp only [ne_eq, not_true_eq_false, if_false]
          exact hR
        by_cases h1 : r.f0 = 1
        · rw [if_pos h1]
          exact ⟨_, hB _ (if_pos h1), rfl, by simp; omega, by simp; omega⟩
        · rw [if_neg h1]
          have hpos := hang_pos hh h1
          by_cases h2 : r.f2 < bi
          · rw [if_pos h2]
            exact ⟨_, hB _ (by rw [if_neg h1, if_neg (by omega)]), rfl, by simp, by simp; omega⟩
          · rw [if_neg h2]
            by_cases h3 : r.f2 ≥ x
            · rw [if_pos h3]
              exact ⟨_, hB _ (by rw [if_neg h1, if_neg (by omega)]), rfl, by simp, by simp; omega⟩
            · rw [if_neg h3]
              obtain ⟨R, e1, e2⟩ := ih K r.f2 (out ++ [x]) (asked ++ [x]) bi (by simp; omega) (by omega) (by omega) (by simp; omega)
              exact ⟨R, hB _ (by rw [if_neg h1, if_pos (by omega)]; exact e1), e2⟩
      · rw [if_pos hh] at hat
        have h120 := (hang_or r x b bi).resolve_left hh
        rw [if_neg hh, h120]
        refine ⟨_, ?_, rfl, by simp, by simp; omega⟩
        simp only [backL]
        rw [hat]
        rfl
    · rw [if_pos he] at hat
      rw [if_neg he]
      refine ⟨_, ?_, rfl, by simp, by simp; omega⟩
      simp only [backL]
      rw [hat, if_pos he]
theorem back_is (l : List S43) (all : Bool) (hn : l.length ≤ 9223372036854775807) (last : Int) (K : Nat) (hK : 4096 + l.length + 5 ≤ K) : ∃ r, backF K l all last = some r ∧ tidemarkref12_Back.f K l all last = some r ∧ r.1.length ≤ 4096 ∧ r.2.2.length ≤ 4096 := by
  unfold backF tidemarkref12_Back.f
  by_cases h0 : last < 0
  · exact ⟨_, by rw [if_pos (by omega), if_pos h0], by rw [if_pos h0], by simp, by simp⟩
  · by_cases h1 : last ≤ 0
    · refine ⟨([], 0, []), by rw [if_pos h1, if_neg h0], ?_, by simp, by simp⟩
      rw [if_neg h0]
      obtain ⟨K, rfl⟩ : ∃ m, K = m + 1 := ⟨K - 1, by omega⟩
      simp only [tidemarkref12_Back.l0]
      rw [if_neg (by omega)]
    · rw [if_neg h1, if_neg h0]
      exact back_same l all hn 4096 K last [] [] 0 (by simp) (by omega) (by omega) (by simp)
theorem same_l0 (a : List Int) (hn : a.length ≤ 9223372036854775807) : ∀ (d k i : Nat), i + d = a.length → d < k → tidemarklaw12_same.l0 k a a (i : Int) = some true := by
  intro d
  induction d with
  | zero =>
    intro k i hi hk
    obtain ⟨k, rfl⟩ : ∃ m, k = m + 1 := ⟨k - 1, by omega⟩
    simp only [tidemarklaw12_same.l0]
    rw [if_neg (by omega)]
  | succ d ih =>
    intro k i hi hk
    obtain ⟨k, rfl⟩ : ∃ m, k = m + 1 := ⟨k - 1, by omega⟩
    simp only [tidemarklaw12_same.l0]
    rw [if_pos (by omega), if_pos (by omega), if_pos (by omega), if_pos trivial, wr64 (by omega) (by omega)]
    exact ih k (i + 1) (by omega) (by omega)
theorem same_is (a : List Int) (hn : a.length ≤ 9223372036854775807) (k : Nat) (hk : a.length < k) : tidemarklaw12_same.f k a a = some true := by
  unfold tidemarklaw12_same.f
  rw [if_pos rfl]
  exact same_l0 a hn a.length k 0 (by omega) hk
theorem known_is : ∀ (d : Nat), tidemarklaw12_known.f (20 + d) = some true
  | 0 => by decide +kernel
  | d + 1 => tidemarklaw12_known.mono (20 + d) true (known_is d)
end Go.Proofs.Ytijlcahikeeigaa.Pure
