/- The log of a plan's first acts. -/
import Derived.Test.YtijlcahikeeigaaLogInv
namespace Go.Proofs.Ytijlcahikeeigaa.Log
open Go.RowKit Go.Proofs.Ytijlcahikeeigaa.QA
set_option linter.unusedSimpArgs false
set_option linter.unusedVariables false
def upto (plan : List (Int × Int × Int)) (i : Nat) : Log := (plan.take i).foldl (fun s a => step s a.1 a.2.1 a.2.2) start
theorem upto_zero (plan : List (Int × Int × Int)) : upto plan 0 = start := by simp [upto]
theorem upto_succ (plan : List (Int × Int × Int)) (i : Nat) (h : i < plan.length) : upto plan (i + 1) = step (upto plan i) (plan.getD i (0, 0, 0)).1 (plan.getD i (0, 0, 0)).2.1 (plan.getD i (0, 0, 0)).2.2 := by
  unfold upto
  rw [List.take_add_one, List.foldl_append]
  simp [h]
theorem written_upto (plan : List (Int × Int × Int)) (i : Nat) (h : i = min plan.length 300) : written plan = upto plan i := by
  unfold written upto
  subst h
  by_cases hl : plan.length ≤ 300
  · rw [Nat.min_eq_left hl, List.take_of_length_le hl, List.take_of_length_le (Nat.le_refl _)]
  · rw [Nat.min_eq_right (by omega)]
theorem record_all_len (x : Run) (k what lsn : Int) : (record x k what lsn).2.all = x.all ∧ (record x k what lsn).2.left.length ≤ x.left.length + 1 := by
  unfold record
  split
  · exact ⟨rfl, Nat.le_succ _⟩
  · dsimp only
    split
    · exact ⟨rfl, by dsimp only; omega⟩
    · split
      · exact ⟨rfl, by dsimp only; rw [List.length_take]; omega⟩
      · split
        · exact ⟨rfl, by dsimp only; omega⟩
        · exact ⟨rfl, by simp⟩
theorem record_c (al lf : List Int) (bk : Bool) (b : Int) (rest : List Int) (k what lsn m lst : Int) (h1 : al = b :: rest) (h2 : m = into what 4) (h3 : al.getLastD 0 = lst) :
    record ⟨al, lf, bk⟩ k what lsn = if m = 1 ∧ bk = false then ({ blank 2 b lst 0 with f0 := 5 }, ⟨al, lf, true⟩)
      else if m = 2 ∧ 0 < lf.length then ({ { blank 2 b lst 0 with f0 := 3 } with f8 := if 1 < lf.length then lf.getD (lf.length - 2) 0 else 0 }, ⟨al, lf.take (lf.length - 1), true⟩)
      else if m = 3 ∨ bk = true then ({ blank 2 b lst 0 with f0 := 6 }, ⟨al, lf, bk⟩)
      else (blank 2 b lst 0, ⟨al, lf ++ [lsn], bk⟩) := by
  subst h1 h2 h3
  rfl
theorem record_nil (x : Run) (k what lsn : Int) : (record x k what lsn).1.f6 = [] ∧ (record x k what lsn).1.f7 = [] ∧ (record x k what lsn).1.f9 = [] ∧ (record x k what lsn).1.f10 = [] := by
  unfold record
  split
  · exact ⟨rfl, rfl, rfl, rfl⟩
  · dsimp only
    split
    · exact ⟨rfl, rfl, rfl, rfl⟩
    · split
      · exact ⟨rfl, rfl, rfl, rfl⟩
      · split <;> exact ⟨rfl, rfl, rfl, rfl⟩
/-- Sizes. -/
structure Small (s : Log) (i : Nat) : Prop where
  lines : s.lines.length = i
  ways : s.ways.length = i
  runs : s.runs.length = 4
  each : ∀ k, k < 4 → (s.runs.getD k noRun).all.length ≤ i ∧ (s.runs.getD k noRun).left.length ≤ i
  lsn0 : 0 ≤ s.lsn
  lsn1 : s.lsn ≤ 50 * i
theorem getD_set (l : List Run) (j k : Nat) (x : Run) (hk : k < l.length) : (l.set j x).getD k noRun = if j = k then x else l.getD k noRun := by
  simp only [List.getD_eq_getElem?_getD, List.getElem?_set]
  by_cases h : j = k
  · subst h; simp [hk]
  · simp [h]
theorem Small.step {s : Log} {i : Nat} (h : Small s i) (b w g : Int) : Small (step s b w g) (i + 1) := by
  have hk := into_range b 4 (by decide)
  have hg := into_range g 50 (by decide)
  have hkn : (into b 4).toNat < 4 := by omega
  obtain ⟨e1, e2⟩ := h.each _ hkn
  obtain ⟨r1, r2⟩ := record_all_len (s.runs.getD (into b 4).toNat noRun) (into b 4) w (s.lsn + 1 + into g 50)
  refine ⟨by simp [Log.step, h.lines], by simp [Log.step, h.ways], by simp [Log.step, h.runs], fun k hk4 => ?_, ?_, ?_⟩
  · simp only [Log.step]
    rw [getD_set _ _ _ _ (by rw [h.runs]; exact hk4)]
    by_cases hkk : (into b 4).toNat = k
    · rw [if_pos hkk]
      split
      · exact ⟨Nat.zero_le _, Nat.zero_le _⟩
      · dsimp only
        rw [List.length_append, r1]
        exact ⟨by simpa using e1, by omega⟩
    · rw [if_neg hkk]
      have := h.each k hk4
      omega
  · have := h.lsn0
    simp only [Log.step]; omega
  · have := h.lsn1
    simp only [Log.step]; omega
theorem upto_small (plan : List (Int × Int × Int)) (i : Nat) (h : i ≤ plan.length) : Small (upto plan i) i := by
  induction i with
  | zero =>
    rw [upto_zero]
    refine ⟨rfl, rfl, rfl, fun k hk => ?_, by decide, by decide⟩
    have : k = 0 ∨ k = 1 ∨ k = 2 ∨ k = 3 := by omega
    rcases this with rfl | rfl | rfl | rfl <;> exact ⟨Nat.le_refl _, Nat.le_refl _⟩
  | succ i ih =>
    rw [upto_succ plan i h]
    exact (ih (by omega)).step _ _ _
end Go.Proofs.Ytijlcahikeeigaa.Log
