/- ImageKeeps' plain facts. -/
import Derived.Test.YtolnhhafjojjeaaPlain
import Derived.Test.YtolnhhafjojjeaaPureImageTurns
namespace Go.Proofs.Ytolnhhafjojjeaa.Pure
open Go.RowKit Go.Proofs.Ytolnhhafjojjeaa.Plain Go.Proofs.Ytolnhhafjojjeaa.QA Go.Proofs.YtolnhhafjojjeaaW.PrintWords Go.Proofs.YtolnhhafjojjeaaW.PrintLast
set_option linter.unusedVariables false
set_option linter.unusedSimpArgs false
theorem keep_cut (b : List Int) (hn : b.length ≤ 140737488351232) : image_Cut.f b 0 (b.length : Int) = some (b, 0) := by
  have h := cut_good b hn 0 b.length (Nat.zero_le _) (Nat.le_refl _)
  rw [List.take_length, List.drop_zero] at h
  exact h
theorem keep_lay (b : List Int) (hn : b.length ≤ 140737488351232) : image_Lay.f b (b.length : Int) [] = some (b, 0) := by
  have h := lay_good b [] hn b.length (by simp)
  simp at h
  exact h
theorem keep_lay0 (b : List Int) (hn : b.length ≤ 140737488351232) : image_Lay.f b 0 [] = some (b, 0) := by
  have h := lay_good b [] hn 0 (by simp)
  simp at h
  exact h
theorem keep_self (r : List Int) (hn : r.length ≤ 140737488351232) : image_Lay.f r 0 r = some (r, 0) := by
  have h := lay_good r r hn 0 (by simp)
  simp at h
  exact h
theorem keep_part (a b : List Int) (hl : a.length = b.length) (hn : a.length ≤ 140737488351232) (hd : ∀ j : Nat, j < a.length → rd a j ≠ rd b j) (k : Nat) (hk : a.length < k) : image_Part.f k a b = some (0, (a.length : Int), 0) := by
  obtain ⟨f, t, h, hp⟩ := part_is a b hl hn k hk
  have h2 : Parts a b 0 (a.length : Int) := by
    by_cases h0 : a.length = 0
    · exact .inl ⟨rfl, by omega, fun j hj => by omega⟩
    · refine .inr ⟨Int.le_refl _, by omega, Int.le_refl _, hd 0 (by omega), ?_, fun j hj hh => by omega⟩
      have := hd (a.length - 1) (by omega)
      rwa [show ((a.length - 1 : Nat) : Int) = (a.length : Int) - 1 from by omega] at this
  obtain ⟨rfl, rfl⟩ := parts_one a b f t 0 _ hp h2
  exact h
end Go.Proofs.Ytolnhhafjojjeaa.Pure
