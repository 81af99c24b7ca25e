/- ImagePieces' plain law: a list is its three pieces; a range that is laid is cut out again; what does not fit is refused. -/
import Derived.Test.YtolnhhafjojjeaaQAx14
import Derived.Test.YtolnhhafjojjeaaPlain
namespace Go.Proofs.Ytolnhhafjojjeaa.Pure
open Go.RowKit Go.Proofs.Ytolnhhafjojjeaa.QA Go.Proofs.YtolnhhafjojjeaaW.PrintWords Go.Proofs.YtolnhhafjojjeaaW.PrintLast Go.Proofs.Ytolnhhafjojjeaa.Plain
set_option linter.unusedVariables false
theorem cut_of (x : List Int) (hn : x.length ≤ 140737488351232) (f t : Int) (h0 : 0 ≤ f) (h : f ≤ t) (ht : t ≤ (x.length : Int)) : image_Cut.f x f t = some ((x.take t.toNat).drop f.toNat, 0) := by
  unfold image_Cut.f
  rw [if_neg (by omega), if_pos (by omega)]
theorem cut_bad (x : List Int) (f t : Int) (h : f < 0 ∨ t < f ∨ (x.length : Int) < t) : image_Cut.f x f t = some ([], 30) := by
  unfold image_Cut.f
  rw [if_pos h]
theorem ImagePieces (l : List Int) (hn : l.length ≤ 140737488351232) (f : Int) (hf0 : -9223372036854775808 ≤ f) (hf1 : f ≤ 9223372036854775807) (r : List Int) (hr : r.length ≤ 140737488351232) : tidemarklaw03_ImagePieces.f 2 l f r = some true := by
  unfold tidemarklaw03_ImagePieces.f
  rw [show tidemarklaw03_alive.f = some true from rfl]
  simp only [Option.bind_some, if_true]
  by_cases hb : f < 0 ∨ l.length < r.length ∨ (l.length : Int) - (r.length : Int) < f
  · have hl : image_Lay.f l f r = some ([], 30) := by unfold image_Lay.f; rw [if_pos hb]
    have hj : tidemarklaw03_ImagePieces.j0 2 l f r [] 30 true = some true := by simp [tidemarklaw03_ImagePieces.j0, tidemarklaw03_num.f]
    rw [hl]
    simp only [Option.bind_some]
    by_cases h1 : f < 0
    · rw [if_pos h1]; exact hj
    rw [if_neg h1]
    by_cases h2 : f > (l.length : Int)
    · rw [if_pos h2]; exact hj
    rw [if_neg h2, wr (x := (l.length : Int) - f) (by omega) (by omega)]
    have hd : decide ((r.length : Int) > (l.length : Int) - f) = true := by simp; omega
    rw [hd]; exact hj
  · obtain ⟨n, rfl⟩ : ∃ n : Nat, f = (n : Int) := ⟨f.toNat, by omega⟩
    have hfit : n + r.length ≤ l.length := by omega
    have hl : image_Lay.f l (n : Int) r = some (l.take n ++ r ++ l.drop (n + r.length), 0) := by
      unfold image_Lay.f
      rw [if_neg hb, if_pos (by omega)]; simp
    rw [hl]
    simp only [Option.bind_some]
    rw [if_neg (by omega), if_neg (by omega), wr (x := (l.length : Int) - (n : Int)) (by omega) (by omega)]
    have hd : decide ((r.length : Int) > (l.length : Int) - (n : Int)) = false := by simp; omega
    rw [hd]
    simp only [tidemarklaw03_ImagePieces.j0, tidemarklaw03_num.f, Option.bind_some]
    have hyl : (l.take n ++ r ++ l.drop (n + r.length)).length = l.length := by simp; omega
    rw [if_neg (by simp), if_pos trivial, wr (x := (n : Int) + (r.length : Int)) (by omega) (by omega)]
    have hne : ((((l.take n ++ r ++ l.drop (n + r.length)).length : Nat) : Int) != (l.length : Int)) = false := by rw [hyl]; simp
    rw [hne]
    simp only [tidemarklaw03_ImagePieces.j1]
    rw [if_neg (by simp)]
    have hsum : (n : Int) + (r.length : Int) = ((n + r.length : Nat) : Int) := by omega
    rw [hsum]
    rw [wr (x := (l.length : Int) + 1) (by omega) (by omega), wr (x := ((n + r.length : Nat) : Int) + 1) (by omega) (by omega)]
    generalize hL : l.take n ++ r ++ l.drop (n + r.length) = L at hyl
    rw [cut_of L (by omega) 0 (n : Int) (by omega) (by omega) (by omega)]
    simp only [Option.bind_some]
    rw [cut_of L (by omega) (n : Int) ((n + r.length : Nat) : Int) (by omega) (by omega) (by omega)]
    simp only [Option.bind_some]
    rw [cut_of L (by omega) ((n + r.length : Nat) : Int) (L.length : Int) (by omega) (by omega) (by omega)]
    simp only [Option.bind_some]
    rw [cut_of l (by omega) 0 (n : Int) (by omega) (by omega) (by omega)]
    simp only [Option.bind_some]
    rw [cut_of l (by omega) ((n + r.length : Nat) : Int) (l.length : Int) (by omega) (by omega) (by omega)]
    simp only [Option.bind_some]
    rw [cut_bad l (n : Int) ((l.length : Int) + 1) (by omega)]
    simp only [Option.bind_some]
    rw [cut_bad l (((n + r.length : Nat) : Int) + 1) ((n + r.length : Nat) : Int) (by omega)]
    simp only [Option.bind_some]
    rw [cut_bad l (-1) ((n + r.length : Nat) : Int) (by omega)]
    simp only [Option.bind_some, Int.toNat_natCast]
    have e0 : ((0 : Int)).toNat = 0 := rfl
    rw [e0]
    have hp : (l.take n).length = n := by simp; omega
    have e1 : L.take n = l.take n := by
      rw [← hL, List.append_assoc, List.take_append_of_le_length (by omega), List.take_of_length_le (by omega)]
    have e2 : (L.take (n + r.length)).drop n = r := by
      rw [← hL, List.take_append_of_le_length (by simp; omega), List.take_of_length_le (by simp; omega), List.drop_append_of_le_length (by omega), List.drop_of_length_le (by omega)]; simp
    have e3 : L.drop (n + r.length) = l.drop (n + r.length) := by
      rw [← hL, List.drop_append_of_le_length (by simp; omega), List.drop_of_length_le (by simp; omega)]; simp
    rw [e1, e2, List.take_of_length_le (Nat.le_refl L.length), e3, List.take_of_length_le (Nat.le_refl l.length), List.drop_zero]
    simp only [if_true]
    rw [if_pos (by omega), if_pos (by omega), if_pos (by omega), if_pos (by omega)]
    simp [tidemarklaw03_num.f]
end Go.Proofs.Ytolnhhafjojjeaa.Pure
