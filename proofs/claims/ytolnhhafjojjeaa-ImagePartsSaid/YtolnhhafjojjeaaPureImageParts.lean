/- ImageParts (chapter 3): for every two lists of bytes image.Part answers as the reference's Part, and what was lent stays, its spare room too. No condition. -/
import Derived.Test.YtolnhhafjojjeaaQAx9
import Derived.Test.YtolnhhafjojjeaaPlain
namespace Go.Proofs.Ytolnhhafjojjeaa.Pure
open Go.RowKit Go.Proofs.Ytolnhhafjojjeaa.QA Go.Proofs.YtolnhhafjojjeaaW.PrintWords Go.Proofs.YtolnhhafjojjeaaW.PrintLast Go.Proofs.Ytolnhhafjojjeaa.Plain
set_option linter.unusedVariables false

theorem take_back (l : List Int) : (l ++ marks).take ((l.length : Int)).toNat = l := by simp
theorem lent_room (l : List Int) : (l.length : Int) ≤ ((l ++ marks).length : Int) := by simp; omega
theorem ImageParts : tidemarklaw03_ImageParts.Pure := by
  intro l0 l1 hm0 hn0 hw0 hm1 hn1 hw1
  have h0 : l0.length ≤ 140737488351232 := by omega
  have h1 : l1.length ≤ 140737488351232 := by omega
  refine ⟨l0.length + l0.length + l1.length + 1000, ?_⟩
  generalize hk : l0.length + l0.length + l1.length + 1000 = k
  unfold tidemarklaw03_ImageParts.f
  rw [lent_is l0 h0 k (by omega), lent_is l1 h1 k (by omega)]
  simp only [Option.bind_some]
  rw [if_pos (by omega), if_pos (lent_room l0), if_pos (by omega), if_pos (lent_room l1), take_back, take_back, whole_is l0 h0 k (by omega), whole_is l1 h1 k (by omega)]
  by_cases hl : l0.length = l1.length
  · obtain ⟨f, t, e, hp⟩ := part_is l0 l1 hl h0 k (by omega)
    obtain ⟨f', t', e', hp'⟩ := ref_part_is l0 l1 hl h0 k (by omega)
    obtain ⟨rfl, rfl⟩ := parts_one _ _ _ _ _ _ hp hp'
    rw [e, e']
    simp [tidemarklaw03_alive.f, tidemarklaw03_num.f]
  · rw [part_no _ _ hl, ref_part_no _ _ hl]
    simp [tidemarklaw03_alive.f, tidemarklaw03_num.f]
end Go.Proofs.Ytolnhhafjojjeaa.Pure
