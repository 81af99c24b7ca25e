/- ImageLays (chapter 3): for every two lists of bytes and every two numbers image.Cut and image.Lay answer as the reference's, and what was lent stays, its spare room too. No condition. -/
import Derived.Test.YtolnhhafjojjeaaQAx12
import Derived.Test.YtolnhhafjojjeaaPlain
namespace Go.Proofs.Ytolnhhafjojjeaa.Pure
open Go.RowKit Go.Proofs.Ytolnhhafjojjeaa.QA Go.Proofs.YtolnhhafjojjeaaW.PrintWords Go.Proofs.YtolnhhafjojjeaaW.PrintLast Go.Proofs.Ytolnhhafjojjeaa.Plain
set_option linter.unusedVariables false

theorem take_back' (l : List Int) : (l ++ marks).take ((l.length : Int)).toNat = l := by simp
theorem lent_room' (l : List Int) : (l.length : Int) ≤ ((l ++ marks).length : Int) := by simp; omega
theorem cut_some (x : List Int) (hn : x.length ≤ 140737488351232) (a b : Int) : ∃ r, image_Cut.f x a b = some r := by
  unfold image_Cut.f
  split
  · exact ⟨_, rfl⟩
  · rw [if_pos (by omega)]; exact ⟨_, rfl⟩
theorem lay_some (x y : List Int) (hn : x.length ≤ 140737488351232) (a : Int) : ∃ r, image_Lay.f x a y = some r := by
  unfold image_Lay.f
  split
  · exact ⟨_, rfl⟩
  · rw [if_pos (by omega)]; exact ⟨_, rfl⟩
theorem ImageLays : tidemarklaw03_ImageLays.Pure := by
  intro l0 a1 a2 l3 hm0 hn0 hw0 w1 w2 hm1 hn1 hw1
  have h0 : l0.length ≤ 140737488351232 := by omega
  have h1 : l3.length ≤ 140737488351232 := by omega
  refine ⟨l0.length + l0.length + l3.length + 1000, ?_⟩
  generalize hk : l0.length + l0.length + l3.length + 1000 = k
  unfold tidemarklaw03_ImageLays.f
  rw [lent_is l0 h0 k (by omega), lent_is l3 h1 k (by omega)]
  simp only [Option.bind_some]
  rw [if_pos (by omega), if_pos (lent_room' l0), take_back', whole_is l0 h0 k (by omega), whole_is l3 h1 k (by omega), ref_cut_is l0 h0 a1 a2 k (by omega), ref_lay_is l0 l3 h0 h1 a1 w1 k (by omega)]
  obtain ⟨r, hr⟩ := cut_some l0 h0 a1 a2
  obtain ⟨q, hq⟩ := lay_some l0 l3 h0 a1
  rw [hr]
  simp only [Option.bind_some]
  rw [if_pos (by omega), if_pos (lent_room' l3), take_back', hq]
  simp [tidemarklaw03_alive.f, tidemarklaw03_num.f]
end Go.Proofs.Ytolnhhafjojjeaa.Pure
