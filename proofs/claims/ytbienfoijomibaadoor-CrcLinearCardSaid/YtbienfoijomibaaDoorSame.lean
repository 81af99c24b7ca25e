/- The world stays as it is, in the form in which the printed contracts tell of draws. -/
import Derived.Test.YtbienfoijomibaaDoorWWords
namespace Go.Proofs.YtbienfoijomibaaDoorW.PrintWords
open Go.RowKit
/-- The world is the old one: nothing was drawn. -/
structure Same0 (w w' : World) : Prop where mk :: (out : ∃ _ : Unit, w = w')
theorem Same0.refl (w : World) : Same0 w w := ⟨⟨(), rfl⟩⟩
theorem Same0.drawn {w w' : World} (h : Same0 w w') : Drawn0 w w' := by
  obtain ⟨_, rfl⟩ := h
  exact Drawn0.refl _
theorem Same0.eq {w w' : World} (h : Same0 w w') : w = w' := by
  obtain ⟨_, rfl⟩ := h
  rfl
theorem Same0.grown {w w' : World} (h : Same0 w w') : Grown w w' := h.drawn.grown
theorem Same0.below {w w' : World} (h : Same0 w w') : Below w.heap.size w w' := h.drawn.below
end Go.Proofs.YtbienfoijomibaaDoorW.PrintWords
