/- From the form's reading of a plan to its kind. -/
import Derived.Test.YtijlcahikeeigaaOpens
import Derived.Test.YtijlcahikeeigaaTMid
namespace Go.Proofs.Ytijlcahikeeigaa.QA
open Go.RowKit Go.Deep Go.ChangeShapes Go.WideShapes Go.Opens Go.Proofs.YtijlcahikeeigaaW.PrintWords
section
variable {H : Type} {enc : TypeId × Value → H} {w : World} {base : Nat} {spare : Nat → Bool} {held : Bool}
theorem opens58 : Opens enc Try.prog w base spare held 58 k58 := by
  intro fuel cs x h
  have hi := opens_int (enc := enc) (w := w) (base := base) (spare := spare) (held := held) Try.underlying3
  obtain ⟨a0, s0⟩ := field Try.underlying58 h 0 0 (by kernel_rfl) (by kernel_rfl) hi
  obtain ⟨a1, s1⟩ := field Try.underlying58 h 1 1 (by kernel_rfl) (by kernel_rfl) hi
  obtain ⟨a2, s2⟩ := field Try.underlying58 h 2 2 (by kernel_rfl) (by kernel_rfl) hi
  refine ⟨(a0, a1, a2), Seg.whole ((struct_len Try.underlying58 h).trans (by kernel_rfl)) ?_⟩
  exact Seg.pair s0 (Seg.pair s1 s2)
theorem opens30 : Opens enc Try.prog w base spare held 30 (Kd.slice 58 k58) := opens_slice Try.underlying30 (by kernel_rfl) opens58
end
end Go.Proofs.Ytijlcahikeeigaa.QA
