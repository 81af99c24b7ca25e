-- Laid by a program of this session out of Lean's own print of the program; hand-made contracts are pasted in. Lean checks it.
import Derived.Test.YtolnhhafjojjeaaQAx0
namespace Go.Proofs.Ytolnhhafjojjeaa.QA
open Go.RowKit Go.Proofs.YtolnhhafjojjeaaW.PrintWords Go.Proofs.YtolnhhafjojjeaaW.PrintLast Go.Proofs.YtolnhhafjojjeaaW.PrintMore
attribute [local go_sem] max2_int min2_int max_two min_two max_three min_three max_four min_four   -- for this text's walks alone
set_option linter.unusedVariables false
set_option linter.unusedSimpArgs false

/-! ### tidemarklaw03_num: function 12 -/

def tidemarklaw03_num.f (a0 : Int) : Option (Int) := some a0
theorem num_same (n : Int) (w : World) : Calls Try.prog 12 #[.int .i64 n] w fun e w' => e = .returned (.int .i64 n) ∧ w = w' := by
  go_enter Try.func12, Try.ntmps12
  go_wp2
  go_ret
  exact ⟨rfl, rfl⟩
theorem tidemarklaw03_num.same (n r : Int) (w : World) (h : tidemarklaw03_num.f n = some r) : Calls Try.prog 12 #[.int .i64 n] w fun e w' => e = .returned (.int .i64 r) ∧ w = w' := by
  obtain rfl := Option.some.inj h
  exact num_same n w
theorem tidemarklaw03_num.calls (a0 : Int) (r : Int) (w : World) (h : tidemarklaw03_num.f a0 = some r) : Calls Try.prog 12 #[.int .i64 a0] w fun e w' => e = .returned (.int .i64 r) ∧ Drawn0 w w' :=
  (tidemarklaw03_num.same a0 r w h).mono fun _ _ ⟨he, hw⟩ => ⟨he, by subst hw; exact Drawn0.refl _⟩


end Go.Proofs.Ytolnhhafjojjeaa.QA
