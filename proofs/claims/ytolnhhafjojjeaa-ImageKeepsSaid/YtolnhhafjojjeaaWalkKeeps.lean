/- ImageKeeps' walk, in the form that its row asks. -/
import Derived.Test.YtolnhhafjojjeaaTKeeps
namespace Go.Proofs.Ytolnhhafjojjeaa.Walks
open Go.RowKit Go.Proofs.Ytolnhhafjojjeaa.QA Go.Proofs.YtolnhhafjojjeaaW.PrintWords Go.Proofs.YtolnhhafjojjeaaW.PrintLast
theorem imageKeeps {W : World} (A0 : Option Addr) (c0 : Nat) (l0 : List Int) (hr : Kd.C (Kd.int .u8) W A0 l0.length l0) (hc : l0.length ≤ c0) (hy : l0.length * 1 ≤ 140737488351232) (hw : ∀ x ∈ l0, (Lit.int .u8 x).wf = true)
    (A1 : Option Addr) (c1 : Nat) (l1 : List Int) (hr1 : Kd.C (Kd.int .u8) W A1 l1.length l1) (hc1 : l1.length ≤ c1) (hy1 : l1.length * 1 ≤ 140737488351232) (_hw1 : ∀ x ∈ l1, (Lit.int .u8 x).wf = true) : Calls Try.prog 7 #[.slice A0 l0.length c0, .slice A1 l1.length c1] W fun e W' => e = .returned (.bool true) ∧ Below W.heap.size W W' := by
  refine keeps7 l0 l1 (by omega) (by omega) (fun x hx => ?_) hr hc hr1 hc1
  have h := hw x hx
  simp [Lit.wf, IntKind.min, IntKind.max, IntKind.signed, IntKind.bits] at h
  omega
end Go.Proofs.Ytolnhhafjojjeaa.Walks
