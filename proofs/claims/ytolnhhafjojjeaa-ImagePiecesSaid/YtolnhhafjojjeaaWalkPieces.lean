/- ImagePieces' walk, out of its contract and its plain law. -/
import Derived.Test.YtolnhhafjojjeaaPureImagePieces
namespace Go.Proofs.Ytolnhhafjojjeaa.Walks
open Go.RowKit Go.Proofs.Ytolnhhafjojjeaa.QA Go.Proofs.YtolnhhafjojjeaaW.PrintWords Go.Proofs.YtolnhhafjojjeaaW.PrintLast
theorem imagePieces {W : World} (A0 : Option Addr) (c0 : Nat) (l0 : List Int) (hr : Kd.C (Kd.int .u8) W A0 l0.length l0) (hc : l0.length ≤ c0) (hy : l0.length * 1 ≤ 140737488351232) (_hw : ∀ x ∈ l0, (Lit.int .u8 x).wf = true)
    (a1 : Int) (w1 : (Lit.int .i64 a1).wf = true) (A2 : Option Addr) (c2 : Nat) (l2 : List Int) (hr2 : Kd.C (Kd.int .u8) W A2 l2.length l2) (hc2 : l2.length ≤ c2) (hy2 : l2.length * 1 ≤ 140737488351232) (_hw2 : ∀ x ∈ l2, (Lit.int .u8 x).wf = true) : Calls Try.prog 6 #[.slice A0 l0.length c0, .int .i64 a1, .slice A2 l2.length c2] W fun e W' => e = .returned (.bool true) ∧ Below W.heap.size W W' := by
  have h1 : -9223372036854775808 ≤ a1 ∧ a1 ≤ 9223372036854775807 := by
    simp [Lit.wf, IntKind.min, IntKind.max, IntKind.signed, IntKind.bits] at w1; omega
  exact tidemarklaw03_ImagePieces.calls 2 A0 c0 l0 a1 A2 c2 l2 true W hr hc hr2 hc2 (Pure.ImagePieces l0 (by omega) a1 h1.1 h1.2 l2 (by omega)) rfl
end Go.Proofs.Ytolnhhafjojjeaa.Walks
