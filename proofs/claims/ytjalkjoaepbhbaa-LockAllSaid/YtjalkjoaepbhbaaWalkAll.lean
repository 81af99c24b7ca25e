/- LockAll's walk, in the form that its row asks. -/
import Derived.Test.YtjalkjoaepbhbaaTAll
namespace Go.Proofs.Ytjalkjoaepbhbaa.Walks
open Go.RowKit Go.Proofs.Ytjalkjoaepbhbaa.QA Go.Proofs.YtjalkjoaepbhbaaW.PrintWords Go.Proofs.YtjalkjoaepbhbaaW.PrintLast
theorem lockAll {W : World} (A0 : Option Addr) (c0 : Nat) (l0 : List Stp) (hr : Kd.C k31 W A0 l0.length l0) (_hc : l0.length ≤ c0) : Calls Try.prog 3 #[.slice A0 l0.length c0] W fun e W' => e = .returned (.bool true) ∧ Below W.heap.size W W' :=
  all3 l0 hr
end Go.Proofs.Ytjalkjoaepbhbaa.Walks
