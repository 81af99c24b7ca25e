/- ChainWhole's walk. -/
import Derived.Test.YtijlcahikeeigaaTWhole
import Derived.Test.YtijlcahikeeigaaOpens58
namespace Go.Proofs.Ytijlcahikeeigaa.Walks
open Go.RowKit Go.Proofs.Ytijlcahikeeigaa.QA Go.Proofs.YtijlcahikeeigaaW.PrintWords Go.Proofs.YtijlcahikeeigaaW.PrintLast
theorem chainWhole {W : World} (A0 : Option Addr) (c0 : Nat) (l0 : List (Int × Int × Int)) (hr : Kd.C k58 W A0 l0.length l0) (_hc : l0.length ≤ c0) :
    Calls Try.prog 5 #[.slice A0 l0.length c0] W fun e W' => e = .returned (.bool true) ∧ Below W.heap.size W W' :=
  whole5 l0 (Kd.C_max hr) hr
end Go.Proofs.Ytijlcahikeeigaa.Walks
