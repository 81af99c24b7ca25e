/- ChainEnds' walk, out of its contract and its plain law. -/
import Derived.Test.YtijlcahikeeigaaPureChainEnds
import Derived.Test.YtijlcahikeeigaaOpens
namespace Go.Proofs.Ytijlcahikeeigaa.Walks
open Go.RowKit Go.Proofs.Ytijlcahikeeigaa.QA Go.Proofs.YtijlcahikeeigaaW.PrintWords Go.Proofs.YtijlcahikeeigaaW.PrintLast
theorem chainEnds {W : World} (A0 : Option Addr) (c0 : Nat) (l0 : List S43) (hr : Kd.C k43 W A0 l0.length l0) (hc : l0.length ≤ c0) (a1 : Bool) (a2 : Int) (_w2 : (Lit.int .i64 a2).wf = true) :
    Calls Try.prog 6 #[.slice A0 l0.length c0, .bool a1, .int .i64 a2] W fun e W' => e = .returned (.bool true) ∧ Below W.heap.size W W' :=
  tidemarklaw12_ChainEnds.calls _ A0 c0 l0 a1 a2 true W hr hc (Pure.ChainEnds l0 a1 a2 (Kd.C_max hr)) rfl
end Go.Proofs.Ytijlcahikeeigaa.Walks
