/- CrcCuts' walk, out of its contract and its plain law. -/
import Derived.Test.YtbienfoijomibaaDoorPureCrcCuts
import Derived.OpenShut
namespace Go.Proofs.YtbienfoijomibaaDoor.Walks
open Go.RowKit Go.Proofs.YtbienfoijomibaaDoor.QA Go.Proofs.YtbienfoijomibaaDoorW.PrintWords Go.Proofs.YtbienfoijomibaaDoorW.PrintLast
theorem crcCuts {W : World} (A0 : Option Addr) (c0 : Nat) (l0 : List Int) (hr : Kd.C (Kd.int .u8) W A0 l0.length l0) (hc : l0.length ≤ c0) (hy : l0.length ≤ 1048576) (hw : ∀ x ∈ l0, (Lit.int .u8 x).wf = true)
    (A1 : Option Addr) (c1 : Nat) (l1 : List Int) (hr1 : Kd.C (Kd.int .i64) W A1 l1.length l1) (hc1 : l1.length ≤ c1) (hy1 : l1.length ≤ 1048576) (_hw1 : ∀ x ∈ l1, (Lit.int .i64 x).wf = true) (hT : Aside0 (Tab W)) : Calls Tryd.prog 4 #[.slice A0 l0.length c0, .slice A1 l1.length c1] W fun e W' => e = .returned (.bool true) ∧ Below W.heap.size W W' :=
  tidemarklaw02_CrcCuts.calls (l1.length + 1) (fun k => k < W.heap.size) A0 c0 l0 A1 c1 l1 true W (Kd.V_mk hc (Kd.C_F (Kd.heap_int .u8) hr)) hr1 hc1 (Pure.CrcCuts l0 l1 hy hy1 (Pure.bytesOk_of hw)) rfl hT
end Go.Proofs.YtbienfoijomibaaDoor.Walks
