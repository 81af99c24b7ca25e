/- CrcKeeps' walk, out of its contract and its plain law. -/
import Derived.Test.YtbienfoijomibaaDoorPureCrcKeeps
import Derived.OpenShut
namespace Go.Proofs.YtbienfoijomibaaDoor.Walks
open Go.RowKit Go.Proofs.YtbienfoijomibaaDoor.QA Go.Proofs.YtbienfoijomibaaDoorW.PrintWords Go.Proofs.YtbienfoijomibaaDoorW.PrintLast
theorem crcKeeps {W : World} (A0 : Option Addr) (c0 : Nat) (l0 : List Int) (hr : Kd.C (Kd.int .u8) W A0 l0.length l0) (hc : l0.length ≤ c0) (hy : l0.length * 1 ≤ 140737488351232) (hw : ∀ x ∈ l0, (Lit.int .u8 x).wf = true)
    (a1 : Int) (w1 : (Lit.int .u8 a1).wf = true) (hT : Aside0 (Tab W)) : Calls Tryd.prog 7 #[.slice A0 l0.length c0, .int .u8 a1] W fun e W' => e = .returned (.bool true) ∧ Below W.heap.size W W' := by
  have h1 : 0 ≤ a1 ∧ a1 ≤ 255 := by
    simp [Lit.wf, IntKind.min, IntKind.max, IntKind.signed, IntKind.bits] at w1; omega
  exact tidemarklaw02_CrcKeeps.calls _ (fun k => k < W.heap.size) A0 c0 l0 a1 true W (Kd.V_mk hc (Kd.C_F (Kd.heap_int .u8) hr)) (Pure.CrcKeeps l0 (Pure.bytesOk_of hw) (by omega) a1 h1) rfl hT
end Go.Proofs.YtbienfoijomibaaDoor.Walks
