/- CrcLinear's walk, out of its contract and its plain law. -/
import Derived.Test.YtbienfoijomibaaDoorPureCrcLinear
import Derived.OpenShut
namespace Go.Proofs.YtbienfoijomibaaDoor.Walks
open Go.RowKit Go.Proofs.YtbienfoijomibaaDoor.QA Go.Proofs.YtbienfoijomibaaDoorW.PrintWords Go.Proofs.YtbienfoijomibaaDoorW.PrintLast
theorem crcLinear {W : World} (A0 : Option Addr) (c0 : Nat) (l0 : List Int) (hr : Kd.C (Kd.int .u8) W A0 l0.length l0) (hc : l0.length ≤ c0) (hy : l0.length * 1 ≤ 140737488351232) (hw : ∀ x ∈ l0, (Lit.int .u8 x).wf = true)
    (A1 : Option Addr) (c1 : Nat) (l1 : List Int) (hr1 : Kd.C (Kd.int .u8) W A1 l1.length l1) (hc1 : l1.length ≤ c1) (_hy1 : l1.length * 1 ≤ 140737488351232) (hw1 : ∀ x ∈ l1, (Lit.int .u8 x).wf = true)
    (a2 : Int) (w2 : (Lit.int .u32 a2).wf = true) (a3 : Int) (w3 : (Lit.int .u32 a3).wf = true) (hT : Aside0 (Tab W)) : Calls Tryd.prog 6 #[.slice A0 l0.length c0, .slice A1 l1.length c1, .int .u32 a2, .int .u32 a3] W fun e W' => e = .returned (.bool true) ∧ Below W.heap.size W W' := by
  have h2 : 0 ≤ a2 ∧ a2 < 4294967296 := by
    simp [Lit.wf, IntKind.min, IntKind.max, IntKind.signed, IntKind.bits] at w2; omega
  have h3 : 0 ≤ a3 ∧ a3 < 4294967296 := by
    simp [Lit.wf, IntKind.min, IntKind.max, IntKind.signed, IntKind.bits] at w3; omega
  exact tidemarklaw02_CrcLinear.calls _ (fun k => k < W.heap.size) A0 c0 l0 (fun k => k < W.heap.size) A1 c1 l1 a2 a3 true W (Kd.V_mk hc (Kd.C_F (Kd.heap_int .u8) hr)) (Kd.V_mk hc1 (Kd.C_F (Kd.heap_int .u8) hr1)) (Pure.CrcLinear l0 l1 (Pure.bytesOk_of hw) (Pure.bytesOk_of hw1) (by omega) a2 a3 h2 h3) rfl hT
end Go.Proofs.YtbienfoijomibaaDoor.Walks
