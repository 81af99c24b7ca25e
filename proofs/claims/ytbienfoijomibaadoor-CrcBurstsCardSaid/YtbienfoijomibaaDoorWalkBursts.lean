/- CrcBursts' walk, out of its contract and its plain law. -/
import Derived.Test.YtbienfoijomibaaDoorPureCrcBursts
import Derived.OpenShut
namespace Go.Proofs.YtbienfoijomibaaDoor.Walks
open Go.RowKit Go.Proofs.YtbienfoijomibaaDoor.QA Go.Proofs.YtbienfoijomibaaDoorW.PrintWords Go.Proofs.YtbienfoijomibaaDoorW.PrintLast
theorem V_came {W : World} {A : Option Addr} {c : Nat} {l : List Int} (h : Kd.C (Kd.int .u8) W A l.length l) (hc : l.length ≤ c) : Kd.V (Kd.int .u8) 5 W W.heap.size (fun k => (fun k => k < W.heap.size) k) (.slice A l.length c) l :=
  Kd.V_mk hc (Kd.C_F (Kd.heap_int .u8) h)
theorem crcBursts {W : World} (A0 : Option Addr) (c0 : Nat) (l0 : List Int) (hr : Kd.C (Kd.int .u8) W A0 l0.length l0) (hc : l0.length ≤ c0) (hy : l0.length * 1 ≤ 140737488351232) (hw : ∀ x ∈ l0, (Lit.int .u8 x).wf = true)
    (a1 : Int) (w1 : (Lit.int .i64 a1).wf = true) (a2 : Int) (w2 : (Lit.int .u32 a2).wf = true) (hT : Aside0 (Tab W)) : Calls Tryd.prog 5 #[.slice A0 l0.length c0, .int .i64 a1, .int .u32 a2] W fun e W' => e = .returned (.bool true) ∧ Below W.heap.size W W' := by
  have h1 : -9223372036854775808 ≤ a1 ∧ a1 ≤ 9223372036854775807 := by
    simp [Lit.wf, IntKind.min, IntKind.max, IntKind.signed, IntKind.bits] at w1; omega
  have h2 : 0 ≤ a2 ∧ a2 < 4294967296 := by
    simp [Lit.wf, IntKind.min, IntKind.max, IntKind.signed, IntKind.bits] at w2; omega
  have hk := Pure.CrcBursts l0 a1 a2 (by omega) (Pure.bytesOk_of hw) h1 h2
  exact tidemarklaw02_CrcBursts.calls 100 (fun k => k < W.heap.size) A0 c0 l0 a1 a2 true W (V_came hr hc) hk rfl hT
end Go.Proofs.YtbienfoijomibaaDoor.Walks
