/- CrcSums' walk, out of its contract and its plain law. -/
import Derived.Test.YtbienfoijomibaaDoorPureCrcSums
namespace Go.Proofs.YtbienfoijomibaaDoor.Walks
open Go.RowKit Go.Proofs.YtbienfoijomibaaDoor.QA Go.Proofs.YtbienfoijomibaaDoorW.PrintWords Go.Proofs.YtbienfoijomibaaDoorW.PrintLast
theorem u32_range {n : Int} (h : (Lit.int .u32 n).wf = true) : 0 ≤ n ∧ n < 4294967296 := by
  simp [Lit.wf, IntKind.min, IntKind.max, IntKind.signed, IntKind.bits] at h
  omega
theorem crcSums {W : World} (A0 : Option Addr) (c0 : Nat) (l0 : List (List Int)) (hr : Kd.C (Kd.slice 5 (Kd.int .u8)) W A0 l0.length l0) (hc : l0.length ≤ c0) (hw : ∀ r ∈ l0, ∀ x ∈ r, (Lit.int .u8 x).wf = true)
    (a1 : Int) (w1 : (Lit.int .u32 a1).wf = true) (hT : Aside0 (Tab W)) : Calls Tryd.prog 3 #[.slice A0 l0.length c0, .int .u32 a1] W fun e W' => e = .returned (.bool true) ∧ Below W.heap.size W W' := by
  have hb : rowsOk l0 = true := List.all_eq_true.2 fun r hr => Pure.bytesOk_of (hw r hr)
  have hlen : ∀ r ∈ l0, r.length ≤ 9223372036854775807 := by
    intro r hm
    obtain ⟨i, hi, rfl⟩ := List.mem_iff_getElem.1 hm
    obtain ⟨ad, _, h3⟩ := hr.2.2 (by omega)
    obtain ⟨cs, _, ⟨A, c, _, _, hC⟩, _⟩ := h3 i l0[i] (List.getElem?_eq_getElem hi)
    exact Kd.C_max hC
  obtain ⟨k, hk⟩ := Pure.CrcSums l0 a1 (u32_range w1).1 (u32_range w1).2 hb hlen (Kd.C_max hr)
  exact tidemarklaw02_CrcSums.calls k A0 c0 l0 a1 true W hr hc hk rfl hT
end Go.Proofs.YtbienfoijomibaaDoor.Walks
