/- CrcSums' plain law. -/
import Derived.Test.YtbienfoijomibaaDoorQAx6
import Derived.Test.YtbienfoijomibaaDoorPure
namespace Go.Proofs.YtbienfoijomibaaDoor.Pure
open Go.RowKit Go.Proofs.YtbienfoijomibaaDoor.QA Go.Proofs.YtbienfoijomibaaDoorW.PrintWords Go.Proofs.YtbienfoijomibaaDoorW.PrintLast
set_option linter.unusedVariables false
theorem sums_l0 (l : List (List Int)) (b : BitVec 32) (hb : rowsOk l = true) (hr : ∀ r ∈ l, r.length ≤ 9223372036854775807) (hn : l.length ≤ 9223372036854775807) : ∀ (d k i : Nat), i + d = l.length → d + 10 * longest l < k →
    tidemarklaw02_CrcSums.l0 k l (nu b) (i : Int) = some true := by
  intro d
  induction d with
  | zero =>
    intro k i hi hk
    obtain ⟨k, rfl⟩ : ∃ m, k = m + 1 := ⟨k - 1, by omega⟩
    obtain rfl : i = l.length := by omega
    simp only [tidemarklaw02_CrcSums.l0]
    rw [if_neg (by omega), more_is b [] rfl]
    simp [CrcPlain.more_nil]
  | succ d ih =>
    intro k i hi hk
    obtain ⟨k, rfl⟩ : ∃ m, k = m + 1 := ⟨k - 1, by omega⟩
    have hlt : i < l.length := by omega
    have hm := List.getElem_mem hlt
    have hl := longest_le l l[i] hm
    have hbi := List.all_eq_true.1 hb _ hm
    simp only [tidemarklaw02_CrcSums.l0]
    rw [if_pos (by omega), if_pos (by omega), rd_L1_lt l i hlt, more_is b _ hbi, ref_more_is _ _ hbi (hr _ hm) k (by omega)]
    simp only [Option.bind_some, if_true]
    rw [wr (by omega) (by omega), show (i : Int) + 1 = ((i + 1 : Nat) : Int) by omega]
    exact ih k (i + 1) (by omega) (by omega)
theorem CrcSums (l : List (List Int)) (a1 : Int) (h0 : 0 ≤ a1) (h1 : a1 < 4294967296) (hb : rowsOk l = true) (hr : ∀ r ∈ l, r.length ≤ 9223372036854775807) (hn : l.length ≤ 9223372036854775807) : ∃ k, tidemarklaw02_CrcSums.f k l a1 = some true := by
  refine ⟨l.length + 10 * longest l + 10, ?_⟩
  generalize hk : l.length + 10 * longest l + 10 = k
  have e : a1 = nu (wd a1) := (nu_wd a1 h0 h1).symm
  unfold tidemarklaw02_CrcSums.f
  simp only [tidemarklaw02_known.f, Option.bind_some, if_true]
  rw [sum_is l hb, ref_sum_is l hb hr hn k (by omega), sumTo_all]
  simp only [Option.bind_some, bne_self_eq_false]
  obtain ⟨k, rfl⟩ : ∃ m, k = m + 1 := ⟨k - 1, by omega⟩
  simp only [tidemarklaw02_CrcSums.j0]
  rw [if_neg (by simp), e]
  exact sums_l0 l (wd a1) hb hr hn l.length k 0 (by omega) (by omega)
end Go.Proofs.YtbienfoijomibaaDoor.Pure
