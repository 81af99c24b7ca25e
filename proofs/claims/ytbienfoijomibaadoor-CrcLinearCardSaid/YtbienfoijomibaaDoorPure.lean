/- The plain law of chapter 2: what the printed functions compute. -/
import Derived.Test.YtbienfoijomibaaDoorQAx1
import Derived.Test.YtbienfoijomibaaDoorQAx2
import Derived.Test.YtbienfoijomibaaDoorQAx4
import Derived.Test.YtbienfoijomibaaDoorQAx5
namespace Go.Proofs.YtbienfoijomibaaDoor.Pure
open Go.RowKit Go.Proofs.YtbienfoijomibaaDoor.QA Go.Proofs.YtbienfoijomibaaDoorW.PrintWords Go.Proofs.YtbienfoijomibaaDoorW.PrintLast
set_option linter.unusedVariables false

theorem wr {x : Int} (h0 : -9223372036854775808 ≤ x) (h1 : x ≤ 9223372036854775807) : wrap64 x = x := by unfold wrap64; omega
theorem rd_lt (l : List Int) (i : Nat) (h : i < l.length) : rd l (i : Int) = l[i] := by
  simp [rd, List.getD_eq_getElem?_getD, h]
theorem bytesOk_of {l : List Int} (h : ∀ x ∈ l, (Lit.int .u8 x).wf = true) : bytesOk l = true := by
  unfold bytesOk
  refine List.all_eq_true.2 fun x hx => ?_
  have := h x hx
  simp [Lit.wf, IntKind.min, IntKind.max, IntKind.signed, IntKind.bits] at this
  simp; omega
theorem bytesOk_mem {l : List Int} (h : bytesOk l = true) (x : Int) (hx : x ∈ l) : 0 ≤ x ∧ x ≤ 255 := by
  have := List.all_eq_true.1 h x hx
  simpa using this
theorem more_is (b : BitVec 32) (l : List Int) (h : bytesOk l = true) : crc_More.f (nu b) l = some (nu (CrcPlain.more b (l.map Int.toNat))) := by
  unfold crc_More.f
  rw [if_pos ⟨(nu_range b).1, (nu_range b).2, h⟩, wd_nu]
theorem xor_ones (b : BitVec 32) : bits .xor .u32 (nu b) 4294967295 = nu (~~~ b) := by
  have e : (4294967295 : Int) = nu (BitVec.allOnes 32) := by decide
  rw [e, xor_nu, BitVec.xor_allOnes]
theorem half_nu (w : BitVec 32) : (Int.tdiv (nu w) 2) % (4294967296 : Int) = nu (w >>> 1) := by
  have := w.isLt
  unfold nu
  rw [BitVec.toNat_ushiftRight, Nat.shiftRight_eq_div_pow, Int.tdiv_eq_ediv_of_nonneg (by omega)]
  omega
theorem odd_nu (w : BitVec 32) : Int.tmod (nu w) 2 = 1 ↔ w.getLsbD 0 = true := by
  unfold nu
  rw [Int.tmod_eq_emod_of_nonneg (by omega), BitVec.getLsbD, Nat.testBit_zero]
  simp; omega
theorem bstep (w : BitVec 32) : (if Int.tmod (nu w) 2 = 1 then bits .xor .u32 ((Int.tdiv (nu w) 2) % (4294967296 : Int)) 3988292384 else (Int.tdiv (nu w) 2) % (4294967296 : Int)) = nu (CrcPlain.B w) := by
  rw [half_nu]
  unfold CrcPlain.B
  by_cases h : w.getLsbD 0 = true
  · rw [if_pos ((odd_nu w).2 h), if_pos h]
    have e : (3988292384 : Int) = nu CrcPlain.poly := by decide
    rw [e, xor_nu]
  · rw [if_neg (fun h2 => h ((odd_nu w).1 h2)), if_neg h]; simp
theorem ref_l1 (l : List Int) (i : Int) : ∀ (d k j : Nat) (w : BitVec 32), j + d = 8 → d < k → ∃ k', k = k' + d + 1 ∧ tidemarkref02_More.l1 k l (nu w) i (j : Int) = tidemarkref02_More.l0 k' l (nu (CrcPlain.Bn d w)) (wrap64 (i + 1)) := by
  intro d
  induction d with
  | zero =>
    intro k j w hj hk
    obtain ⟨k, rfl⟩ : ∃ m, k = m + 1 := ⟨k - 1, by omega⟩
    refine ⟨k, rfl, ?_⟩
    simp only [tidemarkref02_More.l1]
    rw [if_neg (by omega)]; rfl
  | succ d ih =>
    intro k j w hj hk
    obtain ⟨k, rfl⟩ : ∃ m, k = m + 1 := ⟨k - 1, by omega⟩
    obtain ⟨k', hk', h⟩ := ih k (j + 1) (CrcPlain.B w) (by omega) (by omega)
    refine ⟨k', by omega, ?_⟩
    simp only [tidemarkref02_More.l1]
    rw [if_pos (by omega), wr (by omega) (by omega)]
    have hb := bstep w
    show _ = tidemarkref02_More.l0 k' l (nu (CrcPlain.Bn d (CrcPlain.B w))) (wrap64 (i + 1))
    rw [← h, show ((j + 1 : Nat) : Int) = (j : Int) + 1 by omega]
    by_cases h1 : Int.tmod (nu w) 2 = 1
    · rw [if_pos h1] at hb ⊢; rw [hb]
    · rw [if_neg h1] at hb ⊢; rw [hb]
theorem ref_l0 (l : List Int) (hb : bytesOk l = true) (hn : l.length ≤ 9223372036854775807) : ∀ (d k i : Nat) (w : BitVec 32), i + d = l.length → 10 * d < k →
    tidemarkref02_More.l0 k l (nu w) (i : Int) = some (nu (~~~ (CrcPlain.run w ((l.drop i).map Int.toNat)))) := by
  intro d
  induction d with
  | zero =>
    intro k i w hi hk
    obtain ⟨k, rfl⟩ : ∃ m, k = m + 1 := ⟨k - 1, by omega⟩
    simp only [tidemarkref02_More.l0]
    rw [if_neg (by omega), xor_ones, List.drop_eq_nil_of_le (by omega)]; rfl
  | succ d ih =>
    intro k i w hi hk
    obtain ⟨k, rfl⟩ : ∃ m, k = m + 1 := ⟨k - 1, by omega⟩
    have hlt : i < l.length := by omega
    simp only [tidemarkref02_More.l0]
    rw [if_pos (by omega), if_pos (by omega), rd_lt l i hlt]
    have hx := bytesOk_mem hb l[i] (List.getElem_mem hlt)
    have e : bits .xor .u32 (nu w) (l[i] % 4294967296) = nu (w ^^^ BitVec.ofNat 32 l[i].toNat) := by
      rw [show l[i] % (4294967296 : Int) = l[i] by omega]
      have := xor_nu w (BitVec.ofNat 32 l[i].toNat)
      rwa [byte_nu l[i] hx.1 hx.2] at this
    rw [e]
    obtain ⟨k', hk', h⟩ := ref_l1 l (i : Int) 8 k 0 (w ^^^ BitVec.ofNat 32 l[i].toNat) (by omega) (by omega)
    rw [show ((0 : Nat) : Int) = 0 from rfl] at h
    rw [h, wr (by omega) (by omega), show (i : Int) + 1 = ((i + 1 : Nat) : Int) by omega, ih k' (i + 1) _ (by omega) (by omega)]
    have hd : l.drop i = l[i] :: l.drop (i + 1) := (List.getElem_cons_drop hlt).symm
    rw [hd, List.map_cons]
    rfl
theorem ref_more_is (b : BitVec 32) (l : List Int) (h : bytesOk l = true) (hn : l.length ≤ 9223372036854775807) (k : Nat) (hk : 10 * l.length < k) : tidemarkref02_More.f k (nu b) l = some (nu (CrcPlain.more b (l.map Int.toNat))) := by
  unfold tidemarkref02_More.f
  rw [xor_ones]
  have := ref_l0 l h hn l.length k 0 (~~~ b) (by omega) hk
  simpa [CrcPlain.more] using this
theorem sumTo_all (l : List (List Int)) : sumTo l l.length = CrcPlain.sum (l.map fun r => r.map Int.toNat) := by
  unfold sumTo; rw [List.take_length]
theorem sum_is (l : List (List Int)) (h : rowsOk l = true) : crc_Sum.f l = some (nu (CrcPlain.sum (l.map fun r => r.map Int.toNat))) := by
  unfold crc_Sum.f
  rw [if_pos h, sumTo_all]
theorem sum_one (l : List Int) (h : bytesOk l = true) : crc_Sum.f [l] = some (nu (CrcPlain.more 0#32 (l.map Int.toNat))) := by
  rw [sum_is [l] (by simp [rowsOk, h])]; rfl
/-! the reference's Sum -/
theorem rd_L1_lt (l : List (List Int)) (i : Nat) (h : i < l.length) : rd_L1 l (i : Int) = l[i] := by
  simp [rd_L1, List.getD_eq_getElem?_getD, h]
def longest (l : List (List Int)) : Nat := (l.map List.length).foldr max 0
theorem longest_le (l : List (List Int)) (r : List Int) (h : r ∈ l) : r.length ≤ longest l := by
  induction l with
  | nil => cases h
  | cons x l ih =>
    simp only [longest, List.map_cons, List.foldr_cons]
    rcases List.mem_cons.1 h with rfl | h
    · omega
    · have := ih h; unfold longest at this; omega
theorem ref_sum_l0 (l : List (List Int)) (hb : rowsOk l = true) (hr : ∀ r ∈ l, r.length ≤ 9223372036854775807) (hn : l.length ≤ 9223372036854775807) : ∀ (d k i : Nat), i + d = l.length → d + 10 * longest l < k →
    tidemarkref02_Sum.l0 k l (nu (sumTo l i)) (i : Int) = some (nu (sumTo l l.length)) := by
  intro d
  induction d with
  | zero =>
    intro k i hi hk
    obtain ⟨k, rfl⟩ : ∃ m, k = m + 1 := ⟨k - 1, by omega⟩
    obtain rfl : i = l.length := by omega
    simp only [tidemarkref02_Sum.l0]
    rw [if_neg (by omega)]
  | succ d ih =>
    intro k i hi hk
    obtain ⟨k, rfl⟩ : ∃ m, k = m + 1 := ⟨k - 1, by omega⟩
    have hlt : i < l.length := by omega
    have hm := List.getElem_mem hlt
    have hl := longest_le l l[i] hm
    simp only [tidemarkref02_Sum.l0]
    rw [if_pos (by omega), if_pos (by omega), rd_L1_lt l i hlt, ref_more_is _ _ (List.all_eq_true.1 hb _ hm) (hr _ hm) k (by omega)]
    simp only [Option.bind_some]
    have hs := sumTo_succ l i hlt
    have hg : l.getD i [] = l[i] := by simp [List.getD_eq_getElem?_getD, hlt]
    rw [hg] at hs
    rw [← hs, wr (by omega) (by omega), show (i : Int) + 1 = ((i + 1 : Nat) : Int) by omega]
    exact ih k (i + 1) (by omega) (by omega)
theorem ref_sum_is (l : List (List Int)) (hb : rowsOk l = true) (hr : ∀ r ∈ l, r.length ≤ 9223372036854775807) (hn : l.length ≤ 9223372036854775807) (k : Nat) (hk : l.length + 10 * longest l < k) :
    tidemarkref02_Sum.f k l = some (nu (sumTo l l.length)) := by
  unfold tidemarkref02_Sum.f
  have := ref_sum_l0 l hb hr hn l.length k 0 (by omega) hk
  rw [sumTo_zero] at this
  exact this
end Go.Proofs.YtbienfoijomibaaDoor.Pure
