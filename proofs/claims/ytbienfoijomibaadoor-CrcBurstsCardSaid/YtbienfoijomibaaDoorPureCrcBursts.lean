/- CrcBursts' plain law: a run of at most 32 turned bits is told. -/
import Derived.Test.YtbienfoijomibaaDoorQAx8
import Derived.Test.YtbienfoijomibaaDoorPure
namespace Go.Proofs.YtbienfoijomibaaDoor.Pure
open Go.RowKit Go.Proofs.YtbienfoijomibaaDoor.QA Go.Proofs.YtbienfoijomibaaDoorW.PrintWords Go.Proofs.YtbienfoijomibaaDoorW.PrintLast
open Go.Proofs.YtbienfoijomibaaDoorW.PrintMore
set_option linter.unusedVariables false
/-- numbers as Ints -/
def ints (m : List Nat) : List Int := m.map fun (n : Nat) => (n : Int)
theorem ints_length (m : List Nat) : (ints m).length = m.length := by simp [ints]
theorem ints_back (l : List Int) (h : bytesOk l = true) : ints (l.map Int.toNat) = l := by
  unfold ints
  rw [List.map_map]
  conv => rhs; rw [← List.map_id l]
  apply List.map_congr_left
  intro x hx
  have := bytesOk_mem h x hx
  simp; omega
theorem ints_nat (m : List Nat) : (ints m).map Int.toNat = m := by
  unfold ints
  rw [List.map_map]
  conv => rhs; rw [← List.map_id m]
  apply List.map_congr_left
  intro x _
  simp
def small (m : List Nat) : Prop := ∀ n ∈ m, n < 256
theorem small_ok {m : List Nat} (h : small m) : bytesOk (ints m) = true := by
  unfold bytesOk ints
  refine List.all_eq_true.2 fun x hx => ?_
  obtain ⟨n, hn, rfl⟩ := List.mem_map.1 hx
  have := h n hn
  simp; omega
theorem small_of {l : List Int} (h : bytesOk l = true) : small (l.map Int.toNat) := by
  intro n hn
  obtain ⟨x, hx, rfl⟩ := List.mem_map.1 hn
  have := bytesOk_mem h x hx
  omega
theorem xor_small {a t : Nat} (ha : a < 256) (ht : t < 8) : a ^^^ 2 ^ t < 256 := by
  have h2 : 2 ^ t < 2 ^ 8 := Nat.pow_lt_pow_right (by omega) ht
  exact Nat.xor_lt_two_pow (n := 8) (by omega) h2
theorem small_flip {m : List Nat} (h : small m) (j : Nat) : small (CrcPlain.flip m j) := by
  intro n hn
  unfold CrcPlain.flip at hn
  rcases List.mem_or_eq_of_mem_set hn with hn | rfl
  · exact h n hn
  · refine xor_small ?_ (by omega)
    rcases Nat.lt_or_ge (j / 8) m.length with hl | hl
    · rw [List.getD_eq_getElem?_getD, List.getElem?_eq_getElem hl]
      exact h _ (List.getElem_mem hl)
    · rw [List.getD_eq_getElem?_getD, List.getElem?_eq_none hl]; simp
theorem small_turn {m : List Nat} (h : small m) (k r : Nat) : ∀ i, small (CrcPlain.turn m k r i)
  | 0 => h
  | i + 1 => by
    unfold CrcPlain.turn
    split
    · exact small_flip (small_turn h k r i) _
    · exact small_turn h k r i
theorem bit_is (r i : Nat) (hr : r < 4294967296) (hi : i < 32) : (Go.bits .and .u32 (shr .u32 (r : Int) (i : Int)) 1 = 1) ↔ r.testBit i = true := by
  have e : shr .u32 (r : Int) (i : Int) = ((r / 2 ^ i : Nat) : Int) := by
    unfold shr
    have : min (i : Int).toNat IntKind.u32.bits = i := by simp [IntKind.bits]; omega
    rw [this]
    simp
  have hlt : r / 2 ^ i < 4294967296 := Nat.lt_of_le_of_lt (Nat.div_le_self _ _) hr
  have h := u32_and_nat (r / 2 ^ i) 1 hlt (by omega)
  rw [show ((1 : Nat) : Int) = 1 from rfl] at h
  have e3 : (r / 2 ^ i) &&& 1 = (r / 2 ^ i) % 2 := Nat.and_one_is_mod _
  rw [e, h, e3, Nat.testBit_eq_decide_div_mod_eq, decide_eq_true_eq]
  omega
theorem set_is (m : List Nat) (hm : small m) (j : Nat) (hj : j / 8 < m.length) :
    (ints m).set ((j : Int) / 8).toNat (Go.bits .xor .u8 (rd (ints m) ((j : Int) / 8)) (shl .u8 1 ((j : Int) % 8))) = ints (CrcPlain.flip m j) := by
  have e1 : ((j : Int) / 8) = ((j / 8 : Nat) : Int) := by omega
  have e2 : ((j : Int) % 8) = ((j % 8 : Nat) : Int) := by omega
  have e3 : shl .u8 1 ((j % 8 : Nat) : Int) = ((2 ^ (j % 8) : Nat) : Int) := by
    unfold shl
    have h8 : j % 8 < 8 := Nat.mod_lt _ (by omega)
    have : min ((j % 8 : Nat) : Int).toNat IntKind.u8.bits = j % 8 := by simp [IntKind.bits]; omega
    rw [this, IntKind.wrap_u8']
    have h2 : 2 ^ (j % 8) < 2 ^ 8 := Nat.pow_lt_pow_right (by omega) h8
    have e4 : ((2 : Int) ^ (j % 8)) = ((2 ^ (j % 8) : Nat) : Int) := by simp
    rw [e4]
    generalize 2 ^ (j % 8) = p at h2
    omega
  rw [e1, e2, e3, Int.toNat_natCast]
  have hx : rd (ints m) ((j / 8 : Nat) : Int) = ((m[j / 8] : Nat) : Int) := by
    rw [rd_lt _ _ (by rw [ints_length]; exact hj)]; simp [ints]
  have hp : 2 ^ (j % 8) < 256 := by
    have : 2 ^ (j % 8) < 2 ^ 8 := Nat.pow_lt_pow_right (by omega) (Nat.mod_lt _ (by omega))
    omega
  rw [hx, u8_xor_nat _ _ (hm _ (List.getElem_mem hj)) hp]
  unfold CrcPlain.flip ints
  rw [List.getD_eq_getElem?_getD, List.getElem?_eq_getElem hj, Option.getD_some, List.map_set]
theorem nu_inj {a b : BitVec 32} : nu a = nu b ↔ a = b := by
  constructor
  · intro h
    have : wd (nu a) = wd (nu b) := by rw [h]
    rwa [wd_nu, wd_nu] at this
  · rintro rfl; rfl
theorem bursts_end (l : List Int) (hb : bytesOk l = true) (r k i : Nat) (h32 : i ≤ 32) (hi : k + i ≤ 8 * l.length) (K : Nat) (hK : 0 < K) (x2 x7 x8 x11 : Int) :
    tidemarklaw02_CrcBursts.j3 K l x2 x7 x8 (ints (CrcPlain.turn (l.map Int.toNat) k r i)) (decide (r % 2 ^ i ≠ 0)) x11 false = some true := by
  obtain ⟨K, rfl⟩ : ∃ m, K = m + 1 := ⟨K - 1, by omega⟩
  simp only [tidemarklaw02_CrcBursts.j3]
  rw [if_neg (by simp), sum_one l hb]
  simp only [Option.bind_some]
  rw [sum_one _ (small_ok (small_turn (small_of hb) k r i)), ints_nat]
  simp only [Option.bind_some]
  have ht := CrcPlain.turn_tells (l.map Int.toNat) k r i h32 (by simpa using hi)
  by_cases h : r % 2 ^ i = 0
  · have := ht.2 h
    simp [h, ← this]
  · have hne : CrcPlain.more 0#32 (l.map Int.toNat) ≠ CrcPlain.more 0#32 (CrcPlain.turn (l.map Int.toNat) k r i) := fun e => h (ht.1 e)
    simp [h, nu_inj, hne]
theorem bursts_l0 (l : List Int) (hb : bytesOk l = true) (hn : l.length ≤ 140737488351232) (r k : Nat) (hr : r < 4294967296) (hk : k < 8 * l.length) : ∀ (d K i : Nat), i + d = 32 → k + i ≤ 8 * l.length → 2 * d + 2 < K →
    tidemarklaw02_CrcBursts.l0 K l (r : Int) (8 * (l.length : Int)) (k : Int) (ints (CrcPlain.turn (l.map Int.toNat) k r i)) (decide (r % 2 ^ i ≠ 0)) (i : Int) = some true := by
  intro d
  induction d with
  | zero =>
    intro K i hi hki hK
    obtain ⟨K, rfl⟩ : ∃ m, K = m + 1 := ⟨K - 1, by omega⟩
    simp only [tidemarklaw02_CrcBursts.l0]
    rw [if_neg (by omega)]
    exact bursts_end l hb r k i (by omega) hki K (by omega) _ _ _ _
  | succ d ih =>
    intro K i hi hki hK
    obtain ⟨K, rfl⟩ : ∃ m, K = m + 2 := ⟨K - 2, by omega⟩
    simp only [tidemarklaw02_CrcBursts.l0]
    rw [if_pos (by omega), wr (by omega) (by omega)]
    by_cases hend : k + i = 8 * l.length
    · have hd : decide ((k : Int) + (i : Int) < 8 * (l.length : Int)) = false := by simp; omega
      rw [hd]
      exact bursts_end l hb r k i (by omega) hki (K + 1) (by omega) _ _ _ _
    · have hd : decide ((k : Int) + (i : Int) < 8 * (l.length : Int)) = true := by simp; omega
      rw [hd]
      simp only [tidemarklaw02_CrcBursts.j3, if_true]
      rw [if_pos (by omega), wr (x := (k : Int) + (i : Int)) (by omega) (by omega), wr (x := (i : Int) + 1) (by omega) (by omega)]
      have hnext := ih K (i + 1) (by omega) (by omega) (by omega)
      rw [show ((i + 1 : Nat) : Int) = (i : Int) + 1 by omega] at hnext
      by_cases hbit : r.testBit i = true
      · rw [if_pos ((bit_is r i hr (by omega)).2 hbit)]
        have hlen : (ints (CrcPlain.turn (l.map Int.toNat) k r i)).length = l.length := by rw [ints_length, CrcPlain.turn_length]; simp
        have ed : Int.tdiv ((k : Int) + (i : Int)) 8 = ((k + i : Nat) : Int) / 8 := by rw [Int.tdiv_eq_ediv_of_nonneg (by omega)]; simp
        have em : Int.tmod ((k : Int) + (i : Int)) 8 = ((k + i : Nat) : Int) % 8 := by rw [Int.tmod_eq_emod_of_nonneg (by omega)]; simp
        rw [ed, em, wr (by omega) (by omega), if_pos (by omega), if_pos (by rw [hlen]; omega), if_pos (by omega)]
        rw [set_is _ (small_turn (small_of hb) k r i) (k + i) (by rw [CrcPlain.turn_length]; simp; omega)]
        have e1 : CrcPlain.turn (l.map Int.toNat) k r (i + 1) = CrcPlain.flip (CrcPlain.turn (l.map Int.toNat) k r i) (k + i) := by
          conv => lhs; unfold CrcPlain.turn
          rw [if_pos hbit]
        have e2 : decide (r % 2 ^ (i + 1) ≠ 0) = true := by
          rw [CrcPlain.mod_succ_bit, if_pos hbit]
          have := Nat.two_pow_pos i
          simp
        rw [e1, e2] at hnext
        exact hnext
      · rw [if_neg (fun h => hbit ((bit_is r i hr (by omega)).1 h))]
        have e1 : CrcPlain.turn (l.map Int.toNat) k r (i + 1) = CrcPlain.turn (l.map Int.toNat) k r i := by
          conv => lhs; unfold CrcPlain.turn
          rw [if_neg hbit]
        have e2 : r % 2 ^ (i + 1) = r % 2 ^ i := by rw [CrcPlain.mod_succ_bit, if_neg hbit]; rfl
        rw [e1, e2] at hnext
        exact hnext
theorem CrcBursts (l : List Int) (a1 a2 : Int) (hn : l.length ≤ 140737488351232) (hb : bytesOk l = true) (h1 : -9223372036854775808 ≤ a1 ∧ a1 ≤ 9223372036854775807) (h2 : 0 ≤ a2 ∧ a2 < 4294967296) : tidemarklaw02_CrcBursts.f 100 l a1 a2 = some true := by
  unfold tidemarklaw02_CrcBursts.f
  simp only [tidemarklaw02_known.f, Option.bind_some, if_true]
  have hj : ∀ b, (b = true ∨ (b = false ∧ 1 ≤ l.length)) → tidemarklaw02_CrcBursts.j0 100 l a1 a2 b = some true := by
    rintro b (rfl | ⟨rfl, hl⟩)
    · simp [tidemarklaw02_CrcBursts.j0, tidemarklaw02_known.f]
    · simp only [tidemarklaw02_CrcBursts.j0]
      rw [if_neg (by simp), wr (x := 8 * (l.length : Int)) (by omega) (by omega), if_neg (by omega)]
      have hj1 : ∀ k : Nat, k < 8 * l.length → tidemarklaw02_CrcBursts.j1 99 l a2 (8 * (l.length : Int)) (k : Int) = some true := by
        intro k hk
        simp only [tidemarklaw02_CrcBursts.j1]
        rw [if_pos (by simp; omega), List.nil_append]
        have := bursts_l0 l hb hn a2.toNat k (by omega) hk 32 98 0 (by omega) (by omega) (by omega)
        simp only [CrcPlain.turn, ints_back l hb, Nat.pow_zero, Nat.mod_one] at this
        rw [show ((a2.toNat : Nat) : Int) = a2 by omega] at this
        simpa using this
      have hm := Int.tmod_lt_of_pos a1 (show 0 < 8 * (l.length : Int) by omega)
      have hm2 : -(8 * (l.length : Int)) < Int.tmod a1 (8 * (l.length : Int)) := by
        have := Int.lt_tmod_of_pos a1 (show 0 < 8 * (l.length : Int) by omega)
        omega
      by_cases hneg : Int.tmod a1 (8 * (l.length : Int)) < 0
      · rw [if_pos hneg, wr (by omega) (by omega)]
        have := hj1 (Int.tmod a1 (8 * (l.length : Int)) + 8 * (l.length : Int)).toNat (by omega)
        rwa [Int.toNat_of_nonneg (by omega)] at this
      · rw [if_neg hneg]
        have := hj1 (Int.tmod a1 (8 * (l.length : Int))).toNat (by omega)
        rwa [Int.toNat_of_nonneg (by omega)] at this
  by_cases hl : (l.length : Int) < 1
  · rw [if_pos hl]; exact hj _ (.inl rfl)
  · rw [if_neg hl]
    cases hz : (a2 == 0)
    · exact hj _ (.inr ⟨rfl, by omega⟩)
    · exact hj _ (.inl rfl)
end Go.Proofs.YtbienfoijomibaaDoor.Pure
