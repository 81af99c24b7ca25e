/- CrcKeeps' plain law: what was read stands, and changed bytes have their own sum. -/
import Derived.Test.YtbienfoijomibaaDoorQAx10
import Derived.Test.YtbienfoijomibaaDoorPure
namespace Go.Proofs.YtbienfoijomibaaDoor.Pure
open Go.RowKit Go.Proofs.YtbienfoijomibaaDoor.QA Go.Proofs.YtbienfoijomibaaDoorW.PrintWords Go.Proofs.YtbienfoijomibaaDoorW.PrintLast
set_option linter.unusedVariables false
theorem seven : (7 : Int) = nu 7#32 := by decide
theorem ok_all {l : List Int} (h : ∀ x ∈ l, 0 ≤ x ∧ x ≤ 255) : bytesOk l = true :=
  List.all_eq_true.2 fun x hx => by have := h x hx; simp; omega
theorem keeps_l2 (l : List Int) (hn : l.length ≤ 140737488351232) (s : BitVec 32) : ∀ (d K i : Nat) (y : List Int), i + d = l.length → 10 * l.length + 12 + d ≤ K → l.length ≤ y.length → (∀ x ∈ y, 0 ≤ x ∧ x ≤ 255) →
    tidemarklaw02_CrcKeeps.l2 K l y (nu s) (i : Int) = some true := by
  intro d
  induction d with
  | zero =>
    intro K i y hi hK hl hy
    obtain ⟨K, rfl⟩ : ∃ m, K = m + 1 := ⟨K - 1, by omega⟩
    simp only [tidemarklaw02_CrcKeeps.l2]
    have hok : bytesOk (y.take l.length) = true := ok_all fun x hx => hy x (List.mem_of_mem_take hx)
    have hlen : (y.take l.length).length = l.length := by rw [List.length_take]; omega
    rw [if_neg (by omega), if_pos (by omega), if_pos (by omega)]
    simp only [Option.bind_some, Int.toNat_natCast, List.length_nil, List.nil_append]
    rw [if_pos (by omega), sum_one _ hok]
    simp only [Option.bind_some]
    rw [ref_sum_is [y.take l.length] (by simp [rowsOk, hok]) (by simp; omega) (by simp) K (by simp [longest, hlen]; omega)]
    simp only [Option.bind_some]
    rw [sumTo_all]
    have e : CrcPlain.sum (([y.take l.length]).map fun r => r.map Int.toNat) = CrcPlain.more 0#32 ((y.take l.length).map Int.toNat) := rfl
    rw [e, if_pos rfl, more_is _ _ hok]
    simp only [Option.bind_some]
    rw [ref_more_is _ _ hok (by omega) K (by omega)]
    simp
  | succ d ih =>
    intro K i y hi hK hl hy
    obtain ⟨K, rfl⟩ : ∃ m, K = m + 1 := ⟨K - 1, by omega⟩
    simp only [tidemarklaw02_CrcKeeps.l2]
    rw [if_pos (by omega), if_pos (by omega), if_pos (by omega), wr (by omega) (by omega), show (i : Int) + 1 = ((i + 1 : Nat) : Int) by omega]
    refine ih K (i + 1) _ (by omega) (by omega) (by simpa using hl) ?_
    intro x hx
    rcases List.mem_or_eq_of_mem_set hx with hx | rfl
    · exact hy x hx
    · omega
theorem rd_app_left (l m : List Int) (i : Nat) (h : i < l.length) : rd (l ++ m) (i : Int) = rd l (i : Int) := by
  simp [rd, List.getD_eq_getElem?_getD, List.getElem?_append_left h]
theorem rd_app_right (l : List Int) (n i : Nat) (a : Int) (h : ¬ i < l.length) (h2 : i < l.length + n) : rd (l ++ List.replicate n a) (i : Int) = a := by
  simp only [rd, List.getD_eq_getElem?_getD, Int.toNat_natCast]
  rw [List.getElem?_append_right (by omega), List.getElem?_replicate, if_pos (by omega)]; rfl
theorem keeps_l1 (l : List Int) (hb : bytesOk l = true) (hn : l.length ≤ 140737488351232) (a : Int) (ha : 0 ≤ a ∧ a ≤ 255) (x7 : Int) (s : BitVec 32) (hx7 : x7 = nu s) (h7 : crc_Sum.f [l, l] = some x7) (x8 : Int) (h8 : crc_More.f 7 l = some x8) : ∀ (d K i : Nat), i + d = l.length + 200 → 11 * l.length + 20 + d ≤ K →
    tidemarklaw02_CrcKeeps.l1 K l a (l ++ List.replicate 200 a) x7 x8 (i : Int) = some true := by
  intro d
  induction d with
  | zero =>
    intro K i hi hK
    obtain ⟨K, rfl⟩ : ∃ m, K = m + 2 := ⟨K - 2, by omega⟩
    simp only [tidemarklaw02_CrcKeeps.l1]
    rw [if_neg (by simp only [List.length_append, List.length_replicate]; omega), h7]
    simp only [Option.bind_some, if_true]
    rw [h8]
    simp only [Option.bind_some, if_true]
    rw [show tidemarklaw02_known.f = some true from rfl]
    simp only [Option.bind_some, tidemarklaw02_CrcKeeps.j2]
    rw [if_neg (by simp), hx7]
    refine keeps_l2 l hn s l.length K 0 _ (by omega) (by omega) (by simp only [List.length_append, List.length_replicate]; omega) ?_
    intro x hx
    rcases List.mem_append.1 hx with hx | hx
    · exact bytesOk_mem hb x hx
    · rw [(List.mem_replicate.1 hx).2]; exact ha
  | succ d ih =>
    intro K i hi hK
    obtain ⟨K, rfl⟩ : ∃ m, K = m + 1 := ⟨K - 1, by omega⟩
    simp only [tidemarklaw02_CrcKeeps.l1]
    rw [if_pos (by simp only [List.length_append, List.length_replicate]; omega), wr (by omega) (by omega), show (i : Int) + 1 = ((i + 1 : Nat) : Int) by omega]
    have hnext := ih K (i + 1) (by omega) (by omega)
    by_cases h : i < l.length
    · rw [if_pos (by omega), if_pos (by omega), rd_app_left _ _ _ h, if_pos rfl, if_neg (by omega)]
      exact hnext
    · rw [if_neg (by omega), if_pos (by omega), if_pos (by omega), rd_app_right _ _ _ _ h (by omega), if_pos rfl]
      exact hnext
theorem keeps_l0 (l : List Int) (hb : bytesOk l = true) (hn : l.length ≤ 140737488351232) (a : Int) (ha : 0 ≤ a ∧ a ≤ 255) : ∀ (d K i : Nat), i + d = 200 → 12 * l.length + 240 + d ≤ K →
    tidemarklaw02_CrcKeeps.l0 K l a (l ++ List.replicate i a) (i : Int) = some true := by
  intro d
  induction d with
  | zero =>
    intro K i hi hK
    obtain ⟨K, rfl⟩ : ∃ m, K = m + 1 := ⟨K - 1, by omega⟩
    obtain rfl : i = 200 := by omega
    simp only [tidemarklaw02_CrcKeeps.l0]
    rw [if_neg (by omega), if_pos (by omega), if_pos (by simp only [List.length_append, List.length_replicate]; omega)]
    simp only [Option.bind_some, Int.toNat_natCast]
    rw [List.take_left' rfl]
    have hs : crc_Sum.f [l, l] = some (nu (CrcPlain.sum [l.map Int.toNat, l.map Int.toNat])) := sum_is [l, l] (by simp [rowsOk, hb])
    have hm : crc_More.f 7 l = some (nu (CrcPlain.more 7#32 (l.map Int.toNat))) := by rw [seven]; exact more_is _ _ hb
    rw [hs]
    simp only [Option.bind_some]
    rw [hm]
    simp only [Option.bind_some]
    exact keeps_l1 l hb hn a ha _ _ rfl hs _ hm (l.length + 200) K 0 (by omega) (by omega)
  | succ d ih =>
    intro K i hi hK
    obtain ⟨K, rfl⟩ : ∃ m, K = m + 1 := ⟨K - 1, by omega⟩
    simp only [tidemarklaw02_CrcKeeps.l0]
    rw [if_pos (by omega), if_pos (by simp; omega), wr (by omega) (by omega), show (i : Int) + 1 = ((i + 1 : Nat) : Int) by omega]
    have hnext := ih K (i + 1) (by omega) (by omega)
    rw [List.append_assoc, show List.replicate i a ++ [a] = List.replicate (i + 1) a from (List.replicate_succ' ..).symm]
    exact hnext
theorem CrcKeeps (l : List Int) (hb : bytesOk l = true) (hn : l.length ≤ 140737488351232) (a : Int) (ha : 0 ≤ a ∧ a ≤ 255) : tidemarklaw02_CrcKeeps.f (12 * l.length + 440) l a = some true := by
  unfold tidemarklaw02_CrcKeeps.f
  rw [if_pos (by simp; omega)]
  have h := keeps_l0 l hb hn a ha 200 (12 * l.length + 440) 0 (by omega) (by omega)
  simpa using h
end Go.Proofs.YtbienfoijomibaaDoor.Pure
