/- CrcLinear's plain law: sums of rows turned by one another; unlike sums stay unlike behind the same bytes. -/
import Derived.Test.YtbienfoijomibaaDoorQAx9
import Derived.Test.YtbienfoijomibaaDoorPure
namespace Go.Proofs.YtbienfoijomibaaDoor.Pure
open Go.RowKit Go.Proofs.YtbienfoijomibaaDoor.QA Go.Proofs.YtbienfoijomibaaDoorW.PrintWords Go.Proofs.YtbienfoijomibaaDoorW.PrintLast Go.Proofs.YtbienfoijomibaaDoorW.PrintMore
set_option linter.unusedVariables false
def lints (m : List Nat) : List Int := m.map fun (n : Nat) => (n : Int)
theorem lints_nat (m : List Nat) : (lints m).map Int.toNat = m := by
  unfold lints
  rw [List.map_map]
  conv => rhs; rw [← List.map_id m]
  apply List.map_congr_left
  intro x _
  simp
def nats (l : List Int) : List Nat := l.map Int.toNat
def zipped (l0 l1 : List Int) (i : Nat) : List Nat := List.zipWith (· ^^^ ·) ((nats l0).take i) ((nats l1).take i)
theorem nats_at (l : List Int) (h : bytesOk l = true) (i : Nat) (hi : i < l.length) : rd l (i : Int) = (((nats l)[i]'(by simpa [nats] using hi) : Nat) : Int) ∧ (nats l)[i]'(by simpa [nats] using hi) < 256 := by
  have := bytesOk_mem h l[i] (List.getElem_mem hi)
  rw [rd_lt l i hi]
  simp only [nats, List.getElem_map]
  omega
theorem zipped_succ (l0 l1 : List Int) (h0 : bytesOk l0 = true) (h1 : bytesOk l1 = true) (i : Nat) (hi : i < l0.length) (hj : i < l1.length) :
    lints (zipped l0 l1 i) ++ [Go.bits .xor .u8 (rd l0 (i : Int)) (rd l1 (i : Int))] = lints (zipped l0 l1 (i + 1)) := by
  obtain ⟨e0, s0⟩ := nats_at l0 h0 i hi
  obtain ⟨e1, s1⟩ := nats_at l1 h1 i hj
  have k0 : i < (nats l0).length := by simpa [nats] using hi
  have k1 : i < (nats l1).length := by simpa [nats] using hj
  rw [e0, e1, u8_xor_nat _ _ s0 s1]
  unfold zipped
  rw [List.take_succ_eq_append_getElem k0, List.take_succ_eq_append_getElem k1, List.zipWith_append (by simp; omega)]
  simp [lints]
theorem zipped_small (l0 l1 : List Int) (h0 : bytesOk l0 = true) (h1 : bytesOk l1 = true) (i : Nat) : bytesOk (lints (zipped l0 l1 i)) = true := by
  refine List.all_eq_true.2 fun x hx => ?_
  obtain ⟨n, hn, rfl⟩ := List.mem_map.1 hx
  obtain ⟨j, hj, rfl⟩ := List.getElem_of_mem hn
  simp only [zipped, List.length_zipWith, List.length_take] at hj
  have a0 : j < l0.length := by simp [nats] at hj; omega
  have a1 : j < l1.length := by simp [nats] at hj; omega
  have s0 := (nats_at l0 h0 j a0).2
  have s1 := (nats_at l1 h1 j a1).2
  simp only [zipped, List.getElem_zipWith, List.getElem_take]
  have := Nat.xor_lt_two_pow (n := 8) s0 s1
  simp; omega
theorem zeros_succ (i : Nat) : List.replicate i (0 : Int) ++ [0] = List.replicate (i + 1) 0 := (List.replicate_succ' ..).symm
theorem wd_inj {a b : Int} (ha : 0 ≤ a ∧ a < 4294967296) (hb : 0 ≤ b ∧ b < 4294967296) (h : wd a = wd b) : a = b := by
  have := congrArg nu h
  rwa [nu_wd a ha.1 ha.2, nu_wd b hb.1 hb.2] at this
theorem linear_end (l0 : List Int) (h0 : bytesOk l0 = true) (a2 a3 : Int) (w2 : 0 ≤ a2 ∧ a2 < 4294967296) (w3 : 0 ≤ a3 ∧ a3 < 4294967296) (K : Nat) (hK : 0 < K) : tidemarklaw02_CrcLinear.j1 K l0 a2 a3 false = some true := by
  obtain ⟨K, rfl⟩ : ∃ m, K = m + 1 := ⟨K - 1, by omega⟩
  simp only [tidemarklaw02_CrcLinear.j1]
  rw [if_neg (by simp)]
  have m2 : crc_More.f a2 l0 = some (nu (CrcPlain.more (wd a2) (l0.map Int.toNat))) := by
    have := more_is (wd a2) l0 h0
    rwa [nu_wd a2 w2.1 w2.2] at this
  have m3 : crc_More.f a3 l0 = some (nu (CrcPlain.more (wd a3) (l0.map Int.toNat))) := by
    have := more_is (wd a3) l0 h0
    rwa [nu_wd a3 w3.1 w3.2] at this
  rw [m2, m3]
  simp only [Option.bind_some, Option.some.injEq]
  by_cases h : a2 = a3
  · subst h; simp
  · have hne : CrcPlain.more (wd a2) (l0.map Int.toNat) ≠ CrcPlain.more (wd a3) (l0.map Int.toNat) := fun e => h (wd_inj w2 w3 (CrcPlain.more_inj _ _ _ e))
    have hne2 : nu (CrcPlain.more (wd a2) (l0.map Int.toNat)) ≠ nu (CrcPlain.more (wd a3) (l0.map Int.toNat)) := fun e => hne (by have := congrArg wd e; rwa [wd_nu, wd_nu] at this)
    rw [beq_eq_false_iff_ne.2 hne2, beq_eq_false_iff_ne.2 h]; rfl
theorem linear_l0 (l0 l1 : List Int) (h0 : bytesOk l0 = true) (h1 : bytesOk l1 = true) (n0 : l0.length ≤ 140737488351232) (a2 a3 : Int) (w2 : 0 ≤ a2 ∧ a2 < 4294967296) (w3 : 0 ≤ a3 ∧ a3 < 4294967296) (n : Nat) (hn0 : n ≤ l0.length) (hn1 : n ≤ l1.length) :
    ∀ (d K i : Nat), i + d = n → d + 2 ≤ K → tidemarklaw02_CrcLinear.l0 K l0 l1 a2 a3 (n : Int) (lints (zipped l0 l1 i)) (List.replicate i 0) (i : Int) = some true := by
  intro d
  induction d with
  | zero =>
    intro K i hi hK
    obtain ⟨K, rfl⟩ : ∃ m, K = m + 1 := ⟨K - 1, by omega⟩
    obtain rfl : i = n := by omega
    simp only [tidemarklaw02_CrcLinear.l0]
    rw [if_neg (by omega), sum_one _ (zipped_small l0 l1 h0 h1 i)]
    simp only [Option.bind_some, Int.toNat_natCast]
    rw [if_pos (by omega), if_pos (by omega), sum_one _ (List.all_eq_true.2 fun x hx => List.all_eq_true.1 h0 x (List.mem_of_mem_take hx))]
    simp only [Option.bind_some]
    rw [if_pos (by omega), sum_one _ (List.all_eq_true.2 fun x hx => List.all_eq_true.1 h1 x (List.mem_of_mem_take hx))]
    simp only [Option.bind_some]
    rw [sum_one _ (List.all_eq_true.2 fun x hx => by rw [(List.mem_replicate.1 hx).2]; decide)]
    simp only [Option.bind_some]
    have hlen : ((nats l0).take i).length = ((nats l1).take i).length := by simp [nats]; omega
    have hlin := CrcPlain.linear ((nats l0).take i) ((nats l1).take i) ((List.replicate i (0 : Int)).map Int.toNat) hlen (by simp [nats]; omega)
    have e : nu (CrcPlain.more 0#32 ((lints (zipped l0 l1 i)).map Int.toNat)) = Go.bits .xor .u32 (Go.bits .xor .u32 (nu (CrcPlain.more 0#32 ((l0.take i).map Int.toNat))) (nu (CrcPlain.more 0#32 ((l1.take i).map Int.toNat)))) (nu (CrcPlain.more 0#32 ((List.replicate i (0 : Int)).map Int.toNat))) := by
      rw [lints_nat, xor_nu, xor_nu, List.map_take, List.map_take]
      exact congrArg nu hlin
    rw [if_pos e, show tidemarklaw02_known.f = some true from rfl]
    exact linear_end l0 h0 a2 a3 w2 w3 K (by omega)
  | succ d ih =>
    intro K i hi hK
    obtain ⟨K, rfl⟩ : ∃ m, K = m + 1 := ⟨K - 1, by omega⟩
    simp only [tidemarklaw02_CrcLinear.l0]
    have hz : (lints (zipped l0 l1 i)).length < 140737488355328 := by simp [lints, zipped, nats]; omega
    rw [if_pos (by omega), if_pos (by omega), if_pos (by omega), if_pos (by omega), if_pos hz, if_pos (by simp; omega), wr (by omega) (by omega), zipped_succ l0 l1 h0 h1 i (by omega) (by omega), zeros_succ]
    exact ih K (i + 1) (by omega) (by omega)
theorem CrcLinear (l0 l1 : List Int) (h0 : bytesOk l0 = true) (h1 : bytesOk l1 = true) (n0 : l0.length ≤ 140737488351232) (a2 a3 : Int) (w2 : 0 ≤ a2 ∧ a2 < 4294967296) (w3 : 0 ≤ a3 ∧ a3 < 4294967296) : tidemarklaw02_CrcLinear.f (l0.length + 2) l0 l1 a2 a3 = some true := by
  unfold tidemarklaw02_CrcLinear.f
  have hm : mn (l0.length : Int) (l1.length : Int) = ((min l0.length l1.length : Nat) : Int) := by unfold mn; split <;> omega
  rw [hm]
  exact linear_l0 l0 l1 h0 h1 n0 a2 a3 w2 w3 (min l0.length l1.length) (by omega) (by omega) (min l0.length l1.length) (l0.length + 2) 0 (by omega) (by omega)
end Go.Proofs.YtbienfoijomibaaDoor.Pure
