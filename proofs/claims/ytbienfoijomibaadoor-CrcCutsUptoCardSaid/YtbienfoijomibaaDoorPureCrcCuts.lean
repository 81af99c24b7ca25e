/- CrcCuts' plain law: the sum of the cut parts is the sum of the whole. -/
import Derived.Test.YtbienfoijomibaaDoorQAx7
import Derived.Test.YtbienfoijomibaaDoorPure
namespace Go.Proofs.YtbienfoijomibaaDoor.Pure
open Go.RowKit Go.Proofs.YtbienfoijomibaaDoor.QA Go.Proofs.YtbienfoijomibaaDoorW.PrintWords Go.Proofs.YtbienfoijomibaaDoorW.PrintLast
set_option linter.unusedVariables false
theorem sub_ok {l m : List Int} (h : bytesOk l = true) (hs : ∀ x ∈ m, x ∈ l) : bytesOk m = true :=
  List.all_eq_true.2 fun x hx => List.all_eq_true.1 h x (hs x hx)
theorem tmod_range (c m : Int) (hm : 0 < m) : -m < Int.tmod c m ∧ Int.tmod c m < m :=
  ⟨by have := Int.lt_tmod_of_pos c hm; omega, Int.tmod_lt_of_pos c hm⟩
theorem sum_flat (rows : List (List Int)) (h : rowsOk rows = true) : crc_Sum.f rows = some (nu (CrcPlain.more 0#32 (rows.flatten.map Int.toNat))) := by
  rw [sum_is rows h, List.map_flatten, ← CrcPlain.sum_eq]; rfl
theorem cuts_step (l : List Int) (hb : bytesOk l = true) (f n : Nat) (hf : f + n ≤ l.length) (K : Nat) (hK : 0 < K) :
    crc_More.f (nu (CrcPlain.more 0#32 ((l.take f).map Int.toNat))) ((l.take (f + n)).drop f) = some (nu (CrcPlain.more 0#32 ((l.take (f + n)).map Int.toNat))) := by
  rw [more_is _ _ (sub_ok hb fun x hx => List.mem_of_mem_take (List.mem_of_mem_drop hx)), ← CrcPlain.more_append, ← List.map_append]
  have : l.take f ++ (l.take (f + n)).drop f = l.take (f + n) := by
    have h2 := List.take_append_drop f (l.take (f + n))
    rwa [List.take_take, Nat.min_eq_left (by omega)] at h2
  rw [this]
theorem cuts_l0 (l cs : List Int) (hb : bytesOk l = true) (hn : l.length ≤ 1048576) (hc : cs.length ≤ 1048576) : ∀ (d K i f : Nat) (parts : List (List Int)), i + d = cs.length → d < K → f ≤ l.length → parts.length = i → parts.flatten = l.take f → rowsOk parts = true →
    tidemarklaw02_CrcCuts.l0 K l cs (nu (CrcPlain.more 0#32 (l.map Int.toNat))) parts (f : Int) (nu (CrcPlain.more 0#32 ((l.take f).map Int.toNat))) (i : Int) = some true := by
  intro d
  induction d with
  | zero =>
    intro K i f parts hi hK hf hp hfl hr
    obtain ⟨K, rfl⟩ : ∃ m, K = m + 1 := ⟨K - 1, by omega⟩
    simp only [tidemarklaw02_CrcCuts.l0]
    rw [if_neg (by omega), if_pos (by omega), if_pos (by omega)]
    simp only [Option.bind_some, Int.toNat_natCast]
    have hd : bytesOk (l.drop f) = true := sub_ok hb fun x hx => List.mem_of_mem_drop hx
    rw [if_pos (by omega), sum_flat (parts ++ [l.drop f]) (by simp only [rowsOk, List.all_append, Bool.and_eq_true] at hr ⊢; exact ⟨hr, by simpa using hd⟩), List.flatten_append, hfl]
    simp only [List.flatten_cons, List.flatten_nil, List.append_nil, List.take_append_drop, Option.bind_some, if_true]
    rw [more_is _ _ hd, ← CrcPlain.more_append, ← List.map_append, List.take_append_drop]
    simp
  | succ d ih =>
    intro K i f parts hi hK hf hp hfl hr
    obtain ⟨K, rfl⟩ : ∃ m, K = m + 1 := ⟨K - 1, by omega⟩
    simp only [tidemarklaw02_CrcCuts.l0]
    rw [if_pos (by omega), if_pos (by omega), wr (x := (l.length : Int) - (f : Int)) (by omega) (by omega), wr (x := (l.length : Int) - (f : Int) + 1) (by omega) (by omega), if_neg (by omega), wr (x := (i : Int) + 1) (by omega) (by omega)]
    have ht := tmod_range (rd cs (i : Int)) ((l.length : Int) - (f : Int) + 1) (by omega)
    generalize Int.tmod (rd cs (i : Int)) ((l.length : Int) - (f : Int) + 1) = t at ht
    obtain ⟨n, hne⟩ : ∃ n : Nat, n = t.natAbs := ⟨_, rfl⟩
    have hfn : f + n ≤ l.length := by omega
    have key : (if 0 ≤ (f : Int) then (if (f : Int) ≤ ((f + n : Nat) : Int) then (if ((f + n : Nat) : Int) ≤ (l.length : Int) then ((some ((l.take ((f + n : Nat) : Int).toNat).drop (f : Int).toNat : List Int)).bind fun y118 => (if parts.length < 5864062014805 then ((crc_More.f (nu (CrcPlain.more 0#32 ((l.take f).map Int.toNat))) y118).bind fun t131 => (tidemarklaw02_CrcCuts.l0 K l cs (nu (CrcPlain.more 0#32 (l.map Int.toNat))) (parts ++ [y118]) ((f + n : Nat) : Int) t131 ((i : Int) + 1))) else (none))) else (none)) else (none)) else (none)) = some true := by
      rw [if_pos (by omega), if_pos (by omega), if_pos (by omega)]
      simp only [Option.bind_some, Int.toNat_natCast]
      rw [if_pos (by omega), cuts_step l hb f n hfn 1 (by omega)]
      simp only [Option.bind_some]
      have hd : bytesOk ((l.take (f + n)).drop f) = true := sub_ok hb fun x hx => List.mem_of_mem_take (List.mem_of_mem_drop hx)
      refine ih K (i + 1) (f + n) _ (by omega) (by omega) hfn (by simp [hp]) ?_ (by simp only [rowsOk, List.all_append, Bool.and_eq_true] at hr ⊢; exact ⟨hr, by simpa using hd⟩)
      rw [List.flatten_append, hfl]
      simp only [List.flatten_cons, List.flatten_nil, List.append_nil]
      have h2 := List.take_append_drop f (l.take (f + n))
      rwa [List.take_take, Nat.min_eq_left (by omega)] at h2
    by_cases h0 : t < 0
    · rw [if_pos h0, wr (x := -t) (by omega) (by omega), wr (x := (f : Int) + -t) (by omega) (by omega)]
      rw [show (f : Int) + -t = ((f + n : Nat) : Int) by omega]
      exact key
    · rw [if_neg h0, wr (x := (f : Int) + t) (by omega) (by omega)]
      rw [show (f : Int) + t = ((f + n : Nat) : Int) by omega]
      exact key
theorem CrcCuts (l cs : List Int) (hn : l.length ≤ 1048576) (hc : cs.length ≤ 1048576) (hb : bytesOk l = true) : tidemarklaw02_CrcCuts.f (cs.length + 1) l cs = some true := by
  unfold tidemarklaw02_CrcCuts.f
  rw [show tidemarklaw02_known.f = some true from rfl]
  simp only [Option.bind_some, if_true]
  rw [sum_one l hb]
  simp only [Option.bind_some]
  have h := cuts_l0 l cs hb hn hc cs.length (cs.length + 1) 0 0 [] (by omega) (by omega) (by omega) rfl rfl rfl
  rw [show nu (CrcPlain.more 0#32 ((l.take 0).map Int.toNat)) = 0 by rw [List.take_zero]; decide] at h
  exact h
end Go.Proofs.YtbienfoijomibaaDoor.Pure
