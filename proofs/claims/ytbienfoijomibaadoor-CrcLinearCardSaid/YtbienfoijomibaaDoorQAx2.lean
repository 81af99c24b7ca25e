-- Laid by a program of this session out of Lean's own print of the program; hand-made contracts are pasted in. Lean checks it.
import Derived.Test.YtbienfoijomibaaDoorQAx0
import Derived.Test.YtbienfoijomibaaDoorQAx1
namespace Go.Proofs.YtbienfoijomibaaDoor.QA
open Go.RowKit Go.Proofs.YtbienfoijomibaaDoorW.PrintWords Go.Proofs.YtbienfoijomibaaDoorW.PrintLast Go.Proofs.YtbienfoijomibaaDoorW.PrintMore
attribute [local go_sem] max2_int min2_int max_two min_two max_three min_three max_four min_four   -- for this text's walks alone
set_option linter.unusedVariables false
set_option linter.unusedSimpArgs false

/-! ### crc_Sum: function 9 -/

/-- the sum of the first rows -/
def sumTo (l : List (List Int)) (k : Nat) : BitVec 32 := CrcPlain.sum ((l.take k).map fun r => r.map Int.toNat)
theorem sumTo_zero (l : List (List Int)) : sumTo l 0 = 0#32 := rfl
theorem sumTo_succ (l : List (List Int)) (k : Nat) (h : k < l.length) : sumTo l (k + 1) = CrcPlain.more (sumTo l k) ((l.getD k []).map Int.toNat) := by
  unfold sumTo CrcPlain.sum
  rw [List.take_succ_eq_append_getElem h, List.map_append, List.foldl_append]
  simp [List.getD_eq_getElem?_getD, h]
def rowsOk (l : List (List Int)) : Bool := l.all bytesOk
theorem rowsOk_at {l : List (List Int)} (h : rowsOk l = true) (k : Nat) (hk : k < l.length) : bytesOk (l.getD k []) = true := by
  have := List.all_eq_true.1 h l[k] (List.getElem_mem hk)
  simpa [List.getD_eq_getElem?_getD, hk] using this
def crc_Sum.f (l0 : List (List Int)) : Option Int := if rowsOk l0 = true then some (nu (sumTo l0 l0.length)) else none
set_option maxHeartbeats 800000 in
set_option maxRecDepth 100000 in
theorem crc_Sum.same (A0 : Option Addr) (c0 : Nat) (l0 : List (List Int)) (r : Int) (w : World) (hr0 : Kd.C (Kd.slice 5 (Kd.int .u8)) w A0 l0.length l0) (hc0 : l0.length ≤ c0) (h : crc_Sum.f l0 = some r) (hT : Aside0 (Tab w) := by first | assumption | exact hT | exact ⟨Tab.step hT.out (by repeat (first | (with_reducible first | exact HB.out | apply below_alloc | apply pw_below_drewN | apply below_drew1) | exact HB.out))⟩) :
    Calls Tryd.prog 9 #[.slice A0 l0.length c0] w fun e w' => e = .returned (.int .u32 r) ∧ w = w' := by
  unfold crc_Sum.f at h
  by_cases hok : rowsOk l0 = true
  · rw [if_pos hok] at h
    have Hr := Aside0.mk (Option.some.inj h)
    clear h
    have HR := Aside0.mk hr0
    have hmax := Kd.C_max hr0
    have Hok := Aside0.mk hok
    clear hr0 hok
    go_enter Tryd.func9, Tryd.ntmps9
    go_wp2_with fail
    go_loop [3, 5, 8] (fun s c i => ∃ k : Nat, k ≤ l0.length ∧ i = .int .i64 k ∧ s = .int .u32 (nu (sumTo l0 k))) (fun _ _ i => l0.length - (intOf i).toNat)
    case atStart => exact ⟨0, Nat.zero_le _, rfl, rfl⟩
    case round =>
      obtain ⟨k, hk, rfl, rfl⟩ := hrel
      by_cases hlt : k < l0.length
      · have HS := Aside0.mk (sumTo_succ l0 k hlt)
        obtain ⟨s, hs⟩ : ∃ s, s = sumTo l0 k := ⟨_, rfl⟩
        rw [← hs] at HS ⊢
        clear hs
        have HB := Aside0.mk (rowsOk_at Hok.out k hlt)
        obtain ⟨ad, e, hc⟩ := HR.out.2.2 (by omega)
        subst e
        obtain ⟨cs, hcl, hK, hcell⟩ := hc k (l0.getD k []) (by simp [List.getD_eq_getElem?_getD, hlt])
        obtain ⟨A, c, rfl, hlc, hC⟩ := hK
        obtain ⟨row, hrow⟩ : ∃ row, row = l0.getD k [] := ⟨_, rfl⟩
        rw [← hrow] at HS HB hC hlc hcell
        clear hrow hcl
        have hcell := hcell 0 (.slice A row.length c) rfl
        have e1 : k * (Kd.slice 5 (Kd.int .u8)).sz + 0 = k := by show k * 1 + 0 = k; omega
        rw [e1] at hcell
        have HC := Aside0.mk hC
        clear hC hc e1
        have HF := Aside0.mk (by unfold crc_More.f; rw [if_pos ⟨(nu_range s).1, (nu_range s).2, HB.out⟩, wd_nu] : crc_More.f (nu s) row = some (nu (CrcPlain.more s (row.map Int.toNat))))
        go_wp2_with (go_at_call 11; refine (crc_More.same _ _ _ row _ _ HC.out hlc HF.out hT).mono ?_; rintro e w' ⟨rfl, rfl⟩)
        go_round
        case rel => exact ⟨k + 1, by omega, by go_num, by rw [HS.out]⟩
        case measure => simp [intOf]; omega
      · have HE := Aside0.mk (by congr 1; omega : sumTo l0 k = sumTo l0 l0.length)
        go_wp2_with fail
        go_ret
        refine ⟨?_, rfl⟩
        rw [← Hr.out, ← HE.out]
        rfl
  · rw [if_neg hok] at h; cases h
theorem crc_Sum.calls (A0 : Option Addr) (c0 : Nat) (l0 : List (List Int)) (r : Int) (w : World) (hr0 : Kd.C (Kd.slice 5 (Kd.int .u8)) w A0 l0.length l0) (hc0 : l0.length ≤ c0) (h : crc_Sum.f l0 = some r) (hT : Aside0 (Tab w) := by first | assumption | exact hT | exact ⟨Tab.step hT.out (by repeat (first | (with_reducible first | exact HB.out | apply below_alloc | apply pw_below_drewN | apply below_drew1) | exact HB.out))⟩) :
    Calls Tryd.prog 9 #[.slice A0 l0.length c0] w fun e w' => e = .returned (.int .u32 r) ∧ Same0 w w' :=
  (crc_Sum.same A0 c0 l0 r w hr0 hc0 h hT).mono fun _ _ ⟨he, hw⟩ => ⟨he, by subst hw; exact Same0.refl _⟩


end Go.Proofs.YtbienfoijomibaaDoor.QA
