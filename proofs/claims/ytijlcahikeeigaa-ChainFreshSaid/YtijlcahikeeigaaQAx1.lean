-- Laid by a program of this session out of Lean's own print of the program; hand-made contracts are pasted in. Lean checks it.
import Derived.Test.YtijlcahikeeigaaTMoves
namespace Go.Proofs.Ytijlcahikeeigaa.QA
open Go.RowKit Go.Proofs.YtijlcahikeeigaaW.PrintWords Go.Proofs.YtijlcahikeeigaaW.PrintLast Go.Proofs.YtijlcahikeeigaaW.PrintMore
attribute [local go_sem] max2_int min2_int max_two min_two max_three min_three max_four min_four   -- for this text's walks alone
set_option linter.unusedVariables false
set_option linter.unusedSimpArgs false

/-! ### tidemarkref12_Read: function 18 -/
def tidemarkref12_Read.l0 : Nat → List (S43) → Int → Bool → Int → Option (Int × Int × Int × Int × Int × Int × List Int × List Int × Int × (List (S82)) × (List (S84)) × Int)
  | 0, _, _, _, _ => none
  | k + 1, x0, x1, x2, x8 => if x8 < (x0.length : Int) then (if 0 ≤ x8 then (if ((rd_T43 x0 x8).f0) = x1 then (some ((rd_T43 x0 x8).f1.f0, (rd_T43 x0 x8).f1.f1, (rd_T43 x0 x8).f1.f2, (rd_T43 x0 x8).f1.f3, (rd_T43 x0 x8).f1.f4, (rd_T43 x0 x8).f1.f5, (rd_T43 x0 x8).f1.f6, (rd_T43 x0 x8).f1.f7, (rd_T43 x0 x8).f1.f8, (rd_T43 x0 x8).f1.f9, (rd_T43 x0 x8).f1.f10, 0)) else (tidemarkref12_Read.l0 k x0 x1 x2 (wrap64 (x8 + 1)))) else (none)) else (if x2 = true then (if (x0.length : Int) > 0 then (if 0 ≤ (wrap64 ((x0.length : Int) - 1)) then (if (wrap64 ((x0.length : Int) - 1)) < (x0.length : Int) then (some ((rd_T43 x0 (wrap64 ((x0.length : Int) - 1))).f1.f0, (rd_T43 x0 (wrap64 ((x0.length : Int) - 1))).f1.f1, wrap64 (x1 - 1), (rd_T43 x0 (wrap64 ((x0.length : Int) - 1))).f1.f3, (rd_T43 x0 (wrap64 ((x0.length : Int) - 1))).f1.f4, (rd_T43 x0 (wrap64 ((x0.length : Int) - 1))).f1.f5, (rd_T43 x0 (wrap64 ((x0.length : Int) - 1))).f1.f6, (rd_T43 x0 (wrap64 ((x0.length : Int) - 1))).f1.f7, wrap64 (x1 - 1), (rd_T43 x0 (wrap64 ((x0.length : Int) - 1))).f1.f9, (rd_T43 x0 (wrap64 ((x0.length : Int) - 1))).f1.f10, 0)) else (none)) else (none)) else (some (0, 0, 0, 0, 0, 0, ([] : List Int), ([] : List Int), 0, ([] : List (S82)), ([] : List (S84)), 110))) else (some (0, 0, 0, 0, 0, 0, ([] : List Int), ([] : List Int), 0, ([] : List (S82)), ([] : List (S84)), 110)))
def tidemarkref12_Read.f (k : Nat) (l0 : List (S43)) (a1 : Int) (a2 : Bool) : Option (Int × Int × Int × Int × Int × Int × List Int × List Int × Int × (List (S82)) × (List (S84)) × Int) := tidemarkref12_Read.l0 k l0 a1 a2 0
theorem tidemarkref12_Read.mono_l : ∀ k, (∀ y0 y1 y2 y3, LeO (tidemarkref12_Read.l0 k y0 y1 y2 y3) (tidemarkref12_Read.l0 (k + 1) y0 y1 y2 y3))
  | 0 => fun _ _ _ _ r h => by simp [tidemarkref12_Read.l0] at h
  | k + 1 => by
    have ih0 := tidemarkref12_Read.mono_l k
    · intro y0 y1 y2 y3
      unfold tidemarkref12_Read.l0
      repeat' first
      | (with_reducible exact ih0 _ _ _ _)
      | (with_reducible exact LeO.refl _)
      | (with_reducible exact LeO.none _)
      | (with_reducible refine LeO.ite ?_ ?_)
      | (with_reducible refine LeO.bind ?_ (fun _ => ?_))
      | exact ih0 _ _ _ _
      | exact LeO.none _
      | refine LeO.ite ?_ ?_
      | refine LeO.bind ?_ (fun _ => ?_)
theorem tidemarkref12_Read.mono : ∀ a0 a1 a2 k, LeO (tidemarkref12_Read.f k a0 a1 a2) (tidemarkref12_Read.f (k + 1) a0 a1 a2) := by
  intro a0 a1 a2 k
  have ih0 := tidemarkref12_Read.mono_l k
  unfold tidemarkref12_Read.f
  repeat' first
      | (with_reducible exact ih0 _ _ _ _)
      | (with_reducible exact LeO.refl _)
      | (with_reducible exact LeO.none _)
      | (with_reducible refine LeO.ite ?_ ?_)
      | (with_reducible refine LeO.bind ?_ (fun _ => ?_))
      | exact ih0 _ _ _ _
      | exact LeO.none _
      | refine LeO.ite ?_ ?_
      | refine LeO.bind ?_ (fun _ => ?_)
set_option maxHeartbeats 8000000 in
set_option maxRecDepth 100000 in
theorem tidemarkref12_Read.calls (k : Nat) (P0_ : Nat → Prop) (A0 : Option Addr) (c0 : Nat) (l0 : List (S43)) (a1 : Int) (a2 : Bool) (r1 : Int) (r2 : Int) (r3 : Int) (r4 : Int) (r5 : Int) (r6 : Int) (r7 : List Int) (r8 : List Int) (r9 : Int) (r10 : List (S82)) (r11 : List (S84)) (r12 : Int) (w : World) (hs0 : Kd.V k43 43 w w.heap.size (fun k_ => P0_ k_) (.slice A0 l0.length c0) l0) (h : tidemarkref12_Read.f k l0 a1 a2 = some (r1, r2, r3, r4, r5, r6, r7, r8, r9, r10, r11, r12)) :
    Calls Try.prog 18 #[.slice A0 l0.length c0, .int .i64 a1, .bool a2] w fun e w' => ∃ v6_ v7_ v9_ v10_ : Value, e = .returned (.tuple #[.agg #[.int .i64 r1, .int .i64 r2, .int .i64 r3, .int .i64 r4, .int .i64 r5, .int .i64 r6, v6_, v7_, .int .i64 r9, v9_, v10_], .int .i64 r12]) ∧ Kd.V (Kd.int .u8) 5 w' w.heap.size (fun k_ => (P0_ k_ ∨ w.heap.size ≤ k_)) v6_ r7 ∧ Kd.V (Kd.int .u8) 5 w' w.heap.size (fun k_ => (P0_ k_ ∨ w.heap.size ≤ k_)) v7_ r8 ∧ Kd.V k82 82 w' w.heap.size (fun k_ => (P0_ k_ ∨ w.heap.size ≤ k_)) v9_ r10 ∧ Kd.V k84 84 w' w.heap.size (fun k_ => (P0_ k_ ∨ w.heap.size ≤ k_)) v10_ r11 ∧ Below w.heap.size w w' := by
  have hu41 := Try.underlying41
  have HO0 := Aside0.mk (show Kd.V k43 43 w w.heap.size (fun k_ => (P0_ k_ ∨ w.heap.size ≤ k_)) (.slice A0 l0.length c0) l0 from Kd.V_mono hs0 (fun k_ hk => .inl hk))
  have HB := Aside0.mk (Below.refl w.heap.size w)
  have H : (tidemarkref12_Read.l0 k l0 a1 a2 0) = some (r1, r2, r3, r4, r5, r6, r7, r8, r9, r10, r11, r12) := h
  clear h
  have H' := Aside0.mk H
  clear H
  go_enter Try.func18, Try.ntmps18
  go_wp2_with (first | ((with_reducible refine gate_dst (N := 6) rfl ?_); (try (refine gate_guard (by rfl) ?_; dsimp only)); refine box_event ?hg (N := 6) ?hd (cs := #[.int .i64 0, .int .i64 0, .int .i64 0, .int .i64 0, .int .i64 0, .int .i64 0, .slice none 0 0, .slice none 0 0, .int .i64 0, .slice none 0 0, .slice none 0 0]) (t := 41) ?hr ?_; (case hd => rfl); (case hg => rfl); (case hr => first | (go_simp; done) | (go_simp; rfl)); intro gb101 hg w4 hbox hb; have n0_ := Aside0.mk (Kd.V_below (Kd.V_elderB (by (with_reducible repeat (first | apply Kd.V_alloc | apply Kd.V_drewN | apply Kd.V_drew)); exact HO0.out) gb101 (Nat.le_of_eq hg.symm)) hb); have n1_ := Aside0.mk (below_step (by repeat (first | (with_reducible first | exact HB.out | apply below_alloc | apply pw_below_drewN | apply below_drew1) | exact HB.out)) hb); have n2_ := Aside0.mk (hbox); have n3_ := Aside0.mk ((by rw [hg]; exact (below_size (by repeat (first | (with_reducible first | exact HB.out | apply below_alloc | apply pw_below_drewN | apply below_drew1) | exact HB.out))) : w.heap.size ≤ gb101)); have n4_ := Aside0.mk ((by rw [hg]; exact (below_size (by repeat (first | (with_reducible first | exact HB.out | apply below_alloc | apply pw_below_drewN | apply below_drew1) | exact HB.out))) : w.heap.size ≤ gb101)); clear HO0; clear HB; have HO0 := n0_; have HB := n1_; have BK101 := n2_; have GW101 := n3_; have GE101 := n4_; clear n0_ n1_ n2_ n3_ n4_; clear hb hbox hg))
  go_loopg [8] k (fun kq v8 w' => ∃ (x8_1 : Int) (x102000_1 : Int) (x102001_1 : Int) (x102002_1 : Int) (x102003_1 : Int) (x102004_1 : Int) (x102005_1 : Int) (x102008_1 : Int), v8 = .int .i64 x8_1 ∧ Aside0 (tidemarkref12_Read.l0 kq l0 a1 a2 x8_1 = some (r1, r2, r3, r4, r5, r6, r7, r8, r9, r10, r11, r12)) ∧ Aside0 (kq ≤ k) ∧ Aside0 (Kd.V k43 43 w' w.heap.size (fun k_ => (P0_ k_ ∨ w.heap.size ≤ k_) ∧ k_ ≠ gb101) (.slice A0 l0.length c0) l0) ∧ Aside0 (w'.heap[gb101]? = some (.cells #[.int .i64 x102000_1, .int .i64 x102001_1, .int .i64 x102002_1, .int .i64 x102003_1, .int .i64 x102004_1, .int .i64 x102005_1, (.slice none 0 0), (.slice none 0 0), .int .i64 x102008_1, (.slice none 0 0), (.slice none 0 0)] 41 (0, 0))) ∧ Aside0 (Below w.heap.size w w'))
  case atStart => exact ⟨(0), (0), (0), (0), (0), (0), (0), (0), (by first | rfl | (simp; done) | (simp [*]; done)), H', ⟨Nat.le_refl _⟩, ⟨by (with_reducible repeat (first | apply Kd.V_alloc | apply Kd.V_drewN | apply Kd.V_drew)); exact HO0.out⟩, ⟨by (with_reducible repeat (first | refine blk_drewN ?_ _ | refine blk_drew ?_ | refine blk_alloc ?_ _)); exact BK101.out⟩, ⟨by repeat (first | (with_reducible first | exact HB.out | apply below_alloc | apply pw_below_drewN | apply below_drew1 | refine below_set ?_ GE101.out) | exact HB.out)⟩⟩
  case round =>
    clear H'
    try clear c1
    try clear p2
    obtain ⟨x8_1, x102000_1, x102001_1, x102002_1, x102003_1, x102004_1, x102005_1, x102008_1, rfl, HA, HK1, HO_0, BK101, HB⟩ := hrel
    cases gk with
    | zero => exact absurd HA.out (by simp [tidemarkref12_Read.l0])
    | succ k1 =>
      have H := HA.out
      clear HA
      simp only [tidemarkref12_Read.l0] at H
      by_cases c5 : x8_1 < (l0.length : Int)
      · rw [if_pos c5] at H
        have c5b0 : decide (x8_1 < (l0.length : Int)) = true := decide_eq_true c5
        clear c5
        by_cases c6 : 0 ≤ x8_1
        · rw [if_pos c6] at H
          have c6b0 : decide (0 ≤ x8_1) = true := decide_eq_true c6
          clear c6
          by_cases c7 : ((rd_T43 l0 x8_1).f0) = a1
          · rw [if_pos c7] at H
            have c7b0 : (((rd_T43 l0 x8_1).f0) == a1) = true := beq_iff_eq.mpr c7
            have c7b1 : (((rd_T43 l0 x8_1).f0) != a1) = false := bne_eq_false_iff_eq.mpr c7
            clear c7
            simp only [Option.some.injEq, Prod.mk.injEq] at H
            obtain ⟨rfl, rfl, rfl, rfl, rfl, rfl, rfl, rfl, rfl, rfl, rfl, rfl⟩ := H
            have p102 : 0 ≤ (x8_1 : Int) := of_decide_eq_true (by first | (with_reducible assumption) | assumption)
            have q102 : x8_1 < (l0.length : Int) := of_decide_eq_true (by first | (with_reducible assumption) | assumption)
            obtain ⟨ad102, A102_7, c102_7, A102_8, c102_8, A102_10, c102_10, A102_11, c102_11, e102, hx102_0, hx102_1, hx102_2, hx102_3, hx102_4, hx102_5, hx102_6, hx102_7, hx102_8, hx102_9, hx102_10, hx102_11, hl102_7, hi102_7, hl102_8, hi102_8, hl102_10, hi102_10, hl102_11, hi102_11⟩ := at_T43 (Kd.V_reads' HO_0.out).2.2 x8_1 p102 q102
            cases e102
            obtain ⟨ce102, hce102, hMe102, hcc102⟩ := Kd.V_get HO_0.out z43 x8_1 p102 (by first | exact q102 | exact of_decide_eq_true (by first | (with_reducible assumption) | assumption) | (have e_ := (Kd.V_reads' HO_0.out).1; omega))
            obtain ⟨ua102_7, uc102_7, ua102_8, uc102_8, ua102_10, uc102_10, ua102_11, uc102_11, rfl, ul102_7, ge102_7, ul102_8, ge102_8, ul102_10, ge102_10, ul102_11, ge102_11⟩ := k43_openF hMe102
            have hv102_7 := hcc102 7 _ rfl
            rw [add_field _ _ 7 (by omega)] at hv102_7
            replace hv102_7 := Option.some.inj (hv102_7.symm.trans hx102_7)
            injection hv102_7 with hva_ hvn_ hvc_
            rw [hva_] at ge102_7
            rw [hvc_] at ul102_7
            have HL102_7 := Aside0.mk (show Kd.V (Kd.int .u8) 5 _ w.heap.size _ _ ((rd_T43 l0 x8_1).f1.f6) from Kd.V_mk ul102_7 ge102_7)
            clear hva_ hvn_ hvc_ ge102_7 ul102_7
            have hv102_8 := hcc102 8 _ rfl
            rw [add_field _ _ 8 (by omega)] at hv102_8
            replace hv102_8 := Option.some.inj (hv102_8.symm.trans hx102_8)
            injection hv102_8 with hva_ hvn_ hvc_
            rw [hva_] at ge102_8
            rw [hvc_] at ul102_8
            have HL102_8 := Aside0.mk (show Kd.V (Kd.int .u8) 5 _ w.heap.size _ _ ((rd_T43 l0 x8_1).f1.f7) from Kd.V_mk ul102_8 ge102_8)
            clear hva_ hvn_ hvc_ ge102_8 ul102_8
            have hv102_10 := hcc102 10 _ rfl
            rw [add_field _ _ 10 (by omega)] at hv102_10
            replace hv102_10 := Option.some.inj (hv102_10.symm.trans hx102_10)
            injection hv102_10 with hva_ hvn_ hvc_
            rw [hva_] at ge102_10
            rw [hvc_] at ul102_10
            have HL102_10 := Aside0.mk (show Kd.V k82 82 _ w.heap.size _ _ ((rd_T43 l0 x8_1).f1.f9) from Kd.V_mk ul102_10 ge102_10)
            clear hva_ hvn_ hvc_ ge102_10 ul102_10
            have hv102_11 := hcc102 11 _ rfl
            rw [add_field _ _ 11 (by omega)] at hv102_11
            replace hv102_11 := Option.some.inj (hv102_11.symm.trans hx102_11)
            injection hv102_11 with hva_ hvn_ hvc_
            rw [hva_] at ge102_11
            rw [hvc_] at ul102_11
            have HL102_11 := Aside0.mk (show Kd.V k84 84 _ w.heap.size _ _ ((rd_T43 l0 x8_1).f1.f10) from Kd.V_mk ul102_11 ge102_11)
            clear hva_ hvn_ hvc_ ge102_11 ul102_11
            clear hcc102 hce102
            have HR102_7 := Aside0.mk hi102_7
            have HC102_7 := Aside0.mk hl102_7
            clear hi102_7 hl102_7
            have HR102_8 := Aside0.mk hi102_8
            have HC102_8 := Aside0.mk hl102_8
            clear hi102_8 hl102_8
            have HR102_10 := Aside0.mk hi102_10
            have HC102_10 := Aside0.mk hl102_10
            clear hi102_10 hl102_10
            have HR102_11 := Aside0.mk hi102_11
            have HC102_11 := Aside0.mk hl102_11
            clear hi102_11 hl102_11
            replace p102 := eq_true p102
            replace q102 := eq_true q102
            have p103 : 0 ≤ (x8_1 : Int) := of_decide_eq_true (by first | (with_reducible assumption) | assumption)
            have q103 : x8_1 < (l0.length : Int) := of_decide_eq_true (by first | (with_reducible assumption) | assumption)
            obtain ⟨ad103, A103_7, c103_7, A103_8, c103_8, A103_10, c103_10, A103_11, c103_11, e103, hx103_0, hx103_1, hx103_2, hx103_3, hx103_4, hx103_5, hx103_6, hx103_7, hx103_8, hx103_9, hx103_10, hx103_11, hl103_7, hi103_7, hl103_8, hi103_8, hl103_10, hi103_10, hl103_11, hi103_11⟩ := at_T43 (Kd.V_reads' HO_0.out).2.2 x8_1 p103 q103
            obtain rfl : ad102 = ad103 := (by injection e103)
            obtain ⟨ce103, hce103, hMe103, hcc103⟩ := Kd.V_get HO_0.out z43 x8_1 p103 (by first | exact q103 | exact of_decide_eq_true (by first | (with_reducible assumption) | assumption) | (have e_ := (Kd.V_reads' HO_0.out).1; omega))
            obtain ⟨ua103_7, uc103_7, ua103_8, uc103_8, ua103_10, uc103_10, ua103_11, uc103_11, rfl, ul103_7, ge103_7, ul103_8, ge103_8, ul103_10, ge103_10, ul103_11, ge103_11⟩ := k43_openF hMe103
            have hv103_7 := hcc103 7 _ rfl
            rw [add_field _ _ 7 (by omega)] at hv103_7
            replace hv103_7 := Option.some.inj (hv103_7.symm.trans hx103_7)
            injection hv103_7 with hva_ hvn_ hvc_
            rw [hva_] at ge103_7
            rw [hvc_] at ul103_7
            have HL103_7 := Aside0.mk (show Kd.V (Kd.int .u8) 5 _ w.heap.size _ _ ((rd_T43 l0 x8_1).f1.f6) from Kd.V_mk ul103_7 ge103_7)
            clear hva_ hvn_ hvc_ ge103_7 ul103_7
            have hv103_8 := hcc103 8 _ rfl
            rw [add_field _ _ 8 (by omega)] at hv103_8
            replace hv103_8 := Option.some.inj (hv103_8.symm.trans hx103_8)
            injection hv103_8 with hva_ hvn_ hvc_
            rw [hva_] at ge103_8
            rw [hvc_] at ul103_8
            have HL103_8 := Aside0.mk (show Kd.V (Kd.int .u8) 5 _ w.heap.size _ _ ((rd_T43 l0 x8_1).f1.f7) from Kd.V_mk ul103_8 ge103_8)
            clear hva_ hvn_ hvc_ ge103_8 ul103_8
            have hv103_10 := hcc103 10 _ rfl
            rw [add_field _ _ 10 (by omega)] at hv103_10
            replace hv103_10 := Option.some.inj (hv103_10.symm.trans hx103_10)
            injection hv103_10 with hva_ hvn_ hvc_
            rw [hva_] at ge103_10
            rw [hvc_] at ul103_10
            have HL103_10 := Aside0.mk (show Kd.V k82 82 _ w.heap.size _ _ ((rd_T43 l0 x8_1).f1.f9) from Kd.V_mk ul103_10 ge103_10)
            clear hva_ hvn_ hvc_ ge103_10 ul103_10
            have hv103_11 := hcc103 11 _ rfl
            rw [add_field _ _ 11 (by omega)] at hv103_11
            replace hv103_11 := Option.some.inj (hv103_11.symm.trans hx103_11)
            injection hv103_11 with hva_ hvn_ hvc_
            rw [hva_] at ge103_11
            rw [hvc_] at ul103_11
            have HL103_11 := Aside0.mk (show Kd.V k84 84 _ w.heap.size _ _ ((rd_T43 l0 x8_1).f1.f10) from Kd.V_mk ul103_11 ge103_11)
            clear hva_ hvn_ hvc_ ge103_11 ul103_11
            clear hcc103 hce103
            have HR103_7 := Aside0.mk hi103_7
            have HC103_7 := Aside0.mk hl103_7
            clear hi103_7 hl103_7
            have HR103_8 := Aside0.mk hi103_8
            have HC103_8 := Aside0.mk hl103_8
            clear hi103_8 hl103_8
            have HR103_10 := Aside0.mk hi103_10
            have HC103_10 := Aside0.mk hl103_10
            clear hi103_10 hl103_10
            have HR103_11 := Aside0.mk hi103_11
            have HC103_11 := Aside0.mk hl103_11
            clear hi103_11 hl103_11
            replace p103 := eq_true p103
            replace q103 := eq_true q103
            have ea_ := Option.some.inj (hx102_7.symm.trans hx103_7)
            injection ea_ with ea_ en_ ec_
            subst ea_
            subst ec_
            clear en_
            have ea_ := Option.some.inj (hx102_8.symm.trans hx103_8)
            injection ea_ with ea_ en_ ec_
            subst ea_
            subst ec_
            clear en_
            have ea_ := Option.some.inj (hx102_10.symm.trans hx103_10)
            injection ea_ with ea_ en_ ec_
            subst ea_
            subst ec_
            clear en_
            have ea_ := Option.some.inj (hx102_11.symm.trans hx103_11)
            injection ea_ with ea_ en_ ec_
            subst ea_
            subst ec_
            clear en_
            have hcz8_0 : wr.cell? ⟨gb101, 0, none⟩ = some (.int .i64 x102000_1) := (blk_cell BK101.out 0).trans rfl
            have hcz8_1 : wr.cell? ⟨gb101, 1, none⟩ = some (.int .i64 x102001_1) := (blk_cell BK101.out 1).trans rfl
            have hcz8_2 : wr.cell? ⟨gb101, 2, none⟩ = some (.int .i64 x102002_1) := (blk_cell BK101.out 2).trans rfl
            have hcz8_3 : wr.cell? ⟨gb101, 3, none⟩ = some (.int .i64 x102003_1) := (blk_cell BK101.out 3).trans rfl
            have hcz8_4 : wr.cell? ⟨gb101, 4, none⟩ = some (.int .i64 x102004_1) := (blk_cell BK101.out 4).trans rfl
            have hcz8_5 : wr.cell? ⟨gb101, 5, none⟩ = some (.int .i64 x102005_1) := (blk_cell BK101.out 5).trans rfl
            have hcz8_6 : wr.cell? ⟨gb101, 6, none⟩ = some (.slice none 0 0) := (blk_cell BK101.out 6).trans rfl
            have hcz8_7 : wr.cell? ⟨gb101, 7, none⟩ = some (.slice none 0 0) := (blk_cell BK101.out 7).trans rfl
            have hcz8_8 : wr.cell? ⟨gb101, 8, none⟩ = some (.int .i64 x102008_1) := (blk_cell BK101.out 8).trans rfl
            have hcz8_9 : wr.cell? ⟨gb101, 9, none⟩ = some (.slice none 0 0) := (blk_cell BK101.out 9).trans rfl
            have hcz8_10 : wr.cell? ⟨gb101, 10, none⟩ = some (.slice none 0 0) := (blk_cell BK101.out 10).trans rfl
            have hfz8_0 := blk_frozen BK101.out 0
            have hfz8_1 := blk_frozen BK101.out 1
            have hfz8_2 := blk_frozen BK101.out 2
            have hfz8_3 := blk_frozen BK101.out 3
            have hfz8_4 := blk_frozen BK101.out 4
            have hfz8_5 := blk_frozen BK101.out 5
            have hfz8_6 := blk_frozen BK101.out 6
            have hfz8_7 := blk_frozen BK101.out 7
            have hfz8_8 := blk_frozen BK101.out 8
            have hfz8_9 := blk_frozen BK101.out 9
            have hfz8_10 := blk_frozen BK101.out 10
            go_wp2
            refine bodyPost_ret (results_ct rfl _ _ gb101 41 #[.int .i64 ((rd_T43 l0 x8_1).f1.f0), .int .i64 ((rd_T43 l0 x8_1).f1.f1), .int .i64 ((rd_T43 l0 x8_1).f1.f2), .int .i64 ((rd_T43 l0 x8_1).f1.f3), .int .i64 ((rd_T43 l0 x8_1).f1.f4), .int .i64 ((rd_T43 l0 x8_1).f1.f5), .slice A102_7 ((rd_T43 l0 x8_1).f1.f6).length c102_7, .slice A102_8 ((rd_T43 l0 x8_1).f1.f7).length c102_8, .int .i64 ((rd_T43 l0 x8_1).f1.f8), .slice A102_10 ((rd_T43 l0 x8_1).f1.f9).length c102_10, .slice A102_11 ((rd_T43 l0 x8_1).f1.f10).length c102_11] (0, 0) _ rfl (by (with_reducible repeat (first | refine blk_drewN ?_ _ | refine blk_drew ?_ | refine blk_alloc ?_ _)); refine blk_put (cs := #[.int .i64 ((rd_T43 l0 x8_1).f1.f0), .int .i64 ((rd_T43 l0 x8_1).f1.f1), .int .i64 ((rd_T43 l0 x8_1).f1.f2), .int .i64 ((rd_T43 l0 x8_1).f1.f3), .int .i64 ((rd_T43 l0 x8_1).f1.f4), .int .i64 ((rd_T43 l0 x8_1).f1.f5), .slice A102_7 ((rd_T43 l0 x8_1).f1.f6).length c102_7, .slice A102_8 ((rd_T43 l0 x8_1).f1.f7).length c102_8, .int .i64 ((rd_T43 l0 x8_1).f1.f8), .slice A102_10 ((rd_T43 l0 x8_1).f1.f9).length c102_10, .slice none 0 0]) ?_ 10 _ rfl; (with_reducible repeat (first | refine blk_drewN ?_ _ | refine blk_drew ?_ | refine blk_alloc ?_ _)); refine blk_put (cs := #[.int .i64 ((rd_T43 l0 x8_1).f1.f0), .int .i64 ((rd_T43 l0 x8_1).f1.f1), .int .i64 ((rd_T43 l0 x8_1).f1.f2), .int .i64 ((rd_T43 l0 x8_1).f1.f3), .int .i64 ((rd_T43 l0 x8_1).f1.f4), .int .i64 ((rd_T43 l0 x8_1).f1.f5), .slice A102_7 ((rd_T43 l0 x8_1).f1.f6).length c102_7, .slice A102_8 ((rd_T43 l0 x8_1).f1.f7).length c102_8, .int .i64 ((rd_T43 l0 x8_1).f1.f8), .slice none 0 0, .slice none 0 0]) ?_ 9 _ rfl; (with_reducible repeat (first | refine blk_drewN ?_ _ | refine blk_drew ?_ | refine blk_alloc ?_ _)); refine blk_put (cs := #[.int .i64 ((rd_T43 l0 x8_1).f1.f0), .int .i64 ((rd_T43 l0 x8_1).f1.f1), .int .i64 ((rd_T43 l0 x8_1).f1.f2), .int .i64 ((rd_T43 l0 x8_1).f1.f3), .int .i64 ((rd_T43 l0 x8_1).f1.f4), .int .i64 ((rd_T43 l0 x8_1).f1.f5), .slice A102_7 ((rd_T43 l0 x8_1).f1.f6).length c102_7, .slice A102_8 ((rd_T43 l0 x8_1).f1.f7).length c102_8, .int .i64 x102008_1, .slice none 0 0, .slice none 0 0]) ?_ 8 _ rfl; (with_reducible repeat (first | refine blk_drewN ?_ _ | refine blk_drew ?_ | refine blk_alloc ?_ _)); refine blk_put (cs := #[.int .i64 ((rd_T43 l0 x8_1).f1.f0), .int .i64 ((rd_T43 l0 x8_1).f1.f1), .int .i64 ((rd_T43 l0 x8_1).f1.f2), .int .i64 ((rd_T43 l0 x8_1).f1.f3), .int .i64 ((rd_T43 l0 x8_1).f1.f4), .int .i64 ((rd_T43 l0 x8_1).f1.f5), .slice A102_7 ((rd_T43 l0 x8_1).f1.f6).length c102_7, .slice none 0 0, .int .i64 x102008_1, .slice none 0 0, .slice none 0 0]) ?_ 7 _ rfl; (with_reducible repeat (first | refine blk_drewN ?_ _ | refine blk_drew ?_ | refine blk_alloc ?_ _)); refine blk_put (cs := #[.int .i64 ((rd_T43 l0 x8_1).f1.f0), .int .i64 ((rd_T43 l0 x8_1).f1.f1), .int .i64 ((rd_T43 l0 x8_1).f1.f2), .int .i64 ((rd_T43 l0 x8_1).f1.f3), .int .i64 ((rd_T43 l0 x8_1).f1.f4), .int .i64 ((rd_T43 l0 x8_1).f1.f5), .slice none 0 0, .slice none 0 0, .int .i64 x102008_1, .slice none 0 0, .slice none 0 0]) ?_ 6 _ rfl; (with_reducible repeat (first | refine blk_drewN ?_ _ | refine blk_drew ?_ | refine blk_alloc ?_ _)); refine blk_put (cs := #[.int .i64 ((rd_T43 l0 x8_1).f1.f0), .int .i64 ((rd_T43 l0 x8_1).f1.f1), .int .i64 ((rd_T43 l0 x8_1).f1.f2), .int .i64 ((rd_T43 l0 x8_1).f1.f3), .int .i64 ((rd_T43 l0 x8_1).f1.f4), .int .i64 x102005_1, .slice none 0 0, .slice none 0 0, .int .i64 x102008_1, .slice none 0 0, .slice none 0 0]) ?_ 5 _ rfl; (with_reducible repeat (first | refine blk_drewN ?_ _ | refine blk_drew ?_ | refine blk_alloc ?_ _)); refine blk_put (cs := #[.int .i64 ((rd_T43 l0 x8_1).f1.f0), .int .i64 ((rd_T43 l0 x8_1).f1.f1), .int .i64 ((rd_T43 l0 x8_1).f1.f2), .int .i64 ((rd_T43 l0 x8_1).f1.f3), .int .i64 x102004_1, .int .i64 x102005_1, .slice none 0 0, .slice none 0 0, .int .i64 x102008_1, .slice none 0 0, .slice none 0 0]) ?_ 4 _ rfl; (with_reducible repeat (first | refine blk_drewN ?_ _ | refine blk_drew ?_ | refine blk_alloc ?_ _)); refine blk_put (cs := #[.int .i64 ((rd_T43 l0 x8_1).f1.f0), .int .i64 ((rd_T43 l0 x8_1).f1.f1), .int .i64 ((rd_T43 l0 x8_1).f1.f2), .int .i64 x102003_1, .int .i64 x102004_1, .int .i64 x102005_1, .slice none 0 0, .slice none 0 0, .int .i64 x102008_1, .slice none 0 0, .slice none 0 0]) ?_ 3 _ rfl; (with_reducible repeat (first | refine blk_drewN ?_ _ | refine blk_drew ?_ | refine blk_alloc ?_ _)); refine blk_put (cs := #[.int .i64 ((rd_T43 l0 x8_1).f1.f0), .int .i64 ((rd_T43 l0 x8_1).f1.f1), .int .i64 x102002_1, .int .i64 x102003_1, .int .i64 x102004_1, .int .i64 x102005_1, .slice none 0 0, .slice none 0 0, .int .i64 x102008_1, .slice none 0 0, .slice none 0 0]) ?_ 2 _ rfl; (with_reducible repeat (first | refine blk_drewN ?_ _ | refine blk_drew ?_ | refine blk_alloc ?_ _)); refine blk_put (cs := #[.int .i64 ((rd_T43 l0 x8_1).f1.f0), .int .i64 x102001_1, .int .i64 x102002_1, .int .i64 x102003_1, .int .i64 x102004_1, .int .i64 x102005_1, .slice none 0 0, .slice none 0 0, .int .i64 x102008_1, .slice none 0 0, .slice none 0 0]) ?_ 1 _ rfl; (with_reducible repeat (first | refine blk_drewN ?_ _ | refine blk_drew ?_ | refine blk_alloc ?_ _)); refine blk_put (cs := #[.int .i64 x102000_1, .int .i64 x102001_1, .int .i64 x102002_1, .int .i64 x102003_1, .int .i64 x102004_1, .int .i64 x102005_1, .slice none 0 0, .slice none 0 0, .int .i64 x102008_1, .slice none 0 0, .slice none 0 0]) ?_ 0 _ rfl; (with_reducible repeat (first | refine blk_drewN ?_ _ | refine blk_drew ?_ | refine blk_alloc ?_ _)); exact BK101.out) Try.underlying41 rfl (by kernel_rfl)) rfl ?_
            exact ⟨_, _, _, _, by first | rfl | (simp [errW_none, errW_some] <;> rfl) | (simp [*, errW_none, errW_some] <;> rfl), by (with_reducible repeat (first | apply Kd.V_alloc | apply Kd.V_drewN | apply Kd.V_drew)); exact Kd.V_mono (Kd.V_far (p := ⟨gb101, 10, none⟩) (Kd.V_far (p := ⟨gb101, 9, none⟩) (Kd.V_far (p := ⟨gb101, 8, none⟩) (Kd.V_far (p := ⟨gb101, 7, none⟩) (Kd.V_far (p := ⟨gb101, 6, none⟩) (Kd.V_far (p := ⟨gb101, 5, none⟩) (Kd.V_far (p := ⟨gb101, 4, none⟩) (Kd.V_far (p := ⟨gb101, 3, none⟩) (Kd.V_far (p := ⟨gb101, 2, none⟩) (Kd.V_far (p := ⟨gb101, 1, none⟩) (Kd.V_far (p := ⟨gb101, 0, none⟩) (Kd.V_mono HL103_7.out (fun k_ hk => (⟨hk, hk.2⟩ : _ ∧ k_ ≠ gb101))) (fun _ hk => hk.2) (.int .i64 ((rd_T43 l0 x8_1).f1.f0))) (fun _ hk => hk.2) (.int .i64 ((rd_T43 l0 x8_1).f1.f1))) (fun _ hk => hk.2) (.int .i64 ((rd_T43 l0 x8_1).f1.f2))) (fun _ hk => hk.2) (.int .i64 ((rd_T43 l0 x8_1).f1.f3))) (fun _ hk => hk.2) (.int .i64 ((rd_T43 l0 x8_1).f1.f4))) (fun _ hk => hk.2) (.int .i64 ((rd_T43 l0 x8_1).f1.f5))) (fun _ hk => hk.2) (.slice A102_7 ((rd_T43 l0 x8_1).f1.f6).length c102_7)) (fun _ hk => hk.2) (.slice A102_8 ((rd_T43 l0 x8_1).f1.f7).length c102_8)) (fun _ hk => hk.2) (.int .i64 ((rd_T43 l0 x8_1).f1.f8))) (fun _ hk => hk.2) (.slice A102_10 ((rd_T43 l0 x8_1).f1.f9).length c102_10)) (fun _ hk => hk.2) (.slice A102_11 ((rd_T43 l0 x8_1).f1.f10).length c102_11)) (fun _ hk => hk.1.1), by (with_reducible repeat (first | apply Kd.V_alloc | apply Kd.V_drewN | apply Kd.V_drew)); exact Kd.V_mono (Kd.V_far (p := ⟨gb101, 10, none⟩) (Kd.V_far (p := ⟨gb101, 9, none⟩) (Kd.V_far (p := ⟨gb101, 8, none⟩) (Kd.V_far (p := ⟨gb101, 7, none⟩) (Kd.V_far (p := ⟨gb101, 6, none⟩) (Kd.V_far (p := ⟨gb101, 5, none⟩) (Kd.V_far (p := ⟨gb101, 4, none⟩) (Kd.V_far (p := ⟨gb101, 3, none⟩) (Kd.V_far (p := ⟨gb101, 2, none⟩) (Kd.V_far (p := ⟨gb101, 1, none⟩) (Kd.V_far (p := ⟨gb101, 0, none⟩) (Kd.V_mono HL103_8.out (fun k_ hk => (⟨hk, hk.2⟩ : _ ∧ k_ ≠ gb101))) (fun _ hk => hk.2) (.int .i64 ((rd_T43 l0 x8_1).f1.f0))) (fun _ hk => hk.2) (.int .i64 ((rd_T43 l0 x8_1).f1.f1))) (fun _ hk => hk.2) (.int .i64 ((rd_T43 l0 x8_1).f1.f2))) (fun _ hk => hk.2) (.int .i64 ((rd_T43 l0 x8_1).f1.f3))) (fun _ hk => hk.2) (.int .i64 ((rd_T43 l0 x8_1).f1.f4))) (fun _ hk => hk.2) (.int .i64 ((rd_T43 l0 x8_1).f1.f5))) (fun _ hk => hk.2) (.slice A102_7 ((rd_T43 l0 x8_1).f1.f6).length c102_7)) (fun _ hk => hk.2) (.slice A102_8 ((rd_T43 l0 x8_1).f1.f7).length c102_8)) (fun _ hk => hk.2) (.int .i64 ((rd_T43 l0 x8_1).f1.f8))) (fun _ hk => hk.2) (.slice A102_10 ((rd_T43 l0 x8_1).f1.f9).length c102_10)) (fun _ hk => hk.2) (.slice A102_11 ((rd_T43 l0 x8_1).f1.f10).length c102_11)) (fun _ hk => hk.1.1), by (with_reducible repeat (first | apply Kd.V_alloc | apply Kd.V_drewN | apply Kd.V_drew)); exact Kd.V_mono (Kd.V_far (p := ⟨gb101, 10, none⟩) (Kd.V_far (p := ⟨gb101, 9, none⟩) (Kd.V_far (p := ⟨gb101, 8, none⟩) (Kd.V_far (p := ⟨gb101, 7, none⟩) (Kd.V_far (p := ⟨gb101, 6, none⟩) (Kd.V_far (p := ⟨gb101, 5, none⟩) (Kd.V_far (p := ⟨gb101, 4, none⟩) (Kd.V_far (p := ⟨gb101, 3, none⟩) (Kd.V_far (p := ⟨gb101, 2, none⟩) (Kd.V_far (p := ⟨gb101, 1, none⟩) (Kd.V_far (p := ⟨gb101, 0, none⟩) (Kd.V_mono HL103_10.out (fun k_ hk => (⟨hk, hk.2⟩ : _ ∧ k_ ≠ gb101))) (fun _ hk => hk.2) (.int .i64 ((rd_T43 l0 x8_1).f1.f0))) (fun _ hk => hk.2) (.int .i64 ((rd_T43 l0 x8_1).f1.f1))) (fun _ hk => hk.2) (.int .i64 ((rd_T43 l0 x8_1).f1.f2))) (fun _ hk => hk.2) (.int .i64 ((rd_T43 l0 x8_1).f1.f3))) (fun _ hk => hk.2) (.int .i64 ((rd_T43 l0 x8_1).f1.f4))) (fun _ hk => hk.2) (.int .i64 ((rd_T43 l0 x8_1).f1.f5))) (fun _ hk => hk.2) (.slice A102_7 ((rd_T43 l0 x8_1).f1.f6).length c102_7)) (fun _ hk => hk.2) (.slice A102_8 ((rd_T43 l0 x8_1).f1.f7).length c102_8)) (fun _ hk => hk.2) (.int .i64 ((rd_T43 l0 x8_1).f1.f8))) (fun _ hk => hk.2) (.slice A102_10 ((rd_T43 l0 x8_1).f1.f9).length c102_10)) (fun _ hk => hk.2) (.slice A102_11 ((rd_T43 l0 x8_1).f1.f10).length c102_11)) (fun _ hk => hk.1.1), by (with_reducible repeat (first | apply Kd.V_alloc | apply Kd.V_drewN | apply Kd.V_drew)); exact Kd.V_mono (Kd.V_far (p := ⟨gb101, 10, none⟩) (Kd.V_far (p := ⟨gb101, 9, none⟩) (Kd.V_far (p := ⟨gb101, 8, none⟩) (Kd.V_far (p := ⟨gb101, 7, none⟩) (Kd.V_far (p := ⟨gb101, 6, none⟩) (Kd.V_far (p := ⟨gb101, 5, none⟩) (Kd.V_far (p := ⟨gb101, 4, none⟩) (Kd.V_far (p := ⟨gb101, 3, none⟩) (Kd.V_far (p := ⟨gb101, 2, none⟩) (Kd.V_far (p := ⟨gb101, 1, none⟩) (Kd.V_far (p := ⟨gb101, 0, none⟩) (Kd.V_mono HL103_11.out (fun k_ hk => (⟨hk, hk.2⟩ : _ ∧ k_ ≠ gb101))) (fun _ hk => hk.2) (.int .i64 ((rd_T43 l0 x8_1).f1.f0))) (fun _ hk => hk.2) (.int .i64 ((rd_T43 l0 x8_1).f1.f1))) (fun _ hk => hk.2) (.int .i64 ((rd_T43 l0 x8_1).f1.f2))) (fun _ hk => hk.2) (.int .i64 ((rd_T43 l0 x8_1).f1.f3))) (fun _ hk => hk.2) (.int .i64 ((rd_T43 l0 x8_1).f1.f4))) (fun _ hk => hk.2) (.int .i64 ((rd_T43 l0 x8_1).f1.f5))) (fun _ hk => hk.2) (.slice A102_7 ((rd_T43 l0 x8_1).f1.f6).length c102_7)) (fun _ hk => hk.2) (.slice A102_8 ((rd_T43 l0 x8_1).f1.f7).length c102_8)) (fun _ hk => hk.2) (.int .i64 ((rd_T43 l0 x8_1).f1.f8))) (fun _ hk => hk.2) (.slice A102_10 ((rd_T43 l0 x8_1).f1.f9).length c102_10)) (fun _ hk => hk.2) (.slice A102_11 ((rd_T43 l0 x8_1).f1.f10).length c102_11)) (fun _ hk => hk.1.1), by repeat (first | (with_reducible first | exact HB.out | apply below_alloc | apply pw_below_drewN | apply below_drew1 | refine below_set ?_ GE101.out) | exact HB.out)⟩
          · rw [if_neg c7] at H
            have c7b0 : (((rd_T43 l0 x8_1).f0) == a1) = false := beq_eq_false_iff_ne.mpr c7
            have c7b1 : (((rd_T43 l0 x8_1).f0) != a1) = true := bne_iff_ne.mpr c7
            have H' := Aside0.mk H
            clear H
            have p102 : 0 ≤ (x8_1 : Int) := of_decide_eq_true (by first | (with_reducible assumption) | assumption)
            have q102 : x8_1 < (l0.length : Int) := of_decide_eq_true (by first | (with_reducible assumption) | assumption)
            obtain ⟨ad102, A102_7, c102_7, A102_8, c102_8, A102_10, c102_10, A102_11, c102_11, e102, hx102_0, hx102_1, hx102_2, hx102_3, hx102_4, hx102_5, hx102_6, hx102_7, hx102_8, hx102_9, hx102_10, hx102_11, hl102_7, hi102_7, hl102_8, hi102_8, hl102_10, hi102_10, hl102_11, hi102_11⟩ := at_T43 (Kd.V_reads' HO_0.out).2.2 x8_1 p102 q102
            cases e102
            obtain ⟨ce102, hce102, hMe102, hcc102⟩ := Kd.V_get HO_0.out z43 x8_1 p102 (by first | exact q102 | exact of_decide_eq_true (by first | (with_reducible assumption) | assumption) | (have e_ := (Kd.V_reads' HO_0.out).1; omega))
            obtain ⟨ua102_7, uc102_7, ua102_8, uc102_8, ua102_10, uc102_10, ua102_11, uc102_11, rfl, ul102_7, ge102_7, ul102_8, ge102_8, ul102_10, ge102_10, ul102_11, ge102_11⟩ := k43_openF hMe102
            have hv102_7 := hcc102 7 _ rfl
            rw [add_field _ _ 7 (by omega)] at hv102_7
            replace hv102_7 := Option.some.inj (hv102_7.symm.trans hx102_7)
            injection hv102_7 with hva_ hvn_ hvc_
            rw [hva_] at ge102_7
            rw [hvc_] at ul102_7
            have HL102_7 := Aside0.mk (show Kd.V (Kd.int .u8) 5 _ w.heap.size _ _ ((rd_T43 l0 x8_1).f1.f6) from Kd.V_mk ul102_7 ge102_7)
            clear hva_ hvn_ hvc_ ge102_7 ul102_7
            have hv102_8 := hcc102 8 _ rfl
            rw [add_field _ _ 8 (by omega)] at hv102_8
            replace hv102_8 := Option.some.inj (hv102_8.symm.trans hx102_8)
            injection hv102_8 with hva_ hvn_ hvc_
            rw [hva_] at ge102_8
            rw [hvc_] at ul102_8
            have HL102_8 := Aside0.mk (show Kd.V (Kd.int .u8) 5 _ w.heap.size _ _ ((rd_T43 l0 x8_1).f1.f7) from Kd.V_mk ul102_8 ge102_8)
            clear hva_ hvn_ hvc_ ge102_8 ul102_8
            have hv102_10 := hcc102 10 _ rfl
            rw [add_field _ _ 10 (by omega)] at hv102_10
            replace hv102_10 := Option.some.inj (hv102_10.symm.trans hx102_10)
            injection hv102_10 with hva_ hvn_ hvc_
            rw [hva_] at ge102_10
            rw [hvc_] at ul102_10
            have HL102_10 := Aside0.mk (show Kd.V k82 82 _ w.heap.size _ _ ((rd_T43 l0 x8_1).f1.f9) from Kd.V_mk ul102_10 ge102_10)
            clear hva_ hvn_ hvc_ ge102_10 ul102_10
            have hv102_11 := hcc102 11 _ rfl
            rw [add_field _ _ 11 (by omega)] at hv102_11
            replace hv102_11 := Option.some.inj (hv102_11.symm.trans hx102_11)
            injection hv102_11 with hva_ hvn_ hvc_
            rw [hva_] at ge102_11
            rw [hvc_] at ul102_11
            have HL102_11 := Aside0.mk (show Kd.V k84 84 _ w.heap.size _ _ ((rd_T43 l0 x8_1).f1.f10) from Kd.V_mk ul102_11 ge102_11)
            clear hva_ hvn_ hvc_ ge102_11 ul102_11
            clear hcc102 hce102
            have HR102_7 := Aside0.mk hi102_7
            have HC102_7 := Aside0.mk hl102_7
            clear hi102_7 hl102_7
            have HR102_8 := Aside0.mk hi102_8
            have HC102_8 := Aside0.mk hl102_8
            clear hi102_8 hl102_8
            have HR102_10 := Aside0.mk hi102_10
            have HC102_10 := Aside0.mk hl102_10
            clear hi102_10 hl102_10
            have HR102_11 := Aside0.mk hi102_11
            have HC102_11 := Aside0.mk hl102_11
            clear hi102_11 hl102_11
            replace p102 := eq_true p102
            replace q102 := eq_true q102
            go_wp2
            go_roundg k1
            case measure => have := HK1.out; omega
            case rel => exact ⟨(wrap64 (x8_1 + 1)), (x102000_1), (x102001_1), (x102002_1), (x102003_1), (x102004_1), (x102005_1), (x102008_1), (by first | rfl | (simp; done) | (simp [*]; done)), H', ⟨by have := HK1.out; omega⟩, ⟨by (with_reducible repeat (first | apply Kd.V_alloc | apply Kd.V_drewN | apply Kd.V_drew)); exact HO_0.out⟩, ⟨by (with_reducible repeat (first | refine blk_drewN ?_ _ | refine blk_drew ?_ | refine blk_alloc ?_ _)); exact BK101.out⟩, ⟨by repeat (first | (with_reducible first | exact HB.out | apply below_alloc | apply pw_below_drewN | apply below_drew1 | refine below_set ?_ GE101.out) | exact HB.out)⟩⟩
        · rw [if_neg c6] at H
          exact absurd H (by simp)
      · rw [if_neg c5] at H
        have c5b0 : decide (x8_1 < (l0.length : Int)) = false := decide_eq_false c5
        clear c5
        by_cases c9 : a2 = true
        · subst c9
          have H1 : (if (l0.length : Int) > 0 then (if 0 ≤ (wrap64 ((l0.length : Int) - 1)) then (if (wrap64 ((l0.length : Int) - 1)) < (l0.length : Int) then (some ((rd_T43 l0 (wrap64 ((l0.length : Int) - 1))).f1.f0, (rd_T43 l0 (wrap64 ((l0.length : Int) - 1))).f1.f1, wrap64 (a1 - 1), (rd_T43 l0 (wrap64 ((l0.length : Int) - 1))).f1.f3, (rd_T43 l0 (wrap64 ((l0.length : Int) - 1))).f1.f4, (rd_T43 l0 (wrap64 ((l0.length : Int) - 1))).f1.f5, (rd_T43 l0 (wrap64 ((l0.length : Int) - 1))).f1.f6, (rd_T43 l0 (wrap64 ((l0.length : Int) - 1))).f1.f7, wrap64 (a1 - 1), (rd_T43 l0 (wrap64 ((l0.length : Int) - 1))).f1.f9, (rd_T43 l0 (wrap64 ((l0.length : Int) - 1))).f1.f10, 0)) else (none)) else (none)) else (some (0, 0, 0, 0, 0, 0, ([] : List Int), ([] : List Int), 0, ([] : List (S82)), ([] : List (S84)), 110))) = some (r1, r2, r3, r4, r5, r6, r7, r8, r9, r10, r11, r12) := by rw [if_pos rfl] at H; exact H
          clear H
          have H := H1
          clear H1
          by_cases c10 : (l0.length : Int) > 0
          · rw [if_pos c10] at H
            have c10b0 : decide (0 < (l0.length : Int)) = true := decide_eq_true c10
            have c10b1 : decide (0 < l0.length) = true := decide_eq_true (by omega)
            clear c10
            obtain ⟨ji11, hji11⟩ : ∃ j_ : Int, (wrap64 ((l0.length : Int) - 1)) = j_ := ⟨_, rfl⟩
            replace H : (if 0 ≤ (ji11) then (if (ji11) < (l0.length : Int) then (some ((rd_T43 l0 (ji11)).f1.f0, (rd_T43 l0 (ji11)).f1.f1, wrap64 (a1 - 1), (rd_T43 l0 (ji11)).f1.f3, (rd_T43 l0 (ji11)).f1.f4, (rd_T43 l0 (ji11)).f1.f5, (rd_T43 l0 (ji11)).f1.f6, (rd_T43 l0 (ji11)).f1.f7, wrap64 (a1 - 1), (rd_T43 l0 (ji11)).f1.f9, (rd_T43 l0 (ji11)).f1.f10, 0)) else (none)) else (none)) = some (r1, r2, r3, r4, r5, r6, r7, r8, r9, r10, r11, r12) := by first | (rw [hji11] at H; exact H) | (simp only [hji11] at H ⊢; exact H)
            have hji11w : (IntKind.i64.wrap ((l0.length : Int) - 1)) = ji11 := (i64_w _).trans hji11
            by_cases c12 : 0 ≤ (ji11)
            · rw [if_pos c12] at H
              have c12b0 : decide (0 ≤ (ji11)) = true := decide_eq_true c12
              clear c12
              by_cases c13 : (ji11) < (l0.length : Int)
              · rw [if_pos c13] at H
                have c13b0 : decide ((ji11) < (l0.length : Int)) = true := decide_eq_true c13
                clear c13
                simp only [Option.some.injEq, Prod.mk.injEq] at H
                obtain ⟨rfl, rfl, rfl, rfl, rfl, rfl, rfl, rfl, rfl, rfl, rfl, rfl⟩ := H
                have p104 : 0 ≤ ((ji11) : Int) := of_decide_eq_true (by first | (with_reducible assumption) | assumption)
                have q104 : (ji11) < (l0.length : Int) := of_decide_eq_true (by first | (with_reducible assumption) | assumption)
                obtain ⟨ad104, A104_7, c104_7, A104_8, c104_8, A104_10, c104_10, A104_11, c104_11, e104, hx104_0, hx104_1, hx104_2, hx104_3, hx104_4, hx104_5, hx104_6, hx104_7, hx104_8, hx104_9, hx104_10, hx104_11, hl104_7, hi104_7, hl104_8, hi104_8, hl104_10, hi104_10, hl104_11, hi104_11⟩ := at_T43 (Kd.V_reads' HO_0.out).2.2 (ji11) p104 q104
                cases e104
                obtain ⟨ce104, hce104, hMe104, hcc104⟩ := Kd.V_get HO_0.out z43 (ji11) p104 (by first | exact q104 | exact of_decide_eq_true (by first | (with_reducible assumption) | assumption) | (have e_ := (Kd.V_reads' HO_0.out).1; omega))
                obtain ⟨ua104_7, uc104_7, ua104_8, uc104_8, ua104_10, uc104_10, ua104_11, uc104_11, rfl, ul104_7, ge104_7, ul104_8, ge104_8, ul104_10, ge104_10, ul104_11, ge104_11⟩ := k43_openF hMe104
                have hv104_7 := hcc104 7 _ rfl
                rw [add_field _ _ 7 (by omega)] at hv104_7
                replace hv104_7 := Option.some.inj (hv104_7.symm.trans hx104_7)
                injection hv104_7 with hva_ hvn_ hvc_
                rw [hva_] at ge104_7
                rw [hvc_] at ul104_7
                have HL104_7 := Aside0.mk (show Kd.V (Kd.int .u8) 5 _ w.heap.size _ _ ((rd_T43 l0 (ji11)).f1.f6) from Kd.V_mk ul104_7 ge104_7)
                clear hva_ hvn_ hvc_ ge104_7 ul104_7
                have hv104_8 := hcc104 8 _ rfl
                rw [add_field _ _ 8 (by omega)] at hv104_8
                replace hv104_8 := Option.some.inj (hv104_8.symm.trans hx104_8)
                injection hv104_8 with hva_ hvn_ hvc_
                rw [hva_] at ge104_8
                rw [hvc_] at ul104_8
                have HL104_8 := Aside0.mk (show Kd.V (Kd.int .u8) 5 _ w.heap.size _ _ ((rd_T43 l0 (ji11)).f1.f7) from Kd.V_mk ul104_8 ge104_8)
                clear hva_ hvn_ hvc_ ge104_8 ul104_8
                have hv104_10 := hcc104 10 _ rfl
                rw [add_field _ _ 10 (by omega)] at hv104_10
                replace hv104_10 := Option.some.inj (hv104_10.symm.trans hx104_10)
                injection hv104_10 with hva_ hvn_ hvc_
                rw [hva_] at ge104_10
                rw [hvc_] at ul104_10
                have HL104_10 := Aside0.mk (show Kd.V k82 82 _ w.heap.size _ _ ((rd_T43 l0 (ji11)).f1.f9) from Kd.V_mk ul104_10 ge104_10)
                clear hva_ hvn_ hvc_ ge104_10 ul104_10
                have hv104_11 := hcc104 11 _ rfl
                rw [add_field _ _ 11 (by omega)] at hv104_11
                replace hv104_11 := Option.some.inj (hv104_11.symm.trans hx104_11)
                injection hv104_11 with hva_ hvn_ hvc_
                rw [hva_] at ge104_11
                rw [hvc_] at ul104_11
                have HL104_11 := Aside0.mk (show Kd.V k84 84 _ w.heap.size _ _ ((rd_T43 l0 (ji11)).f1.f10) from Kd.V_mk ul104_11 ge104_11)
                clear hva_ hvn_ hvc_ ge104_11 ul104_11
                clear hcc104 hce104
                have HR104_7 := Aside0.mk hi104_7
                have HC104_7 := Aside0.mk hl104_7
                clear hi104_7 hl104_7
                have HR104_8 := Aside0.mk hi104_8
                have HC104_8 := Aside0.mk hl104_8
                clear hi104_8 hl104_8
                have HR104_10 := Aside0.mk hi104_10
                have HC104_10 := Aside0.mk hl104_10
                clear hi104_10 hl104_10
                have HR104_11 := Aside0.mk hi104_11
                have HC104_11 := Aside0.mk hl104_11
                clear hi104_11 hl104_11
                replace p104 := eq_true p104
                replace q104 := eq_true q104
                go_wp2_with (first
                  | ((with_reducible refine gate_dst (N := 9) rfl ?_); refine box_event ?hg (N := 9) ?hd (cs := #[.int .i64 0, .int .i64 0, .int .i64 0, .int .i64 0, .int .i64 0, .int .i64 0, .slice none 0 0, .slice none 0 0, .int .i64 0, .slice none 0 0, .slice none 0 0]) (t := 41) ?hr ?_; (case hd => rfl); (case hg => rfl); (case hr => first | (go_simp; done) | (go_simp; rfl)); intro g9 hg9 w5 hb9 hbel
                     have m5 := Aside0.mk (Mv.of_below hbel (fun k => k = gb101))
                     have n9 := Aside0.mk (show wr.heap.size ≤ g9 by omega)
                     have B9 := Aside0.mk hb9
                     have B6 := Aside0.mk (blk_below BK101.out hbel)
                     clear hb9 hbel hg9)
                  | ((with_reducible refine gate_store (t := 41) (p := 9) (v := .tmp 40) rfl ?_); refine store_event rfl rfl (g := g9) rfl rfl B9.out (by kernel_rfl) rfl (by simp [Value.oneCell']) ?_
                     intro w6 hb6 m6
                     have q6 := Aside0.mk (m5.out.then_ m6 (fun k hk => .inr (by rw [hk]; exact n9.out)))
                     have C9 := Aside0.mk hb6
                     have C6 := Aside0.mk (m6.blk B6.out (by have := blk_lt BK101.out; have := n9.out; omega))
                     have hfz2 : w6.frozen? ⟨g9, 2, none⟩ = false := blk_frozen hb6 2
                     have hcz2 : w6.cell? ⟨g9, 2, none⟩ = some (.int .i64 ((rd_T43 l0 (ji11)).f1.f2)) := (blk_cell hb6 2).trans rfl
                     clear hb6 m6)
                  | ((with_reducible refine gate_store (t := 3) (p := 43) (v := .tmp 42) rfl ?_); refine store1_event (g := g9) (i := 2) (v := .int .i64 (wrap64 (a1 - 1))) rfl C9.out ?hr ?_; (case hr => first | (go_simp; done) | (go_simp; rfl)); intro w7 hb7 m7
                     have q7 := Aside0.mk (q6.out.then_ m7 (fun k hk => .inr (by rw [hk]; exact n9.out)))
                     have D9 := Aside0.mk hb7
                     have D6 := Aside0.mk (m7.blk C6.out (by have := blk_lt BK101.out; have := n9.out; omega))
                     have hfz8 : w7.frozen? ⟨g9, 8, none⟩ = false := blk_frozen hb7 8
                     have hcz8 : w7.cell? ⟨g9, 8, none⟩ = some (.int .i64 ((rd_T43 l0 (ji11)).f1.f8)) := (blk_cell hb7 8).trans rfl
                     clear hb7 m7)
                  | ((with_reducible refine gate_store (t := 3) (p := 46) (v := .tmp 45) rfl ?_); refine store1_event (g := g9) (i := 8) (v := .int .i64 (wrap64 (a1 - 1))) rfl D9.out ?hr ?_; (case hr => first | (go_simp; done) | (go_simp; rfl)); intro w8 hb8 m8
                     have q8 := Aside0.mk (q7.out.then_ m8 (fun k hk => .inr (by rw [hk]; exact n9.out)))
                     have E9 := Aside0.mk hb8
                     have E6 := Aside0.mk (m8.blk D6.out (by have := blk_lt BK101.out; have := n9.out; omega))
                     clear hb8 m8)
                  | ((with_reducible refine gate_dst (N := 47) rfl ?_); refine wpList_load_row rfl 41 (.tmp 9) rfl g9 rfl 41 _ (0, 0) _ E9.out Try.underlying41 rfl (by kernel_rfl) ?_; simp only [List.setIfInBounds_toArray, List.set_cons_zero, List.set_cons_succ]; clear E9)
                  | ((with_reducible refine gate_store (t := 41) (p := 6) (v := .tmp 47) rfl ?_); refine store_event rfl rfl (g := gb101) rfl rfl E6.out (by kernel_rfl) rfl (by simp [Value.oneCell']) ?_
                     intro w9 hb96 m9
                     have q9 := Aside0.mk (q8.out.then_ m9 (fun k hk => .inl hk))
                     have F6 := Aside0.mk hb96
                     clear hb96 m9))
                refine bodyPost_ret (results_ct rfl _ _ gb101 41 _ (0, 0) _ rfl F6.out Try.underlying41 rfl (by kernel_rfl)) rfl ?_
                exact ⟨_, _, _, _, rfl, Kd.V_mono (Kd.V_kept HL104_7.out q9.out.kept (fun k hk => hk.2)) (fun k hk => hk.1), Kd.V_mono (Kd.V_kept HL104_8.out q9.out.kept (fun k hk => hk.2)) (fun k hk => hk.1), Kd.V_mono (Kd.V_kept HL104_10.out q9.out.kept (fun k hk => hk.2)) (fun k hk => hk.1), Kd.V_mono (Kd.V_kept HL104_11.out q9.out.kept (fun k hk => hk.2)) (fun k hk => hk.1), q9.out.below HB.out HB.out.size (fun k hk => by rw [hk]; exact GE101.out)⟩
              · rw [if_neg c13] at H
                exact absurd H (by simp)
            · rw [if_neg c12] at H
              exact absurd H (by simp)
          · rw [if_neg c10] at H
            have c10b0 : decide (0 < (l0.length : Int)) = false := decide_eq_false c10
            have c10b1 : decide (0 < l0.length) = false := decide_eq_false (by omega)
            clear c10
            simp only [Option.some.injEq, Prod.mk.injEq] at H
            obtain ⟨rfl, rfl, rfl, rfl, rfl, rfl, rfl, rfl, rfl, rfl, rfl, rfl⟩ := H
            have hcz18_0 : wr.cell? ⟨gb101, 0, none⟩ = some (.int .i64 x102000_1) := (blk_cell BK101.out 0).trans rfl
            have hcz18_1 : wr.cell? ⟨gb101, 1, none⟩ = some (.int .i64 x102001_1) := (blk_cell BK101.out 1).trans rfl
            have hcz18_2 : wr.cell? ⟨gb101, 2, none⟩ = some (.int .i64 x102002_1) := (blk_cell BK101.out 2).trans rfl
            have hcz18_3 : wr.cell? ⟨gb101, 3, none⟩ = some (.int .i64 x102003_1) := (blk_cell BK101.out 3).trans rfl
            have hcz18_4 : wr.cell? ⟨gb101, 4, none⟩ = some (.int .i64 x102004_1) := (blk_cell BK101.out 4).trans rfl
            have hcz18_5 : wr.cell? ⟨gb101, 5, none⟩ = some (.int .i64 x102005_1) := (blk_cell BK101.out 5).trans rfl
            have hcz18_6 : wr.cell? ⟨gb101, 6, none⟩ = some (.slice none 0 0) := (blk_cell BK101.out 6).trans rfl
            have hcz18_7 : wr.cell? ⟨gb101, 7, none⟩ = some (.slice none 0 0) := (blk_cell BK101.out 7).trans rfl
            have hcz18_8 : wr.cell? ⟨gb101, 8, none⟩ = some (.int .i64 x102008_1) := (blk_cell BK101.out 8).trans rfl
            have hcz18_9 : wr.cell? ⟨gb101, 9, none⟩ = some (.slice none 0 0) := (blk_cell BK101.out 9).trans rfl
            have hcz18_10 : wr.cell? ⟨gb101, 10, none⟩ = some (.slice none 0 0) := (blk_cell BK101.out 10).trans rfl
            have hfz18_0 := blk_frozen BK101.out 0
            have hfz18_1 := blk_frozen BK101.out 1
            have hfz18_2 := blk_frozen BK101.out 2
            have hfz18_3 := blk_frozen BK101.out 3
            have hfz18_4 := blk_frozen BK101.out 4
            have hfz18_5 := blk_frozen BK101.out 5
            have hfz18_6 := blk_frozen BK101.out 6
            have hfz18_7 := blk_frozen BK101.out 7
            have hfz18_8 := blk_frozen BK101.out 8
            have hfz18_9 := blk_frozen BK101.out 9
            have hfz18_10 := blk_frozen BK101.out 10
            go_wp2_with (first
              | ((with_reducible refine gate_store (t := 41) (p := 6) (v := .tmp 48) rfl ?_); refine store_event rfl rfl (g := gb101) rfl rfl BK101.out (by kernel_rfl) rfl (by simp [Value.oneCell']) ?_
                 intro w9 hb96 m9
                 have q9 := Aside0.mk m9
                 have F6 := Aside0.mk hb96
                 clear hb96 m9))
            refine bodyPost_ret (results_ct rfl _ _ gb101 41 _ (0, 0) _ rfl F6.out Try.underlying41 rfl (by kernel_rfl)) rfl ?_
            exact ⟨_, _, _, _, rfl, Kd.V_nil _ _ _ _ _, Kd.V_nil _ _ _ _ _, Kd.V_nil _ _ _ _ _, Kd.V_nil _ _ _ _ _, q9.out.below HB.out HB.out.size (fun k hk => by rw [hk]; exact GE101.out)⟩
        · replace c9 := Bool.eq_false_iff.mpr c9
          subst c9
          have H1 : (some (0, 0, 0, 0, 0, 0, ([] : List Int), ([] : List Int), 0, ([] : List (S82)), ([] : List (S84)), 110)) = some (r1, r2, r3, r4, r5, r6, r7, r8, r9, r10, r11, r12) := by rw [if_neg (show ¬ (false = true) by decide)] at H; exact H
          clear H
          have H := H1
          clear H1
          simp only [Option.some.injEq, Prod.mk.injEq] at H
          obtain ⟨rfl, rfl, rfl, rfl, rfl, rfl, rfl, rfl, rfl, rfl, rfl, rfl⟩ := H
          have hcz19_0 : wr.cell? ⟨gb101, 0, none⟩ = some (.int .i64 x102000_1) := (blk_cell BK101.out 0).trans rfl
          have hcz19_1 : wr.cell? ⟨gb101, 1, none⟩ = some (.int .i64 x102001_1) := (blk_cell BK101.out 1).trans rfl
          have hcz19_2 : wr.cell? ⟨gb101, 2, none⟩ = some (.int .i64 x102002_1) := (blk_cell BK101.out 2).trans rfl
          have hcz19_3 : wr.cell? ⟨gb101, 3, none⟩ = some (.int .i64 x102003_1) := (blk_cell BK101.out 3).trans rfl
          have hcz19_4 : wr.cell? ⟨gb101, 4, none⟩ = some (.int .i64 x102004_1) := (blk_cell BK101.out 4).trans rfl
          have hcz19_5 : wr.cell? ⟨gb101, 5, none⟩ = some (.int .i64 x102005_1) := (blk_cell BK101.out 5).trans rfl
          have hcz19_6 : wr.cell? ⟨gb101, 6, none⟩ = some (.slice none 0 0) := (blk_cell BK101.out 6).trans rfl
          have hcz19_7 : wr.cell? ⟨gb101, 7, none⟩ = some (.slice none 0 0) := (blk_cell BK101.out 7).trans rfl
          have hcz19_8 : wr.cell? ⟨gb101, 8, none⟩ = some (.int .i64 x102008_1) := (blk_cell BK101.out 8).trans rfl
          have hcz19_9 : wr.cell? ⟨gb101, 9, none⟩ = some (.slice none 0 0) := (blk_cell BK101.out 9).trans rfl
          have hcz19_10 : wr.cell? ⟨gb101, 10, none⟩ = some (.slice none 0 0) := (blk_cell BK101.out 10).trans rfl
          have hfz19_0 := blk_frozen BK101.out 0
          have hfz19_1 := blk_frozen BK101.out 1
          have hfz19_2 := blk_frozen BK101.out 2
          have hfz19_3 := blk_frozen BK101.out 3
          have hfz19_4 := blk_frozen BK101.out 4
          have hfz19_5 := blk_frozen BK101.out 5
          have hfz19_6 := blk_frozen BK101.out 6
          have hfz19_7 := blk_frozen BK101.out 7
          have hfz19_8 := blk_frozen BK101.out 8
          have hfz19_9 := blk_frozen BK101.out 9
          have hfz19_10 := blk_frozen BK101.out 10
          go_wp2_with (first
            | ((with_reducible refine gate_store (t := 41) (p := 6) (v := .tmp 48) rfl ?_); refine store_event rfl rfl (g := gb101) rfl rfl BK101.out (by kernel_rfl) rfl (by simp [Value.oneCell']) ?_
               intro w9 hb96 m9
               have q9 := Aside0.mk m9
               have F6 := Aside0.mk hb96
               clear hb96 m9))
          refine bodyPost_ret (results_ct rfl _ _ gb101 41 _ (0, 0) _ rfl F6.out Try.underlying41 rfl (by kernel_rfl)) rfl ?_
          exact ⟨_, _, _, _, rfl, Kd.V_nil _ _ _ _ _, Kd.V_nil _ _ _ _ _, Kd.V_nil _ _ _ _ _, Kd.V_nil _ _ _ _ _, q9.out.below HB.out HB.out.size (fun k hk => by rw [hk]; exact GE101.out)⟩

end Go.Proofs.Ytijlcahikeeigaa.QA
