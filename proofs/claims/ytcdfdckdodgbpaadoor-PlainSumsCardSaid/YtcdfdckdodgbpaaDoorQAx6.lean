-- Laid by a program of this session out of Lean's own print of the program; hand-made contracts are pasted in. Lean checks it.
import Derived.Test.YtcdfdckdodgbpaaDoorQAx0
import Derived.Test.YtcdfdckdodgbpaaDoorQAx1
namespace Go.Proofs.YtcdfdckdodgbpaaDoor.QA
open Go.RowKit Go.Proofs.YtcdfdckdodgbpaaDoorW.PrintWords Go.Proofs.YtcdfdckdodgbpaaDoorW.PrintLast Go.Proofs.YtcdfdckdodgbpaaDoorW.PrintMore
attribute [local go_sem] max2_int min2_int max_two min_two max_three min_three max_four min_four   -- for this text's walks alone
set_option linter.unusedVariables false
set_option linter.unusedSimpArgs false

attribute [local go_sem high] eqA71
/-! ### tidemarklaw18_entries: function 8 -/
def tidemarklaw18_entries.l0 : Nat → List (S71) → List (S71) → Int → Option (Bool)
  | 0, _, _, _ => none
  | k + 1, x0, x1, x5 => if x5 < (x0.length : Int) then (if 0 ≤ x5 then (if x5 < (x1.length : Int) then (if (!(((rd_T71 x0 x5).f0) == ((rd_T71 x1 x5).f0)) || (!(((rd_T71 x0 x5).f1) == ((rd_T71 x1 x5).f1)))) = true then (some false) else (tidemarklaw18_entries.l0 k x0 x1 (wrap64 (x5 + 1)))) else (none)) else (none)) else (some true)
def tidemarklaw18_entries.f (k : Nat) (l0 : List (S71)) (l1 : List (S71)) : Option (Bool) := if (l0.length : Int) = (l1.length : Int) then (tidemarklaw18_entries.l0 k l0 l1 0) else (some false)
theorem tidemarklaw18_entries.mono_l : ∀ k, (∀ y0 y1 y2, LeO (tidemarklaw18_entries.l0 k y0 y1 y2) (tidemarklaw18_entries.l0 (k + 1) y0 y1 y2))
  | 0 => fun _ _ _ r h => by simp [tidemarklaw18_entries.l0] at h
  | k + 1 => by
    have ih0 := tidemarklaw18_entries.mono_l k
    · intro y0 y1 y2
      unfold tidemarklaw18_entries.l0
      repeat' first
      | (with_reducible exact ih0 _ _ _)
      | (with_reducible exact LeO.refl _)
      | (with_reducible exact LeO.none _)
      | (with_reducible refine LeO.ite ?_ ?_)
      | (with_reducible refine LeO.bind ?_ (fun _ => ?_))
      | exact ih0 _ _ _
      | exact LeO.none _
      | refine LeO.ite ?_ ?_
      | refine LeO.bind ?_ (fun _ => ?_)
theorem tidemarklaw18_entries.mono : ∀ a0 a1 k, LeO (tidemarklaw18_entries.f k a0 a1) (tidemarklaw18_entries.f (k + 1) a0 a1) := by
  intro a0 a1 k
  have ih0 := tidemarklaw18_entries.mono_l k
  unfold tidemarklaw18_entries.f
  repeat' first
      | (with_reducible exact ih0 _ _ _)
      | (with_reducible exact LeO.refl _)
      | (with_reducible exact LeO.none _)
      | (with_reducible refine LeO.ite ?_ ?_)
      | (with_reducible refine LeO.bind ?_ (fun _ => ?_))
      | exact ih0 _ _ _
      | exact LeO.none _
      | refine LeO.ite ?_ ?_
      | refine LeO.bind ?_ (fun _ => ?_)
set_option maxHeartbeats 8000000 in
set_option maxRecDepth 100000 in
theorem tidemarklaw18_entries.calls (k : Nat) (A0 : Option Addr) (c0 : Nat) (l0 : List (S71)) (A1 : Option Addr) (c1 : Nat) (l1 : List (S71)) (r : Bool) (w : World) (hr0 : Kd.C k71 w A0 l0.length l0) (hc0 : l0.length ≤ c0) (hr1 : Kd.C k71 w A1 l1.length l1) (hc1 : l1.length ≤ c1) (h : tidemarklaw18_entries.f k l0 l1 = some r) :
    Calls Tryd.prog 8 #[.slice A0 l0.length c0, .slice A1 l1.length c1] w fun e w' => e = .returned (.bool r) ∧ Drawn0 w w' := by
  have hu71 := Tryd.underlying71
  have HR0 := Aside0.mk hr0
  have HC0 := Aside0.mk hc0
  clear hr0 hc0
  have HR1 := Aside0.mk hr1
  have HC1 := Aside0.mk hc1
  clear hr1 hc1
  have H : (if (l0.length : Int) = (l1.length : Int) then (tidemarklaw18_entries.l0 k l0 l1 0) else (some false)) = some r := h
  clear h
  by_cases c3 : (l0.length : Int) = (l1.length : Int)
  · rw [if_pos c3] at H
    have c3b0 : ((l0.length : Int) == (l1.length : Int)) = true := beq_iff_eq.mpr c3
    have c3b1 : ((l0.length : Int) != (l1.length : Int)) = false := bne_eq_false_iff_eq.mpr c3
    have c3b2 : (l0.length == l1.length) = true := by first | simpa using c3 | (simp at c3 ⊢; omega)
    clear c3
    have H' := Aside0.mk H
    clear H
    go_enter Tryd.func8, Tryd.ntmps8
    go_wp2
    repeat (go_quiet (fail); try go_wp2)
    go_loopg [5] k (fun kq v5 w' => ∃ (x5_1 : Int), v5 = .int .i64 x5_1 ∧ Aside0 (tidemarklaw18_entries.l0 kq l0 l1 x5_1 = some r) ∧ Aside0 (kq ≤ k) ∧ Drawn0 w w')
    case atStart => exact ⟨(0), (by first | rfl | (simp; done) | (simp [*]; done)), H', ⟨Nat.le_refl _⟩, by repeat (first | exact Drawn0.refl _ | apply Drawn0.step)⟩
    case round =>
      clear H'
      try clear c1
      try clear p2
      try clear c3
      try clear c3b0
      try clear c3b1
      try clear c3b2
      obtain ⟨x5_1, rfl, HA, HK1, ⟨m1, rfl⟩⟩ := hrel
      cases gk with
      | zero => exact absurd HA.out (by simp [tidemarklaw18_entries.l0])
      | succ k1 =>
        have H := HA.out
        clear HA
        simp only [tidemarklaw18_entries.l0] at H
        by_cases c4 : x5_1 < (l0.length : Int)
        · rw [if_pos c4] at H
          have c4b0 : decide (x5_1 < (l0.length : Int)) = true := decide_eq_true c4
          clear c4
          by_cases c5 : 0 ≤ x5_1
          · rw [if_pos c5] at H
            have c5b0 : decide (0 ≤ x5_1) = true := decide_eq_true c5
            clear c5
            by_cases c6 : x5_1 < (l1.length : Int)
            · rw [if_pos c6] at H
              have c6b0 : decide (x5_1 < (l1.length : Int)) = true := decide_eq_true c6
              clear c6
              by_cases c7 : (!(((rd_T71 l0 x5_1).f0) == ((rd_T71 l1 x5_1).f0)) || (!(((rd_T71 l0 x5_1).f1) == ((rd_T71 l1 x5_1).f1)))) = true
              · rw [if_pos c7] at H
                have c7b0 : (!(((rd_T71 l0 x5_1).f0) == ((rd_T71 l1 x5_1).f0)) || (!(((rd_T71 l0 x5_1).f1) == ((rd_T71 l1 x5_1).f1)))) = true := c7
                clear c7
                obtain rfl := Option.some.inj H
                have p163 : 0 ≤ (x5_1 : Int) := of_decide_eq_true (by first | (with_reducible assumption) | assumption)
                have q163 : x5_1 < (l0.length : Int) := of_decide_eq_true (by first | (with_reducible assumption) | assumption)
                obtain ⟨ad163, e163, hx163_0, hx163_1⟩ := at_T71 HR0.out x5_1 p163 q163
                cases e163
                replace p163 := eq_true p163
                replace q163 := eq_true q163
                have p164 : 0 ≤ (x5_1 : Int) := of_decide_eq_true (by first | (with_reducible assumption) | assumption)
                have q164 : x5_1 < (l1.length : Int) := of_decide_eq_true (by first | (with_reducible assumption) | assumption)
                obtain ⟨ad164, e164, hx164_0, hx164_1⟩ := at_T71 HR1.out x5_1 p164 q164
                cases e164
                replace p164 := eq_true p164
                replace q164 := eq_true q164
                go_wp2
                repeat (go_quiet (fail); try go_wp2)
                go_ret
                exact ⟨by first | rfl | (simp; done) | (simp [*]; done), by repeat (first | exact Drawn0.refl _ | apply Drawn0.step)⟩
              · rw [if_neg c7] at H
                have c7b0 : (!(((rd_T71 l0 x5_1).f0) == ((rd_T71 l1 x5_1).f0)) || (!(((rd_T71 l0 x5_1).f1) == ((rd_T71 l1 x5_1).f1)))) = false := by simpa using c7
                clear c7
                have H' := Aside0.mk H
                clear H
                have p163 : 0 ≤ (x5_1 : Int) := of_decide_eq_true (by first | (with_reducible assumption) | assumption)
                have q163 : x5_1 < (l0.length : Int) := of_decide_eq_true (by first | (with_reducible assumption) | assumption)
                obtain ⟨ad163, e163, hx163_0, hx163_1⟩ := at_T71 HR0.out x5_1 p163 q163
                cases e163
                replace p163 := eq_true p163
                replace q163 := eq_true q163
                have p164 : 0 ≤ (x5_1 : Int) := of_decide_eq_true (by first | (with_reducible assumption) | assumption)
                have q164 : x5_1 < (l1.length : Int) := of_decide_eq_true (by first | (with_reducible assumption) | assumption)
                obtain ⟨ad164, e164, hx164_0, hx164_1⟩ := at_T71 HR1.out x5_1 p164 q164
                cases e164
                replace p164 := eq_true p164
                replace q164 := eq_true q164
                go_wp2
                repeat (go_quiet (fail); try go_wp2)
                go_roundg k1
                case measure => have := HK1.out; omega
                case rel => exact ⟨(wrap64 (x5_1 + 1)), (by first | rfl | (simp; done) | (simp [*]; done)), H', ⟨by have := HK1.out; omega⟩, by repeat (first | exact Drawn0.refl _ | apply Drawn0.step)⟩
            · rw [if_neg c6] at H
              exact absurd H (by simp)
          · rw [if_neg c5] at H
            exact absurd H (by simp)
        · rw [if_neg c4] at H
          have c4b0 : decide (x5_1 < (l0.length : Int)) = false := decide_eq_false c4
          clear c4
          obtain rfl := Option.some.inj H
          go_wp2
          repeat (go_quiet (fail); try go_wp2)
          go_ret
          exact ⟨by first | rfl | (simp; done) | (simp [*]; done), by repeat (first | exact Drawn0.refl _ | apply Drawn0.step)⟩
  · rw [if_neg c3] at H
    have c3b0 : ((l0.length : Int) == (l1.length : Int)) = false := beq_eq_false_iff_ne.mpr c3
    have c3b1 : ((l0.length : Int) != (l1.length : Int)) = true := bne_iff_ne.mpr c3
    have c3b2 : (l0.length == l1.length) = false := by first | simpa using c3 | (simp at c3 ⊢; omega)
    obtain rfl := Option.some.inj H
    go_enter Tryd.func8, Tryd.ntmps8
    go_wp2
    repeat (go_quiet (fail); try go_wp2)
    go_ret
    exact ⟨by first | rfl | (simp; done) | (simp [*]; done), by repeat (first | exact Drawn0.refl _ | apply Drawn0.step)⟩

/-! ### tidemarklaw18_changes: function 10 -/
def tidemarklaw18_changes.l0 : Nat → List (S56) → List (S57) → Int → Option (Bool)
  | 0, _, _, _ => none
  | k + 1, x0, x1, x5 => if x5 < (x0.length : Int) then (if 0 ≤ x5 then (if x5 < (x1.length : Int) then (if ((rd_T56 x0 x5).f0) = ((rd_T57 x1 x5).f0) then (if ((rd_T56 x0 x5).f1) = ((rd_T57 x1 x5).f1) then (if (((rd_T56 x0 x5).f2) != ((rd_T57 x1 x5).f2)) = true then (some false) else (tidemarklaw18_changes.l0 k x0 x1 (wrap64 (x5 + 1)))) else (some false)) else (some false)) else (none)) else (none)) else (some true)
def tidemarklaw18_changes.f (k : Nat) (l0 : List (S56)) (l1 : List (S57)) : Option (Bool) := if (l0.length : Int) = (l1.length : Int) then (tidemarklaw18_changes.l0 k l0 l1 0) else (some false)
theorem tidemarklaw18_changes.mono_l : ∀ k, (∀ y0 y1 y2, LeO (tidemarklaw18_changes.l0 k y0 y1 y2) (tidemarklaw18_changes.l0 (k + 1) y0 y1 y2))
  | 0 => fun _ _ _ r h => by simp [tidemarklaw18_changes.l0] at h
  | k + 1 => by
    have ih0 := tidemarklaw18_changes.mono_l k
    · intro y0 y1 y2
      unfold tidemarklaw18_changes.l0
      repeat' first
      | (with_reducible exact ih0 _ _ _)
      | (with_reducible exact LeO.refl _)
      | (with_reducible exact LeO.none _)
      | (with_reducible refine LeO.ite ?_ ?_)
      | (with_reducible refine LeO.bind ?_ (fun _ => ?_))
      | exact ih0 _ _ _
      | exact LeO.none _
      | refine LeO.ite ?_ ?_
      | refine LeO.bind ?_ (fun _ => ?_)
theorem tidemarklaw18_changes.mono : ∀ a0 a1 k, LeO (tidemarklaw18_changes.f k a0 a1) (tidemarklaw18_changes.f (k + 1) a0 a1) := by
  intro a0 a1 k
  have ih0 := tidemarklaw18_changes.mono_l k
  unfold tidemarklaw18_changes.f
  repeat' first
      | (with_reducible exact ih0 _ _ _)
      | (with_reducible exact LeO.refl _)
      | (with_reducible exact LeO.none _)
      | (with_reducible refine LeO.ite ?_ ?_)
      | (with_reducible refine LeO.bind ?_ (fun _ => ?_))
      | exact ih0 _ _ _
      | exact LeO.none _
      | refine LeO.ite ?_ ?_
      | refine LeO.bind ?_ (fun _ => ?_)
set_option maxHeartbeats 8000000 in
set_option maxRecDepth 100000 in
theorem tidemarklaw18_changes.calls (k : Nat) (A0 : Option Addr) (c0 : Nat) (l0 : List (S56)) (A1 : Option Addr) (c1 : Nat) (l1 : List (S57)) (r : Bool) (w : World) (hr0 : Kd.C k56 w A0 l0.length l0) (hc0 : l0.length ≤ c0) (hr1 : Kd.C k57 w A1 l1.length l1) (hc1 : l1.length ≤ c1) (h : tidemarklaw18_changes.f k l0 l1 = some r) :
    Calls Tryd.prog 10 #[.slice A0 l0.length c0, .slice A1 l1.length c1] w fun e w' => e = .returned (.bool r) ∧ Drawn0 w w' := by
  have HR0 := Aside0.mk hr0
  have HC0 := Aside0.mk hc0
  clear hr0 hc0
  have HR1 := Aside0.mk hr1
  have HC1 := Aside0.mk hc1
  clear hr1 hc1
  have H : (if (l0.length : Int) = (l1.length : Int) then (tidemarklaw18_changes.l0 k l0 l1 0) else (some false)) = some r := h
  clear h
  by_cases c3 : (l0.length : Int) = (l1.length : Int)
  · rw [if_pos c3] at H
    have c3b0 : ((l0.length : Int) == (l1.length : Int)) = true := beq_iff_eq.mpr c3
    have c3b1 : ((l0.length : Int) != (l1.length : Int)) = false := bne_eq_false_iff_eq.mpr c3
    have c3b2 : (l0.length == l1.length) = true := by first | simpa using c3 | (simp at c3 ⊢; omega)
    clear c3
    have H' := Aside0.mk H
    clear H
    go_enter Tryd.func10, Tryd.ntmps10
    go_wp2
    repeat (go_quiet (fail); try go_wp2)
    go_loopg [5] k (fun kq v5 w' => ∃ (x5_1 : Int), v5 = .int .i64 x5_1 ∧ Aside0 (tidemarklaw18_changes.l0 kq l0 l1 x5_1 = some r) ∧ Aside0 (kq ≤ k) ∧ Drawn0 w w')
    case atStart => exact ⟨(0), (by first | rfl | (simp; done) | (simp [*]; done)), H', ⟨Nat.le_refl _⟩, by repeat (first | exact Drawn0.refl _ | apply Drawn0.step)⟩
    case round =>
      clear H'
      try clear c1
      try clear p2
      try clear c3
      try clear c3b0
      try clear c3b1
      try clear c3b2
      obtain ⟨x5_1, rfl, HA, HK1, ⟨m1, rfl⟩⟩ := hrel
      cases gk with
      | zero => exact absurd HA.out (by simp [tidemarklaw18_changes.l0])
      | succ k1 =>
        have H := HA.out
        clear HA
        simp only [tidemarklaw18_changes.l0] at H
        by_cases c4 : x5_1 < (l0.length : Int)
        · rw [if_pos c4] at H
          have c4b0 : decide (x5_1 < (l0.length : Int)) = true := decide_eq_true c4
          clear c4
          by_cases c5 : 0 ≤ x5_1
          · rw [if_pos c5] at H
            have c5b0 : decide (0 ≤ x5_1) = true := decide_eq_true c5
            clear c5
            by_cases c6 : x5_1 < (l1.length : Int)
            · rw [if_pos c6] at H
              have c6b0 : decide (x5_1 < (l1.length : Int)) = true := decide_eq_true c6
              clear c6
              by_cases c7 : ((rd_T56 l0 x5_1).f0) = ((rd_T57 l1 x5_1).f0)
              · rw [if_pos c7] at H
                have c7b0 : (((rd_T56 l0 x5_1).f0) == ((rd_T57 l1 x5_1).f0)) = true := beq_iff_eq.mpr c7
                have c7b1 : (((rd_T56 l0 x5_1).f0) != ((rd_T57 l1 x5_1).f0)) = false := bne_eq_false_iff_eq.mpr c7
                clear c7
                by_cases c8 : ((rd_T56 l0 x5_1).f1) = ((rd_T57 l1 x5_1).f1)
                · rw [if_pos c8] at H
                  have c8b0 : (((rd_T56 l0 x5_1).f1) == ((rd_T57 l1 x5_1).f1)) = true := beq_iff_eq.mpr c8
                  have c8b1 : (((rd_T56 l0 x5_1).f1) != ((rd_T57 l1 x5_1).f1)) = false := bne_eq_false_iff_eq.mpr c8
                  clear c8
                  by_cases c9 : (((rd_T56 l0 x5_1).f2) != ((rd_T57 l1 x5_1).f2)) = true
                  · rw [if_pos c9] at H
                    have c9b0 : (((rd_T56 l0 x5_1).f2) != ((rd_T57 l1 x5_1).f2)) = true := c9
                    (try (have c9b1 : decide (((rd_T56 l0 x5_1).f2) = ((rd_T57 l1 x5_1).f2)) = false := by simpa using c9))
                    (try (have c9b2 : (((rd_T56 l0 x5_1).f2) == ((rd_T57 l1 x5_1).f2)) = false := by simpa using c9))
                    (try (have c9b3 : ¬ (((rd_T56 l0 x5_1).f2) = ((rd_T57 l1 x5_1).f2)) := by simpa using c9))
                    clear c9
                    obtain rfl := Option.some.inj H
                    have p165 : 0 ≤ (x5_1 : Int) := of_decide_eq_true (by first | (with_reducible assumption) | assumption)
                    have q165 : x5_1 < (l0.length : Int) := of_decide_eq_true (by first | (with_reducible assumption) | assumption)
                    obtain ⟨ad165, e165, hx165_0, hx165_1, hx165_2⟩ := at_T56 HR0.out x5_1 p165 q165
                    cases e165
                    replace p165 := eq_true p165
                    replace q165 := eq_true q165
                    have p166 : 0 ≤ (x5_1 : Int) := of_decide_eq_true (by first | (with_reducible assumption) | assumption)
                    have q166 : x5_1 < (l1.length : Int) := of_decide_eq_true (by first | (with_reducible assumption) | assumption)
                    obtain ⟨ad166, e166, hx166_0, hx166_1, hx166_2⟩ := at_T57 HR1.out x5_1 p166 q166
                    cases e166
                    replace p166 := eq_true p166
                    replace q166 := eq_true q166
                    have p167 : 0 ≤ (x5_1 : Int) := of_decide_eq_true (by first | (with_reducible assumption) | assumption)
                    have q167 : x5_1 < (l0.length : Int) := of_decide_eq_true (by first | (with_reducible assumption) | assumption)
                    obtain ⟨ad167, e167, hx167_0, hx167_1, hx167_2⟩ := at_T56 HR0.out x5_1 p167 q167
                    obtain rfl : ad165 = ad167 := (by injection e167)
                    replace p167 := eq_true p167
                    replace q167 := eq_true q167
                    have p168 : 0 ≤ (x5_1 : Int) := of_decide_eq_true (by first | (with_reducible assumption) | assumption)
                    have q168 : x5_1 < (l1.length : Int) := of_decide_eq_true (by first | (with_reducible assumption) | assumption)
                    obtain ⟨ad168, e168, hx168_0, hx168_1, hx168_2⟩ := at_T57 HR1.out x5_1 p168 q168
                    obtain rfl : ad166 = ad168 := (by injection e168)
                    replace p168 := eq_true p168
                    replace q168 := eq_true q168
                    have p169 : 0 ≤ (x5_1 : Int) := of_decide_eq_true (by first | (with_reducible assumption) | assumption)
                    have q169 : x5_1 < (l0.length : Int) := of_decide_eq_true (by first | (with_reducible assumption) | assumption)
                    obtain ⟨ad169, e169, hx169_0, hx169_1, hx169_2⟩ := at_T56 HR0.out x5_1 p169 q169
                    obtain rfl : ad165 = ad169 := (by injection e169)
                    replace p169 := eq_true p169
                    replace q169 := eq_true q169
                    have p170 : 0 ≤ (x5_1 : Int) := of_decide_eq_true (by first | (with_reducible assumption) | assumption)
                    have q170 : x5_1 < (l1.length : Int) := of_decide_eq_true (by first | (with_reducible assumption) | assumption)
                    obtain ⟨ad170, e170, hx170_0, hx170_1, hx170_2⟩ := at_T57 HR1.out x5_1 p170 q170
                    obtain rfl : ad166 = ad170 := (by injection e170)
                    replace p170 := eq_true p170
                    replace q170 := eq_true q170
                    go_wp2
                    repeat (go_quiet (fail); try go_wp2)
                    go_ret
                    exact ⟨by first | rfl | (simp; done) | (simp [*]; done), by repeat (first | exact Drawn0.refl _ | apply Drawn0.step)⟩
                  · rw [if_neg c9] at H
                    have c9b0 : (((rd_T56 l0 x5_1).f2) != ((rd_T57 l1 x5_1).f2)) = false := by simpa using c9
                    (try (have c9b1 : decide (((rd_T56 l0 x5_1).f2) = ((rd_T57 l1 x5_1).f2)) = true := by simpa using c9))
                    (try (have c9b2 : (((rd_T56 l0 x5_1).f2) == ((rd_T57 l1 x5_1).f2)) = true := by simpa using c9))
                    clear c9
                    have H' := Aside0.mk H
                    clear H
                    have p165 : 0 ≤ (x5_1 : Int) := of_decide_eq_true (by first | (with_reducible assumption) | assumption)
                    have q165 : x5_1 < (l0.length : Int) := of_decide_eq_true (by first | (with_reducible assumption) | assumption)
                    obtain ⟨ad165, e165, hx165_0, hx165_1, hx165_2⟩ := at_T56 HR0.out x5_1 p165 q165
                    cases e165
                    replace p165 := eq_true p165
                    replace q165 := eq_true q165
                    have p166 : 0 ≤ (x5_1 : Int) := of_decide_eq_true (by first | (with_reducible assumption) | assumption)
                    have q166 : x5_1 < (l1.length : Int) := of_decide_eq_true (by first | (with_reducible assumption) | assumption)
                    obtain ⟨ad166, e166, hx166_0, hx166_1, hx166_2⟩ := at_T57 HR1.out x5_1 p166 q166
                    cases e166
                    replace p166 := eq_true p166
                    replace q166 := eq_true q166
                    have p167 : 0 ≤ (x5_1 : Int) := of_decide_eq_true (by first | (with_reducible assumption) | assumption)
                    have q167 : x5_1 < (l0.length : Int) := of_decide_eq_true (by first | (with_reducible assumption) | assumption)
                    obtain ⟨ad167, e167, hx167_0, hx167_1, hx167_2⟩ := at_T56 HR0.out x5_1 p167 q167
                    obtain rfl : ad165 = ad167 := (by injection e167)
                    replace p167 := eq_true p167
                    replace q167 := eq_true q167
                    have p168 : 0 ≤ (x5_1 : Int) := of_decide_eq_true (by first | (with_reducible assumption) | assumption)
                    have q168 : x5_1 < (l1.length : Int) := of_decide_eq_true (by first | (with_reducible assumption) | assumption)
                    obtain ⟨ad168, e168, hx168_0, hx168_1, hx168_2⟩ := at_T57 HR1.out x5_1 p168 q168
                    obtain rfl : ad166 = ad168 := (by injection e168)
                    replace p168 := eq_true p168
                    replace q168 := eq_true q168
                    have p169 : 0 ≤ (x5_1 : Int) := of_decide_eq_true (by first | (with_reducible assumption) | assumption)
                    have q169 : x5_1 < (l0.length : Int) := of_decide_eq_true (by first | (with_reducible assumption) | assumption)
                    obtain ⟨ad169, e169, hx169_0, hx169_1, hx169_2⟩ := at_T56 HR0.out x5_1 p169 q169
                    obtain rfl : ad165 = ad169 := (by injection e169)
                    replace p169 := eq_true p169
                    replace q169 := eq_true q169
                    have p170 : 0 ≤ (x5_1 : Int) := of_decide_eq_true (by first | (with_reducible assumption) | assumption)
                    have q170 : x5_1 < (l1.length : Int) := of_decide_eq_true (by first | (with_reducible assumption) | assumption)
                    obtain ⟨ad170, e170, hx170_0, hx170_1, hx170_2⟩ := at_T57 HR1.out x5_1 p170 q170
                    obtain rfl : ad166 = ad170 := (by injection e170)
                    replace p170 := eq_true p170
                    replace q170 := eq_true q170
                    go_wp2
                    repeat (go_quiet (fail); try go_wp2)
                    go_roundg k1
                    case measure => have := HK1.out; omega
                    case rel => exact ⟨(wrap64 (x5_1 + 1)), (by first | rfl | (simp; done) | (simp [*]; done)), H', ⟨by have := HK1.out; omega⟩, by repeat (first | exact Drawn0.refl _ | apply Drawn0.step)⟩
                · rw [if_neg c8] at H
                  have c8b0 : (((rd_T56 l0 x5_1).f1) == ((rd_T57 l1 x5_1).f1)) = false := beq_eq_false_iff_ne.mpr c8
                  have c8b1 : (((rd_T56 l0 x5_1).f1) != ((rd_T57 l1 x5_1).f1)) = true := bne_iff_ne.mpr c8
                  obtain rfl := Option.some.inj H
                  have p165 : 0 ≤ (x5_1 : Int) := of_decide_eq_true (by first | (with_reducible assumption) | assumption)
                  have q165 : x5_1 < (l0.length : Int) := of_decide_eq_true (by first | (with_reducible assumption) | assumption)
                  obtain ⟨ad165, e165, hx165_0, hx165_1, hx165_2⟩ := at_T56 HR0.out x5_1 p165 q165
                  cases e165
                  replace p165 := eq_true p165
                  replace q165 := eq_true q165
                  have p166 : 0 ≤ (x5_1 : Int) := of_decide_eq_true (by first | (with_reducible assumption) | assumption)
                  have q166 : x5_1 < (l1.length : Int) := of_decide_eq_true (by first | (with_reducible assumption) | assumption)
                  obtain ⟨ad166, e166, hx166_0, hx166_1, hx166_2⟩ := at_T57 HR1.out x5_1 p166 q166
                  cases e166
                  replace p166 := eq_true p166
                  replace q166 := eq_true q166
                  have p167 : 0 ≤ (x5_1 : Int) := of_decide_eq_true (by first | (with_reducible assumption) | assumption)
                  have q167 : x5_1 < (l0.length : Int) := of_decide_eq_true (by first | (with_reducible assumption) | assumption)
                  obtain ⟨ad167, e167, hx167_0, hx167_1, hx167_2⟩ := at_T56 HR0.out x5_1 p167 q167
                  obtain rfl : ad165 = ad167 := (by injection e167)
                  replace p167 := eq_true p167
                  replace q167 := eq_true q167
                  have p168 : 0 ≤ (x5_1 : Int) := of_decide_eq_true (by first | (with_reducible assumption) | assumption)
                  have q168 : x5_1 < (l1.length : Int) := of_decide_eq_true (by first | (with_reducible assumption) | assumption)
                  obtain ⟨ad168, e168, hx168_0, hx168_1, hx168_2⟩ := at_T57 HR1.out x5_1 p168 q168
                  obtain rfl : ad166 = ad168 := (by injection e168)
                  replace p168 := eq_true p168
                  replace q168 := eq_true q168
                  go_wp2
                  repeat (go_quiet (fail); try go_wp2)
                  go_ret
                  exact ⟨by first | rfl | (simp; done) | (simp [*]; done), by repeat (first | exact Drawn0.refl _ | apply Drawn0.step)⟩
              · rw [if_neg c7] at H
                have c7b0 : (((rd_T56 l0 x5_1).f0) == ((rd_T57 l1 x5_1).f0)) = false := beq_eq_false_iff_ne.mpr c7
                have c7b1 : (((rd_T56 l0 x5_1).f0) != ((rd_T57 l1 x5_1).f0)) = true := bne_iff_ne.mpr c7
                obtain rfl := Option.some.inj H
                have p165 : 0 ≤ (x5_1 : Int) := of_decide_eq_true (by first | (with_reducible assumption) | assumption)
                have q165 : x5_1 < (l0.length : Int) := of_decide_eq_true (by first | (with_reducible assumption) | assumption)
                obtain ⟨ad165, e165, hx165_0, hx165_1, hx165_2⟩ := at_T56 HR0.out x5_1 p165 q165
                cases e165
                replace p165 := eq_true p165
                replace q165 := eq_true q165
                have p166 : 0 ≤ (x5_1 : Int) := of_decide_eq_true (by first | (with_reducible assumption) | assumption)
                have q166 : x5_1 < (l1.length : Int) := of_decide_eq_true (by first | (with_reducible assumption) | assumption)
                obtain ⟨ad166, e166, hx166_0, hx166_1, hx166_2⟩ := at_T57 HR1.out x5_1 p166 q166
                cases e166
                replace p166 := eq_true p166
                replace q166 := eq_true q166
                go_wp2
                repeat (go_quiet (fail); try go_wp2)
                go_ret
                exact ⟨by first | rfl | (simp; done) | (simp [*]; done), by repeat (first | exact Drawn0.refl _ | apply Drawn0.step)⟩
            · rw [if_neg c6] at H
              exact absurd H (by simp)
          · rw [if_neg c5] at H
            exact absurd H (by simp)
        · rw [if_neg c4] at H
          have c4b0 : decide (x5_1 < (l0.length : Int)) = false := decide_eq_false c4
          clear c4
          obtain rfl := Option.some.inj H
          go_wp2
          repeat (go_quiet (fail); try go_wp2)
          go_ret
          exact ⟨by first | rfl | (simp; done) | (simp [*]; done), by repeat (first | exact Drawn0.refl _ | apply Drawn0.step)⟩
  · rw [if_neg c3] at H
    have c3b0 : ((l0.length : Int) == (l1.length : Int)) = false := beq_eq_false_iff_ne.mpr c3
    have c3b1 : ((l0.length : Int) != (l1.length : Int)) = true := bne_iff_ne.mpr c3
    have c3b2 : (l0.length == l1.length) = false := by first | simpa using c3 | (simp at c3 ⊢; omega)
    obtain rfl := Option.some.inj H
    go_enter Tryd.func10, Tryd.ntmps10
    go_wp2
    repeat (go_quiet (fail); try go_wp2)
    go_ret
    exact ⟨by first | rfl | (simp; done) | (simp [*]; done), by repeat (first | exact Drawn0.refl _ | apply Drawn0.step)⟩

/-! ### tidemarklaw18_small: function 18 -/
def tidemarklaw18_small.f  : Option (Int × Int × Int × Int × Int × Int) := some (2, 2, 1024, 2, 2, 100)
set_option maxHeartbeats 8000000 in
set_option maxRecDepth 100000 in
theorem tidemarklaw18_small.calls  (r1 : Int) (r2 : Int) (r3 : Int) (r4 : Int) (r5 : Int) (r6 : Int) (w : World) (h : tidemarklaw18_small.f  = some (r1, r2, r3, r4, r5, r6)) :
    Calls Tryd.prog 18 #[] w fun e w' => e = .returned (.agg #[.int .i64 r1, .int .i64 r2, .int .i64 r3, .int .i64 r4, .int .i64 r5, .int .i64 r6]) ∧ Below w.heap.size w w' := by
  have hu39 := Tryd.underlying39
  have hu37 := Tryd.underlying37
  have HB := Aside0.mk (Below.refl w.heap.size w)
  have H : (some (2, 2, 1024, 2, 2, 100)) = some (r1, r2, r3, r4, r5, r6) := h
  clear h
  simp only [Option.some.injEq, Prod.mk.injEq] at H
  obtain ⟨rfl, rfl, rfl, rfl, rfl, rfl⟩ := H
  go_enter Tryd.func18, Tryd.ntmps18
  go_wp2_with (first | ((with_reducible refine gate_dst (N := 0) rfl ?_); refine box_event ?hg (N := 0) ?hd (cs := #[.int .i64 0, .int .i64 0, .int .i64 0, .int .i64 0, .int .i64 0, .int .i64 0]) (t := 39) ?hr ?_; (case hd => rfl); (case hg => rfl); (case hr => first | (go_simp; done) | (go_simp; rfl)); intro gb171 hg w1 hbox hb; have n0_ := Aside0.mk (below_step (by repeat (first | (with_reducible first | exact HB.out | apply below_alloc | apply pw_below_drewN | apply below_drew1) | exact HB.out)) hb); have n1_ := Aside0.mk (hbox); have n2_ := Aside0.mk ((by rw [hg]; exact (below_size (by repeat (first | (with_reducible first | exact HB.out | apply below_alloc | apply pw_below_drewN | apply below_drew1) | exact HB.out))) : w.heap.size ≤ gb171)); have n3_ := Aside0.mk ((by rw [hg]; exact (below_size (by repeat (first | (with_reducible first | exact HB.out | apply below_alloc | apply pw_below_drewN | apply below_drew1) | exact HB.out))) : w.heap.size ≤ gb171)); clear HB; have HB := n0_; have BK171 := n1_; have GW171 := n2_; have GE171 := n3_; clear n0_ n1_ n2_ n3_; clear hb hbox hg; have hcz2_0 : w1.cell? ⟨gb171, 0, none⟩ = some (.int .i64 0) := (blk_cell BK171.out 0).trans rfl; have hcz2_1 : w1.cell? ⟨gb171, 1, none⟩ = some (.int .i64 0) := (blk_cell BK171.out 1).trans rfl; have hcz2_2 : w1.cell? ⟨gb171, 2, none⟩ = some (.int .i64 0) := (blk_cell BK171.out 2).trans rfl; have hcz2_3 : w1.cell? ⟨gb171, 3, none⟩ = some (.int .i64 0) := (blk_cell BK171.out 3).trans rfl; have hcz2_4 : w1.cell? ⟨gb171, 4, none⟩ = some (.int .i64 0) := (blk_cell BK171.out 4).trans rfl; have hcz2_5 : w1.cell? ⟨gb171, 5, none⟩ = some (.int .i64 0) := (blk_cell BK171.out 5).trans rfl; have hfz2_0 := blk_frozen BK171.out 0; have hfz2_1 := blk_frozen BK171.out 1; have hfz2_2 := blk_frozen BK171.out 2; have hfz2_3 := blk_frozen BK171.out 3; have hfz2_4 := blk_frozen BK171.out 4; have hfz2_5 := blk_frozen BK171.out 5))
  refine bodyPost_ret (results_cell_row rfl _ _ gb171 39 #[.int .i64 2, .int .i64 2, .int .i64 1024, .int .i64 2, .int .i64 2, .int .i64 100] (0, 0) _ rfl (by (with_reducible repeat (first | refine blk_drewN ?_ _ | refine blk_drew ?_ | refine blk_alloc ?_ _)); refine blk_put (cs := #[.int .i64 2, .int .i64 2, .int .i64 1024, .int .i64 2, .int .i64 2, .int .i64 0]) ?_ 5 _ rfl; (with_reducible repeat (first | refine blk_drewN ?_ _ | refine blk_drew ?_ | refine blk_alloc ?_ _)); refine blk_put (cs := #[.int .i64 2, .int .i64 2, .int .i64 1024, .int .i64 2, .int .i64 0, .int .i64 0]) ?_ 4 _ rfl; (with_reducible repeat (first | refine blk_drewN ?_ _ | refine blk_drew ?_ | refine blk_alloc ?_ _)); refine blk_put (cs := #[.int .i64 2, .int .i64 2, .int .i64 1024, .int .i64 0, .int .i64 0, .int .i64 0]) ?_ 3 _ rfl; (with_reducible repeat (first | refine blk_drewN ?_ _ | refine blk_drew ?_ | refine blk_alloc ?_ _)); refine blk_put (cs := #[.int .i64 2, .int .i64 2, .int .i64 0, .int .i64 0, .int .i64 0, .int .i64 0]) ?_ 2 _ rfl; (with_reducible repeat (first | refine blk_drewN ?_ _ | refine blk_drew ?_ | refine blk_alloc ?_ _)); refine blk_put (cs := #[.int .i64 2, .int .i64 0, .int .i64 0, .int .i64 0, .int .i64 0, .int .i64 0]) ?_ 1 _ rfl; (with_reducible repeat (first | refine blk_drewN ?_ _ | refine blk_drew ?_ | refine blk_alloc ?_ _)); refine blk_put (cs := #[.int .i64 0, .int .i64 0, .int .i64 0, .int .i64 0, .int .i64 0, .int .i64 0]) ?_ 0 _ rfl; (with_reducible repeat (first | refine blk_drewN ?_ _ | refine blk_drew ?_ | refine blk_alloc ?_ _)); exact BK171.out) Tryd.underlying39 rfl (by kernel_rfl)) rfl ?_
  exact ⟨by first | rfl | (simp [errW_none, errW_some] <;> rfl) | (simp [*, errW_none, errW_some] <;> rfl), by repeat (first | (with_reducible first | exact HB.out | apply below_alloc | apply pw_below_drewN | apply below_drew1 | refine below_set ?_ GE171.out) | exact HB.out)⟩

end Go.Proofs.YtcdfdckdodgbpaaDoor.QA
