-- Laid by a program of this session out of Lean's own print of the program; hand-made contracts are pasted in. Lean checks it.
import Derived.Test.YtijlcahikeeigaaQAx0
import Derived.Test.YtijlcahikeeigaaQAx1
import Derived.Test.YtijlcahikeeigaaQAx8
namespace Go.Proofs.Ytijlcahikeeigaa.QA
open Go.RowKit Go.Proofs.YtijlcahikeeigaaW.PrintWords Go.Proofs.YtijlcahikeeigaaW.PrintLast Go.Proofs.YtijlcahikeeigaaW.PrintMore
attribute [local go_sem] max2_int min2_int max_two min_two max_three min_three max_four min_four   -- for this text's walks alone
set_option linter.unusedVariables false
set_option linter.unusedSimpArgs false

/-! ### tidemarkref12_Undo: function 12 -/
mutual
def tidemarkref12_Undo.l0 : Nat → List (S43) → Bool → List Int → List Int → Int → Int → Bool → Option (List Int × Int × List Int)
  | 0, _, _, _, _, _, _, _ => none
  | k + 1, x0, x1, x9, x10, x11, x12, x13 => if x11 > 0 then (if (x10.length : Int) = 4096 then (some (([] : List Int), 120, x10)) else (if x10.length < 17592186044416 then ((some (x10 ++ [x11] : List Int)).bind fun y196 => ((tidemarkref12_Read.f k x0 x11 x1).bind fun bt199 => (if bt199.2.2.2.2.2.2.2.2.2.2.2 = 0 then ((tidemarkref12_chained.f k bt199.1 bt199.2.1 bt199.2.2.1 bt199.2.2.2.1 bt199.2.2.2.2.1 bt199.2.2.2.2.2.1 bt199.2.2.2.2.2.2.1 bt199.2.2.2.2.2.2.2.1 bt199.2.2.2.2.2.2.2.2.1 bt199.2.2.2.2.2.2.2.2.2.1 bt199.2.2.2.2.2.2.2.2.2.2.1 x11 x12 ((y196.length : Int) == 1)).bind fun bt220 => (if bt220.1 = 0 then (if x13 = true then (tidemarkref12_Undo.j1 k x0 x1 x9 y196 x11 bt220.2 (bt199.1 != 2) bt199.1 bt199.2.1 bt199.2.2.1 bt199.2.2.2.1 bt199.2.2.2.2.1 bt199.2.2.2.2.2.1 bt199.2.2.2.2.2.2.1 bt199.2.2.2.2.2.2.2.1 bt199.2.2.2.2.2.2.2.2.1 bt199.2.2.2.2.2.2.2.2.2.1 bt199.2.2.2.2.2.2.2.2.2.2.1) else (tidemarkref12_Undo.j1 k x0 x1 x9 y196 x11 bt220.2 false bt199.1 bt199.2.1 bt199.2.2.1 bt199.2.2.2.1 bt199.2.2.2.2.1 bt199.2.2.2.2.2.1 bt199.2.2.2.2.2.2.1 bt199.2.2.2.2.2.2.2.1 bt199.2.2.2.2.2.2.2.2.1 bt199.2.2.2.2.2.2.2.2.2.1 bt199.2.2.2.2.2.2.2.2.2.2.1)) else (some (([] : List Int), bt220.1, y196)))) else (some (([] : List Int), bt199.2.2.2.2.2.2.2.2.2.2.2, y196))))) else (none))) else (some (x9, 0, x10))
def tidemarkref12_Undo.j1 : Nat → List (S43) → Bool → List Int → List Int → Int → Int → Bool → Int → Int → Int → Int → Int → Int → List Int → List Int → Int → List (S82) → List (S84) → Option (List Int × Int × List Int)
  | 0, _, _, _, _, _, _, _, _, _, _, _, _, _, _, _, _, _, _ => none
  | k + 1, x0, x1, x9, x10, x11, x12, x61, x220000, x220001, x220002, x220003, x220004, x220005, x220006, x220007, x220008, x220009, x220010 => if x61 = true then (some (([] : List Int), 120, x10)) else (if x220000 = 1 then (some (x9, 0, x10)) else (if x220000 = 3 then (if x220008 = 0 then (some (x9, 0, x10)) else (tidemarkref12_Undo.j2 k x0 x1 x9 x10 x11 x12 (x220000 == 3) x220008 x220000 x220001 x220002 x220003 x220004 x220005 x220006 x220007 x220008 x220009 x220010)) else (tidemarkref12_Undo.j2 k x0 x1 x9 x10 x11 x12 (x220000 == 3) x220002 x220000 x220001 x220002 x220003 x220004 x220005 x220006 x220007 x220008 x220009 x220010)))
def tidemarkref12_Undo.j2 : Nat → List (S43) → Bool → List Int → List Int → Int → Int → Bool → Int → Int → Int → Int → Int → Int → Int → List Int → List Int → Int → List (S82) → List (S84) → Option (List Int × Int × List Int)
  | 0, _, _, _, _, _, _, _, _, _, _, _, _, _, _, _, _, _, _, _ => none
  | k + 1, x0, x1, x9, x10, x11, x12, x13, x16, x220000, x220001, x220002, x220003, x220004, x220005, x220006, x220007, x220008, x220009, x220010 => if x220000 = 2 then (if x9.length < 17592186044416 then (if x16 < x12 then (some (([] : List Int), 120, x10)) else (if x16 ≥ x11 then (some (([] : List Int), 120, x10)) else (tidemarkref12_Undo.l0 k x0 x1 (x9 ++ [x11]) x10 x16 x12 x13))) else (none)) else (if x16 < x12 then (some (([] : List Int), 120, x10)) else (if x16 ≥ x11 then (some (([] : List Int), 120, x10)) else (tidemarkref12_Undo.l0 k x0 x1 x9 x10 x16 x12 x13)))
end
def tidemarkref12_Undo.f (k : Nat) (l0 : List (S43)) (a1 : Bool) (a2 : Int) : Option (List Int × Int × List Int) := if a2 < 0 then (some (([] : List Int), 120, ([] : List Int))) else (tidemarkref12_Undo.l0 k l0 a1 ([] : List Int) ([] : List Int) a2 0 true)
theorem tidemarkref12_Undo.mono_l : ∀ k, (∀ y0 y1 y2 y3 y4 y5 y6, LeO (tidemarkref12_Undo.l0 k y0 y1 y2 y3 y4 y5 y6) (tidemarkref12_Undo.l0 (k + 1) y0 y1 y2 y3 y4 y5 y6)) ∧ (∀ y0 y1 y2 y3 y4 y5 y6 y7 y8 y9 y10 y11 y12 y13 y14 y15 y16 y17, LeO (tidemarkref12_Undo.j1 k y0 y1 y2 y3 y4 y5 y6 y7 y8 y9 y10 y11 y12 y13 y14 y15 y16 y17) (tidemarkref12_Undo.j1 (k + 1) y0 y1 y2 y3 y4 y5 y6 y7 y8 y9 y10 y11 y12 y13 y14 y15 y16 y17)) ∧ (∀ y0 y1 y2 y3 y4 y5 y6 y7 y8 y9 y10 y11 y12 y13 y14 y15 y16 y17 y18, LeO (tidemarkref12_Undo.j2 k y0 y1 y2 y3 y4 y5 y6 y7 y8 y9 y10 y11 y12 y13 y14 y15 y16 y17 y18) (tidemarkref12_Undo.j2 (k + 1) y0 y1 y2 y3 y4 y5 y6 y7 y8 y9 y10 y11 y12 y13 y14 y15 y16 y17 y18))
  | 0 => ⟨fun _ _ _ _ _ _ _ r h => by simp [tidemarkref12_Undo.l0] at h, fun _ _ _ _ _ _ _ _ _ _ _ _ _ _ _ _ _ _ r h => by simp [tidemarkref12_Undo.j1] at h, fun _ _ _ _ _ _ _ _ _ _ _ _ _ _ _ _ _ _ _ r h => by simp [tidemarkref12_Undo.j2] at h⟩
  | k + 1 => by
    obtain ⟨ih0, ih1, ih2⟩ := tidemarkref12_Undo.mono_l k
    refine ⟨?_, ?_, ?_⟩
    · intro y0 y1 y2 y3 y4 y5 y6
      unfold tidemarkref12_Undo.l0
      repeat' first
      | (with_reducible exact ih0 _ _ _ _ _ _ _)
      | (with_reducible exact ih1 _ _ _ _ _ _ _ _ _ _ _ _ _ _ _ _ _ _)
      | (with_reducible exact ih2 _ _ _ _ _ _ _ _ _ _ _ _ _ _ _ _ _ _ _)
      | (with_reducible exact tidemarkref12_Read.mono _ _ _ _)
      | (with_reducible exact tidemarkref12_chained.mono _ _ _ _ _ _ _ _ _ _ _ _ _ _ _)
      | (with_reducible exact LeO.refl _)
      | (with_reducible exact LeO.none _)
      | (with_reducible refine LeO.ite ?_ ?_)
      | (with_reducible refine LeO.bind ?_ (fun _ => ?_))
      | exact ih0 _ _ _ _ _ _ _
      | exact ih1 _ _ _ _ _ _ _ _ _ _ _ _ _ _ _ _ _ _
      | exact ih2 _ _ _ _ _ _ _ _ _ _ _ _ _ _ _ _ _ _ _
      | exact tidemarkref12_Read.mono _ _ _ _
      | exact tidemarkref12_chained.mono _ _ _ _ _ _ _ _ _ _ _ _ _ _ _
      | exact LeO.none _
      | refine LeO.ite ?_ ?_
      | refine LeO.bind ?_ (fun _ => ?_)
    · intro y0 y1 y2 y3 y4 y5 y6 y7 y8 y9 y10 y11 y12 y13 y14 y15 y16 y17
      unfold tidemarkref12_Undo.j1
      repeat' first
      | (with_reducible exact ih0 _ _ _ _ _ _ _)
      | (with_reducible exact ih1 _ _ _ _ _ _ _ _ _ _ _ _ _ _ _ _ _ _)
      | (with_reducible exact ih2 _ _ _ _ _ _ _ _ _ _ _ _ _ _ _ _ _ _ _)
      | (with_reducible exact tidemarkref12_Read.mono _ _ _ _)
      | (with_reducible exact tidemarkref12_chained.mono _ _ _ _ _ _ _ _ _ _ _ _ _ _ _)
      | (with_reducible exact LeO.refl _)
      | (with_reducible exact LeO.none _)
      | (with_reducible refine LeO.ite ?_ ?_)
      | (with_reducible refine LeO.bind ?_ (fun _ => ?_))
      | exact ih0 _ _ _ _ _ _ _
      | exact ih1 _ _ _ _ _ _ _ _ _ _ _ _ _ _ _ _ _ _
      | exact ih2 _ _ _ _ _ _ _ _ _ _ _ _ _ _ _ _ _ _ _
      | exact tidemarkref12_Read.mono _ _ _ _
      | exact tidemarkref12_chained.mono _ _ _ _ _ _ _ _ _ _ _ _ _ _ _
      | exact LeO.none _
      | refine LeO.ite ?_ ?_
      | refine LeO.bind ?_ (fun _ => ?_)
    · intro y0 y1 y2 y3 y4 y5 y6 y7 y8 y9 y10 y11 y12 y13 y14 y15 y16 y17 y18
      unfold tidemarkref12_Undo.j2
      repeat' first
      | (with_reducible exact ih0 _ _ _ _ _ _ _)
      | (with_reducible exact ih1 _ _ _ _ _ _ _ _ _ _ _ _ _ _ _ _ _ _)
      | (with_reducible exact ih2 _ _ _ _ _ _ _ _ _ _ _ _ _ _ _ _ _ _ _)
      | (with_reducible exact tidemarkref12_Read.mono _ _ _ _)
      | (with_reducible exact tidemarkref12_chained.mono _ _ _ _ _ _ _ _ _ _ _ _ _ _ _)
      | (with_reducible exact LeO.refl _)
      | (with_reducible exact LeO.none _)
      | (with_reducible refine LeO.ite ?_ ?_)
      | (with_reducible refine LeO.bind ?_ (fun _ => ?_))
      | exact ih0 _ _ _ _ _ _ _
      | exact ih1 _ _ _ _ _ _ _ _ _ _ _ _ _ _ _ _ _ _
      | exact ih2 _ _ _ _ _ _ _ _ _ _ _ _ _ _ _ _ _ _ _
      | exact tidemarkref12_Read.mono _ _ _ _
      | exact tidemarkref12_chained.mono _ _ _ _ _ _ _ _ _ _ _ _ _ _ _
      | exact LeO.none _
      | refine LeO.ite ?_ ?_
      | refine LeO.bind ?_ (fun _ => ?_)
theorem tidemarkref12_Undo.mono : ∀ a0 a1 a2 k, LeO (tidemarkref12_Undo.f k a0 a1 a2) (tidemarkref12_Undo.f (k + 1) a0 a1 a2) := by
  intro a0 a1 a2 k
  obtain ⟨ih0, ih1, ih2⟩ := tidemarkref12_Undo.mono_l k
  unfold tidemarkref12_Undo.f
  repeat' first
      | (with_reducible exact ih0 _ _ _ _ _ _ _)
      | (with_reducible exact ih1 _ _ _ _ _ _ _ _ _ _ _ _ _ _ _ _ _ _)
      | (with_reducible exact ih2 _ _ _ _ _ _ _ _ _ _ _ _ _ _ _ _ _ _ _)
      | (with_reducible exact tidemarkref12_Read.mono _ _ _ _)
      | (with_reducible exact tidemarkref12_chained.mono _ _ _ _ _ _ _ _ _ _ _ _ _ _ _)
      | (with_reducible exact LeO.refl _)
      | (with_reducible exact LeO.none _)
      | (with_reducible refine LeO.ite ?_ ?_)
      | (with_reducible refine LeO.bind ?_ (fun _ => ?_))
      | exact ih0 _ _ _ _ _ _ _
      | exact ih1 _ _ _ _ _ _ _ _ _ _ _ _ _ _ _ _ _ _
      | exact ih2 _ _ _ _ _ _ _ _ _ _ _ _ _ _ _ _ _ _ _
      | exact tidemarkref12_Read.mono _ _ _ _
      | exact tidemarkref12_chained.mono _ _ _ _ _ _ _ _ _ _ _ _ _ _ _
      | exact LeO.none _
      | refine LeO.ite ?_ ?_
      | refine LeO.bind ?_ (fun _ => ?_)
set_option maxHeartbeats 8000000 in
set_option maxRecDepth 100000 in
theorem tidemarkref12_Undo.calls (k : Nat) (A0 : Option Addr) (c0 : Nat) (l0 : List (S43)) (a1 : Bool) (a2 : Int) (r1 : List Int) (r2 : Int) (r3 : List Int) (w : World) (hr0 : Kd.C k43 w A0 l0.length l0) (hc0 : l0.length ≤ c0) (h : tidemarkref12_Undo.f k l0 a1 a2 = some (r1, r2, r3)) :
    Calls Try.prog 12 #[.slice A0 l0.length c0, .bool a1, .int .i64 a2] w fun e w' => ∃ v0_ v2_ : Value, e = .returned (.tuple #[v0_, .int .i64 r2, v2_]) ∧ Kd.R (Kd.int .i64) 3 w' w.heap.size (fun k_ => some k_ ≠ (v2_ : Value).ownBlock) v0_ r1 ∧ Kd.R (Kd.int .i64) 3 w' w.heap.size (fun k_ => some k_ ≠ (v0_ : Value).ownBlock) v2_ r3 ∧ Below w.heap.size w w' := by
  have hu41 := Try.underlying41
  have HR0 := Aside0.mk hr0
  have HC0 := Aside0.mk hc0
  clear hr0 hc0
  have HB := Aside0.mk (Below.refl w.heap.size w)
  have H : (if a2 < 0 then (some (([] : List Int), 120, ([] : List Int))) else (tidemarkref12_Undo.l0 k l0 a1 ([] : List Int) ([] : List Int) a2 0 true)) = some (r1, r2, r3) := h
  clear h
  by_cases c4 : a2 < 0
  · rw [if_pos c4] at H
    have c4b0 : decide (a2 < 0) = true := decide_eq_true c4
    clear c4
    simp only [Option.some.injEq, Prod.mk.injEq] at H
    obtain ⟨rfl, rfl, rfl⟩ := H
    go_enter Try.func12, Try.ntmps12
    go_wp2
    go_ret3
    exact ⟨_, _, by first | rfl | (simp [errW_none, errW_some] <;> rfl) | (simp [*, errW_none, errW_some] <;> rfl), by first | exact Kd.R_nil _ _ _ _ _ | exact Kd.N_nil _ _ _ _ _ | exact Kd.V_nil _ _ _ _ _ | exact Kd.Q_nil _ _ _ _ _ | exact Kd.S_nil _ _ _ _ _, by first | exact Kd.R_nil _ _ _ _ _ | exact Kd.N_nil _ _ _ _ _ | exact Kd.V_nil _ _ _ _ _ | exact Kd.Q_nil _ _ _ _ _ | exact Kd.S_nil _ _ _ _ _, by repeat (first | (with_reducible first | exact HB.out | apply below_alloc | apply pw_below_drewN | apply below_drew1) | exact HB.out)⟩
  · rw [if_neg c4] at H
    have c4b0 : decide (a2 < 0) = false := decide_eq_false c4
    clear c4
    have H' := Aside0.mk H
    clear H
    go_enter Try.func12, Try.ntmps12
    go_wp2
    go_loopg [9, 10, 11, 12, 13] k (fun kq v9 v10 v11 v12 v13 w' => ∃ (x9_1 : List Int) (x10_1 : List Int) (x11_1 : Int) (x12_1 : Int) (x13_1 : Bool), v11 = .int .i64 x11_1 ∧ v12 = .int .i64 x12_1 ∧ v13 = .bool x13_1 ∧ Aside0 (tidemarkref12_Undo.l0 kq l0 a1 x9_1 x10_1 x11_1 x12_1 x13_1 = some (r1, r2, r3)) ∧ Aside0 (kq ≤ k) ∧ Aside0 (Kd.R (Kd.int .i64) 3 w' w.heap.size (fun k_ => some k_ ≠ (v10 : Value).ownBlock) v9 x9_1) ∧ Aside0 (Kd.R (Kd.int .i64) 3 w' w.heap.size (fun k_ => some k_ ≠ (v9 : Value).ownBlock) v10 x10_1) ∧ Aside0 (Below w.heap.size w w'))
    case atStart => exact ⟨(([] : List Int)), (([] : List Int)), (a2), (0), (true), (by first | rfl | (simp; done) | (simp [*]; done)), (by first | rfl | (simp; done) | (simp [*]; done)), (by first | rfl | (simp; done) | (simp [*]; done)), H', ⟨Nat.le_refl _⟩, ⟨by first | exact Kd.R_nil _ _ _ _ _ | exact Kd.N_nil _ _ _ _ _ | exact Kd.V_nil _ _ _ _ _ | exact Kd.Q_nil _ _ _ _ _ | exact Kd.S_nil _ _ _ _ _⟩, ⟨by first | exact Kd.R_nil _ _ _ _ _ | exact Kd.N_nil _ _ _ _ _ | exact Kd.V_nil _ _ _ _ _ | exact Kd.Q_nil _ _ _ _ _ | exact Kd.S_nil _ _ _ _ _⟩, ⟨by repeat (first | (with_reducible first | exact HB.out | apply below_alloc | apply pw_below_drewN | apply below_drew1) | exact HB.out)⟩⟩
    case round =>
      clear H'
      try clear c1
      try clear p2
      try clear c4
      try clear c4b0
      obtain ⟨x9_1, x10_1, x11_1, x12_1, x13_1, rfl, rfl, rfl, HA, HK1, HO_9, HO_10, HB⟩ := hrel
      cases gk with
      | zero => exact absurd HA.out (by simp [tidemarkref12_Undo.l0])
      | succ k1 =>
        have H := HA.out
        clear HA
        simp only [tidemarkref12_Undo.l0] at H
        by_cases c5 : x11_1 > 0
        · rw [if_pos c5] at H
          have c5b0 : decide (0 < x11_1) = true := decide_eq_true c5
          clear c5
          by_cases c6 : (x10_1.length : Int) = 4096
          · rw [if_pos c6] at H
            have c6b0 : ((x10_1.length : Int) == 4096) = true := beq_iff_eq.mpr c6
            have c6b1 : ((x10_1.length : Int) != 4096) = false := bne_eq_false_iff_eq.mpr c6
            clear c6
            simp only [Option.some.injEq, Prod.mk.injEq] at H
            obtain ⟨rfl, rfl, rfl⟩ := H
            obtain ⟨Ao7, co7, eo7⟩ := Kd.R_slice HO_10.out
            subst eo7
            go_wp2
            go_ret3
            exact ⟨_, _, by first | rfl | (simp [errW_none, errW_some] <;> rfl) | (simp [*, errW_none, errW_some] <;> rfl), by first | exact Kd.R_nil _ _ _ _ _ | exact Kd.N_nil _ _ _ _ _ | exact Kd.V_nil _ _ _ _ _ | exact Kd.Q_nil _ _ _ _ _ | exact Kd.S_nil _ _ _ _ _, by (with_reducible repeat (first | apply Kd.R_alloc | apply Kd.R_drewN | apply Kd.R_drew)); exact Kd.R_mono HO_10.out (fun _ hk => (by simp [Value.ownBlock])), by repeat (first | (with_reducible first | exact HB.out | apply below_alloc | apply pw_below_drewN | apply below_drew1) | exact HB.out)⟩
          · rw [if_neg c6] at H
            have c6b0 : ((x10_1.length : Int) == 4096) = false := beq_eq_false_iff_ne.mpr c6
            have c6b1 : ((x10_1.length : Int) != 4096) = true := bne_iff_ne.mpr c6
            by_cases c8 : x10_1.length < 17592186044416
            · rw [if_pos c8] at H
              have LMc8 := Aside0.mk c8
              clear c8
              obtain ⟨y196, hy196⟩ : ∃ y_ : List Int, y_ = (x10_1 ++ [x11_1]) := ⟨_, rfl⟩
              replace H : ((tidemarkref12_Read.f k1 l0 x11_1 a1).bind fun bt199 => (if bt199.2.2.2.2.2.2.2.2.2.2.2 = 0 then ((tidemarkref12_chained.f k1 bt199.1 bt199.2.1 bt199.2.2.1 bt199.2.2.2.1 bt199.2.2.2.2.1 bt199.2.2.2.2.2.1 bt199.2.2.2.2.2.2.1 bt199.2.2.2.2.2.2.2.1 bt199.2.2.2.2.2.2.2.2.1 bt199.2.2.2.2.2.2.2.2.2.1 bt199.2.2.2.2.2.2.2.2.2.2.1 x11_1 x12_1 ((y196.length : Int) == 1)).bind fun bt220 => (if bt220.1 = 0 then (if x13_1 = true then (tidemarkref12_Undo.j1 k1 l0 a1 x9_1 y196 x11_1 bt220.2 (bt199.1 != 2) bt199.1 bt199.2.1 bt199.2.2.1 bt199.2.2.2.1 bt199.2.2.2.2.1 bt199.2.2.2.2.2.1 bt199.2.2.2.2.2.2.1 bt199.2.2.2.2.2.2.2.1 bt199.2.2.2.2.2.2.2.2.1 bt199.2.2.2.2.2.2.2.2.2.1 bt199.2.2.2.2.2.2.2.2.2.2.1) else (tidemarkref12_Undo.j1 k1 l0 a1 x9_1 y196 x11_1 bt220.2 false bt199.1 bt199.2.1 bt199.2.2.1 bt199.2.2.2.1 bt199.2.2.2.2.1 bt199.2.2.2.2.2.1 bt199.2.2.2.2.2.2.1 bt199.2.2.2.2.2.2.2.1 bt199.2.2.2.2.2.2.2.2.1 bt199.2.2.2.2.2.2.2.2.2.1 bt199.2.2.2.2.2.2.2.2.2.2.1)) else (some (([] : List Int), bt220.1, y196)))) else (some (([] : List Int), bt199.2.2.2.2.2.2.2.2.2.2.2, y196)))) = some (r1, r2, r3) := by first | (rw [hy196]; with_reducible exact H) | (have H2_ := (Option.bind_some _ _).symm.trans H; rw [hy196]; with_reducible exact H2_) | (have H2_ := (Option.bind_some _ _).symm.trans H; with_reducible exact H2_) | with_reducible exact H | (rw [hy196]; exact H) | exact H
              have Ny196 := Aside0.mk hy196
              clear hy196
              replace H := Option.bind_eq_some_iff.mp H
              obtain ⟨⟨t199, t200, t201, t202, t203, t204, t205, t208, t211, t212, t215, t218⟩, A90, H⟩ := H
              replace H : (if t218 = 0 then ((tidemarkref12_chained.f k1 t199 t200 t201 t202 t203 t204 t205 t208 t211 t212 t215 x11_1 x12_1 ((y196.length : Int) == 1)).bind fun bt220 => (if bt220.1 = 0 then (if x13_1 = true then (tidemarkref12_Undo.j1 k1 l0 a1 x9_1 y196 x11_1 bt220.2 (t199 != 2) t199 t200 t201 t202 t203 t204 t205 t208 t211 t212 t215) else (tidemarkref12_Undo.j1 k1 l0 a1 x9_1 y196 x11_1 bt220.2 false t199 t200 t201 t202 t203 t204 t205 t208 t211 t212 t215)) else (some (([] : List Int), bt220.1, y196)))) else (some (([] : List Int), t218, y196))) = some (r1, r2, r3) := H
              have A9 := Aside0.mk A90
              clear A90
              by_cases c10 : t218 = 0
              · rw [if_pos c10] at H
                have c10b0 : (t218 == 0) = true := beq_iff_eq.mpr c10
                have c10b1 : (t218 != 0) = false := bne_eq_false_iff_eq.mpr c10
                clear c10
                replace H := Option.bind_eq_some_iff.mp H
                obtain ⟨⟨t220, t221⟩, A110, H⟩ := H
                replace H : (if t220 = 0 then (if x13_1 = true then (tidemarkref12_Undo.j1 k1 l0 a1 x9_1 y196 x11_1 t221 (t199 != 2) t199 t200 t201 t202 t203 t204 t205 t208 t211 t212 t215) else (tidemarkref12_Undo.j1 k1 l0 a1 x9_1 y196 x11_1 t221 false t199 t200 t201 t202 t203 t204 t205 t208 t211 t212 t215)) else (some (([] : List Int), t220, y196))) = some (r1, r2, r3) := H
                have A11 := Aside0.mk A110
                clear A110
                by_cases c12 : t220 = 0
                · rw [if_pos c12] at H
                  have c12b0 : (t220 == 0) = true := beq_iff_eq.mpr c12
                  have c12b1 : (t220 != 0) = false := bne_eq_false_iff_eq.mpr c12
                  clear c12
                  have HC13 := Aside0.mk H
                  clear H
                  obtain ⟨Ao14, co14, eo14⟩ := Kd.R_slice HO_10.out
                  subst eo14
                  go_upto_region 17 with (first | ((with_reducible refine gate_builtin (b := .append) (xs := #[.tmp 27, .tmp 29]) rfl ?_); at_builtin; refine Kd.R_append (Kd.int .i64) (w0 := w) w.heap.size rfl (.tmp 27) (.tmp 29) 23 3 (.int .i64 0) 8 rfl Try.underlying23 info3 rfl (by decide) (by omega) (.slice Ao14 x10_1.length co14) x10_1 x11_1 [.int .i64 x11_1] (fun k_ => some k_ ≠ (u9 : Value).ownBlock) (fun _ => False) rfl rfl ?aP (fun _ hk => hk.elim) ?aF ?aO ?aB ?aS ?aL ?_; (case aP => exact rfl); (case aB => exact (by repeat (first | (with_reducible first | exact HB.out | apply below_alloc | apply pw_below_drewN | apply below_drew1) | exact HB.out))); (case aF => exact (fun k_ hk => Kd.fresh' (Kd.R_lt (by (with_reducible repeat (first | apply Kd.R_alloc | apply Kd.R_drewN | apply Kd.R_drew)); exact HO_9.out)) k_ hk)); (case aO => exact (by (with_reducible repeat (first | apply Kd.R_alloc | apply Kd.R_drewN | apply Kd.R_drew)); exact HO_10.out)); (case aS => exact (below_size (by repeat (first | (with_reducible first | exact HB.out | apply below_alloc | apply pw_below_drewN | apply below_drew1) | exact HB.out)))); (case aL => have := LMc8.out; omega); intro v197 w15 ho hb hg hat; rw [← Ny196.out] at ho; have n0_ := Aside0.mk (Kd.R_after (ok := (fun _ => True)) (by (with_reducible repeat (first | apply Kd.R_alloc | apply Kd.R_drewN | apply Kd.R_drew)); exact Kd.R_mono HO_9.out (fun _ hk => ⟨trivial, hk⟩)) hg hat); have n1_ := Aside0.mk (hb); have n2_ := Aside0.mk (ho); clear HO_9; clear HB; clear HO_10; have HO_9 := n0_; have HB := n1_; have HO198 := n2_; clear n0_ n1_ n2_; clear ho hb hg hat) | ((with_reducible refine gate_callee (f := 18) rfl ?_); refine goesL_ (some 35) rfl rfl Try.func18 (by kernel_rfl) rfl #[.slice A0 l0.length c0, .int .i64 x11_1, .bool a1] rfl (by (try simp only [List.map_toArray, List.map_cons, List.map_nil]); first | done | rfl | (simp only [List.length_drop, List.length_take]; rfl)) ?_; (with_reducible refine (tidemarkref12_Read.calls k1 (fun k_ => k_ < w.heap.size) _ _ l0 x11_1 a1 t199 t200 t201 t202 t203 t204 t205 t208 t211 t212 t215 t218 _ ?side1 A9.out).mono ?_); (case side1 => exact Kd.V_mk HC0.out (Kd.F_below (Kd.C_F k43_heap HR0.out) (by repeat (first | (with_reducible first | exact HB.out | apply below_alloc | apply pw_below_drewN | apply below_drew1) | exact HB.out)))); rintro e w16 ⟨v206, v209, v213, v216, rfl, ho0, ho1, ho2, ho3, hb⟩; refine ⟨_, rfl, ?_⟩; have n0_ := Aside0.mk (Kd.R_below (by (with_reducible repeat (first | apply Kd.R_alloc | apply Kd.R_drewN | apply Kd.R_drew)); exact HO_9.out) hb); have n1_ := Aside0.mk (Kd.R_below (by (with_reducible repeat (first | apply Kd.R_alloc | apply Kd.R_drewN | apply Kd.R_drew)); exact HO198.out) hb); have n2_ := Aside0.mk (Kd.V_lower (Kd.V_mono (ok' := fun k_ => some k_ ≠ (u9 : Value).ownBlock ∧ some k_ ≠ (v197 : Value).ownBlock) ho0 (fun k_ hk_ => ⟨Or.elim hk_ (fun hs_ => fun e_ => Nat.not_le.2 hs_ (Kd.R_base HO_9.out k_ e_.symm)) (fun hn_ => (Kd.fresh' (Kd.R_lt (by (with_reducible repeat (first | apply Kd.R_alloc | apply Kd.R_drewN | apply Kd.R_drew)); exact HO_9.out)) k_ hn_)), Or.elim hk_ (fun hs_ => fun e_ => Nat.not_le.2 hs_ (Kd.R_base HO198.out k_ e_.symm)) (fun hn_ => (Kd.fresh' (Kd.R_lt (by (with_reducible repeat (first | apply Kd.R_alloc | apply Kd.R_drewN | apply Kd.R_drew)); exact HO198.out)) k_ hn_))⟩)) (below_size (by repeat (first | (with_reducible first | exact HB.out | apply below_alloc | apply pw_below_drewN | apply below_drew1) | exact HB.out)))); have n3_ := Aside0.mk (Kd.V_lower (Kd.V_mono (ok' := fun k_ => some k_ ≠ (u9 : Value).ownBlock ∧ some k_ ≠ (v197 : Value).ownBlock) ho1 (fun k_ hk_ => ⟨Or.elim hk_ (fun hs_ => fun e_ => Nat.not_le.2 hs_ (Kd.R_base HO_9.out k_ e_.symm)) (fun hn_ => (Kd.fresh' (Kd.R_lt (by (with_reducible repeat (first | apply Kd.R_alloc | apply Kd.R_drewN | apply Kd.R_drew)); exact HO_9.out)) k_ hn_)), Or.elim hk_ (fun hs_ => fun e_ => Nat.not_le.2 hs_ (Kd.R_base HO198.out k_ e_.symm)) (fun hn_ => (Kd.fresh' (Kd.R_lt (by (with_reducible repeat (first | apply Kd.R_alloc | apply Kd.R_drewN | apply Kd.R_drew)); exact HO198.out)) k_ hn_))⟩)) (below_size (by repeat (first | (with_reducible first | exact HB.out | apply below_alloc | apply pw_below_drewN | apply below_drew1) | exact HB.out)))); have n4_ := Aside0.mk (Kd.V_lower (Kd.V_mono (ok' := fun k_ => some k_ ≠ (u9 : Value).ownBlock ∧ some k_ ≠ (v197 : Value).ownBlock) ho2 (fun k_ hk_ => ⟨Or.elim hk_ (fun hs_ => fun e_ => Nat.not_le.2 hs_ (Kd.R_base HO_9.out k_ e_.symm)) (fun hn_ => (Kd.fresh' (Kd.R_lt (by (with_reducible repeat (first | apply Kd.R_alloc | apply Kd.R_drewN | apply Kd.R_drew)); exact HO_9.out)) k_ hn_)), Or.elim hk_ (fun hs_ => fun e_ => Nat.not_le.2 hs_ (Kd.R_base HO198.out k_ e_.symm)) (fun hn_ => (Kd.fresh' (Kd.R_lt (by (with_reducible repeat (first | apply Kd.R_alloc | apply Kd.R_drewN | apply Kd.R_drew)); exact HO198.out)) k_ hn_))⟩)) (below_size (by repeat (first | (with_reducible first | exact HB.out | apply below_alloc | apply pw_below_drewN | apply below_drew1) | exact HB.out)))); have n5_ := Aside0.mk (Kd.V_lower (Kd.V_mono (ok' := fun k_ => some k_ ≠ (u9 : Value).ownBlock ∧ some k_ ≠ (v197 : Value).ownBlock) ho3 (fun k_ hk_ => ⟨Or.elim hk_ (fun hs_ => fun e_ => Nat.not_le.2 hs_ (Kd.R_base HO_9.out k_ e_.symm)) (fun hn_ => (Kd.fresh' (Kd.R_lt (by (with_reducible repeat (first | apply Kd.R_alloc | apply Kd.R_drewN | apply Kd.R_drew)); exact HO_9.out)) k_ hn_)), Or.elim hk_ (fun hs_ => fun e_ => Nat.not_le.2 hs_ (Kd.R_base HO198.out k_ e_.symm)) (fun hn_ => (Kd.fresh' (Kd.R_lt (by (with_reducible repeat (first | apply Kd.R_alloc | apply Kd.R_drewN | apply Kd.R_drew)); exact HO198.out)) k_ hn_))⟩)) (below_size (by repeat (first | (with_reducible first | exact HB.out | apply below_alloc | apply pw_below_drewN | apply below_drew1) | exact HB.out)))); have n6_ := Aside0.mk (below_step (by repeat (first | (with_reducible first | exact HB.out | apply below_alloc | apply pw_below_drewN | apply below_drew1) | exact HB.out)) hb); clear HO_9; clear HO198; clear HB; have HO_9 := n0_; have HO198 := n1_; have HO207 := n2_; have HO210 := n3_; have HO214 := n4_; have HO217 := n5_; have HB := n6_; clear n0_ n1_ n2_ n3_ n4_ n5_ n6_; (try clear hb); (try clear hb2); (try clear hk); (try clear hi); (try clear ho0); (try clear ho1); (try clear ho2); (try clear ho3)) | ((with_reducible refine gate_dst (N := 14) rfl ?_); refine box_event ?hg (N := 14) ?hd (cs := #[.int .i64 0, .int .i64 0, .int .i64 0, .int .i64 0, .int .i64 0, .int .i64 0, .slice none 0 0, .slice none 0 0, .int .i64 0, .slice none 0 0, .slice none 0 0]) (t := 41) ?hr ?_; (case hd => rfl); (case hg => rfl); (case hr => first | (go_simp; done) | (go_simp; rfl)); intro gb219 hg w17 hbox hb; have n0_ := Aside0.mk (Kd.R_below (by (with_reducible repeat (first | apply Kd.R_alloc | apply Kd.R_drewN | apply Kd.R_drew)); exact HO_9.out) hb); have n1_ := Aside0.mk (Kd.R_below (by (with_reducible repeat (first | apply Kd.R_alloc | apply Kd.R_drewN | apply Kd.R_drew)); exact HO198.out) hb); have n2_ := Aside0.mk (Kd.V_below (Kd.V_elderB (by (with_reducible repeat (first | apply Kd.V_alloc | apply Kd.V_drewN | apply Kd.V_drew)); exact HO207.out) gb219 (Nat.le_of_eq hg.symm)) hb); have n3_ := Aside0.mk (Kd.V_below (Kd.V_elderB (by (with_reducible repeat (first | apply Kd.V_alloc | apply Kd.V_drewN | apply Kd.V_drew)); exact HO210.out) gb219 (Nat.le_of_eq hg.symm)) hb); have n4_ := Aside0.mk (Kd.V_below (Kd.V_elderB (by (with_reducible repeat (first | apply Kd.V_alloc | apply Kd.V_drewN | apply Kd.V_drew)); exact HO214.out) gb219 (Nat.le_of_eq hg.symm)) hb); have n5_ := Aside0.mk (Kd.V_below (Kd.V_elderB (by (with_reducible repeat (first | apply Kd.V_alloc | apply Kd.V_drewN | apply Kd.V_drew)); exact HO217.out) gb219 (Nat.le_of_eq hg.symm)) hb); have n6_ := Aside0.mk (below_step (by repeat (first | (with_reducible first | exact HB.out | apply below_alloc | apply pw_below_drewN | apply below_drew1) | exact HB.out)) hb); have n7_ := Aside0.mk (hbox); have n8_ := Aside0.mk ((by rw [hg]; exact (below_size (by repeat (first | (with_reducible first | exact HB.out | apply below_alloc | apply pw_below_drewN | apply below_drew1) | exact HB.out))) : w.heap.size ≤ gb219)); have n9_ := Aside0.mk ((by rw [hg]; exact (below_size (by repeat (first | (with_reducible first | exact HB.out | apply below_alloc | apply pw_below_drewN | apply below_drew1) | exact HB.out))) : w.heap.size ≤ gb219)); clear HO_9; clear HO198; clear HO207; clear HO210; clear HO214; clear HO217; clear HB; have HO_9 := n0_; have HO198 := n1_; have HO207 := n2_; have HO210 := n3_; have HO214 := n4_; have HO217 := n5_; have HB := n6_; have BK219 := n7_; have GW219 := n8_; have GE219 := n9_; clear n0_ n1_ n2_ n3_ n4_ n5_ n6_ n7_ n8_ n9_; clear hb hbox hg; have hcz18_0 : w17.cell? ⟨gb219, 0, none⟩ = some (.int .i64 0) := (blk_cell BK219.out 0).trans rfl; have hcz18_1 : w17.cell? ⟨gb219, 1, none⟩ = some (.int .i64 0) := (blk_cell BK219.out 1).trans rfl; have hcz18_2 : w17.cell? ⟨gb219, 2, none⟩ = some (.int .i64 0) := (blk_cell BK219.out 2).trans rfl; have hcz18_3 : w17.cell? ⟨gb219, 3, none⟩ = some (.int .i64 0) := (blk_cell BK219.out 3).trans rfl; have hcz18_4 : w17.cell? ⟨gb219, 4, none⟩ = some (.int .i64 0) := (blk_cell BK219.out 4).trans rfl; have hcz18_5 : w17.cell? ⟨gb219, 5, none⟩ = some (.int .i64 0) := (blk_cell BK219.out 5).trans rfl; have hcz18_6 : w17.cell? ⟨gb219, 6, none⟩ = some (.slice none 0 0) := (blk_cell BK219.out 6).trans rfl; have hcz18_7 : w17.cell? ⟨gb219, 7, none⟩ = some (.slice none 0 0) := (blk_cell BK219.out 7).trans rfl; have hcz18_8 : w17.cell? ⟨gb219, 8, none⟩ = some (.int .i64 0) := (blk_cell BK219.out 8).trans rfl; have hcz18_9 : w17.cell? ⟨gb219, 9, none⟩ = some (.slice none 0 0) := (blk_cell BK219.out 9).trans rfl; have hcz18_10 : w17.cell? ⟨gb219, 10, none⟩ = some (.slice none 0 0) := (blk_cell BK219.out 10).trans rfl; have hfz18_0 := blk_frozen BK219.out 0; have hfz18_1 := blk_frozen BK219.out 1; have hfz18_2 := blk_frozen BK219.out 2; have hfz18_3 := blk_frozen BK219.out 3; have hfz18_4 := blk_frozen BK219.out 4; have hfz18_5 := blk_frozen BK219.out 5; have hfz18_6 := blk_frozen BK219.out 6; have hfz18_7 := blk_frozen BK219.out 7; have hfz18_8 := blk_frozen BK219.out 8; have hfz18_9 := blk_frozen BK219.out 9; have hfz18_10 := blk_frozen BK219.out 10; obtain ⟨Ao19, co19, eo19⟩ := Kd.V_slice HO207.out; subst eo19; obtain ⟨Ao20, co20, eo20⟩ := Kd.V_slice HO210.out; subst eo20; obtain ⟨Ao21, co21, eo21⟩ := Kd.V_slice HO214.out; subst eo21; obtain ⟨Ao22, co22, eo22⟩ := Kd.V_slice HO217.out; subst eo22; obtain ⟨Ao23, co23, eo23⟩ := Kd.R_slice HO198.out; subst eo23) | ((with_reducible refine gate_callee (f := 21) rfl ?_); refine goesL_ (some 49) rfl rfl Try.func21 (by kernel_rfl) rfl #[.agg #[.int .i64 t199, .int .i64 t200, .int .i64 t201, .int .i64 t202, .int .i64 t203, .int .i64 t204, .slice Ao19 t205.length co19, .slice Ao20 t208.length co20, .int .i64 t211, .slice Ao21 t212.length co21, .slice Ao22 t215.length co22], .int .i64 x11_1, .int .i64 x12_1, .bool ((y196.length : Int) == 1)] rfl (by (try simp only [List.map_toArray, List.map_cons, List.map_nil]); first | done | rfl | (simp only [List.length_drop, List.length_take]; rfl)) ?_; (with_reducible refine (tidemarkref12_chained.calls k1 t199 t200 t201 t202 t203 t204 _ _ t205 _ _ t208 t211 _ _ t212 _ _ t215 x11_1 x12_1 ((y196.length : Int) == 1) t220 t221 _ ?side1 ?side2 ?side3 ?side4 ?side5 ?side6 ?side7 ?side8 A11.out).mono ?_); (case side1 => refine (Kd.V_reads' (e := 5) (base := w.heap.size) (ok := fun k_ => ((some k_ ≠ (u9 : Value).ownBlock ∧ some k_ ≠ (.slice Ao23 y196.length co23 : Value).ownBlock) ∧ k_ ≠ gb219)) (n := t205.length) (c := co19) ?_).2.2; exact (by (with_reducible repeat (first | apply Kd.V_alloc | apply Kd.V_drewN | apply Kd.V_drew)); exact (Kd.V_mono (Kd.V_far (p := ⟨gb219, 10, none⟩) (Kd.V_far (p := ⟨gb219, 9, none⟩) (Kd.V_far (p := ⟨gb219, 8, none⟩) (Kd.V_far (p := ⟨gb219, 7, none⟩) (Kd.V_far (p := ⟨gb219, 6, none⟩) (Kd.V_far (p := ⟨gb219, 5, none⟩) (Kd.V_far (p := ⟨gb219, 4, none⟩) (Kd.V_far (p := ⟨gb219, 3, none⟩) (Kd.V_far (p := ⟨gb219, 2, none⟩) (Kd.V_far (p := ⟨gb219, 1, none⟩) (Kd.V_far (p := ⟨gb219, 0, none⟩) (Kd.V_mono HO207.out (fun k_ hk => (⟨hk, hk.2⟩ : _ ∧ k_ ≠ gb219))) (fun _ hk => hk.2) (.int .i64 t199)) (fun _ hk => hk.2) (.int .i64 t200)) (fun _ hk => hk.2) (.int .i64 t201)) (fun _ hk => hk.2) (.int .i64 t202)) (fun _ hk => hk.2) (.int .i64 t203)) (fun _ hk => hk.2) (.int .i64 t204)) (fun _ hk => hk.2) (.slice Ao19 t205.length co19)) (fun _ hk => hk.2) (.slice Ao20 t208.length co20)) (fun _ hk => hk.2) (.int .i64 t211)) (fun _ hk => hk.2) (.slice Ao21 t212.length co21)) (fun _ hk => hk.2) (.slice Ao22 t215.length co22)) (fun _ h_ => h_.1)))); (case side2 => exact (Kd.V_reads' HO207.out).2.1); (case side3 => refine (Kd.V_reads' (e := 5) (base := w.heap.size) (ok := fun k_ => ((some k_ ≠ (u9 : Value).ownBlock ∧ some k_ ≠ (.slice Ao23 y196.length co23 : Value).ownBlock) ∧ k_ ≠ gb219)) (n := t208.length) (c := co20) ?_).2.2; exact (by (with_reducible repeat (first | apply Kd.V_alloc | apply Kd.V_drewN | apply Kd.V_drew)); exact (Kd.V_mono (Kd.V_far (p := ⟨gb219, 10, none⟩) (Kd.V_far (p := ⟨gb219, 9, none⟩) (Kd.V_far (p := ⟨gb219, 8, none⟩) (Kd.V_far (p := ⟨gb219, 7, none⟩) (Kd.V_far (p := ⟨gb219, 6, none⟩) (Kd.V_far (p := ⟨gb219, 5, none⟩) (Kd.V_far (p := ⟨gb219, 4, none⟩) (Kd.V_far (p := ⟨gb219, 3, none⟩) (Kd.V_far (p := ⟨gb219, 2, none⟩) (Kd.V_far (p := ⟨gb219, 1, none⟩) (Kd.V_far (p := ⟨gb219, 0, none⟩) (Kd.V_mono HO210.out (fun k_ hk => (⟨hk, hk.2⟩ : _ ∧ k_ ≠ gb219))) (fun _ hk => hk.2) (.int .i64 t199)) (fun _ hk => hk.2) (.int .i64 t200)) (fun _ hk => hk.2) (.int .i64 t201)) (fun _ hk => hk.2) (.int .i64 t202)) (fun _ hk => hk.2) (.int .i64 t203)) (fun _ hk => hk.2) (.int .i64 t204)) (fun _ hk => hk.2) (.slice Ao19 t205.length co19)) (fun _ hk => hk.2) (.slice Ao20 t208.length co20)) (fun _ hk => hk.2) (.int .i64 t211)) (fun _ hk => hk.2) (.slice Ao21 t212.length co21)) (fun _ hk => hk.2) (.slice Ao22 t215.length co22)) (fun _ h_ => h_.1)))); (case side4 => exact (Kd.V_reads' HO210.out).2.1); (case side5 => refine (Kd.V_reads' (e := 82) (base := w.heap.size) (ok := fun k_ => ((some k_ ≠ (u9 : Value).ownBlock ∧ some k_ ≠ (.slice Ao23 y196.length co23 : Value).ownBlock) ∧ k_ ≠ gb219)) (n := t212.length) (c := co21) ?_).2.2; exact (by (with_reducible repeat (first | apply Kd.V_alloc | apply Kd.V_drewN | apply Kd.V_drew)); exact (Kd.V_mono (Kd.V_far (p := ⟨gb219, 10, none⟩) (Kd.V_far (p := ⟨gb219, 9, none⟩) (Kd.V_far (p := ⟨gb219, 8, none⟩) (Kd.V_far (p := ⟨gb219, 7, none⟩) (Kd.V_far (p := ⟨gb219, 6, none⟩) (Kd.V_far (p := ⟨gb219, 5, none⟩) (Kd.V_far (p := ⟨gb219, 4, none⟩) (Kd.V_far (p := ⟨gb219, 3, none⟩) (Kd.V_far (p := ⟨gb219, 2, none⟩) (Kd.V_far (p := ⟨gb219, 1, none⟩) (Kd.V_far (p := ⟨gb219, 0, none⟩) (Kd.V_mono HO214.out (fun k_ hk => (⟨hk, hk.2⟩ : _ ∧ k_ ≠ gb219))) (fun _ hk => hk.2) (.int .i64 t199)) (fun _ hk => hk.2) (.int .i64 t200)) (fun _ hk => hk.2) (.int .i64 t201)) (fun _ hk => hk.2) (.int .i64 t202)) (fun _ hk => hk.2) (.int .i64 t203)) (fun _ hk => hk.2) (.int .i64 t204)) (fun _ hk => hk.2) (.slice Ao19 t205.length co19)) (fun _ hk => hk.2) (.slice Ao20 t208.length co20)) (fun _ hk => hk.2) (.int .i64 t211)) (fun _ hk => hk.2) (.slice Ao21 t212.length co21)) (fun _ hk => hk.2) (.slice Ao22 t215.length co22)) (fun _ h_ => h_.1)))); (case side6 => exact (Kd.V_reads' HO214.out).2.1); (case side7 => refine (Kd.V_reads' (e := 84) (base := w.heap.size) (ok := fun k_ => ((some k_ ≠ (u9 : Value).ownBlock ∧ some k_ ≠ (.slice Ao23 y196.length co23 : Value).ownBlock) ∧ k_ ≠ gb219)) (n := t215.length) (c := co22) ?_).2.2; exact (by (with_reducible repeat (first | apply Kd.V_alloc | apply Kd.V_drewN | apply Kd.V_drew)); exact (Kd.V_mono (Kd.V_far (p := ⟨gb219, 10, none⟩) (Kd.V_far (p := ⟨gb219, 9, none⟩) (Kd.V_far (p := ⟨gb219, 8, none⟩) (Kd.V_far (p := ⟨gb219, 7, none⟩) (Kd.V_far (p := ⟨gb219, 6, none⟩) (Kd.V_far (p := ⟨gb219, 5, none⟩) (Kd.V_far (p := ⟨gb219, 4, none⟩) (Kd.V_far (p := ⟨gb219, 3, none⟩) (Kd.V_far (p := ⟨gb219, 2, none⟩) (Kd.V_far (p := ⟨gb219, 1, none⟩) (Kd.V_far (p := ⟨gb219, 0, none⟩) (Kd.V_mono HO217.out (fun k_ hk => (⟨hk, hk.2⟩ : _ ∧ k_ ≠ gb219))) (fun _ hk => hk.2) (.int .i64 t199)) (fun _ hk => hk.2) (.int .i64 t200)) (fun _ hk => hk.2) (.int .i64 t201)) (fun _ hk => hk.2) (.int .i64 t202)) (fun _ hk => hk.2) (.int .i64 t203)) (fun _ hk => hk.2) (.int .i64 t204)) (fun _ hk => hk.2) (.slice Ao19 t205.length co19)) (fun _ hk => hk.2) (.slice Ao20 t208.length co20)) (fun _ hk => hk.2) (.int .i64 t211)) (fun _ hk => hk.2) (.slice Ao21 t212.length co21)) (fun _ hk => hk.2) (.slice Ao22 t215.length co22)) (fun _ h_ => h_.1)))); (case side8 => exact (Kd.V_reads' HO217.out).2.1); rintro e w24 ⟨rfl, hb⟩; refine ⟨_, rfl, ?_⟩; have n0_ := Aside0.mk (Kd.R_below (by (with_reducible repeat (first | apply Kd.R_alloc | apply Kd.R_drewN | apply Kd.R_drew)); exact (Kd.R_mono (Kd.R_far (p := ⟨gb219, 10, none⟩) (Kd.R_far (p := ⟨gb219, 9, none⟩) (Kd.R_far (p := ⟨gb219, 8, none⟩) (Kd.R_far (p := ⟨gb219, 7, none⟩) (Kd.R_far (p := ⟨gb219, 6, none⟩) (Kd.R_far (p := ⟨gb219, 5, none⟩) (Kd.R_far (p := ⟨gb219, 4, none⟩) (Kd.R_far (p := ⟨gb219, 3, none⟩) (Kd.R_far (p := ⟨gb219, 2, none⟩) (Kd.R_far (p := ⟨gb219, 1, none⟩) (Kd.R_far (p := ⟨gb219, 0, none⟩) (Kd.R_types HO_9.out BK219.out (by decide)) (fun _ hk => hk.2) (.int .i64 t199)) (fun _ hk => hk.2) (.int .i64 t200)) (fun _ hk => hk.2) (.int .i64 t201)) (fun _ hk => hk.2) (.int .i64 t202)) (fun _ hk => hk.2) (.int .i64 t203)) (fun _ hk => hk.2) (.int .i64 t204)) (fun _ hk => hk.2) (.slice Ao19 t205.length co19)) (fun _ hk => hk.2) (.slice Ao20 t208.length co20)) (fun _ hk => hk.2) (.int .i64 t211)) (fun _ hk => hk.2) (.slice Ao21 t212.length co21)) (fun _ hk => hk.2) (.slice Ao22 t215.length co22)) (fun _ h_ => h_.1))) hb); have n1_ := Aside0.mk (Kd.R_below (by (with_reducible repeat (first | apply Kd.R_alloc | apply Kd.R_drewN | apply Kd.R_drew)); exact (Kd.R_mono (Kd.R_far (p := ⟨gb219, 10, none⟩) (Kd.R_far (p := ⟨gb219, 9, none⟩) (Kd.R_far (p := ⟨gb219, 8, none⟩) (Kd.R_far (p := ⟨gb219, 7, none⟩) (Kd.R_far (p := ⟨gb219, 6, none⟩) (Kd.R_far (p := ⟨gb219, 5, none⟩) (Kd.R_far (p := ⟨gb219, 4, none⟩) (Kd.R_far (p := ⟨gb219, 3, none⟩) (Kd.R_far (p := ⟨gb219, 2, none⟩) (Kd.R_far (p := ⟨gb219, 1, none⟩) (Kd.R_far (p := ⟨gb219, 0, none⟩) (Kd.R_types HO198.out BK219.out (by decide)) (fun _ hk => hk.2) (.int .i64 t199)) (fun _ hk => hk.2) (.int .i64 t200)) (fun _ hk => hk.2) (.int .i64 t201)) (fun _ hk => hk.2) (.int .i64 t202)) (fun _ hk => hk.2) (.int .i64 t203)) (fun _ hk => hk.2) (.int .i64 t204)) (fun _ hk => hk.2) (.slice Ao19 t205.length co19)) (fun _ hk => hk.2) (.slice Ao20 t208.length co20)) (fun _ hk => hk.2) (.int .i64 t211)) (fun _ hk => hk.2) (.slice Ao21 t212.length co21)) (fun _ hk => hk.2) (.slice Ao22 t215.length co22)) (fun _ h_ => h_.1))) hb); have n2_ := Aside0.mk (Kd.V_below (by (with_reducible repeat (first | apply Kd.V_alloc | apply Kd.V_drewN | apply Kd.V_drew)); exact (Kd.V_mono (Kd.V_far (p := ⟨gb219, 10, none⟩) (Kd.V_far (p := ⟨gb219, 9, none⟩) (Kd.V_far (p := ⟨gb219, 8, none⟩) (Kd.V_far (p := ⟨gb219, 7, none⟩) (Kd.V_far (p := ⟨gb219, 6, none⟩) (Kd.V_far (p := ⟨gb219, 5, none⟩) (Kd.V_far (p := ⟨gb219, 4, none⟩) (Kd.V_far (p := ⟨gb219, 3, none⟩) (Kd.V_far (p := ⟨gb219, 2, none⟩) (Kd.V_far (p := ⟨gb219, 1, none⟩) (Kd.V_far (p := ⟨gb219, 0, none⟩) (Kd.V_mono HO207.out (fun k_ hk => (⟨hk, hk.2⟩ : _ ∧ k_ ≠ gb219))) (fun _ hk => hk.2) (.int .i64 t199)) (fun _ hk => hk.2) (.int .i64 t200)) (fun _ hk => hk.2) (.int .i64 t201)) (fun _ hk => hk.2) (.int .i64 t202)) (fun _ hk => hk.2) (.int .i64 t203)) (fun _ hk => hk.2) (.int .i64 t204)) (fun _ hk => hk.2) (.slice Ao19 t205.length co19)) (fun _ hk => hk.2) (.slice Ao20 t208.length co20)) (fun _ hk => hk.2) (.int .i64 t211)) (fun _ hk => hk.2) (.slice Ao21 t212.length co21)) (fun _ hk => hk.2) (.slice Ao22 t215.length co22)) (fun _ h_ => h_.1))) hb); have n3_ := Aside0.mk (Kd.V_below (by (with_reducible repeat (first | apply Kd.V_alloc | apply Kd.V_drewN | apply Kd.V_drew)); exact (Kd.V_mono (Kd.V_far (p := ⟨gb219, 10, none⟩) (Kd.V_far (p := ⟨gb219, 9, none⟩) (Kd.V_far (p := ⟨gb219, 8, none⟩) (Kd.V_far (p := ⟨gb219, 7, none⟩) (Kd.V_far (p := ⟨gb219, 6, none⟩) (Kd.V_far (p := ⟨gb219, 5, none⟩) (Kd.V_far (p := ⟨gb219, 4, none⟩) (Kd.V_far (p := ⟨gb219, 3, none⟩) (Kd.V_far (p := ⟨gb219, 2, none⟩) (Kd.V_far (p := ⟨gb219, 1, none⟩) (Kd.V_far (p := ⟨gb219, 0, none⟩) (Kd.V_mono HO210.out (fun k_ hk => (⟨hk, hk.2⟩ : _ ∧ k_ ≠ gb219))) (fun _ hk => hk.2) (.int .i64 t199)) (fun _ hk => hk.2) (.int .i64 t200)) (fun _ hk => hk.2) (.int .i64 t201)) (fun _ hk => hk.2) (.int .i64 t202)) (fun _ hk => hk.2) (.int .i64 t203)) (fun _ hk => hk.2) (.int .i64 t204)) (fun _ hk => hk.2) (.slice Ao19 t205.length co19)) (fun _ hk => hk.2) (.slice Ao20 t208.length co20)) (fun _ hk => hk.2) (.int .i64 t211)) (fun _ hk => hk.2) (.slice Ao21 t212.length co21)) (fun _ hk => hk.2) (.slice Ao22 t215.length co22)) (fun _ h_ => h_.1))) hb); have n4_ := Aside0.mk (Kd.V_below (by (with_reducible repeat (first | apply Kd.V_alloc | apply Kd.V_drewN | apply Kd.V_drew)); exact (Kd.V_mono (Kd.V_far (p := ⟨gb219, 10, none⟩) (Kd.V_far (p := ⟨gb219, 9, none⟩) (Kd.V_far (p := ⟨gb219, 8, none⟩) (Kd.V_far (p := ⟨gb219, 7, none⟩) (Kd.V_far (p := ⟨gb219, 6, none⟩) (Kd.V_far (p := ⟨gb219, 5, none⟩) (Kd.V_far (p := ⟨gb219, 4, none⟩) (Kd.V_far (p := ⟨gb219, 3, none⟩) (Kd.V_far (p := ⟨gb219, 2, none⟩) (Kd.V_far (p := ⟨gb219, 1, none⟩) (Kd.V_far (p := ⟨gb219, 0, none⟩) (Kd.V_mono HO214.out (fun k_ hk => (⟨hk, hk.2⟩ : _ ∧ k_ ≠ gb219))) (fun _ hk => hk.2) (.int .i64 t199)) (fun _ hk => hk.2) (.int .i64 t200)) (fun _ hk => hk.2) (.int .i64 t201)) (fun _ hk => hk.2) (.int .i64 t202)) (fun _ hk => hk.2) (.int .i64 t203)) (fun _ hk => hk.2) (.int .i64 t204)) (fun _ hk => hk.2) (.slice Ao19 t205.length co19)) (fun _ hk => hk.2) (.slice Ao20 t208.length co20)) (fun _ hk => hk.2) (.int .i64 t211)) (fun _ hk => hk.2) (.slice Ao21 t212.length co21)) (fun _ hk => hk.2) (.slice Ao22 t215.length co22)) (fun _ h_ => h_.1))) hb); have n5_ := Aside0.mk (Kd.V_below (by (with_reducible repeat (first | apply Kd.V_alloc | apply Kd.V_drewN | apply Kd.V_drew)); exact (Kd.V_mono (Kd.V_far (p := ⟨gb219, 10, none⟩) (Kd.V_far (p := ⟨gb219, 9, none⟩) (Kd.V_far (p := ⟨gb219, 8, none⟩) (Kd.V_far (p := ⟨gb219, 7, none⟩) (Kd.V_far (p := ⟨gb219, 6, none⟩) (Kd.V_far (p := ⟨gb219, 5, none⟩) (Kd.V_far (p := ⟨gb219, 4, none⟩) (Kd.V_far (p := ⟨gb219, 3, none⟩) (Kd.V_far (p := ⟨gb219, 2, none⟩) (Kd.V_far (p := ⟨gb219, 1, none⟩) (Kd.V_far (p := ⟨gb219, 0, none⟩) (Kd.V_mono HO217.out (fun k_ hk => (⟨hk, hk.2⟩ : _ ∧ k_ ≠ gb219))) (fun _ hk => hk.2) (.int .i64 t199)) (fun _ hk => hk.2) (.int .i64 t200)) (fun _ hk => hk.2) (.int .i64 t201)) (fun _ hk => hk.2) (.int .i64 t202)) (fun _ hk => hk.2) (.int .i64 t203)) (fun _ hk => hk.2) (.int .i64 t204)) (fun _ hk => hk.2) (.slice Ao19 t205.length co19)) (fun _ hk => hk.2) (.slice Ao20 t208.length co20)) (fun _ hk => hk.2) (.int .i64 t211)) (fun _ hk => hk.2) (.slice Ao21 t212.length co21)) (fun _ hk => hk.2) (.slice Ao22 t215.length co22)) (fun _ h_ => h_.1))) hb); have n6_ := Aside0.mk (blk_below (g := gb219) (o := .cells #[.int .i64 t199, .int .i64 t200, .int .i64 t201, .int .i64 t202, .int .i64 t203, .int .i64 t204, .slice Ao19 t205.length co19, .slice Ao20 t208.length co20, .int .i64 t211, .slice Ao21 t212.length co21, .slice Ao22 t215.length co22] 41 (0, 0)) (by (with_reducible repeat (first | refine blk_drewN ?_ _ | refine blk_drew ?_ | refine blk_alloc ?_ _)); refine blk_put (cs := #[.int .i64 t199, .int .i64 t200, .int .i64 t201, .int .i64 t202, .int .i64 t203, .int .i64 t204, .slice Ao19 t205.length co19, .slice Ao20 t208.length co20, .int .i64 t211, .slice Ao21 t212.length co21, .slice none 0 0]) ?_ 10 _ rfl; (with_reducible repeat (first | refine blk_drewN ?_ _ | refine blk_drew ?_ | refine blk_alloc ?_ _)); refine blk_put (cs := #[.int .i64 t199, .int .i64 t200, .int .i64 t201, .int .i64 t202, .int .i64 t203, .int .i64 t204, .slice Ao19 t205.length co19, .slice Ao20 t208.length co20, .int .i64 t211, .slice none 0 0, .slice none 0 0]) ?_ 9 _ rfl; (with_reducible repeat (first | refine blk_drewN ?_ _ | refine blk_drew ?_ | refine blk_alloc ?_ _)); refine blk_put (cs := #[.int .i64 t199, .int .i64 t200, .int .i64 t201, .int .i64 t202, .int .i64 t203, .int .i64 t204, .slice Ao19 t205.length co19, .slice Ao20 t208.length co20, .int .i64 0, .slice none 0 0, .slice none 0 0]) ?_ 8 _ rfl; (with_reducible repeat (first | refine blk_drewN ?_ _ | refine blk_drew ?_ | refine blk_alloc ?_ _)); refine blk_put (cs := #[.int .i64 t199, .int .i64 t200, .int .i64 t201, .int .i64 t202, .int .i64 t203, .int .i64 t204, .slice Ao19 t205.length co19, .slice none 0 0, .int .i64 0, .slice none 0 0, .slice none 0 0]) ?_ 7 _ rfl; (with_reducible repeat (first | refine blk_drewN ?_ _ | refine blk_drew ?_ | refine blk_alloc ?_ _)); refine blk_put (cs := #[.int .i64 t199, .int .i64 t200, .int .i64 t201, .int .i64 t202, .int .i64 t203, .int .i64 t204, .slice none 0 0, .slice none 0 0, .int .i64 0, .slice none 0 0, .slice none 0 0]) ?_ 6 _ rfl; (with_reducible repeat (first | refine blk_drewN ?_ _ | refine blk_drew ?_ | refine blk_alloc ?_ _)); refine blk_put (cs := #[.int .i64 t199, .int .i64 t200, .int .i64 t201, .int .i64 t202, .int .i64 t203, .int .i64 0, .slice none 0 0, .slice none 0 0, .int .i64 0, .slice none 0 0, .slice none 0 0]) ?_ 5 _ rfl; (with_reducible repeat (first | refine blk_drewN ?_ _ | refine blk_drew ?_ | refine blk_alloc ?_ _)); refine blk_put (cs := #[.int .i64 t199, .int .i64 t200, .int .i64 t201, .int .i64 t202, .int .i64 0, .int .i64 0, .slice none 0 0, .slice none 0 0, .int .i64 0, .slice none 0 0, .slice none 0 0]) ?_ 4 _ rfl; (with_reducible repeat (first | refine blk_drewN ?_ _ | refine blk_drew ?_ | refine blk_alloc ?_ _)); refine blk_put (cs := #[.int .i64 t199, .int .i64 t200, .int .i64 t201, .int .i64 0, .int .i64 0, .int .i64 0, .slice none 0 0, .slice none 0 0, .int .i64 0, .slice none 0 0, .slice none 0 0]) ?_ 3 _ rfl; (with_reducible repeat (first | refine blk_drewN ?_ _ | refine blk_drew ?_ | refine blk_alloc ?_ _)); refine blk_put (cs := #[.int .i64 t199, .int .i64 t200, .int .i64 0, .int .i64 0, .int .i64 0, .int .i64 0, .slice none 0 0, .slice none 0 0, .int .i64 0, .slice none 0 0, .slice none 0 0]) ?_ 2 _ rfl; (with_reducible repeat (first | refine blk_drewN ?_ _ | refine blk_drew ?_ | refine blk_alloc ?_ _)); refine blk_put (cs := #[.int .i64 t199, .int .i64 0, .int .i64 0, .int .i64 0, .int .i64 0, .int .i64 0, .slice none 0 0, .slice none 0 0, .int .i64 0, .slice none 0 0, .slice none 0 0]) ?_ 1 _ rfl; (with_reducible repeat (first | refine blk_drewN ?_ _ | refine blk_drew ?_ | refine blk_alloc ?_ _)); refine blk_put (cs := #[.int .i64 0, .int .i64 0, .int .i64 0, .int .i64 0, .int .i64 0, .int .i64 0, .slice none 0 0, .slice none 0 0, .int .i64 0, .slice none 0 0, .slice none 0 0]) ?_ 0 _ rfl; (with_reducible repeat (first | refine blk_drewN ?_ _ | refine blk_drew ?_ | refine blk_alloc ?_ _)); exact BK219.out) hb); have n7_ := Aside0.mk (below_step (by repeat (first | (with_reducible first | exact HB.out | apply below_alloc | apply pw_below_drewN | apply below_drew1 | refine below_set ?_ GE219.out) | exact HB.out)) hb); clear HO_9; clear HO198; clear HO207; clear HO210; clear HO214; clear HO217; clear BK219; clear HB; have HO_9 := n0_; have HO198 := n1_; have HO207 := n2_; have HO210 := n3_; have HO214 := n4_; have HO217 := n5_; have BK219 := n6_; have HB := n7_; clear n0_ n1_ n2_ n3_ n4_ n5_ n6_ n7_; (try clear hb); (try clear hb2); (try clear hk); (try clear hi)))
                  (try simp only [Act.put, List.setIfInBounds_toArray, List.set_cons_zero, List.set_cons_succ])
                  go_cut [61] (fun v61 wc => ∃ (kq : Nat) (x61_12 : Bool), v61 = .bool x61_12 ∧ Aside0 (tidemarkref12_Undo.j1 kq l0 a1 x9_1 y196 x11_1 t221 x61_12 t199 t200 t201 t202 t203 t204 t205 t208 t211 t212 t215 = some (r1, r2, r3)) ∧ Aside0 (kq ≤ k1) ∧ Aside0 (Kd.R (Kd.int .i64) 3 wc w.heap.size (fun k_ => some k_ ≠ ((.slice Ao23 y196.length co23) : Value).ownBlock) u9 x9_1) ∧ Aside0 (Kd.R (Kd.int .i64) 3 wc w.heap.size (fun k_ => some k_ ≠ (u9 : Value).ownBlock) (.slice Ao23 y196.length co23) y196) ∧ Aside0 (Kd.V (Kd.int .u8) 5 wc w.heap.size (fun k_ => some k_ ≠ (u9 : Value).ownBlock ∧ some k_ ≠ ((.slice Ao23 y196.length co23) : Value).ownBlock ∧ k_ ≠ gb219) (.slice Ao19 t205.length co19) t205) ∧ Aside0 (Kd.V (Kd.int .u8) 5 wc w.heap.size (fun k_ => some k_ ≠ (u9 : Value).ownBlock ∧ some k_ ≠ ((.slice Ao23 y196.length co23) : Value).ownBlock ∧ k_ ≠ gb219) (.slice Ao20 t208.length co20) t208) ∧ Aside0 (Kd.V k82 82 wc w.heap.size (fun k_ => some k_ ≠ (u9 : Value).ownBlock ∧ some k_ ≠ ((.slice Ao23 y196.length co23) : Value).ownBlock ∧ k_ ≠ gb219) (.slice Ao21 t212.length co21) t212) ∧ Aside0 (Kd.V k84 84 wc w.heap.size (fun k_ => some k_ ≠ (u9 : Value).ownBlock ∧ some k_ ≠ ((.slice Ao23 y196.length co23) : Value).ownBlock ∧ k_ ≠ gb219) (.slice Ao22 t215.length co22) t215) ∧ Aside0 (wc.heap[gb219]? = some (.cells #[.int .i64 t199, .int .i64 t200, .int .i64 t201, .int .i64 t202, .int .i64 t203, .int .i64 t204, (.slice Ao19 t205.length co19), (.slice Ao20 t208.length co20), .int .i64 t211, (.slice Ao21 t212.length co21), (.slice Ao22 t215.length co22)] 41 (0, 0))) ∧ Aside0 (Below w.heap.size w wc))
                  case first =>
                    have H := HC13.out
                    clear HC13
                    by_cases c25 : x13_1 = true
                    · subst c25
                      have H1 : (tidemarkref12_Undo.j1 k1 l0 a1 x9_1 y196 x11_1 t221 (t199 != 2) t199 t200 t201 t202 t203 t204 t205 t208 t211 t212 t215) = some (r1, r2, r3) := by rw [if_pos rfl] at H; exact H
                      clear H
                      have H := H1
                      clear H1
                      have H' := Aside0.mk H
                      clear H
                      have hcz26_0 : w24.cell? ⟨gb219, 0, none⟩ = some (.int .i64 t199) := (blk_cell BK219.out 0).trans rfl
                      have hcz26_1 : w24.cell? ⟨gb219, 1, none⟩ = some (.int .i64 t200) := (blk_cell BK219.out 1).trans rfl
                      have hcz26_2 : w24.cell? ⟨gb219, 2, none⟩ = some (.int .i64 t201) := (blk_cell BK219.out 2).trans rfl
                      have hcz26_3 : w24.cell? ⟨gb219, 3, none⟩ = some (.int .i64 t202) := (blk_cell BK219.out 3).trans rfl
                      have hcz26_4 : w24.cell? ⟨gb219, 4, none⟩ = some (.int .i64 t203) := (blk_cell BK219.out 4).trans rfl
                      have hcz26_5 : w24.cell? ⟨gb219, 5, none⟩ = some (.int .i64 t204) := (blk_cell BK219.out 5).trans rfl
                      have hcz26_6 : w24.cell? ⟨gb219, 6, none⟩ = some (.slice Ao19 t205.length co19) := (blk_cell BK219.out 6).trans rfl
                      have hcz26_7 : w24.cell? ⟨gb219, 7, none⟩ = some (.slice Ao20 t208.length co20) := (blk_cell BK219.out 7).trans rfl
                      have hcz26_8 : w24.cell? ⟨gb219, 8, none⟩ = some (.int .i64 t211) := (blk_cell BK219.out 8).trans rfl
                      have hcz26_9 : w24.cell? ⟨gb219, 9, none⟩ = some (.slice Ao21 t212.length co21) := (blk_cell BK219.out 9).trans rfl
                      have hcz26_10 : w24.cell? ⟨gb219, 10, none⟩ = some (.slice Ao22 t215.length co22) := (blk_cell BK219.out 10).trans rfl
                      have hfz26_0 := blk_frozen BK219.out 0
                      have hfz26_1 := blk_frozen BK219.out 1
                      have hfz26_2 := blk_frozen BK219.out 2
                      have hfz26_3 := blk_frozen BK219.out 3
                      have hfz26_4 := blk_frozen BK219.out 4
                      have hfz26_5 := blk_frozen BK219.out 5
                      have hfz26_6 := blk_frozen BK219.out 6
                      have hfz26_7 := blk_frozen BK219.out 7
                      have hfz26_8 := blk_frozen BK219.out 8
                      have hfz26_9 := blk_frozen BK219.out 9
                      have hfz26_10 := blk_frozen BK219.out 10
                      go_wp2
                      go_meet
                      case rel => exact ⟨_, ((t199 != 2)), (by first | rfl | (simp; done) | (simp [*]; done)), H', ⟨by have := HK1.out; first | omega | exact Nat.le_refl _⟩, ⟨by (with_reducible repeat (first | apply Kd.R_alloc | apply Kd.R_drewN | apply Kd.R_drew)); exact Kd.R_mono HO_9.out (fun _ hk => hk.2)⟩, ⟨by (with_reducible repeat (first | apply Kd.R_alloc | apply Kd.R_drewN | apply Kd.R_drew)); exact HO198.out⟩, ⟨by (with_reducible repeat (first | apply Kd.V_alloc | apply Kd.V_drewN | apply Kd.V_drew)); exact Kd.V_mono HO207.out (fun _ hk => ⟨hk.1.1, ⟨hk.1.2, hk.2⟩⟩)⟩, ⟨by (with_reducible repeat (first | apply Kd.V_alloc | apply Kd.V_drewN | apply Kd.V_drew)); exact Kd.V_mono HO210.out (fun _ hk => ⟨hk.1.1, ⟨hk.1.2, hk.2⟩⟩)⟩, ⟨by (with_reducible repeat (first | apply Kd.V_alloc | apply Kd.V_drewN | apply Kd.V_drew)); exact Kd.V_mono HO214.out (fun _ hk => ⟨hk.1.1, ⟨hk.1.2, hk.2⟩⟩)⟩, ⟨by (with_reducible repeat (first | apply Kd.V_alloc | apply Kd.V_drewN | apply Kd.V_drew)); exact Kd.V_mono HO217.out (fun _ hk => ⟨hk.1.1, ⟨hk.1.2, hk.2⟩⟩)⟩, ⟨by (with_reducible repeat (first | refine blk_drewN ?_ _ | refine blk_drew ?_ | refine blk_alloc ?_ _)); exact BK219.out⟩, ⟨by repeat (first | (with_reducible first | exact HB.out | apply below_alloc | apply pw_below_drewN | apply below_drew1 | refine below_set ?_ GE219.out) | exact HB.out)⟩⟩
                    · replace c25 := Bool.eq_false_iff.mpr c25
                      subst c25
                      have H1 : (tidemarkref12_Undo.j1 k1 l0 a1 x9_1 y196 x11_1 t221 false t199 t200 t201 t202 t203 t204 t205 t208 t211 t212 t215) = some (r1, r2, r3) := by rw [if_neg (show ¬ (false = true) by decide)] at H; exact H
                      clear H
                      have H := H1
                      clear H1
                      have H' := Aside0.mk H
                      clear H
                      go_wp2
                      go_meet
                      case rel => exact ⟨_, (false), (by first | rfl | (simp; done) | (simp [*]; done)), H', ⟨by have := HK1.out; first | omega | exact Nat.le_refl _⟩, ⟨by (with_reducible repeat (first | apply Kd.R_alloc | apply Kd.R_drewN | apply Kd.R_drew)); exact Kd.R_mono HO_9.out (fun _ hk => hk.2)⟩, ⟨by (with_reducible repeat (first | apply Kd.R_alloc | apply Kd.R_drewN | apply Kd.R_drew)); exact HO198.out⟩, ⟨by (with_reducible repeat (first | apply Kd.V_alloc | apply Kd.V_drewN | apply Kd.V_drew)); exact Kd.V_mono HO207.out (fun _ hk => ⟨hk.1.1, ⟨hk.1.2, hk.2⟩⟩)⟩, ⟨by (with_reducible repeat (first | apply Kd.V_alloc | apply Kd.V_drewN | apply Kd.V_drew)); exact Kd.V_mono HO210.out (fun _ hk => ⟨hk.1.1, ⟨hk.1.2, hk.2⟩⟩)⟩, ⟨by (with_reducible repeat (first | apply Kd.V_alloc | apply Kd.V_drewN | apply Kd.V_drew)); exact Kd.V_mono HO214.out (fun _ hk => ⟨hk.1.1, ⟨hk.1.2, hk.2⟩⟩)⟩, ⟨by (with_reducible repeat (first | apply Kd.V_alloc | apply Kd.V_drewN | apply Kd.V_drew)); exact Kd.V_mono HO217.out (fun _ hk => ⟨hk.1.1, ⟨hk.1.2, hk.2⟩⟩)⟩, ⟨by (with_reducible repeat (first | refine blk_drewN ?_ _ | refine blk_drew ?_ | refine blk_alloc ?_ _)); exact BK219.out⟩, ⟨by repeat (first | (with_reducible first | exact HB.out | apply below_alloc | apply pw_below_drewN | apply below_drew1 | refine below_set ?_ GE219.out) | exact HB.out)⟩⟩
                  case rest =>
                    clear HC13
                    try clear c1
                    try clear c2
                    try clear p2
                    try clear c4
                    try clear c4b0
                    try clear c5
                    try clear c5b0
                    try clear c6
                    try clear c6b0
                    try clear c6b1
                    try clear c8
                    try clear c10
                    try clear c10b0
                    try clear c10b1
                    try clear c12
                    try clear c12b0
                    try clear c12b1
                    try clear c18
                    try clear c21
                    try clear c25
                    try clear hcz18_0
                    try clear hcz18_1
                    try clear hcz18_10
                    try clear hcz18_2
                    try clear hcz18_3
                    try clear hcz18_4
                    try clear hcz18_5
                    try clear hcz18_6
                    try clear hcz18_7
                    try clear hcz18_8
                    try clear hcz18_9
                    try clear hcz26_0
                    try clear hcz26_1
                    try clear hcz26_10
                    try clear hcz26_2
                    try clear hcz26_3
                    try clear hcz26_4
                    try clear hcz26_5
                    try clear hcz26_6
                    try clear hcz26_7
                    try clear hcz26_8
                    try clear hcz26_9
                    try clear hfz18_0
                    try clear hfz18_1
                    try clear hfz18_10
                    try clear hfz18_2
                    try clear hfz18_3
                    try clear hfz18_4
                    try clear hfz18_5
                    try clear hfz18_6
                    try clear hfz18_7
                    try clear hfz18_8
                    try clear hfz18_9
                    try clear hfz26_0
                    try clear hfz26_1
                    try clear hfz26_10
                    try clear hfz26_2
                    try clear hfz26_3
                    try clear hfz26_4
                    try clear hfz26_5
                    try clear hfz26_6
                    try clear hfz26_7
                    try clear hfz26_8
                    try clear hfz26_9
                    try clear p2
                    obtain ⟨kq, x61_12, rfl, HA, HJ12, HO_9, HO_10, HO_220006, HO_220007, HO_220009, HO_220010, BK219, HB⟩ := hcut
                    cases kq with
                    | zero => exact absurd HA.out (by simp [tidemarkref12_Undo.j1])
                    | succ kj12 =>
                      have H := HA.out
                      clear HA
                      simp only [tidemarkref12_Undo.j1] at H
                      by_cases c27 : x61_12 = true
                      · subst c27
                        have H1 : (some (([] : List Int), 120, y196)) = some (r1, r2, r3) := by rw [if_pos rfl] at H; exact H
                        clear H
                        have H := H1
                        clear H1
                        simp only [Option.some.injEq, Prod.mk.injEq] at H
                        obtain ⟨rfl, rfl, rfl⟩ := H
                        go_wp2
                        go_ret3
                        exact ⟨_, _, by first | rfl | (simp [errW_none, errW_some] <;> rfl) | (simp [*, errW_none, errW_some] <;> rfl), by first | exact Kd.R_nil _ _ _ _ _ | exact Kd.N_nil _ _ _ _ _ | exact Kd.V_nil _ _ _ _ _ | exact Kd.Q_nil _ _ _ _ _ | exact Kd.S_nil _ _ _ _ _, by (with_reducible repeat (first | apply Kd.R_alloc | apply Kd.R_drewN | apply Kd.R_drew)); exact Kd.R_mono HO_10.out (fun _ hk => (by simp [Value.ownBlock])), by repeat (first | (with_reducible first | exact HB.out | apply below_alloc | apply pw_below_drewN | apply below_drew1 | refine below_set ?_ GE219.out) | exact HB.out)⟩
                      · replace c27 := Bool.eq_false_iff.mpr c27
                        subst c27
                        have H1 : (if t199 = 1 then (some (x9_1, 0, y196)) else (if t199 = 3 then (if t211 = 0 then (some (x9_1, 0, y196)) else (tidemarkref12_Undo.j2 kj12 l0 a1 x9_1 y196 x11_1 t221 (t199 == 3) t211 t199 t200 t201 t202 t203 t204 t205 t208 t211 t212 t215)) else (tidemarkref12_Undo.j2 kj12 l0 a1 x9_1 y196 x11_1 t221 (t199 == 3) t201 t199 t200 t201 t202 t203 t204 t205 t208 t211 t212 t215))) = some (r1, r2, r3) := by rw [if_neg (show ¬ (false = true) by decide)] at H; exact H
                        clear H
                        have H := H1
                        clear H1
                        by_cases c28 : t199 = 1
                        · rw [if_pos c28] at H
                          have c28b0 : (t199 == 1) = true := beq_iff_eq.mpr c28
                          have c28b1 : (t199 != 1) = false := bne_eq_false_iff_eq.mpr c28
                          clear c28
                          simp only [Option.some.injEq, Prod.mk.injEq] at H
                          obtain ⟨rfl, rfl, rfl⟩ := H
                          have hcz29_0 : wc.cell? ⟨gb219, 0, none⟩ = some (.int .i64 t199) := (blk_cell BK219.out 0).trans rfl
                          have hcz29_1 : wc.cell? ⟨gb219, 1, none⟩ = some (.int .i64 t200) := (blk_cell BK219.out 1).trans rfl
                          have hcz29_2 : wc.cell? ⟨gb219, 2, none⟩ = some (.int .i64 t201) := (blk_cell BK219.out 2).trans rfl
                          have hcz29_3 : wc.cell? ⟨gb219, 3, none⟩ = some (.int .i64 t202) := (blk_cell BK219.out 3).trans rfl
                          have hcz29_4 : wc.cell? ⟨gb219, 4, none⟩ = some (.int .i64 t203) := (blk_cell BK219.out 4).trans rfl
                          have hcz29_5 : wc.cell? ⟨gb219, 5, none⟩ = some (.int .i64 t204) := (blk_cell BK219.out 5).trans rfl
                          have hcz29_6 : wc.cell? ⟨gb219, 6, none⟩ = some (.slice Ao19 t205.length co19) := (blk_cell BK219.out 6).trans rfl
                          have hcz29_7 : wc.cell? ⟨gb219, 7, none⟩ = some (.slice Ao20 t208.length co20) := (blk_cell BK219.out 7).trans rfl
                          have hcz29_8 : wc.cell? ⟨gb219, 8, none⟩ = some (.int .i64 t211) := (blk_cell BK219.out 8).trans rfl
                          have hcz29_9 : wc.cell? ⟨gb219, 9, none⟩ = some (.slice Ao21 t212.length co21) := (blk_cell BK219.out 9).trans rfl
                          have hcz29_10 : wc.cell? ⟨gb219, 10, none⟩ = some (.slice Ao22 t215.length co22) := (blk_cell BK219.out 10).trans rfl
                          have hfz29_0 := blk_frozen BK219.out 0
                          have hfz29_1 := blk_frozen BK219.out 1
                          have hfz29_2 := blk_frozen BK219.out 2
                          have hfz29_3 := blk_frozen BK219.out 3
                          have hfz29_4 := blk_frozen BK219.out 4
                          have hfz29_5 := blk_frozen BK219.out 5
                          have hfz29_6 := blk_frozen BK219.out 6
                          have hfz29_7 := blk_frozen BK219.out 7
                          have hfz29_8 := blk_frozen BK219.out 8
                          have hfz29_9 := blk_frozen BK219.out 9
                          have hfz29_10 := blk_frozen BK219.out 10
                          go_wp2
                          go_ret3
                          exact ⟨_, _, by first | rfl | (simp [errW_none, errW_some] <;> rfl) | (simp [*, errW_none, errW_some] <;> rfl), by (with_reducible repeat (first | apply Kd.R_alloc | apply Kd.R_drewN | apply Kd.R_drew)); exact HO_9.out, by (with_reducible repeat (first | apply Kd.R_alloc | apply Kd.R_drewN | apply Kd.R_drew)); exact HO_10.out, by repeat (first | (with_reducible first | exact HB.out | apply below_alloc | apply pw_below_drewN | apply below_drew1 | refine below_set ?_ GE219.out) | exact HB.out)⟩
                        · rw [if_neg c28] at H
                          have c28b0 : (t199 == 1) = false := beq_eq_false_iff_ne.mpr c28
                          have c28b1 : (t199 != 1) = true := bne_iff_ne.mpr c28
                          have HC30 := Aside0.mk H
                          clear H
                          have hcz31_0 : wc.cell? ⟨gb219, 0, none⟩ = some (.int .i64 t199) := (blk_cell BK219.out 0).trans rfl
                          have hcz31_1 : wc.cell? ⟨gb219, 1, none⟩ = some (.int .i64 t200) := (blk_cell BK219.out 1).trans rfl
                          have hcz31_2 : wc.cell? ⟨gb219, 2, none⟩ = some (.int .i64 t201) := (blk_cell BK219.out 2).trans rfl
                          have hcz31_3 : wc.cell? ⟨gb219, 3, none⟩ = some (.int .i64 t202) := (blk_cell BK219.out 3).trans rfl
                          have hcz31_4 : wc.cell? ⟨gb219, 4, none⟩ = some (.int .i64 t203) := (blk_cell BK219.out 4).trans rfl
                          have hcz31_5 : wc.cell? ⟨gb219, 5, none⟩ = some (.int .i64 t204) := (blk_cell BK219.out 5).trans rfl
                          have hcz31_6 : wc.cell? ⟨gb219, 6, none⟩ = some (.slice Ao19 t205.length co19) := (blk_cell BK219.out 6).trans rfl
                          have hcz31_7 : wc.cell? ⟨gb219, 7, none⟩ = some (.slice Ao20 t208.length co20) := (blk_cell BK219.out 7).trans rfl
                          have hcz31_8 : wc.cell? ⟨gb219, 8, none⟩ = some (.int .i64 t211) := (blk_cell BK219.out 8).trans rfl
                          have hcz31_9 : wc.cell? ⟨gb219, 9, none⟩ = some (.slice Ao21 t212.length co21) := (blk_cell BK219.out 9).trans rfl
                          have hcz31_10 : wc.cell? ⟨gb219, 10, none⟩ = some (.slice Ao22 t215.length co22) := (blk_cell BK219.out 10).trans rfl
                          have hfz31_0 := blk_frozen BK219.out 0
                          have hfz31_1 := blk_frozen BK219.out 1
                          have hfz31_2 := blk_frozen BK219.out 2
                          have hfz31_3 := blk_frozen BK219.out 3
                          have hfz31_4 := blk_frozen BK219.out 4
                          have hfz31_5 := blk_frozen BK219.out 5
                          have hfz31_6 := blk_frozen BK219.out 6
                          have hfz31_7 := blk_frozen BK219.out 7
                          have hfz31_8 := blk_frozen BK219.out 8
                          have hfz31_9 := blk_frozen BK219.out 9
                          have hfz31_10 := blk_frozen BK219.out 10
                          go_upto_if 73 with (fail)
                          go_cut [13, 16] (fun v13 v16 wc => ∃ (kq : Nat) (x16_29 : Int), v13 = .bool (t199 == 3) ∧ v16 = .int .i64 x16_29 ∧ Aside0 (tidemarkref12_Undo.j2 kq l0 a1 x9_1 y196 x11_1 t221 (t199 == 3) x16_29 t199 t200 t201 t202 t203 t204 t205 t208 t211 t212 t215 = some (r1, r2, r3)) ∧ Aside0 (kq ≤ kj12) ∧ Aside0 (Kd.R (Kd.int .i64) 3 wc w.heap.size (fun k_ => some k_ ≠ ((.slice Ao23 y196.length co23) : Value).ownBlock) u9 x9_1) ∧ Aside0 (Kd.R (Kd.int .i64) 3 wc w.heap.size (fun k_ => some k_ ≠ (u9 : Value).ownBlock) (.slice Ao23 y196.length co23) y196) ∧ Aside0 (Kd.V (Kd.int .u8) 5 wc w.heap.size (fun k_ => some k_ ≠ (u9 : Value).ownBlock ∧ some k_ ≠ ((.slice Ao23 y196.length co23) : Value).ownBlock ∧ k_ ≠ gb219) (.slice Ao19 t205.length co19) t205) ∧ Aside0 (Kd.V (Kd.int .u8) 5 wc w.heap.size (fun k_ => some k_ ≠ (u9 : Value).ownBlock ∧ some k_ ≠ ((.slice Ao23 y196.length co23) : Value).ownBlock ∧ k_ ≠ gb219) (.slice Ao20 t208.length co20) t208) ∧ Aside0 (Kd.V k82 82 wc w.heap.size (fun k_ => some k_ ≠ (u9 : Value).ownBlock ∧ some k_ ≠ ((.slice Ao23 y196.length co23) : Value).ownBlock ∧ k_ ≠ gb219) (.slice Ao21 t212.length co21) t212) ∧ Aside0 (Kd.V k84 84 wc w.heap.size (fun k_ => some k_ ≠ (u9 : Value).ownBlock ∧ some k_ ≠ ((.slice Ao23 y196.length co23) : Value).ownBlock ∧ k_ ≠ gb219) (.slice Ao22 t215.length co22) t215) ∧ Aside0 (wc.heap[gb219]? = some (.cells #[.int .i64 t199, .int .i64 t200, .int .i64 t201, .int .i64 t202, .int .i64 t203, .int .i64 t204, (.slice Ao19 t205.length co19), (.slice Ao20 t208.length co20), .int .i64 t211, (.slice Ao21 t212.length co21), (.slice Ao22 t215.length co22)] 41 (0, 0))) ∧ Aside0 (Below w.heap.size w wc))
                          case first =>
                            have H := HC30.out
                            clear HC30
                            by_cases c32 : t199 = 3
                            · rw [if_pos c32] at H
                              have c32b0 : (t199 == 3) = true := beq_iff_eq.mpr c32
                              have c32b1 : (t199 != 3) = false := bne_eq_false_iff_eq.mpr c32
                              clear c32
                              (first | rw [c32b0] | (simp only [i64_w, i32_w]; rw [c32b0]) | skip)
                              by_cases c33 : t211 = 0
                              · rw [if_pos c33] at H
                                have c33b0 : (t211 == 0) = true := beq_iff_eq.mpr c33
                                have c33b1 : (t211 != 0) = false := bne_eq_false_iff_eq.mpr c33
                                clear c33
                                simp only [Option.some.injEq, Prod.mk.injEq] at H
                                obtain ⟨rfl, rfl, rfl⟩ := H
                                have hcz34_0 : wc.cell? ⟨gb219, 0, none⟩ = some (.int .i64 t199) := (blk_cell BK219.out 0).trans rfl
                                have hcz34_1 : wc.cell? ⟨gb219, 1, none⟩ = some (.int .i64 t200) := (blk_cell BK219.out 1).trans rfl
                                have hcz34_2 : wc.cell? ⟨gb219, 2, none⟩ = some (.int .i64 t201) := (blk_cell BK219.out 2).trans rfl
                                have hcz34_3 : wc.cell? ⟨gb219, 3, none⟩ = some (.int .i64 t202) := (blk_cell BK219.out 3).trans rfl
                                have hcz34_4 : wc.cell? ⟨gb219, 4, none⟩ = some (.int .i64 t203) := (blk_cell BK219.out 4).trans rfl
                                have hcz34_5 : wc.cell? ⟨gb219, 5, none⟩ = some (.int .i64 t204) := (blk_cell BK219.out 5).trans rfl
                                have hcz34_6 : wc.cell? ⟨gb219, 6, none⟩ = some (.slice Ao19 t205.length co19) := (blk_cell BK219.out 6).trans rfl
                                have hcz34_7 : wc.cell? ⟨gb219, 7, none⟩ = some (.slice Ao20 t208.length co20) := (blk_cell BK219.out 7).trans rfl
                                have hcz34_8 : wc.cell? ⟨gb219, 8, none⟩ = some (.int .i64 t211) := (blk_cell BK219.out 8).trans rfl
                                have hcz34_9 : wc.cell? ⟨gb219, 9, none⟩ = some (.slice Ao21 t212.length co21) := (blk_cell BK219.out 9).trans rfl
                                have hcz34_10 : wc.cell? ⟨gb219, 10, none⟩ = some (.slice Ao22 t215.length co22) := (blk_cell BK219.out 10).trans rfl
                                have hfz34_0 := blk_frozen BK219.out 0
                                have hfz34_1 := blk_frozen BK219.out 1
                                have hfz34_2 := blk_frozen BK219.out 2
                                have hfz34_3 := blk_frozen BK219.out 3
                                have hfz34_4 := blk_frozen BK219.out 4
                                have hfz34_5 := blk_frozen BK219.out 5
                                have hfz34_6 := blk_frozen BK219.out 6
                                have hfz34_7 := blk_frozen BK219.out 7
                                have hfz34_8 := blk_frozen BK219.out 8
                                have hfz34_9 := blk_frozen BK219.out 9
                                have hfz34_10 := blk_frozen BK219.out 10
                                go_wp2
                                go_ret3
                                exact ⟨_, _, by first | rfl | (simp [errW_none, errW_some] <;> rfl) | (simp [*, errW_none, errW_some] <;> rfl), by (with_reducible repeat (first | apply Kd.R_alloc | apply Kd.R_drewN | apply Kd.R_drew)); exact HO_9.out, by (with_reducible repeat (first | apply Kd.R_alloc | apply Kd.R_drewN | apply Kd.R_drew)); exact HO_10.out, by repeat (first | (with_reducible first | exact HB.out | apply below_alloc | apply pw_below_drewN | apply below_drew1 | refine below_set ?_ GE219.out) | exact HB.out)⟩
                              · rw [if_neg c33] at H
                                have c33b0 : (t211 == 0) = false := beq_eq_false_iff_ne.mpr c33
                                have c33b1 : (t211 != 0) = true := bne_iff_ne.mpr c33
                                have H' := Aside0.mk H
                                clear H
                                have hcz35_0 : wc.cell? ⟨gb219, 0, none⟩ = some (.int .i64 t199) := (blk_cell BK219.out 0).trans rfl
                                have hcz35_1 : wc.cell? ⟨gb219, 1, none⟩ = some (.int .i64 t200) := (blk_cell BK219.out 1).trans rfl
                                have hcz35_2 : wc.cell? ⟨gb219, 2, none⟩ = some (.int .i64 t201) := (blk_cell BK219.out 2).trans rfl
                                have hcz35_3 : wc.cell? ⟨gb219, 3, none⟩ = some (.int .i64 t202) := (blk_cell BK219.out 3).trans rfl
                                have hcz35_4 : wc.cell? ⟨gb219, 4, none⟩ = some (.int .i64 t203) := (blk_cell BK219.out 4).trans rfl
                                have hcz35_5 : wc.cell? ⟨gb219, 5, none⟩ = some (.int .i64 t204) := (blk_cell BK219.out 5).trans rfl
                                have hcz35_6 : wc.cell? ⟨gb219, 6, none⟩ = some (.slice Ao19 t205.length co19) := (blk_cell BK219.out 6).trans rfl
                                have hcz35_7 : wc.cell? ⟨gb219, 7, none⟩ = some (.slice Ao20 t208.length co20) := (blk_cell BK219.out 7).trans rfl
                                have hcz35_8 : wc.cell? ⟨gb219, 8, none⟩ = some (.int .i64 t211) := (blk_cell BK219.out 8).trans rfl
                                have hcz35_9 : wc.cell? ⟨gb219, 9, none⟩ = some (.slice Ao21 t212.length co21) := (blk_cell BK219.out 9).trans rfl
                                have hcz35_10 : wc.cell? ⟨gb219, 10, none⟩ = some (.slice Ao22 t215.length co22) := (blk_cell BK219.out 10).trans rfl
                                have hfz35_0 := blk_frozen BK219.out 0
                                have hfz35_1 := blk_frozen BK219.out 1
                                have hfz35_2 := blk_frozen BK219.out 2
                                have hfz35_3 := blk_frozen BK219.out 3
                                have hfz35_4 := blk_frozen BK219.out 4
                                have hfz35_5 := blk_frozen BK219.out 5
                                have hfz35_6 := blk_frozen BK219.out 6
                                have hfz35_7 := blk_frozen BK219.out 7
                                have hfz35_8 := blk_frozen BK219.out 8
                                have hfz35_9 := blk_frozen BK219.out 9
                                have hfz35_10 := blk_frozen BK219.out 10
                                go_wp2
                                go_meet
                                case rel => exact ⟨_, (t211), (by first | rfl | (simp; done) | (simp [*]; done)), (by first | rfl | (simp; done) | (simp [*]; done)), H', ⟨by have := HK1.out; have := HJ12.out; first | omega | exact Nat.le_refl _⟩, ⟨by (with_reducible repeat (first | apply Kd.R_alloc | apply Kd.R_drewN | apply Kd.R_drew)); exact HO_9.out⟩, ⟨by (with_reducible repeat (first | apply Kd.R_alloc | apply Kd.R_drewN | apply Kd.R_drew)); exact HO_10.out⟩, ⟨by (with_reducible repeat (first | apply Kd.V_alloc | apply Kd.V_drewN | apply Kd.V_drew)); exact HO_220006.out⟩, ⟨by (with_reducible repeat (first | apply Kd.V_alloc | apply Kd.V_drewN | apply Kd.V_drew)); exact HO_220007.out⟩, ⟨by (with_reducible repeat (first | apply Kd.V_alloc | apply Kd.V_drewN | apply Kd.V_drew)); exact HO_220009.out⟩, ⟨by (with_reducible repeat (first | apply Kd.V_alloc | apply Kd.V_drewN | apply Kd.V_drew)); exact HO_220010.out⟩, ⟨by (with_reducible repeat (first | refine blk_drewN ?_ _ | refine blk_drew ?_ | refine blk_alloc ?_ _)); exact BK219.out⟩, ⟨by repeat (first | (with_reducible first | exact HB.out | apply below_alloc | apply pw_below_drewN | apply below_drew1 | refine below_set ?_ GE219.out) | exact HB.out)⟩⟩
                            · rw [if_neg c32] at H
                              have c32b0 : (t199 == 3) = false := beq_eq_false_iff_ne.mpr c32
                              have c32b1 : (t199 != 3) = true := bne_iff_ne.mpr c32
                              (first | rw [c32b0] | (simp only [i64_w, i32_w]; rw [c32b0]) | skip)
                              have H' := Aside0.mk H
                              clear H
                              go_wp2
                              go_meet
                              case rel => exact ⟨_, (t201), (by first | rfl | (simp; done) | (simp [*]; done)), (by first | rfl | (simp; done) | (simp [*]; done)), H', ⟨by have := HK1.out; have := HJ12.out; first | omega | exact Nat.le_refl _⟩, ⟨by (with_reducible repeat (first | apply Kd.R_alloc | apply Kd.R_drewN | apply Kd.R_drew)); exact HO_9.out⟩, ⟨by (with_reducible repeat (first | apply Kd.R_alloc | apply Kd.R_drewN | apply Kd.R_drew)); exact HO_10.out⟩, ⟨by (with_reducible repeat (first | apply Kd.V_alloc | apply Kd.V_drewN | apply Kd.V_drew)); exact HO_220006.out⟩, ⟨by (with_reducible repeat (first | apply Kd.V_alloc | apply Kd.V_drewN | apply Kd.V_drew)); exact HO_220007.out⟩, ⟨by (with_reducible repeat (first | apply Kd.V_alloc | apply Kd.V_drewN | apply Kd.V_drew)); exact HO_220009.out⟩, ⟨by (with_reducible repeat (first | apply Kd.V_alloc | apply Kd.V_drewN | apply Kd.V_drew)); exact HO_220010.out⟩, ⟨by (with_reducible repeat (first | refine blk_drewN ?_ _ | refine blk_drew ?_ | refine blk_alloc ?_ _)); exact BK219.out⟩, ⟨by repeat (first | (with_reducible first | exact HB.out | apply below_alloc | apply pw_below_drewN | apply below_drew1 | refine below_set ?_ GE219.out) | exact HB.out)⟩⟩
                          case rest =>
                            clear HC30
                            try clear c1
                            try clear c2
                            try clear p2
                            try clear c3
                            try clear c4
                            try clear c4b0
                            try clear c5
                            try clear c5b0
                            try clear c6
                            try clear c6b0
                            try clear c6b1
                            try clear c8
                            try clear c10
                            try clear c10b0
                            try clear c10b1
                            try clear c12
                            try clear c12b0
                            try clear c12b1
                            try clear c18
                            try clear c21
                            try clear c25
                            try clear c27
                            try clear c28
                            try clear c28b0
                            try clear c28b1
                            try clear c32
                            try clear c32b0
                            try clear c32b1
                            try clear c33
                            try clear c33b0
                            try clear c33b1
                            try clear hcz18_0
                            try clear hcz18_1
                            try clear hcz18_10
                            try clear hcz18_2
                            try clear hcz18_3
                            try clear hcz18_4
                            try clear hcz18_5
                            try clear hcz18_6
                            try clear hcz18_7
                            try clear hcz18_8
                            try clear hcz18_9
                            try clear hcz26_0
                            try clear hcz26_1
                            try clear hcz26_10
                            try clear hcz26_2
                            try clear hcz26_3
                            try clear hcz26_4
                            try clear hcz26_5
                            try clear hcz26_6
                            try clear hcz26_7
                            try clear hcz26_8
                            try clear hcz26_9
                            try clear hcz29_0
                            try clear hcz29_1
                            try clear hcz29_10
                            try clear hcz29_2
                            try clear hcz29_3
                            try clear hcz29_4
                            try clear hcz29_5
                            try clear hcz29_6
                            try clear hcz29_7
                            try clear hcz29_8
                            try clear hcz29_9
                            try clear hcz31_0
                            try clear hcz31_1
                            try clear hcz31_10
                            try clear hcz31_2
                            try clear hcz31_3
                            try clear hcz31_4
                            try clear hcz31_5
                            try clear hcz31_6
                            try clear hcz31_7
                            try clear hcz31_8
                            try clear hcz31_9
                            try clear hcz34_0
                            try clear hcz34_1
                            try clear hcz34_10
                            try clear hcz34_2
                            try clear hcz34_3
                            try clear hcz34_4
                            try clear hcz34_5
                            try clear hcz34_6
                            try clear hcz34_7
                            try clear hcz34_8
                            try clear hcz34_9
                            try clear hcz35_0
                            try clear hcz35_1
                            try clear hcz35_10
                            try clear hcz35_2
                            try clear hcz35_3
                            try clear hcz35_4
                            try clear hcz35_5
                            try clear hcz35_6
                            try clear hcz35_7
                            try clear hcz35_8
                            try clear hcz35_9
                            try clear hfz18_0
                            try clear hfz18_1
                            try clear hfz18_10
                            try clear hfz18_2
                            try clear hfz18_3
                            try clear hfz18_4
                            try clear hfz18_5
                            try clear hfz18_6
                            try clear hfz18_7
                            try clear hfz18_8
                            try clear hfz18_9
                            try clear hfz26_0
                            try clear hfz26_1
                            try clear hfz26_10
                            try clear hfz26_2
                            try clear hfz26_3
                            try clear hfz26_4
                            try clear hfz26_5
                            try clear hfz26_6
                            try clear hfz26_7
                            try clear hfz26_8
                            try clear hfz26_9
                            try clear hfz29_0
                            try clear hfz29_1
                            try clear hfz29_10
                            try clear hfz29_2
                            try clear hfz29_3
                            try clear hfz29_4
                            try clear hfz29_5
                            try clear hfz29_6
                            try clear hfz29_7
                            try clear hfz29_8
                            try clear hfz29_9
                            try clear hfz31_0
                            try clear hfz31_1
                            try clear hfz31_10
                            try clear hfz31_2
                            try clear hfz31_3
                            try clear hfz31_4
                            try clear hfz31_5
                            try clear hfz31_6
                            try clear hfz31_7
                            try clear hfz31_8
                            try clear hfz31_9
                            try clear hfz34_0
                            try clear hfz34_1
                            try clear hfz34_10
                            try clear hfz34_2
                            try clear hfz34_3
                            try clear hfz34_4
                            try clear hfz34_5
                            try clear hfz34_6
                            try clear hfz34_7
                            try clear hfz34_8
                            try clear hfz34_9
                            try clear hfz35_0
                            try clear hfz35_1
                            try clear hfz35_10
                            try clear hfz35_2
                            try clear hfz35_3
                            try clear hfz35_4
                            try clear hfz35_5
                            try clear hfz35_6
                            try clear hfz35_7
                            try clear hfz35_8
                            try clear hfz35_9
                            try clear p2
                            obtain ⟨kq, x16_29, rfl, rfl, HA, HJ29, HO_9, HO_10, HO_220006, HO_220007, HO_220009, HO_220010, BK219, HB⟩ := hcut
                            cases kq with
                            | zero => exact absurd HA.out (by simp [tidemarkref12_Undo.j2])
                            | succ kj29 =>
                              have H := HA.out
                              clear HA
                              simp only [tidemarkref12_Undo.j2] at H
                              by_cases c36 : t199 = 2
                              · rw [if_pos c36] at H
                                have c36b0 : (t199 == 2) = true := beq_iff_eq.mpr c36
                                have c36b1 : (t199 != 2) = false := bne_eq_false_iff_eq.mpr c36
                                clear c36
                                by_cases c37 : x9_1.length < 17592186044416
                                · rw [if_pos c37] at H
                                  have LMc37 := Aside0.mk c37
                                  clear c37
                                  obtain ⟨y222, hy222⟩ : ∃ y_ : List Int, y_ = (x9_1 ++ [x11_1]) := ⟨_, rfl⟩
                                  replace H : (if x16_29 < t221 then (some (([] : List Int), 120, y196)) else (if x16_29 ≥ x11_1 then (some (([] : List Int), 120, y196)) else (tidemarkref12_Undo.l0 kj29 l0 a1 y222 y196 x16_29 t221 (t199 == 3)))) = some (r1, r2, r3) := by first | (rw [hy222]; with_reducible exact H) | (have H2_ := (Option.bind_some _ _).symm.trans H; rw [hy222]; with_reducible exact H2_) | (have H2_ := (Option.bind_some _ _).symm.trans H; with_reducible exact H2_) | with_reducible exact H | (rw [hy222]; exact H) | exact H
                                  have Ny222 := Aside0.mk hy222
                                  clear hy222
                                  by_cases c38 : x16_29 < t221
                                  · rw [if_pos c38] at H
                                    have c38b0 : decide (x16_29 < t221) = true := decide_eq_true c38
                                    clear c38
                                    simp only [Option.some.injEq, Prod.mk.injEq] at H
                                    obtain ⟨rfl, rfl, rfl⟩ := H
                                    have hcz39_0 : wc.cell? ⟨gb219, 0, none⟩ = some (.int .i64 t199) := (blk_cell BK219.out 0).trans rfl
                                    have hcz39_1 : wc.cell? ⟨gb219, 1, none⟩ = some (.int .i64 t200) := (blk_cell BK219.out 1).trans rfl
                                    have hcz39_2 : wc.cell? ⟨gb219, 2, none⟩ = some (.int .i64 t201) := (blk_cell BK219.out 2).trans rfl
                                    have hcz39_3 : wc.cell? ⟨gb219, 3, none⟩ = some (.int .i64 t202) := (blk_cell BK219.out 3).trans rfl
                                    have hcz39_4 : wc.cell? ⟨gb219, 4, none⟩ = some (.int .i64 t203) := (blk_cell BK219.out 4).trans rfl
                                    have hcz39_5 : wc.cell? ⟨gb219, 5, none⟩ = some (.int .i64 t204) := (blk_cell BK219.out 5).trans rfl
                                    have hcz39_6 : wc.cell? ⟨gb219, 6, none⟩ = some (.slice Ao19 t205.length co19) := (blk_cell BK219.out 6).trans rfl
                                    have hcz39_7 : wc.cell? ⟨gb219, 7, none⟩ = some (.slice Ao20 t208.length co20) := (blk_cell BK219.out 7).trans rfl
                                    have hcz39_8 : wc.cell? ⟨gb219, 8, none⟩ = some (.int .i64 t211) := (blk_cell BK219.out 8).trans rfl
                                    have hcz39_9 : wc.cell? ⟨gb219, 9, none⟩ = some (.slice Ao21 t212.length co21) := (blk_cell BK219.out 9).trans rfl
                                    have hcz39_10 : wc.cell? ⟨gb219, 10, none⟩ = some (.slice Ao22 t215.length co22) := (blk_cell BK219.out 10).trans rfl
                                    have hfz39_0 := blk_frozen BK219.out 0
                                    have hfz39_1 := blk_frozen BK219.out 1
                                    have hfz39_2 := blk_frozen BK219.out 2
                                    have hfz39_3 := blk_frozen BK219.out 3
                                    have hfz39_4 := blk_frozen BK219.out 4
                                    have hfz39_5 := blk_frozen BK219.out 5
                                    have hfz39_6 := blk_frozen BK219.out 6
                                    have hfz39_7 := blk_frozen BK219.out 7
                                    have hfz39_8 := blk_frozen BK219.out 8
                                    have hfz39_9 := blk_frozen BK219.out 9
                                    have hfz39_10 := blk_frozen BK219.out 10
                                    go_wp2_with (first | ((with_reducible refine gate_builtin (b := .append) (xs := #[.tmp 83, .tmp 85]) rfl ?_); at_builtin; refine Kd.R_append (Kd.int .i64) (w0 := w) w.heap.size rfl (.tmp 83) (.tmp 85) 23 3 (.int .i64 0) 8 rfl Try.underlying23 info3 rfl (by decide) (by omega) u9 x9_1 x11_1 [.int .i64 x11_1] (fun k_ => some k_ ≠ (.slice Ao23 y196.length co23 : Value).ownBlock) (fun _ => False) rfl rfl ?aP (fun _ hk => hk.elim) ?aF ?aO ?aB ?aS ?aL ?_; (case aP => exact rfl); (case aB => exact (by repeat (first | (with_reducible first | exact HB.out | apply below_alloc | apply pw_below_drewN | apply below_drew1 | refine below_set ?_ GE219.out) | exact HB.out))); (case aF => exact (fun k_ hk => Kd.fresh' (Kd.R_lt (by (with_reducible repeat (first | apply Kd.R_alloc | apply Kd.R_drewN | apply Kd.R_drew)); exact HO_10.out)) k_ hk)); (case aO => exact (by (with_reducible repeat (first | apply Kd.R_alloc | apply Kd.R_drewN | apply Kd.R_drew)); exact HO_9.out)); (case aS => exact (below_size (by repeat (first | (with_reducible first | exact HB.out | apply below_alloc | apply pw_below_drewN | apply below_drew1 | refine below_set ?_ GE219.out) | exact HB.out)))); (case aL => have := LMc37.out; omega); intro v223 w40 ho hb hg hat; rw [← Ny222.out] at ho; have n0_ := Aside0.mk (Kd.R_after (ok := (fun _ => True)) (by (with_reducible repeat (first | apply Kd.R_alloc | apply Kd.R_drewN | apply Kd.R_drew)); exact Kd.R_mono HO_10.out (fun _ hk => ⟨trivial, hk⟩)) hg hat); have n1_ := Aside0.mk (Kd.V_afterv (ok := (fun k_ => some k_ ≠ (.slice Ao23 y196.length co23 : Value).ownBlock ∧ k_ ≠ gb219)) (by (with_reducible repeat (first | apply Kd.V_alloc | apply Kd.V_drewN | apply Kd.V_drew)); exact Kd.V_mono HO_220006.out (fun _ hk => ⟨⟨hk.2.1, hk.2.2⟩, hk.1⟩)) hg hat); have n2_ := Aside0.mk (Kd.V_afterv (ok := (fun k_ => some k_ ≠ (.slice Ao23 y196.length co23 : Value).ownBlock ∧ k_ ≠ gb219)) (by (with_reducible repeat (first | apply Kd.V_alloc | apply Kd.V_drewN | apply Kd.V_drew)); exact Kd.V_mono HO_220007.out (fun _ hk => ⟨⟨hk.2.1, hk.2.2⟩, hk.1⟩)) hg hat); have n3_ := Aside0.mk (Kd.V_afterv (ok := (fun k_ => some k_ ≠ (.slice Ao23 y196.length co23 : Value).ownBlock ∧ k_ ≠ gb219)) (by (with_reducible repeat (first | apply Kd.V_alloc | apply Kd.V_drewN | apply Kd.V_drew)); exact Kd.V_mono HO_220009.out (fun _ hk => ⟨⟨hk.2.1, hk.2.2⟩, hk.1⟩)) hg hat); have n4_ := Aside0.mk (Kd.V_afterv (ok := (fun k_ => some k_ ≠ (.slice Ao23 y196.length co23 : Value).ownBlock ∧ k_ ≠ gb219)) (by (with_reducible repeat (first | apply Kd.V_alloc | apply Kd.V_drewN | apply Kd.V_drew)); exact Kd.V_mono HO_220010.out (fun _ hk => ⟨⟨hk.2.1, hk.2.2⟩, hk.1⟩)) hg hat); have n5_ := Aside0.mk (blk_grown (g := gb219) (o := .cells #[.int .i64 t199, .int .i64 t200, .int .i64 t201, .int .i64 t202, .int .i64 t203, .int .i64 t204, .slice Ao19 t205.length co19, .slice Ao20 t208.length co20, .int .i64 t211, .slice Ao21 t212.length co21, .slice Ao22 t215.length co22] 41 (0, 0)) (by (with_reducible repeat (first | refine blk_drewN ?_ _ | refine blk_drew ?_ | refine blk_alloc ?_ _)); exact BK219.out) hg (Kd.R_ne HO_9.out BK219.out (by decide))); have n6_ := Aside0.mk (hb); have n7_ := Aside0.mk (ho); clear HO_10; clear HO_220006; clear HO_220007; clear HO_220009; clear HO_220010; clear BK219; clear HB; clear HO_9; have HO_10 := n0_; have HO_220006 := n1_; have HO_220007 := n2_; have HO_220009 := n3_; have HO_220010 := n4_; have BK219 := n5_; have HB := n6_; have HO224 := n7_; clear n0_ n1_ n2_ n3_ n4_ n5_ n6_ n7_; clear ho hb hg hat))
                                    go_ret3
                                    exact ⟨_, _, by first | rfl | (simp [errW_none, errW_some] <;> rfl) | (simp [*, errW_none, errW_some] <;> rfl), by first | exact Kd.R_nil _ _ _ _ _ | exact Kd.N_nil _ _ _ _ _ | exact Kd.V_nil _ _ _ _ _ | exact Kd.Q_nil _ _ _ _ _ | exact Kd.S_nil _ _ _ _ _, by (with_reducible repeat (first | apply Kd.R_alloc | apply Kd.R_drewN | apply Kd.R_drew)); exact Kd.R_mono HO_10.out (fun _ hk => (by simp [Value.ownBlock])), by repeat (first | (with_reducible first | exact HB.out | apply below_alloc | apply pw_below_drewN | apply below_drew1 | refine below_set ?_ GE219.out) | exact HB.out)⟩
                                  · rw [if_neg c38] at H
                                    have c38b0 : decide (x16_29 < t221) = false := decide_eq_false c38
                                    clear c38
                                    by_cases c41 : x16_29 ≥ x11_1
                                    · rw [if_pos c41] at H
                                      have c41b0 : decide (x11_1 ≤ x16_29) = true := decide_eq_true c41
                                      clear c41
                                      simp only [Option.some.injEq, Prod.mk.injEq] at H
                                      obtain ⟨rfl, rfl, rfl⟩ := H
                                      have hcz42_0 : wc.cell? ⟨gb219, 0, none⟩ = some (.int .i64 t199) := (blk_cell BK219.out 0).trans rfl
                                      have hcz42_1 : wc.cell? ⟨gb219, 1, none⟩ = some (.int .i64 t200) := (blk_cell BK219.out 1).trans rfl
                                      have hcz42_2 : wc.cell? ⟨gb219, 2, none⟩ = some (.int .i64 t201) := (blk_cell BK219.out 2).trans rfl
                                      have hcz42_3 : wc.cell? ⟨gb219, 3, none⟩ = some (.int .i64 t202) := (blk_cell BK219.out 3).trans rfl
                                      have hcz42_4 : wc.cell? ⟨gb219, 4, none⟩ = some (.int .i64 t203) := (blk_cell BK219.out 4).trans rfl
                                      have hcz42_5 : wc.cell? ⟨gb219, 5, none⟩ = some (.int .i64 t204) := (blk_cell BK219.out 5).trans rfl
                                      have hcz42_6 : wc.cell? ⟨gb219, 6, none⟩ = some (.slice Ao19 t205.length co19) := (blk_cell BK219.out 6).trans rfl
                                      have hcz42_7 : wc.cell? ⟨gb219, 7, none⟩ = some (.slice Ao20 t208.length co20) := (blk_cell BK219.out 7).trans rfl
                                      have hcz42_8 : wc.cell? ⟨gb219, 8, none⟩ = some (.int .i64 t211) := (blk_cell BK219.out 8).trans rfl
                                      have hcz42_9 : wc.cell? ⟨gb219, 9, none⟩ = some (.slice Ao21 t212.length co21) := (blk_cell BK219.out 9).trans rfl
                                      have hcz42_10 : wc.cell? ⟨gb219, 10, none⟩ = some (.slice Ao22 t215.length co22) := (blk_cell BK219.out 10).trans rfl
                                      have hfz42_0 := blk_frozen BK219.out 0
                                      have hfz42_1 := blk_frozen BK219.out 1
                                      have hfz42_2 := blk_frozen BK219.out 2
                                      have hfz42_3 := blk_frozen BK219.out 3
                                      have hfz42_4 := blk_frozen BK219.out 4
                                      have hfz42_5 := blk_frozen BK219.out 5
                                      have hfz42_6 := blk_frozen BK219.out 6
                                      have hfz42_7 := blk_frozen BK219.out 7
                                      have hfz42_8 := blk_frozen BK219.out 8
                                      have hfz42_9 := blk_frozen BK219.out 9
                                      have hfz42_10 := blk_frozen BK219.out 10
                                      go_wp2_with (first | ((with_reducible refine gate_builtin (b := .append) (xs := #[.tmp 83, .tmp 85]) rfl ?_); at_builtin; refine Kd.R_append (Kd.int .i64) (w0 := w) w.heap.size rfl (.tmp 83) (.tmp 85) 23 3 (.int .i64 0) 8 rfl Try.underlying23 info3 rfl (by decide) (by omega) u9 x9_1 x11_1 [.int .i64 x11_1] (fun k_ => some k_ ≠ (.slice Ao23 y196.length co23 : Value).ownBlock) (fun _ => False) rfl rfl ?aP (fun _ hk => hk.elim) ?aF ?aO ?aB ?aS ?aL ?_; (case aP => exact rfl); (case aB => exact (by repeat (first | (with_reducible first | exact HB.out | apply below_alloc | apply pw_below_drewN | apply below_drew1 | refine below_set ?_ GE219.out) | exact HB.out))); (case aF => exact (fun k_ hk => Kd.fresh' (Kd.R_lt (by (with_reducible repeat (first | apply Kd.R_alloc | apply Kd.R_drewN | apply Kd.R_drew)); exact HO_10.out)) k_ hk)); (case aO => exact (by (with_reducible repeat (first | apply Kd.R_alloc | apply Kd.R_drewN | apply Kd.R_drew)); exact HO_9.out)); (case aS => exact (below_size (by repeat (first | (with_reducible first | exact HB.out | apply below_alloc | apply pw_below_drewN | apply below_drew1 | refine below_set ?_ GE219.out) | exact HB.out)))); (case aL => have := LMc37.out; omega); intro v223 w43 ho hb hg hat; rw [← Ny222.out] at ho; have n0_ := Aside0.mk (Kd.R_after (ok := (fun _ => True)) (by (with_reducible repeat (first | apply Kd.R_alloc | apply Kd.R_drewN | apply Kd.R_drew)); exact Kd.R_mono HO_10.out (fun _ hk => ⟨trivial, hk⟩)) hg hat); have n1_ := Aside0.mk (Kd.V_afterv (ok := (fun k_ => some k_ ≠ (.slice Ao23 y196.length co23 : Value).ownBlock ∧ k_ ≠ gb219)) (by (with_reducible repeat (first | apply Kd.V_alloc | apply Kd.V_drewN | apply Kd.V_drew)); exact Kd.V_mono HO_220006.out (fun _ hk => ⟨⟨hk.2.1, hk.2.2⟩, hk.1⟩)) hg hat); have n2_ := Aside0.mk (Kd.V_afterv (ok := (fun k_ => some k_ ≠ (.slice Ao23 y196.length co23 : Value).ownBlock ∧ k_ ≠ gb219)) (by (with_reducible repeat (first | apply Kd.V_alloc | apply Kd.V_drewN | apply Kd.V_drew)); exact Kd.V_mono HO_220007.out (fun _ hk => ⟨⟨hk.2.1, hk.2.2⟩, hk.1⟩)) hg hat); have n3_ := Aside0.mk (Kd.V_afterv (ok := (fun k_ => some k_ ≠ (.slice Ao23 y196.length co23 : Value).ownBlock ∧ k_ ≠ gb219)) (by (with_reducible repeat (first | apply Kd.V_alloc | apply Kd.V_drewN | apply Kd.V_drew)); exact Kd.V_mono HO_220009.out (fun _ hk => ⟨⟨hk.2.1, hk.2.2⟩, hk.1⟩)) hg hat); have n4_ := Aside0.mk (Kd.V_afterv (ok := (fun k_ => some k_ ≠ (.slice Ao23 y196.length co23 : Value).ownBlock ∧ k_ ≠ gb219)) (by (with_reducible repeat (first | apply Kd.V_alloc | apply Kd.V_drewN | apply Kd.V_drew)); exact Kd.V_mono HO_220010.out (fun _ hk => ⟨⟨hk.2.1, hk.2.2⟩, hk.1⟩)) hg hat); have n5_ := Aside0.mk (blk_grown (g := gb219) (o := .cells #[.int .i64 t199, .int .i64 t200, .int .i64 t201, .int .i64 t202, .int .i64 t203, .int .i64 t204, .slice Ao19 t205.length co19, .slice Ao20 t208.length co20, .int .i64 t211, .slice Ao21 t212.length co21, .slice Ao22 t215.length co22] 41 (0, 0)) (by (with_reducible repeat (first | refine blk_drewN ?_ _ | refine blk_drew ?_ | refine blk_alloc ?_ _)); exact BK219.out) hg (Kd.R_ne HO_9.out BK219.out (by decide))); have n6_ := Aside0.mk (hb); have n7_ := Aside0.mk (ho); clear HO_10; clear HO_220006; clear HO_220007; clear HO_220009; clear HO_220010; clear BK219; clear HB; clear HO_9; have HO_10 := n0_; have HO_220006 := n1_; have HO_220007 := n2_; have HO_220009 := n3_; have HO_220010 := n4_; have BK219 := n5_; have HB := n6_; have HO224 := n7_; clear n0_ n1_ n2_ n3_ n4_ n5_ n6_ n7_; clear ho hb hg hat))
                                      go_ret3
                                      exact ⟨_, _, by first | rfl | (simp [errW_none, errW_some] <;> rfl) | (simp [*, errW_none, errW_some] <;> rfl), by first | exact Kd.R_nil _ _ _ _ _ | exact Kd.N_nil _ _ _ _ _ | exact Kd.V_nil _ _ _ _ _ | exact Kd.Q_nil _ _ _ _ _ | exact Kd.S_nil _ _ _ _ _, by (with_reducible repeat (first | apply Kd.R_alloc | apply Kd.R_drewN | apply Kd.R_drew)); exact Kd.R_mono HO_10.out (fun _ hk => (by simp [Value.ownBlock])), by repeat (first | (with_reducible first | exact HB.out | apply below_alloc | apply pw_below_drewN | apply below_drew1 | refine below_set ?_ GE219.out) | exact HB.out)⟩
                                    · rw [if_neg c41] at H
                                      have c41b0 : decide (x11_1 ≤ x16_29) = false := decide_eq_false c41
                                      clear c41
                                      have H' := Aside0.mk H
                                      clear H
                                      have hcz44_0 : wc.cell? ⟨gb219, 0, none⟩ = some (.int .i64 t199) := (blk_cell BK219.out 0).trans rfl
                                      have hcz44_1 : wc.cell? ⟨gb219, 1, none⟩ = some (.int .i64 t200) := (blk_cell BK219.out 1).trans rfl
                                      have hcz44_2 : wc.cell? ⟨gb219, 2, none⟩ = some (.int .i64 t201) := (blk_cell BK219.out 2).trans rfl
                                      have hcz44_3 : wc.cell? ⟨gb219, 3, none⟩ = some (.int .i64 t202) := (blk_cell BK219.out 3).trans rfl
                                      have hcz44_4 : wc.cell? ⟨gb219, 4, none⟩ = some (.int .i64 t203) := (blk_cell BK219.out 4).trans rfl
                                      have hcz44_5 : wc.cell? ⟨gb219, 5, none⟩ = some (.int .i64 t204) := (blk_cell BK219.out 5).trans rfl
                                      have hcz44_6 : wc.cell? ⟨gb219, 6, none⟩ = some (.slice Ao19 t205.length co19) := (blk_cell BK219.out 6).trans rfl
                                      have hcz44_7 : wc.cell? ⟨gb219, 7, none⟩ = some (.slice Ao20 t208.length co20) := (blk_cell BK219.out 7).trans rfl
                                      have hcz44_8 : wc.cell? ⟨gb219, 8, none⟩ = some (.int .i64 t211) := (blk_cell BK219.out 8).trans rfl
                                      have hcz44_9 : wc.cell? ⟨gb219, 9, none⟩ = some (.slice Ao21 t212.length co21) := (blk_cell BK219.out 9).trans rfl
                                      have hcz44_10 : wc.cell? ⟨gb219, 10, none⟩ = some (.slice Ao22 t215.length co22) := (blk_cell BK219.out 10).trans rfl
                                      have hfz44_0 := blk_frozen BK219.out 0
                                      have hfz44_1 := blk_frozen BK219.out 1
                                      have hfz44_2 := blk_frozen BK219.out 2
                                      have hfz44_3 := blk_frozen BK219.out 3
                                      have hfz44_4 := blk_frozen BK219.out 4
                                      have hfz44_5 := blk_frozen BK219.out 5
                                      have hfz44_6 := blk_frozen BK219.out 6
                                      have hfz44_7 := blk_frozen BK219.out 7
                                      have hfz44_8 := blk_frozen BK219.out 8
                                      have hfz44_9 := blk_frozen BK219.out 9
                                      have hfz44_10 := blk_frozen BK219.out 10
                                      go_wp2_with (first | ((with_reducible refine gate_builtin (b := .append) (xs := #[.tmp 83, .tmp 85]) rfl ?_); at_builtin; refine Kd.R_append (Kd.int .i64) (w0 := w) w.heap.size rfl (.tmp 83) (.tmp 85) 23 3 (.int .i64 0) 8 rfl Try.underlying23 info3 rfl (by decide) (by omega) u9 x9_1 x11_1 [.int .i64 x11_1] (fun k_ => some k_ ≠ (.slice Ao23 y196.length co23 : Value).ownBlock) (fun _ => False) rfl rfl ?aP (fun _ hk => hk.elim) ?aF ?aO ?aB ?aS ?aL ?_; (case aP => exact rfl); (case aB => exact (by repeat (first | (with_reducible first | exact HB.out | apply below_alloc | apply pw_below_drewN | apply below_drew1 | refine below_set ?_ GE219.out) | exact HB.out))); (case aF => exact (fun k_ hk => Kd.fresh' (Kd.R_lt (by (with_reducible repeat (first | apply Kd.R_alloc | apply Kd.R_drewN | apply Kd.R_drew)); exact HO_10.out)) k_ hk)); (case aO => exact (by (with_reducible repeat (first | apply Kd.R_alloc | apply Kd.R_drewN | apply Kd.R_drew)); exact HO_9.out)); (case aS => exact (below_size (by repeat (first | (with_reducible first | exact HB.out | apply below_alloc | apply pw_below_drewN | apply below_drew1 | refine below_set ?_ GE219.out) | exact HB.out)))); (case aL => have := LMc37.out; omega); intro v223 w45 ho hb hg hat; rw [← Ny222.out] at ho; have n0_ := Aside0.mk (Kd.R_after (ok := (fun _ => True)) (by (with_reducible repeat (first | apply Kd.R_alloc | apply Kd.R_drewN | apply Kd.R_drew)); exact Kd.R_mono HO_10.out (fun _ hk => ⟨trivial, hk⟩)) hg hat); have n1_ := Aside0.mk (Kd.V_afterv (ok := (fun k_ => some k_ ≠ (.slice Ao23 y196.length co23 : Value).ownBlock ∧ k_ ≠ gb219)) (by (with_reducible repeat (first | apply Kd.V_alloc | apply Kd.V_drewN | apply Kd.V_drew)); exact Kd.V_mono HO_220006.out (fun _ hk => ⟨⟨hk.2.1, hk.2.2⟩, hk.1⟩)) hg hat); have n2_ := Aside0.mk (Kd.V_afterv (ok := (fun k_ => some k_ ≠ (.slice Ao23 y196.length co23 : Value).ownBlock ∧ k_ ≠ gb219)) (by (with_reducible repeat (first | apply Kd.V_alloc | apply Kd.V_drewN | apply Kd.V_drew)); exact Kd.V_mono HO_220007.out (fun _ hk => ⟨⟨hk.2.1, hk.2.2⟩, hk.1⟩)) hg hat); have n3_ := Aside0.mk (Kd.V_afterv (ok := (fun k_ => some k_ ≠ (.slice Ao23 y196.length co23 : Value).ownBlock ∧ k_ ≠ gb219)) (by (with_reducible repeat (first | apply Kd.V_alloc | apply Kd.V_drewN | apply Kd.V_drew)); exact Kd.V_mono HO_220009.out (fun _ hk => ⟨⟨hk.2.1, hk.2.2⟩, hk.1⟩)) hg hat); have n4_ := Aside0.mk (Kd.V_afterv (ok := (fun k_ => some k_ ≠ (.slice Ao23 y196.length co23 : Value).ownBlock ∧ k_ ≠ gb219)) (by (with_reducible repeat (first | apply Kd.V_alloc | apply Kd.V_drewN | apply Kd.V_drew)); exact Kd.V_mono HO_220010.out (fun _ hk => ⟨⟨hk.2.1, hk.2.2⟩, hk.1⟩)) hg hat); have n5_ := Aside0.mk (blk_grown (g := gb219) (o := .cells #[.int .i64 t199, .int .i64 t200, .int .i64 t201, .int .i64 t202, .int .i64 t203, .int .i64 t204, .slice Ao19 t205.length co19, .slice Ao20 t208.length co20, .int .i64 t211, .slice Ao21 t212.length co21, .slice Ao22 t215.length co22] 41 (0, 0)) (by (with_reducible repeat (first | refine blk_drewN ?_ _ | refine blk_drew ?_ | refine blk_alloc ?_ _)); exact BK219.out) hg (Kd.R_ne HO_9.out BK219.out (by decide))); have n6_ := Aside0.mk (hb); have n7_ := Aside0.mk (ho); clear HO_10; clear HO_220006; clear HO_220007; clear HO_220009; clear HO_220010; clear BK219; clear HB; clear HO_9; have HO_10 := n0_; have HO_220006 := n1_; have HO_220007 := n2_; have HO_220009 := n3_; have HO_220010 := n4_; have BK219 := n5_; have HB := n6_; have HO224 := n7_; clear n0_ n1_ n2_ n3_ n4_ n5_ n6_ n7_; clear ho hb hg hat))
                                      go_roundg kj29
                                      case measure => have := HK1.out; have := HJ12.out; have := HJ29.out; omega
                                      case rel => exact ⟨(y222), (y196), (x16_29), (t221), ((t199 == 3)), (by first | rfl | (simp; done) | (simp [*]; done)), (by first | rfl | (simp; done) | (simp [*]; done)), (by first | rfl | (simp; done) | (simp [*]; done)), H', ⟨by have := HK1.out; have := HJ12.out; have := HJ29.out; omega⟩, ⟨by (with_reducible repeat (first | apply Kd.R_alloc | apply Kd.R_drewN | apply Kd.R_drew)); exact HO224.out⟩, ⟨by (with_reducible repeat (first | apply Kd.R_alloc | apply Kd.R_drewN | apply Kd.R_drew)); exact Kd.R_mono HO_10.out (fun _ hk => hk.2)⟩, ⟨by repeat (first | (with_reducible first | exact HB.out | apply below_alloc | apply pw_below_drewN | apply below_drew1 | refine below_set ?_ GE219.out) | exact HB.out)⟩⟩
                                · rw [if_neg c37] at H
                                  exact absurd H (by simp)
                              · rw [if_neg c36] at H
                                have c36b0 : (t199 == 2) = false := beq_eq_false_iff_ne.mpr c36
                                have c36b1 : (t199 != 2) = true := bne_iff_ne.mpr c36
                                by_cases c46 : x16_29 < t221
                                · rw [if_pos c46] at H
                                  have c46b0 : decide (x16_29 < t221) = true := decide_eq_true c46
                                  clear c46
                                  simp only [Option.some.injEq, Prod.mk.injEq] at H
                                  obtain ⟨rfl, rfl, rfl⟩ := H
                                  have hcz47_0 : wc.cell? ⟨gb219, 0, none⟩ = some (.int .i64 t199) := (blk_cell BK219.out 0).trans rfl
                                  have hcz47_1 : wc.cell? ⟨gb219, 1, none⟩ = some (.int .i64 t200) := (blk_cell BK219.out 1).trans rfl
                                  have hcz47_2 : wc.cell? ⟨gb219, 2, none⟩ = some (.int .i64 t201) := (blk_cell BK219.out 2).trans rfl
                                  have hcz47_3 : wc.cell? ⟨gb219, 3, none⟩ = some (.int .i64 t202) := (blk_cell BK219.out 3).trans rfl
                                  have hcz47_4 : wc.cell? ⟨gb219, 4, none⟩ = some (.int .i64 t203) := (blk_cell BK219.out 4).trans rfl
                                  have hcz47_5 : wc.cell? ⟨gb219, 5, none⟩ = some (.int .i64 t204) := (blk_cell BK219.out 5).trans rfl
                                  have hcz47_6 : wc.cell? ⟨gb219, 6, none⟩ = some (.slice Ao19 t205.length co19) := (blk_cell BK219.out 6).trans rfl
                                  have hcz47_7 : wc.cell? ⟨gb219, 7, none⟩ = some (.slice Ao20 t208.length co20) := (blk_cell BK219.out 7).trans rfl
                                  have hcz47_8 : wc.cell? ⟨gb219, 8, none⟩ = some (.int .i64 t211) := (blk_cell BK219.out 8).trans rfl
                                  have hcz47_9 : wc.cell? ⟨gb219, 9, none⟩ = some (.slice Ao21 t212.length co21) := (blk_cell BK219.out 9).trans rfl
                                  have hcz47_10 : wc.cell? ⟨gb219, 10, none⟩ = some (.slice Ao22 t215.length co22) := (blk_cell BK219.out 10).trans rfl
                                  have hfz47_0 := blk_frozen BK219.out 0
                                  have hfz47_1 := blk_frozen BK219.out 1
                                  have hfz47_2 := blk_frozen BK219.out 2
                                  have hfz47_3 := blk_frozen BK219.out 3
                                  have hfz47_4 := blk_frozen BK219.out 4
                                  have hfz47_5 := blk_frozen BK219.out 5
                                  have hfz47_6 := blk_frozen BK219.out 6
                                  have hfz47_7 := blk_frozen BK219.out 7
                                  have hfz47_8 := blk_frozen BK219.out 8
                                  have hfz47_9 := blk_frozen BK219.out 9
                                  have hfz47_10 := blk_frozen BK219.out 10
                                  go_wp2
                                  go_ret3
                                  exact ⟨_, _, by first | rfl | (simp [errW_none, errW_some] <;> rfl) | (simp [*, errW_none, errW_some] <;> rfl), by first | exact Kd.R_nil _ _ _ _ _ | exact Kd.N_nil _ _ _ _ _ | exact Kd.V_nil _ _ _ _ _ | exact Kd.Q_nil _ _ _ _ _ | exact Kd.S_nil _ _ _ _ _, by (with_reducible repeat (first | apply Kd.R_alloc | apply Kd.R_drewN | apply Kd.R_drew)); exact Kd.R_mono HO_10.out (fun _ hk => (by simp [Value.ownBlock])), by repeat (first | (with_reducible first | exact HB.out | apply below_alloc | apply pw_below_drewN | apply below_drew1 | refine below_set ?_ GE219.out) | exact HB.out)⟩
                                · rw [if_neg c46] at H
                                  have c46b0 : decide (x16_29 < t221) = false := decide_eq_false c46
                                  clear c46
                                  by_cases c48 : x16_29 ≥ x11_1
                                  · rw [if_pos c48] at H
                                    have c48b0 : decide (x11_1 ≤ x16_29) = true := decide_eq_true c48
                                    clear c48
                                    simp only [Option.some.injEq, Prod.mk.injEq] at H
                                    obtain ⟨rfl, rfl, rfl⟩ := H
                                    have hcz49_0 : wc.cell? ⟨gb219, 0, none⟩ = some (.int .i64 t199) := (blk_cell BK219.out 0).trans rfl
                                    have hcz49_1 : wc.cell? ⟨gb219, 1, none⟩ = some (.int .i64 t200) := (blk_cell BK219.out 1).trans rfl
                                    have hcz49_2 : wc.cell? ⟨gb219, 2, none⟩ = some (.int .i64 t201) := (blk_cell BK219.out 2).trans rfl
                                    have hcz49_3 : wc.cell? ⟨gb219, 3, none⟩ = some (.int .i64 t202) := (blk_cell BK219.out 3).trans rfl
                                    have hcz49_4 : wc.cell? ⟨gb219, 4, none⟩ = some (.int .i64 t203) := (blk_cell BK219.out 4).trans rfl
                                    have hcz49_5 : wc.cell? ⟨gb219, 5, none⟩ = some (.int .i64 t204) := (blk_cell BK219.out 5).trans rfl
                                    have hcz49_6 : wc.cell? ⟨gb219, 6, none⟩ = some (.slice Ao19 t205.length co19) := (blk_cell BK219.out 6).trans rfl
                                    have hcz49_7 : wc.cell? ⟨gb219, 7, none⟩ = some (.slice Ao20 t208.length co20) := (blk_cell BK219.out 7).trans rfl
                                    have hcz49_8 : wc.cell? ⟨gb219, 8, none⟩ = some (.int .i64 t211) := (blk_cell BK219.out 8).trans rfl
                                    have hcz49_9 : wc.cell? ⟨gb219, 9, none⟩ = some (.slice Ao21 t212.length co21) := (blk_cell BK219.out 9).trans rfl
                                    have hcz49_10 : wc.cell? ⟨gb219, 10, none⟩ = some (.slice Ao22 t215.length co22) := (blk_cell BK219.out 10).trans rfl
                                    have hfz49_0 := blk_frozen BK219.out 0
                                    have hfz49_1 := blk_frozen BK219.out 1
                                    have hfz49_2 := blk_frozen BK219.out 2
                                    have hfz49_3 := blk_frozen BK219.out 3
                                    have hfz49_4 := blk_frozen BK219.out 4
                                    have hfz49_5 := blk_frozen BK219.out 5
                                    have hfz49_6 := blk_frozen BK219.out 6
                                    have hfz49_7 := blk_frozen BK219.out 7
                                    have hfz49_8 := blk_frozen BK219.out 8
                                    have hfz49_9 := blk_frozen BK219.out 9
                                    have hfz49_10 := blk_frozen BK219.out 10
                                    go_wp2
                                    go_ret3
                                    exact ⟨_, _, by first | rfl | (simp [errW_none, errW_some] <;> rfl) | (simp [*, errW_none, errW_some] <;> rfl), by first | exact Kd.R_nil _ _ _ _ _ | exact Kd.N_nil _ _ _ _ _ | exact Kd.V_nil _ _ _ _ _ | exact Kd.Q_nil _ _ _ _ _ | exact Kd.S_nil _ _ _ _ _, by (with_reducible repeat (first | apply Kd.R_alloc | apply Kd.R_drewN | apply Kd.R_drew)); exact Kd.R_mono HO_10.out (fun _ hk => (by simp [Value.ownBlock])), by repeat (first | (with_reducible first | exact HB.out | apply below_alloc | apply pw_below_drewN | apply below_drew1 | refine below_set ?_ GE219.out) | exact HB.out)⟩
                                  · rw [if_neg c48] at H
                                    have c48b0 : decide (x11_1 ≤ x16_29) = false := decide_eq_false c48
                                    clear c48
                                    have H' := Aside0.mk H
                                    clear H
                                    have hcz50_0 : wc.cell? ⟨gb219, 0, none⟩ = some (.int .i64 t199) := (blk_cell BK219.out 0).trans rfl
                                    have hcz50_1 : wc.cell? ⟨gb219, 1, none⟩ = some (.int .i64 t200) := (blk_cell BK219.out 1).trans rfl
                                    have hcz50_2 : wc.cell? ⟨gb219, 2, none⟩ = some (.int .i64 t201) := (blk_cell BK219.out 2).trans rfl
                                    have hcz50_3 : wc.cell? ⟨gb219, 3, none⟩ = some (.int .i64 t202) := (blk_cell BK219.out 3).trans rfl
                                    have hcz50_4 : wc.cell? ⟨gb219, 4, none⟩ = some (.int .i64 t203) := (blk_cell BK219.out 4).trans rfl
                                    have hcz50_5 : wc.cell? ⟨gb219, 5, none⟩ = some (.int .i64 t204) := (blk_cell BK219.out 5).trans rfl
                                    have hcz50_6 : wc.cell? ⟨gb219, 6, none⟩ = some (.slice Ao19 t205.length co19) := (blk_cell BK219.out 6).trans rfl
                                    have hcz50_7 : wc.cell? ⟨gb219, 7, none⟩ = some (.slice Ao20 t208.length co20) := (blk_cell BK219.out 7).trans rfl
                                    have hcz50_8 : wc.cell? ⟨gb219, 8, none⟩ = some (.int .i64 t211) := (blk_cell BK219.out 8).trans rfl
                                    have hcz50_9 : wc.cell? ⟨gb219, 9, none⟩ = some (.slice Ao21 t212.length co21) := (blk_cell BK219.out 9).trans rfl
                                    have hcz50_10 : wc.cell? ⟨gb219, 10, none⟩ = some (.slice Ao22 t215.length co22) := (blk_cell BK219.out 10).trans rfl
                                    have hfz50_0 := blk_frozen BK219.out 0
                                    have hfz50_1 := blk_frozen BK219.out 1
                                    have hfz50_2 := blk_frozen BK219.out 2
                                    have hfz50_3 := blk_frozen BK219.out 3
                                    have hfz50_4 := blk_frozen BK219.out 4
                                    have hfz50_5 := blk_frozen BK219.out 5
                                    have hfz50_6 := blk_frozen BK219.out 6
                                    have hfz50_7 := blk_frozen BK219.out 7
                                    have hfz50_8 := blk_frozen BK219.out 8
                                    have hfz50_9 := blk_frozen BK219.out 9
                                    have hfz50_10 := blk_frozen BK219.out 10
                                    go_wp2
                                    go_roundg kj29
                                    case measure => have := HK1.out; have := HJ12.out; have := HJ29.out; omega
                                    case rel => exact ⟨(x9_1), (y196), (x16_29), (t221), ((t199 == 3)), (by first | rfl | (simp; done) | (simp [*]; done)), (by first | rfl | (simp; done) | (simp [*]; done)), (by first | rfl | (simp; done) | (simp [*]; done)), H', ⟨by have := HK1.out; have := HJ12.out; have := HJ29.out; omega⟩, ⟨by (with_reducible repeat (first | apply Kd.R_alloc | apply Kd.R_drewN | apply Kd.R_drew)); exact HO_9.out⟩, ⟨by (with_reducible repeat (first | apply Kd.R_alloc | apply Kd.R_drewN | apply Kd.R_drew)); exact HO_10.out⟩, ⟨by repeat (first | (with_reducible first | exact HB.out | apply below_alloc | apply pw_below_drewN | apply below_drew1 | refine below_set ?_ GE219.out) | exact HB.out)⟩⟩
                · rw [if_neg c12] at H
                  have c12b0 : (t220 == 0) = false := beq_eq_false_iff_ne.mpr c12
                  have c12b1 : (t220 != 0) = true := bne_iff_ne.mpr c12
                  simp only [Option.some.injEq, Prod.mk.injEq] at H
                  obtain ⟨rfl, rfl, rfl⟩ := H
                  obtain ⟨Ao51, co51, eo51⟩ := Kd.R_slice HO_10.out
                  subst eo51
                  go_wp2_with (first | ((with_reducible refine gate_builtin (b := .append) (xs := #[.tmp 27, .tmp 29]) rfl ?_); at_builtin; refine Kd.R_append (Kd.int .i64) (w0 := w) w.heap.size rfl (.tmp 27) (.tmp 29) 23 3 (.int .i64 0) 8 rfl Try.underlying23 info3 rfl (by decide) (by omega) (.slice Ao51 x10_1.length co51) x10_1 x11_1 [.int .i64 x11_1] (fun k_ => some k_ ≠ (u9 : Value).ownBlock) (fun _ => False) rfl rfl ?aP (fun _ hk => hk.elim) ?aF ?aO ?aB ?aS ?aL ?_; (case aP => exact rfl); (case aB => exact (by repeat (first | (with_reducible first | exact HB.out | apply below_alloc | apply pw_below_drewN | apply below_drew1) | exact HB.out))); (case aF => exact (fun k_ hk => Kd.fresh' (Kd.R_lt (by (with_reducible repeat (first | apply Kd.R_alloc | apply Kd.R_drewN | apply Kd.R_drew)); exact HO_9.out)) k_ hk)); (case aO => exact (by (with_reducible repeat (first | apply Kd.R_alloc | apply Kd.R_drewN | apply Kd.R_drew)); exact HO_10.out)); (case aS => exact (below_size (by repeat (first | (with_reducible first | exact HB.out | apply below_alloc | apply pw_below_drewN | apply below_drew1) | exact HB.out)))); (case aL => have := LMc8.out; omega); intro v197 w52 ho hb hg hat; rw [← Ny196.out] at ho; have n0_ := Aside0.mk (Kd.R_after (ok := (fun _ => True)) (by (with_reducible repeat (first | apply Kd.R_alloc | apply Kd.R_drewN | apply Kd.R_drew)); exact Kd.R_mono HO_9.out (fun _ hk => ⟨trivial, hk⟩)) hg hat); have n1_ := Aside0.mk (hb); have n2_ := Aside0.mk (ho); clear HO_9; clear HB; clear HO_10; have HO_9 := n0_; have HB := n1_; have HO198 := n2_; clear n0_ n1_ n2_; clear ho hb hg hat) | ((with_reducible refine gate_callee (f := 18) rfl ?_); refine goesL_ (some 35) rfl rfl Try.func18 (by kernel_rfl) rfl #[.slice A0 l0.length c0, .int .i64 x11_1, .bool a1] rfl (by (try simp only [List.map_toArray, List.map_cons, List.map_nil]); first | done | rfl | (simp only [List.length_drop, List.length_take]; rfl)) ?_; (with_reducible refine (tidemarkref12_Read.calls k1 (fun k_ => k_ < w.heap.size) _ _ l0 x11_1 a1 t199 t200 t201 t202 t203 t204 t205 t208 t211 t212 t215 t218 _ ?side1 A9.out).mono ?_); (case side1 => exact Kd.V_mk HC0.out (Kd.F_below (Kd.C_F k43_heap HR0.out) (by repeat (first | (with_reducible first | exact HB.out | apply below_alloc | apply pw_below_drewN | apply below_drew1) | exact HB.out)))); rintro e w53 ⟨v206, v209, v213, v216, rfl, ho0, ho1, ho2, ho3, hb⟩; refine ⟨_, rfl, ?_⟩; have n0_ := Aside0.mk (Kd.R_below (by (with_reducible repeat (first | apply Kd.R_alloc | apply Kd.R_drewN | apply Kd.R_drew)); exact HO_9.out) hb); have n1_ := Aside0.mk (Kd.R_below (by (with_reducible repeat (first | apply Kd.R_alloc | apply Kd.R_drewN | apply Kd.R_drew)); exact HO198.out) hb); have n2_ := Aside0.mk (Kd.V_lower (Kd.V_mono (ok' := fun k_ => some k_ ≠ (u9 : Value).ownBlock ∧ some k_ ≠ (v197 : Value).ownBlock) ho0 (fun k_ hk_ => ⟨Or.elim hk_ (fun hs_ => fun e_ => Nat.not_le.2 hs_ (Kd.R_base HO_9.out k_ e_.symm)) (fun hn_ => (Kd.fresh' (Kd.R_lt (by (with_reducible repeat (first | apply Kd.R_alloc | apply Kd.R_drewN | apply Kd.R_drew)); exact HO_9.out)) k_ hn_)), Or.elim hk_ (fun hs_ => fun e_ => Nat.not_le.2 hs_ (Kd.R_base HO198.out k_ e_.symm)) (fun hn_ => (Kd.fresh' (Kd.R_lt (by (with_reducible repeat (first | apply Kd.R_alloc | apply Kd.R_drewN | apply Kd.R_drew)); exact HO198.out)) k_ hn_))⟩)) (below_size (by repeat (first | (with_reducible first | exact HB.out | apply below_alloc | apply pw_below_drewN | apply below_drew1) | exact HB.out)))); have n3_ := Aside0.mk (Kd.V_lower (Kd.V_mono (ok' := fun k_ => some k_ ≠ (u9 : Value).ownBlock ∧ some k_ ≠ (v197 : Value).ownBlock) ho1 (fun k_ hk_ => ⟨Or.elim hk_ (fun hs_ => fun e_ => Nat.not_le.2 hs_ (Kd.R_base HO_9.out k_ e_.symm)) (fun hn_ => (Kd.fresh' (Kd.R_lt (by (with_reducible repeat (first | apply Kd.R_alloc | apply Kd.R_drewN | apply Kd.R_drew)); exact HO_9.out)) k_ hn_)), Or.elim hk_ (fun hs_ => fun e_ => Nat.not_le.2 hs_ (Kd.R_base HO198.out k_ e_.symm)) (fun hn_ => (Kd.fresh' (Kd.R_lt (by (with_reducible repeat (first | apply Kd.R_alloc | apply Kd.R_drewN | apply Kd.R_drew)); exact HO198.out)) k_ hn_))⟩)) (below_size (by repeat (first | (with_reducible first | exact HB.out | apply below_alloc | apply pw_below_drewN | apply below_drew1) | exact HB.out)))); have n4_ := Aside0.mk (Kd.V_lower (Kd.V_mono (ok' := fun k_ => some k_ ≠ (u9 : Value).ownBlock ∧ some k_ ≠ (v197 : Value).ownBlock) ho2 (fun k_ hk_ => ⟨Or.elim hk_ (fun hs_ => fun e_ => Nat.not_le.2 hs_ (Kd.R_base HO_9.out k_ e_.symm)) (fun hn_ => (Kd.fresh' (Kd.R_lt (by (with_reducible repeat (first | apply Kd.R_alloc | apply Kd.R_drewN | apply Kd.R_drew)); exact HO_9.out)) k_ hn_)), Or.elim hk_ (fun hs_ => fun e_ => Nat.not_le.2 hs_ (Kd.R_base HO198.out k_ e_.symm)) (fun hn_ => (Kd.fresh' (Kd.R_lt (by (with_reducible repeat (first | apply Kd.R_alloc | apply Kd.R_drewN | apply Kd.R_drew)); exact HO198.out)) k_ hn_))⟩)) (below_size (by repeat (first | (with_reducible first | exact HB.out | apply below_alloc | apply pw_below_drewN | apply below_drew1) | exact HB.out)))); have n5_ := Aside0.mk (Kd.V_lower (Kd.V_mono (ok' := fun k_ => some k_ ≠ (u9 : Value).ownBlock ∧ some k_ ≠ (v197 : Value).ownBlock) ho3 (fun k_ hk_ => ⟨Or.elim hk_ (fun hs_ => fun e_ => Nat.not_le.2 hs_ (Kd.R_base HO_9.out k_ e_.symm)) (fun hn_ => (Kd.fresh' (Kd.R_lt (by (with_reducible repeat (first | apply Kd.R_alloc | apply Kd.R_drewN | apply Kd.R_drew)); exact HO_9.out)) k_ hn_)), Or.elim hk_ (fun hs_ => fun e_ => Nat.not_le.2 hs_ (Kd.R_base HO198.out k_ e_.symm)) (fun hn_ => (Kd.fresh' (Kd.R_lt (by (with_reducible repeat (first | apply Kd.R_alloc | apply Kd.R_drewN | apply Kd.R_drew)); exact HO198.out)) k_ hn_))⟩)) (below_size (by repeat (first | (with_reducible first | exact HB.out | apply below_alloc | apply pw_below_drewN | apply below_drew1) | exact HB.out)))); have n6_ := Aside0.mk (below_step (by repeat (first | (with_reducible first | exact HB.out | apply below_alloc | apply pw_below_drewN | apply below_drew1) | exact HB.out)) hb); clear HO_9; clear HO198; clear HB; have HO_9 := n0_; have HO198 := n1_; have HO207 := n2_; have HO210 := n3_; have HO214 := n4_; have HO217 := n5_; have HB := n6_; clear n0_ n1_ n2_ n3_ n4_ n5_ n6_; (try clear hb); (try clear hb2); (try clear hk); (try clear hi); (try clear ho0); (try clear ho1); (try clear ho2); (try clear ho3)) | ((with_reducible refine gate_dst (N := 14) rfl ?_); refine box_event ?hg (N := 14) ?hd (cs := #[.int .i64 0, .int .i64 0, .int .i64 0, .int .i64 0, .int .i64 0, .int .i64 0, .slice none 0 0, .slice none 0 0, .int .i64 0, .slice none 0 0, .slice none 0 0]) (t := 41) ?hr ?_; (case hd => rfl); (case hg => rfl); (case hr => first | (go_simp; done) | (go_simp; rfl)); intro gb219 hg w54 hbox hb; have n0_ := Aside0.mk (Kd.R_below (by (with_reducible repeat (first | apply Kd.R_alloc | apply Kd.R_drewN | apply Kd.R_drew)); exact HO_9.out) hb); have n1_ := Aside0.mk (Kd.R_below (by (with_reducible repeat (first | apply Kd.R_alloc | apply Kd.R_drewN | apply Kd.R_drew)); exact HO198.out) hb); have n2_ := Aside0.mk (Kd.V_below (Kd.V_elderB (by (with_reducible repeat (first | apply Kd.V_alloc | apply Kd.V_drewN | apply Kd.V_drew)); exact HO207.out) gb219 (Nat.le_of_eq hg.symm)) hb); have n3_ := Aside0.mk (Kd.V_below (Kd.V_elderB (by (with_reducible repeat (first | apply Kd.V_alloc | apply Kd.V_drewN | apply Kd.V_drew)); exact HO210.out) gb219 (Nat.le_of_eq hg.symm)) hb); have n4_ := Aside0.mk (Kd.V_below (Kd.V_elderB (by (with_reducible repeat (first | apply Kd.V_alloc | apply Kd.V_drewN | apply Kd.V_drew)); exact HO214.out) gb219 (Nat.le_of_eq hg.symm)) hb); have n5_ := Aside0.mk (Kd.V_below (Kd.V_elderB (by (with_reducible repeat (first | apply Kd.V_alloc | apply Kd.V_drewN | apply Kd.V_drew)); exact HO217.out) gb219 (Nat.le_of_eq hg.symm)) hb); have n6_ := Aside0.mk (below_step (by repeat (first | (with_reducible first | exact HB.out | apply below_alloc | apply pw_below_drewN | apply below_drew1) | exact HB.out)) hb); have n7_ := Aside0.mk (hbox); have n8_ := Aside0.mk ((by rw [hg]; exact (below_size (by repeat (first | (with_reducible first | exact HB.out | apply below_alloc | apply pw_below_drewN | apply below_drew1) | exact HB.out))) : w.heap.size ≤ gb219)); have n9_ := Aside0.mk ((by rw [hg]; exact (below_size (by repeat (first | (with_reducible first | exact HB.out | apply below_alloc | apply pw_below_drewN | apply below_drew1) | exact HB.out))) : w.heap.size ≤ gb219)); clear HO_9; clear HO198; clear HO207; clear HO210; clear HO214; clear HO217; clear HB; have HO_9 := n0_; have HO198 := n1_; have HO207 := n2_; have HO210 := n3_; have HO214 := n4_; have HO217 := n5_; have HB := n6_; have BK219 := n7_; have GW219 := n8_; have GE219 := n9_; clear n0_ n1_ n2_ n3_ n4_ n5_ n6_ n7_ n8_ n9_; clear hb hbox hg; have hcz55_0 : w54.cell? ⟨gb219, 0, none⟩ = some (.int .i64 0) := (blk_cell BK219.out 0).trans rfl; have hcz55_1 : w54.cell? ⟨gb219, 1, none⟩ = some (.int .i64 0) := (blk_cell BK219.out 1).trans rfl; have hcz55_2 : w54.cell? ⟨gb219, 2, none⟩ = some (.int .i64 0) := (blk_cell BK219.out 2).trans rfl; have hcz55_3 : w54.cell? ⟨gb219, 3, none⟩ = some (.int .i64 0) := (blk_cell BK219.out 3).trans rfl; have hcz55_4 : w54.cell? ⟨gb219, 4, none⟩ = some (.int .i64 0) := (blk_cell BK219.out 4).trans rfl; have hcz55_5 : w54.cell? ⟨gb219, 5, none⟩ = some (.int .i64 0) := (blk_cell BK219.out 5).trans rfl; have hcz55_6 : w54.cell? ⟨gb219, 6, none⟩ = some (.slice none 0 0) := (blk_cell BK219.out 6).trans rfl; have hcz55_7 : w54.cell? ⟨gb219, 7, none⟩ = some (.slice none 0 0) := (blk_cell BK219.out 7).trans rfl; have hcz55_8 : w54.cell? ⟨gb219, 8, none⟩ = some (.int .i64 0) := (blk_cell BK219.out 8).trans rfl; have hcz55_9 : w54.cell? ⟨gb219, 9, none⟩ = some (.slice none 0 0) := (blk_cell BK219.out 9).trans rfl; have hcz55_10 : w54.cell? ⟨gb219, 10, none⟩ = some (.slice none 0 0) := (blk_cell BK219.out 10).trans rfl; have hfz55_0 := blk_frozen BK219.out 0; have hfz55_1 := blk_frozen BK219.out 1; have hfz55_2 := blk_frozen BK219.out 2; have hfz55_3 := blk_frozen BK219.out 3; have hfz55_4 := blk_frozen BK219.out 4; have hfz55_5 := blk_frozen BK219.out 5; have hfz55_6 := blk_frozen BK219.out 6; have hfz55_7 := blk_frozen BK219.out 7; have hfz55_8 := blk_frozen BK219.out 8; have hfz55_9 := blk_frozen BK219.out 9; have hfz55_10 := blk_frozen BK219.out 10; obtain ⟨Ao56, co56, eo56⟩ := Kd.V_slice HO207.out; subst eo56; obtain ⟨Ao57, co57, eo57⟩ := Kd.V_slice HO210.out; subst eo57; obtain ⟨Ao58, co58, eo58⟩ := Kd.V_slice HO214.out; subst eo58; obtain ⟨Ao59, co59, eo59⟩ := Kd.V_slice HO217.out; subst eo59; obtain ⟨Ao60, co60, eo60⟩ := Kd.R_slice HO198.out; subst eo60) | ((with_reducible refine gate_callee (f := 21) rfl ?_); refine goesL_ (some 49) rfl rfl Try.func21 (by kernel_rfl) rfl #[.agg #[.int .i64 t199, .int .i64 t200, .int .i64 t201, .int .i64 t202, .int .i64 t203, .int .i64 t204, .slice Ao56 t205.length co56, .slice Ao57 t208.length co57, .int .i64 t211, .slice Ao58 t212.length co58, .slice Ao59 t215.length co59], .int .i64 x11_1, .int .i64 x12_1, .bool ((y196.length : Int) == 1)] rfl (by (try simp only [List.map_toArray, List.map_cons, List.map_nil]); first | done | rfl | (simp only [List.length_drop, List.length_take]; rfl)) ?_; (with_reducible refine (tidemarkref12_chained.calls k1 t199 t200 t201 t202 t203 t204 _ _ t205 _ _ t208 t211 _ _ t212 _ _ t215 x11_1 x12_1 ((y196.length : Int) == 1) t220 t221 _ ?side1 ?side2 ?side3 ?side4 ?side5 ?side6 ?side7 ?side8 A11.out).mono ?_); (case side1 => refine (Kd.V_reads' (e := 5) (base := w.heap.size) (ok := fun k_ => ((some k_ ≠ (u9 : Value).ownBlock ∧ some k_ ≠ (.slice Ao60 y196.length co60 : Value).ownBlock) ∧ k_ ≠ gb219)) (n := t205.length) (c := co56) ?_).2.2; exact (by (with_reducible repeat (first | apply Kd.V_alloc | apply Kd.V_drewN | apply Kd.V_drew)); exact (Kd.V_mono (Kd.V_far (p := ⟨gb219, 10, none⟩) (Kd.V_far (p := ⟨gb219, 9, none⟩) (Kd.V_far (p := ⟨gb219, 8, none⟩) (Kd.V_far (p := ⟨gb219, 7, none⟩) (Kd.V_far (p := ⟨gb219, 6, none⟩) (Kd.V_far (p := ⟨gb219, 5, none⟩) (Kd.V_far (p := ⟨gb219, 4, none⟩) (Kd.V_far (p := ⟨gb219, 3, none⟩) (Kd.V_far (p := ⟨gb219, 2, none⟩) (Kd.V_far (p := ⟨gb219, 1, none⟩) (Kd.V_far (p := ⟨gb219, 0, none⟩) (Kd.V_mono HO207.out (fun k_ hk => (⟨hk, hk.2⟩ : _ ∧ k_ ≠ gb219))) (fun _ hk => hk.2) (.int .i64 t199)) (fun _ hk => hk.2) (.int .i64 t200)) (fun _ hk => hk.2) (.int .i64 t201)) (fun _ hk => hk.2) (.int .i64 t202)) (fun _ hk => hk.2) (.int .i64 t203)) (fun _ hk => hk.2) (.int .i64 t204)) (fun _ hk => hk.2) (.slice Ao56 t205.length co56)) (fun _ hk => hk.2) (.slice Ao57 t208.length co57)) (fun _ hk => hk.2) (.int .i64 t211)) (fun _ hk => hk.2) (.slice Ao58 t212.length co58)) (fun _ hk => hk.2) (.slice Ao59 t215.length co59)) (fun _ h_ => h_.1)))); (case side2 => exact (Kd.V_reads' HO207.out).2.1); (case side3 => refine (Kd.V_reads' (e := 5) (base := w.heap.size) (ok := fun k_ => ((some k_ ≠ (u9 : Value).ownBlock ∧ some k_ ≠ (.slice Ao60 y196.length co60 : Value).ownBlock) ∧ k_ ≠ gb219)) (n := t208.length) (c := co57) ?_).2.2; exact (by (with_reducible repeat (first | apply Kd.V_alloc | apply Kd.V_drewN | apply Kd.V_drew)); exact (Kd.V_mono (Kd.V_far (p := ⟨gb219, 10, none⟩) (Kd.V_far (p := ⟨gb219, 9, none⟩) (Kd.V_far (p := ⟨gb219, 8, none⟩) (Kd.V_far (p := ⟨gb219, 7, none⟩) (Kd.V_far (p := ⟨gb219, 6, none⟩) (Kd.V_far (p := ⟨gb219, 5, none⟩) (Kd.V_far (p := ⟨gb219, 4, none⟩) (Kd.V_far (p := ⟨gb219, 3, none⟩) (Kd.V_far (p := ⟨gb219, 2, none⟩) (Kd.V_far (p := ⟨gb219, 1, none⟩) (Kd.V_far (p := ⟨gb219, 0, none⟩) (Kd.V_mono HO210.out (fun k_ hk => (⟨hk, hk.2⟩ : _ ∧ k_ ≠ gb219))) (fun _ hk => hk.2) (.int .i64 t199)) (fun _ hk => hk.2) (.int .i64 t200)) (fun _ hk => hk.2) (.int .i64 t201)) (fun _ hk => hk.2) (.int .i64 t202)) (fun _ hk => hk.2) (.int .i64 t203)) (fun _ hk => hk.2) (.int .i64 t204)) (fun _ hk => hk.2) (.slice Ao56 t205.length co56)) (fun _ hk => hk.2) (.slice Ao57 t208.length co57)) (fun _ hk => hk.2) (.int .i64 t211)) (fun _ hk => hk.2) (.slice Ao58 t212.length co58)) (fun _ hk => hk.2) (.slice Ao59 t215.length co59)) (fun _ h_ => h_.1)))); (case side4 => exact (Kd.V_reads' HO210.out).2.1); (case side5 => refine (Kd.V_reads' (e := 82) (base := w.heap.size) (ok := fun k_ => ((some k_ ≠ (u9 : Value).ownBlock ∧ some k_ ≠ (.slice Ao60 y196.length co60 : Value).ownBlock) ∧ k_ ≠ gb219)) (n := t212.length) (c := co58) ?_).2.2; exact (by (with_reducible repeat (first | apply Kd.V_alloc | apply Kd.V_drewN | apply Kd.V_drew)); exact (Kd.V_mono (Kd.V_far (p := ⟨gb219, 10, none⟩) (Kd.V_far (p := ⟨gb219, 9, none⟩) (Kd.V_far (p := ⟨gb219, 8, none⟩) (Kd.V_far (p := ⟨gb219, 7, none⟩) (Kd.V_far (p := ⟨gb219, 6, none⟩) (Kd.V_far (p := ⟨gb219, 5, none⟩) (Kd.V_far (p := ⟨gb219, 4, none⟩) (Kd.V_far (p := ⟨gb219, 3, none⟩) (Kd.V_far (p := ⟨gb219, 2, none⟩) (Kd.V_far (p := ⟨gb219, 1, none⟩) (Kd.V_far (p := ⟨gb219, 0, none⟩) (Kd.V_mono HO214.out (fun k_ hk => (⟨hk, hk.2⟩ : _ ∧ k_ ≠ gb219))) (fun _ hk => hk.2) (.int .i64 t199)) (fun _ hk => hk.2) (.int .i64 t200)) (fun _ hk => hk.2) (.int .i64 t201)) (fun _ hk => hk.2) (.int .i64 t202)) (fun _ hk => hk.2) (.int .i64 t203)) (fun _ hk => hk.2) (.int .i64 t204)) (fun _ hk => hk.2) (.slice Ao56 t205.length co56)) (fun _ hk => hk.2) (.slice Ao57 t208.length co57)) (fun _ hk => hk.2) (.int .i64 t211)) (fun _ hk => hk.2) (.slice Ao58 t212.length co58)) (fun _ hk => hk.2) (.slice Ao59 t215.length co59)) (fun _ h_ => h_.1)))); (case side6 => exact (Kd.V_reads' HO214.out).2.1); (case side7 => refine (Kd.V_reads' (e := 84) (base := w.heap.size) (ok := fun k_ => ((some k_ ≠ (u9 : Value).ownBlock ∧ some k_ ≠ (.slice Ao60 y196.length co60 : Value).ownBlock) ∧ k_ ≠ gb219)) (n := t215.length) (c := co59) ?_).2.2; exact (by (with_reducible repeat (first | apply Kd.V_alloc | apply Kd.V_drewN | apply Kd.V_drew)); exact (Kd.V_mono (Kd.V_far (p := ⟨gb219, 10, none⟩) (Kd.V_far (p := ⟨gb219, 9, none⟩) (Kd.V_far (p := ⟨gb219, 8, none⟩) (Kd.V_far (p := ⟨gb219, 7, none⟩) (Kd.V_far (p := ⟨gb219, 6, none⟩) (Kd.V_far (p := ⟨gb219, 5, none⟩) (Kd.V_far (p := ⟨gb219, 4, none⟩) (Kd.V_far (p := ⟨gb219, 3, none⟩) (Kd.V_far (p := ⟨gb219, 2, none⟩) (Kd.V_far (p := ⟨gb219, 1, none⟩) (Kd.V_far (p := ⟨gb219, 0, none⟩) (Kd.V_mono HO217.out (fun k_ hk => (⟨hk, hk.2⟩ : _ ∧ k_ ≠ gb219))) (fun _ hk => hk.2) (.int .i64 t199)) (fun _ hk => hk.2) (.int .i64 t200)) (fun _ hk => hk.2) (.int .i64 t201)) (fun _ hk => hk.2) (.int .i64 t202)) (fun _ hk => hk.2) (.int .i64 t203)) (fun _ hk => hk.2) (.int .i64 t204)) (fun _ hk => hk.2) (.slice Ao56 t205.length co56)) (fun _ hk => hk.2) (.slice Ao57 t208.length co57)) (fun _ hk => hk.2) (.int .i64 t211)) (fun _ hk => hk.2) (.slice Ao58 t212.length co58)) (fun _ hk => hk.2) (.slice Ao59 t215.length co59)) (fun _ h_ => h_.1)))); (case side8 => exact (Kd.V_reads' HO217.out).2.1); rintro e w61 ⟨rfl, hb⟩; refine ⟨_, rfl, ?_⟩; have n0_ := Aside0.mk (Kd.R_below (by (with_reducible repeat (first | apply Kd.R_alloc | apply Kd.R_drewN | apply Kd.R_drew)); exact (Kd.R_mono (Kd.R_far (p := ⟨gb219, 10, none⟩) (Kd.R_far (p := ⟨gb219, 9, none⟩) (Kd.R_far (p := ⟨gb219, 8, none⟩) (Kd.R_far (p := ⟨gb219, 7, none⟩) (Kd.R_far (p := ⟨gb219, 6, none⟩) (Kd.R_far (p := ⟨gb219, 5, none⟩) (Kd.R_far (p := ⟨gb219, 4, none⟩) (Kd.R_far (p := ⟨gb219, 3, none⟩) (Kd.R_far (p := ⟨gb219, 2, none⟩) (Kd.R_far (p := ⟨gb219, 1, none⟩) (Kd.R_far (p := ⟨gb219, 0, none⟩) (Kd.R_types HO_9.out BK219.out (by decide)) (fun _ hk => hk.2) (.int .i64 t199)) (fun _ hk => hk.2) (.int .i64 t200)) (fun _ hk => hk.2) (.int .i64 t201)) (fun _ hk => hk.2) (.int .i64 t202)) (fun _ hk => hk.2) (.int .i64 t203)) (fun _ hk => hk.2) (.int .i64 t204)) (fun _ hk => hk.2) (.slice Ao56 t205.length co56)) (fun _ hk => hk.2) (.slice Ao57 t208.length co57)) (fun _ hk => hk.2) (.int .i64 t211)) (fun _ hk => hk.2) (.slice Ao58 t212.length co58)) (fun _ hk => hk.2) (.slice Ao59 t215.length co59)) (fun _ h_ => h_.1))) hb); have n1_ := Aside0.mk (Kd.R_below (by (with_reducible repeat (first | apply Kd.R_alloc | apply Kd.R_drewN | apply Kd.R_drew)); exact (Kd.R_mono (Kd.R_far (p := ⟨gb219, 10, none⟩) (Kd.R_far (p := ⟨gb219, 9, none⟩) (Kd.R_far (p := ⟨gb219, 8, none⟩) (Kd.R_far (p := ⟨gb219, 7, none⟩) (Kd.R_far (p := ⟨gb219, 6, none⟩) (Kd.R_far (p := ⟨gb219, 5, none⟩) (Kd.R_far (p := ⟨gb219, 4, none⟩) (Kd.R_far (p := ⟨gb219, 3, none⟩) (Kd.R_far (p := ⟨gb219, 2, none⟩) (Kd.R_far (p := ⟨gb219, 1, none⟩) (Kd.R_far (p := ⟨gb219, 0, none⟩) (Kd.R_types HO198.out BK219.out (by decide)) (fun _ hk => hk.2) (.int .i64 t199)) (fun _ hk => hk.2) (.int .i64 t200)) (fun _ hk => hk.2) (.int .i64 t201)) (fun _ hk => hk.2) (.int .i64 t202)) (fun _ hk => hk.2) (.int .i64 t203)) (fun _ hk => hk.2) (.int .i64 t204)) (fun _ hk => hk.2) (.slice Ao56 t205.length co56)) (fun _ hk => hk.2) (.slice Ao57 t208.length co57)) (fun _ hk => hk.2) (.int .i64 t211)) (fun _ hk => hk.2) (.slice Ao58 t212.length co58)) (fun _ hk => hk.2) (.slice Ao59 t215.length co59)) (fun _ h_ => h_.1))) hb); have n2_ := Aside0.mk (Kd.V_below (by (with_reducible repeat (first | apply Kd.V_alloc | apply Kd.V_drewN | apply Kd.V_drew)); exact (Kd.V_mono (Kd.V_far (p := ⟨gb219, 10, none⟩) (Kd.V_far (p := ⟨gb219, 9, none⟩) (Kd.V_far (p := ⟨gb219, 8, none⟩) (Kd.V_far (p := ⟨gb219, 7, none⟩) (Kd.V_far (p := ⟨gb219, 6, none⟩) (Kd.V_far (p := ⟨gb219, 5, none⟩) (Kd.V_far (p := ⟨gb219, 4, none⟩) (Kd.V_far (p := ⟨gb219, 3, none⟩) (Kd.V_far (p := ⟨gb219, 2, none⟩) (Kd.V_far (p := ⟨gb219, 1, none⟩) (Kd.V_far (p := ⟨gb219, 0, none⟩) (Kd.V_mono HO207.out (fun k_ hk => (⟨hk, hk.2⟩ : _ ∧ k_ ≠ gb219))) (fun _ hk => hk.2) (.int .i64 t199)) (fun _ hk => hk.2) (.int .i64 t200)) (fun _ hk => hk.2) (.int .i64 t201)) (fun _ hk => hk.2) (.int .i64 t202)) (fun _ hk => hk.2) (.int .i64 t203)) (fun _ hk => hk.2) (.int .i64 t204)) (fun _ hk => hk.2) (.slice Ao56 t205.length co56)) (fun _ hk => hk.2) (.slice Ao57 t208.length co57)) (fun _ hk => hk.2) (.int .i64 t211)) (fun _ hk => hk.2) (.slice Ao58 t212.length co58)) (fun _ hk => hk.2) (.slice Ao59 t215.length co59)) (fun _ h_ => h_.1))) hb); have n3_ := Aside0.mk (Kd.V_below (by (with_reducible repeat (first | apply Kd.V_alloc | apply Kd.V_drewN | apply Kd.V_drew)); exact (Kd.V_mono (Kd.V_far (p := ⟨gb219, 10, none⟩) (Kd.V_far (p := ⟨gb219, 9, none⟩) (Kd.V_far (p := ⟨gb219, 8, none⟩) (Kd.V_far (p := ⟨gb219, 7, none⟩) (Kd.V_far (p := ⟨gb219, 6, none⟩) (Kd.V_far (p := ⟨gb219, 5, none⟩) (Kd.V_far (p := ⟨gb219, 4, none⟩) (Kd.V_far (p := ⟨gb219, 3, none⟩) (Kd.V_far (p := ⟨gb219, 2, none⟩) (Kd.V_far (p := ⟨gb219, 1, none⟩) (Kd.V_far (p := ⟨gb219, 0, none⟩) (Kd.V_mono HO210.out (fun k_ hk => (⟨hk, hk.2⟩ : _ ∧ k_ ≠ gb219))) (fun _ hk => hk.2) (.int .i64 t199)) (fun _ hk => hk.2) (.int .i64 t200)) (fun _ hk => hk.2) (.int .i64 t201)) (fun _ hk => hk.2) (.int .i64 t202)) (fun _ hk => hk.2) (.int .i64 t203)) (fun _ hk => hk.2) (.int .i64 t204)) (fun _ hk => hk.2) (.slice Ao56 t205.length co56)) (fun _ hk => hk.2) (.slice Ao57 t208.length co57)) (fun _ hk => hk.2) (.int .i64 t211)) (fun _ hk => hk.2) (.slice Ao58 t212.length co58)) (fun _ hk => hk.2) (.slice Ao59 t215.length co59)) (fun _ h_ => h_.1))) hb); have n4_ := Aside0.mk (Kd.V_below (by (with_reducible repeat (first | apply Kd.V_alloc | apply Kd.V_drewN | apply Kd.V_drew)); exact (Kd.V_mono (Kd.V_far (p := ⟨gb219, 10, none⟩) (Kd.V_far (p := ⟨gb219, 9, none⟩) (Kd.V_far (p := ⟨gb219, 8, none⟩) (Kd.V_far (p := ⟨gb219, 7, none⟩) (Kd.V_far (p := ⟨gb219, 6, none⟩) (Kd.V_far (p := ⟨gb219, 5, none⟩) (Kd.V_far (p := ⟨gb219, 4, none⟩) (Kd.V_far (p := ⟨gb219, 3, none⟩) (Kd.V_far (p := ⟨gb219, 2, none⟩) (Kd.V_far (p := ⟨gb219, 1, none⟩) (Kd.V_far (p := ⟨gb219, 0, none⟩) (Kd.V_mono HO214.out (fun k_ hk => (⟨hk, hk.2⟩ : _ ∧ k_ ≠ gb219))) (fun _ hk => hk.2) (.int .i64 t199)) (fun _ hk => hk.2) (.int .i64 t200)) (fun _ hk => hk.2) (.int .i64 t201)) (fun _ hk => hk.2) (.int .i64 t202)) (fun _ hk => hk.2) (.int .i64 t203)) (fun _ hk => hk.2) (.int .i64 t204)) (fun _ hk => hk.2) (.slice Ao56 t205.length co56)) (fun _ hk => hk.2) (.slice Ao57 t208.length co57)) (fun _ hk => hk.2) (.int .i64 t211)) (fun _ hk => hk.2) (.slice Ao58 t212.length co58)) (fun _ hk => hk.2) (.slice Ao59 t215.length co59)) (fun _ h_ => h_.1))) hb); have n5_ := Aside0.mk (Kd.V_below (by (with_reducible repeat (first | apply Kd.V_alloc | apply Kd.V_drewN | apply Kd.V_drew)); exact (Kd.V_mono (Kd.V_far (p := ⟨gb219, 10, none⟩) (Kd.V_far (p := ⟨gb219, 9, none⟩) (Kd.V_far (p := ⟨gb219, 8, none⟩) (Kd.V_far (p := ⟨gb219, 7, none⟩) (Kd.V_far (p := ⟨gb219, 6, none⟩) (Kd.V_far (p := ⟨gb219, 5, none⟩) (Kd.V_far (p := ⟨gb219, 4, none⟩) (Kd.V_far (p := ⟨gb219, 3, none⟩) (Kd.V_far (p := ⟨gb219, 2, none⟩) (Kd.V_far (p := ⟨gb219, 1, none⟩) (Kd.V_far (p := ⟨gb219, 0, none⟩) (Kd.V_mono HO217.out (fun k_ hk => (⟨hk, hk.2⟩ : _ ∧ k_ ≠ gb219))) (fun _ hk => hk.2) (.int .i64 t199)) (fun _ hk => hk.2) (.int .i64 t200)) (fun _ hk => hk.2) (.int .i64 t201)) (fun _ hk => hk.2) (.int .i64 t202)) (fun _ hk => hk.2) (.int .i64 t203)) (fun _ hk => hk.2) (.int .i64 t204)) (fun _ hk => hk.2) (.slice Ao56 t205.length co56)) (fun _ hk => hk.2) (.slice Ao57 t208.length co57)) (fun _ hk => hk.2) (.int .i64 t211)) (fun _ hk => hk.2) (.slice Ao58 t212.length co58)) (fun _ hk => hk.2) (.slice Ao59 t215.length co59)) (fun _ h_ => h_.1))) hb); have n6_ := Aside0.mk (blk_below (g := gb219) (o := .cells #[.int .i64 t199, .int .i64 t200, .int .i64 t201, .int .i64 t202, .int .i64 t203, .int .i64 t204, .slice Ao56 t205.length co56, .slice Ao57 t208.length co57, .int .i64 t211, .slice Ao58 t212.length co58, .slice Ao59 t215.length co59] 41 (0, 0)) (by (with_reducible repeat (first | refine blk_drewN ?_ _ | refine blk_drew ?_ | refine blk_alloc ?_ _)); refine blk_put (cs := #[.int .i64 t199, .int .i64 t200, .int .i64 t201, .int .i64 t202, .int .i64 t203, .int .i64 t204, .slice Ao56 t205.length co56, .slice Ao57 t208.length co57, .int .i64 t211, .slice Ao58 t212.length co58, .slice none 0 0]) ?_ 10 _ rfl; (with_reducible repeat (first | refine blk_drewN ?_ _ | refine blk_drew ?_ | refine blk_alloc ?_ _)); refine blk_put (cs := #[.int .i64 t199, .int .i64 t200, .int .i64 t201, .int .i64 t202, .int .i64 t203, .int .i64 t204, .slice Ao56 t205.length co56, .slice Ao57 t208.length co57, .int .i64 t211, .slice none 0 0, .slice none 0 0]) ?_ 9 _ rfl; (with_reducible repeat (first | refine blk_drewN ?_ _ | refine blk_drew ?_ | refine blk_alloc ?_ _)); refine blk_put (cs := #[.int .i64 t199, .int .i64 t200, .int .i64 t201, .int .i64 t202, .int .i64 t203, .int .i64 t204, .slice Ao56 t205.length co56, .slice Ao57 t208.length co57, .int .i64 0, .slice none 0 0, .slice none 0 0]) ?_ 8 _ rfl; (with_reducible repeat (first | refine blk_drewN ?_ _ | refine blk_drew ?_ | refine blk_alloc ?_ _)); refine blk_put (cs := #[.int .i64 t199, .int .i64 t200, .int .i64 t201, .int .i64 t202, .int .i64 t203, .int .i64 t204, .slice Ao56 t205.length co56, .slice none 0 0, .int .i64 0, .slice none 0 0, .slice none 0 0]) ?_ 7 _ rfl; (with_reducible repeat (first | refine blk_drewN ?_ _ | refine blk_drew ?_ | refine blk_alloc ?_ _)); refine blk_put (cs := #[.int .i64 t199, .int .i64 t200, .int .i64 t201, .int .i64 t202, .int .i64 t203, .int .i64 t204, .slice none 0 0, .slice none 0 0, .int .i64 0, .slice none 0 0, .slice none 0 0]) ?_ 6 _ rfl; (with_reducible repeat (first | refine blk_drewN ?_ _ | refine blk_drew ?_ | refine blk_alloc ?_ _)); refine blk_put (cs := #[.int .i64 t199, .int .i64 t200, .int .i64 t201, .int .i64 t202, .int .i64 t203, .int .i64 0, .slice none 0 0, .slice none 0 0, .int .i64 0, .slice none 0 0, .slice none 0 0]) ?_ 5 _ rfl; (with_reducible repeat (first | refine blk_drewN ?_ _ | refine blk_drew ?_ | refine blk_alloc ?_ _)); refine blk_put (cs := #[.int .i64 t199, .int .i64 t200, .int .i64 t201, .int .i64 t202, .int .i64 0, .int .i64 0, .slice none 0 0, .slice none 0 0, .int .i64 0, .slice none 0 0, .slice none 0 0]) ?_ 4 _ rfl; (with_reducible repeat (first | refine blk_drewN ?_ _ | refine blk_drew ?_ | refine blk_alloc ?_ _)); refine blk_put (cs := #[.int .i64 t199, .int .i64 t200, .int .i64 t201, .int .i64 0, .int .i64 0, .int .i64 0, .slice none 0 0, .slice none 0 0, .int .i64 0, .slice none 0 0, .slice none 0 0]) ?_ 3 _ rfl; (with_reducible repeat (first | refine blk_drewN ?_ _ | refine blk_drew ?_ | refine blk_alloc ?_ _)); refine blk_put (cs := #[.int .i64 t199, .int .i64 t200, .int .i64 0, .int .i64 0, .int .i64 0, .int .i64 0, .slice none 0 0, .slice none 0 0, .int .i64 0, .slice none 0 0, .slice none 0 0]) ?_ 2 _ rfl; (with_reducible repeat (first | refine blk_drewN ?_ _ | refine blk_drew ?_ | refine blk_alloc ?_ _)); refine blk_put (cs := #[.int .i64 t199, .int .i64 0, .int .i64 0, .int .i64 0, .int .i64 0, .int .i64 0, .slice none 0 0, .slice none 0 0, .int .i64 0, .slice none 0 0, .slice none 0 0]) ?_ 1 _ rfl; (with_reducible repeat (first | refine blk_drewN ?_ _ | refine blk_drew ?_ | refine blk_alloc ?_ _)); refine blk_put (cs := #[.int .i64 0, .int .i64 0, .int .i64 0, .int .i64 0, .int .i64 0, .int .i64 0, .slice none 0 0, .slice none 0 0, .int .i64 0, .slice none 0 0, .slice none 0 0]) ?_ 0 _ rfl; (with_reducible repeat (first | refine blk_drewN ?_ _ | refine blk_drew ?_ | refine blk_alloc ?_ _)); exact BK219.out) hb); have n7_ := Aside0.mk (below_step (by repeat (first | (with_reducible first | exact HB.out | apply below_alloc | apply pw_below_drewN | apply below_drew1 | refine below_set ?_ GE219.out) | exact HB.out)) hb); clear HO_9; clear HO198; clear HO207; clear HO210; clear HO214; clear HO217; clear BK219; clear HB; have HO_9 := n0_; have HO198 := n1_; have HO207 := n2_; have HO210 := n3_; have HO214 := n4_; have HO217 := n5_; have BK219 := n6_; have HB := n7_; clear n0_ n1_ n2_ n3_ n4_ n5_ n6_ n7_; (try clear hb); (try clear hb2); (try clear hk); (try clear hi)))
                  go_ret3
                  exact ⟨_, _, by first | rfl | (simp [errW_none, errW_some] <;> rfl) | (simp [*, errW_none, errW_some] <;> rfl), by first | exact Kd.R_nil _ _ _ _ _ | exact Kd.N_nil _ _ _ _ _ | exact Kd.V_nil _ _ _ _ _ | exact Kd.Q_nil _ _ _ _ _ | exact Kd.S_nil _ _ _ _ _, by (with_reducible repeat (first | apply Kd.R_alloc | apply Kd.R_drewN | apply Kd.R_drew)); exact Kd.R_mono HO198.out (fun _ hk => (by simp [Value.ownBlock])), by repeat (first | (with_reducible first | exact HB.out | apply below_alloc | apply pw_below_drewN | apply below_drew1 | refine below_set ?_ GE219.out) | exact HB.out)⟩
              · rw [if_neg c10] at H
                have c10b0 : (t218 == 0) = false := beq_eq_false_iff_ne.mpr c10
                have c10b1 : (t218 != 0) = true := bne_iff_ne.mpr c10
                simp only [Option.some.injEq, Prod.mk.injEq] at H
                obtain ⟨rfl, rfl, rfl⟩ := H
                obtain ⟨Ao62, co62, eo62⟩ := Kd.R_slice HO_10.out
                subst eo62
                go_wp2_with (first | ((with_reducible refine gate_builtin (b := .append) (xs := #[.tmp 27, .tmp 29]) rfl ?_); at_builtin; refine Kd.R_append (Kd.int .i64) (w0 := w) w.heap.size rfl (.tmp 27) (.tmp 29) 23 3 (.int .i64 0) 8 rfl Try.underlying23 info3 rfl (by decide) (by omega) (.slice Ao62 x10_1.length co62) x10_1 x11_1 [.int .i64 x11_1] (fun k_ => some k_ ≠ (u9 : Value).ownBlock) (fun _ => False) rfl rfl ?aP (fun _ hk => hk.elim) ?aF ?aO ?aB ?aS ?aL ?_; (case aP => exact rfl); (case aB => exact (by repeat (first | (with_reducible first | exact HB.out | apply below_alloc | apply pw_below_drewN | apply below_drew1) | exact HB.out))); (case aF => exact (fun k_ hk => Kd.fresh' (Kd.R_lt (by (with_reducible repeat (first | apply Kd.R_alloc | apply Kd.R_drewN | apply Kd.R_drew)); exact HO_9.out)) k_ hk)); (case aO => exact (by (with_reducible repeat (first | apply Kd.R_alloc | apply Kd.R_drewN | apply Kd.R_drew)); exact HO_10.out)); (case aS => exact (below_size (by repeat (first | (with_reducible first | exact HB.out | apply below_alloc | apply pw_below_drewN | apply below_drew1) | exact HB.out)))); (case aL => have := LMc8.out; omega); intro v197 w63 ho hb hg hat; rw [← Ny196.out] at ho; have n0_ := Aside0.mk (Kd.R_after (ok := (fun _ => True)) (by (with_reducible repeat (first | apply Kd.R_alloc | apply Kd.R_drewN | apply Kd.R_drew)); exact Kd.R_mono HO_9.out (fun _ hk => ⟨trivial, hk⟩)) hg hat); have n1_ := Aside0.mk (hb); have n2_ := Aside0.mk (ho); clear HO_9; clear HB; clear HO_10; have HO_9 := n0_; have HB := n1_; have HO198 := n2_; clear n0_ n1_ n2_; clear ho hb hg hat) | ((with_reducible refine gate_callee (f := 18) rfl ?_); refine goesL_ (some 35) rfl rfl Try.func18 (by kernel_rfl) rfl #[.slice A0 l0.length c0, .int .i64 x11_1, .bool a1] rfl (by (try simp only [List.map_toArray, List.map_cons, List.map_nil]); first | done | rfl | (simp only [List.length_drop, List.length_take]; rfl)) ?_; (with_reducible refine (tidemarkref12_Read.calls k1 (fun k_ => k_ < w.heap.size) _ _ l0 x11_1 a1 t199 t200 t201 t202 t203 t204 t205 t208 t211 t212 t215 t218 _ ?side1 A9.out).mono ?_); (case side1 => exact Kd.V_mk HC0.out (Kd.F_below (Kd.C_F k43_heap HR0.out) (by repeat (first | (with_reducible first | exact HB.out | apply below_alloc | apply pw_below_drewN | apply below_drew1) | exact HB.out)))); rintro e w64 ⟨v206, v209, v213, v216, rfl, ho0, ho1, ho2, ho3, hb⟩; refine ⟨_, rfl, ?_⟩; have n0_ := Aside0.mk (Kd.R_below (by (with_reducible repeat (first | apply Kd.R_alloc | apply Kd.R_drewN | apply Kd.R_drew)); exact HO_9.out) hb); have n1_ := Aside0.mk (Kd.R_below (by (with_reducible repeat (first | apply Kd.R_alloc | apply Kd.R_drewN | apply Kd.R_drew)); exact HO198.out) hb); have n2_ := Aside0.mk (Kd.V_lower (Kd.V_mono (ok' := fun k_ => some k_ ≠ (u9 : Value).ownBlock ∧ some k_ ≠ (v197 : Value).ownBlock) ho0 (fun k_ hk_ => ⟨Or.elim hk_ (fun hs_ => fun e_ => Nat.not_le.2 hs_ (Kd.R_base HO_9.out k_ e_.symm)) (fun hn_ => (Kd.fresh' (Kd.R_lt (by (with_reducible repeat (first | apply Kd.R_alloc | apply Kd.R_drewN | apply Kd.R_drew)); exact HO_9.out)) k_ hn_)), Or.elim hk_ (fun hs_ => fun e_ => Nat.not_le.2 hs_ (Kd.R_base HO198.out k_ e_.symm)) (fun hn_ => (Kd.fresh' (Kd.R_lt (by (with_reducible repeat (first | apply Kd.R_alloc | apply Kd.R_drewN | apply Kd.R_drew)); exact HO198.out)) k_ hn_))⟩)) (below_size (by repeat (first | (with_reducible first | exact HB.out | apply below_alloc | apply pw_below_drewN | apply below_drew1) | exact HB.out)))); have n3_ := Aside0.mk (Kd.V_lower (Kd.V_mono (ok' := fun k_ => some k_ ≠ (u9 : Value).ownBlock ∧ some k_ ≠ (v197 : Value).ownBlock) ho1 (fun k_ hk_ => ⟨Or.elim hk_ (fun hs_ => fun e_ => Nat.not_le.2 hs_ (Kd.R_base HO_9.out k_ e_.symm)) (fun hn_ => (Kd.fresh' (Kd.R_lt (by (with_reducible repeat (first | apply Kd.R_alloc | apply Kd.R_drewN | apply Kd.R_drew)); exact HO_9.out)) k_ hn_)), Or.elim hk_ (fun hs_ => fun e_ => Nat.not_le.2 hs_ (Kd.R_base HO198.out k_ e_.symm)) (fun hn_ => (Kd.fresh' (Kd.R_lt (by (with_reducible repeat (first | apply Kd.R_alloc | apply Kd.R_drewN | apply Kd.R_drew)); exact HO198.out)) k_ hn_))⟩)) (below_size (by repeat (first | (with_reducible first | exact HB.out | apply below_alloc | apply pw_below_drewN | apply below_drew1) | exact HB.out)))); have n4_ := Aside0.mk (Kd.V_lower (Kd.V_mono (ok' := fun k_ => some k_ ≠ (u9 : Value).ownBlock ∧ some k_ ≠ (v197 : Value).ownBlock) ho2 (fun k_ hk_ => ⟨Or.elim hk_ (fun hs_ => fun e_ => Nat.not_le.2 hs_ (Kd.R_base HO_9.out k_ e_.symm)) (fun hn_ => (Kd.fresh' (Kd.R_lt (by (with_reducible repeat (first | apply Kd.R_alloc | apply Kd.R_drewN | apply Kd.R_drew)); exact HO_9.out)) k_ hn_)), Or.elim hk_ (fun hs_ => fun e_ => Nat.not_le.2 hs_ (Kd.R_base HO198.out k_ e_.symm)) (fun hn_ => (Kd.fresh' (Kd.R_lt (by (with_reducible repeat (first | apply Kd.R_alloc | apply Kd.R_drewN | apply Kd.R_drew)); exact HO198.out)) k_ hn_))⟩)) (below_size (by repeat (first | (with_reducible first | exact HB.out | apply below_alloc | apply pw_below_drewN | apply below_drew1) | exact HB.out)))); have n5_ := Aside0.mk (Kd.V_lower (Kd.V_mono (ok' := fun k_ => some k_ ≠ (u9 : Value).ownBlock ∧ some k_ ≠ (v197 : Value).ownBlock) ho3 (fun k_ hk_ => ⟨Or.elim hk_ (fun hs_ => fun e_ => Nat.not_le.2 hs_ (Kd.R_base HO_9.out k_ e_.symm)) (fun hn_ => (Kd.fresh' (Kd.R_lt (by (with_reducible repeat (first | apply Kd.R_alloc | apply Kd.R_drewN | apply Kd.R_drew)); exact HO_9.out)) k_ hn_)), Or.elim hk_ (fun hs_ => fun e_ => Nat.not_le.2 hs_ (Kd.R_base HO198.out k_ e_.symm)) (fun hn_ => (Kd.fresh' (Kd.R_lt (by (with_reducible repeat (first | apply Kd.R_alloc | apply Kd.R_drewN | apply Kd.R_drew)); exact HO198.out)) k_ hn_))⟩)) (below_size (by repeat (first | (with_reducible first | exact HB.out | apply below_alloc | apply pw_below_drewN | apply below_drew1) | exact HB.out)))); have n6_ := Aside0.mk (below_step (by repeat (first | (with_reducible first | exact HB.out | apply below_alloc | apply pw_below_drewN | apply below_drew1) | exact HB.out)) hb); clear HO_9; clear HO198; clear HB; have HO_9 := n0_; have HO198 := n1_; have HO207 := n2_; have HO210 := n3_; have HO214 := n4_; have HO217 := n5_; have HB := n6_; clear n0_ n1_ n2_ n3_ n4_ n5_ n6_; (try clear hb); (try clear hb2); (try clear hk); (try clear hi); (try clear ho0); (try clear ho1); (try clear ho2); (try clear ho3)) | ((with_reducible refine gate_dst (N := 14) rfl ?_); refine box_event ?hg (N := 14) ?hd (cs := #[.int .i64 0, .int .i64 0, .int .i64 0, .int .i64 0, .int .i64 0, .int .i64 0, .slice none 0 0, .slice none 0 0, .int .i64 0, .slice none 0 0, .slice none 0 0]) (t := 41) ?hr ?_; (case hd => rfl); (case hg => rfl); (case hr => first | (go_simp; done) | (go_simp; rfl)); intro gb219 hg w65 hbox hb; have n0_ := Aside0.mk (Kd.R_below (by (with_reducible repeat (first | apply Kd.R_alloc | apply Kd.R_drewN | apply Kd.R_drew)); exact HO_9.out) hb); have n1_ := Aside0.mk (Kd.R_below (by (with_reducible repeat (first | apply Kd.R_alloc | apply Kd.R_drewN | apply Kd.R_drew)); exact HO198.out) hb); have n2_ := Aside0.mk (Kd.V_below (Kd.V_elderB (by (with_reducible repeat (first | apply Kd.V_alloc | apply Kd.V_drewN | apply Kd.V_drew)); exact HO207.out) gb219 (Nat.le_of_eq hg.symm)) hb); have n3_ := Aside0.mk (Kd.V_below (Kd.V_elderB (by (with_reducible repeat (first | apply Kd.V_alloc | apply Kd.V_drewN | apply Kd.V_drew)); exact HO210.out) gb219 (Nat.le_of_eq hg.symm)) hb); have n4_ := Aside0.mk (Kd.V_below (Kd.V_elderB (by (with_reducible repeat (first | apply Kd.V_alloc | apply Kd.V_drewN | apply Kd.V_drew)); exact HO214.out) gb219 (Nat.le_of_eq hg.symm)) hb); have n5_ := Aside0.mk (Kd.V_below (Kd.V_elderB (by (with_reducible repeat (first | apply Kd.V_alloc | apply Kd.V_drewN | apply Kd.V_drew)); exact HO217.out) gb219 (Nat.le_of_eq hg.symm)) hb); have n6_ := Aside0.mk (below_step (by repeat (first | (with_reducible first | exact HB.out | apply below_alloc | apply pw_below_drewN | apply below_drew1) | exact HB.out)) hb); have n7_ := Aside0.mk (hbox); have n8_ := Aside0.mk ((by rw [hg]; exact (below_size (by repeat (first | (with_reducible first | exact HB.out | apply below_alloc | apply pw_below_drewN | apply below_drew1) | exact HB.out))) : w.heap.size ≤ gb219)); have n9_ := Aside0.mk ((by rw [hg]; exact (below_size (by repeat (first | (with_reducible first | exact HB.out | apply below_alloc | apply pw_below_drewN | apply below_drew1) | exact HB.out))) : w.heap.size ≤ gb219)); clear HO_9; clear HO198; clear HO207; clear HO210; clear HO214; clear HO217; clear HB; have HO_9 := n0_; have HO198 := n1_; have HO207 := n2_; have HO210 := n3_; have HO214 := n4_; have HO217 := n5_; have HB := n6_; have BK219 := n7_; have GW219 := n8_; have GE219 := n9_; clear n0_ n1_ n2_ n3_ n4_ n5_ n6_ n7_ n8_ n9_; clear hb hbox hg; have hcz66_0 : w65.cell? ⟨gb219, 0, none⟩ = some (.int .i64 0) := (blk_cell BK219.out 0).trans rfl; have hcz66_1 : w65.cell? ⟨gb219, 1, none⟩ = some (.int .i64 0) := (blk_cell BK219.out 1).trans rfl; have hcz66_2 : w65.cell? ⟨gb219, 2, none⟩ = some (.int .i64 0) := (blk_cell BK219.out 2).trans rfl; have hcz66_3 : w65.cell? ⟨gb219, 3, none⟩ = some (.int .i64 0) := (blk_cell BK219.out 3).trans rfl; have hcz66_4 : w65.cell? ⟨gb219, 4, none⟩ = some (.int .i64 0) := (blk_cell BK219.out 4).trans rfl; have hcz66_5 : w65.cell? ⟨gb219, 5, none⟩ = some (.int .i64 0) := (blk_cell BK219.out 5).trans rfl; have hcz66_6 : w65.cell? ⟨gb219, 6, none⟩ = some (.slice none 0 0) := (blk_cell BK219.out 6).trans rfl; have hcz66_7 : w65.cell? ⟨gb219, 7, none⟩ = some (.slice none 0 0) := (blk_cell BK219.out 7).trans rfl; have hcz66_8 : w65.cell? ⟨gb219, 8, none⟩ = some (.int .i64 0) := (blk_cell BK219.out 8).trans rfl; have hcz66_9 : w65.cell? ⟨gb219, 9, none⟩ = some (.slice none 0 0) := (blk_cell BK219.out 9).trans rfl; have hcz66_10 : w65.cell? ⟨gb219, 10, none⟩ = some (.slice none 0 0) := (blk_cell BK219.out 10).trans rfl; have hfz66_0 := blk_frozen BK219.out 0; have hfz66_1 := blk_frozen BK219.out 1; have hfz66_2 := blk_frozen BK219.out 2; have hfz66_3 := blk_frozen BK219.out 3; have hfz66_4 := blk_frozen BK219.out 4; have hfz66_5 := blk_frozen BK219.out 5; have hfz66_6 := blk_frozen BK219.out 6; have hfz66_7 := blk_frozen BK219.out 7; have hfz66_8 := blk_frozen BK219.out 8; have hfz66_9 := blk_frozen BK219.out 9; have hfz66_10 := blk_frozen BK219.out 10; obtain ⟨Ao67, co67, eo67⟩ := Kd.V_slice HO207.out; subst eo67; obtain ⟨Ao68, co68, eo68⟩ := Kd.V_slice HO210.out; subst eo68; obtain ⟨Ao69, co69, eo69⟩ := Kd.V_slice HO214.out; subst eo69; obtain ⟨Ao70, co70, eo70⟩ := Kd.V_slice HO217.out; subst eo70))
                go_ret3
                exact ⟨_, _, by first | rfl | (simp [errW_none, errW_some] <;> rfl) | (simp [*, errW_none, errW_some] <;> rfl), by first | exact Kd.R_nil _ _ _ _ _ | exact Kd.N_nil _ _ _ _ _ | exact Kd.V_nil _ _ _ _ _ | exact Kd.Q_nil _ _ _ _ _ | exact Kd.S_nil _ _ _ _ _, by (with_reducible repeat (first | apply Kd.R_alloc | apply Kd.R_drewN | apply Kd.R_drew)); exact Kd.R_mono (Kd.R_far (p := ⟨gb219, 10, none⟩) (Kd.R_far (p := ⟨gb219, 9, none⟩) (Kd.R_far (p := ⟨gb219, 8, none⟩) (Kd.R_far (p := ⟨gb219, 7, none⟩) (Kd.R_far (p := ⟨gb219, 6, none⟩) (Kd.R_far (p := ⟨gb219, 5, none⟩) (Kd.R_far (p := ⟨gb219, 4, none⟩) (Kd.R_far (p := ⟨gb219, 3, none⟩) (Kd.R_far (p := ⟨gb219, 2, none⟩) (Kd.R_far (p := ⟨gb219, 1, none⟩) (Kd.R_far (p := ⟨gb219, 0, none⟩) (Kd.R_types HO198.out BK219.out (by decide)) (fun _ hk => hk.2) (.int .i64 t199)) (fun _ hk => hk.2) (.int .i64 t200)) (fun _ hk => hk.2) (.int .i64 t201)) (fun _ hk => hk.2) (.int .i64 t202)) (fun _ hk => hk.2) (.int .i64 t203)) (fun _ hk => hk.2) (.int .i64 t204)) (fun _ hk => hk.2) (.slice Ao67 t205.length co67)) (fun _ hk => hk.2) (.slice Ao68 t208.length co68)) (fun _ hk => hk.2) (.int .i64 t211)) (fun _ hk => hk.2) (.slice Ao69 t212.length co69)) (fun _ hk => hk.2) (.slice Ao70 t215.length co70)) (fun _ hk => (by simp [Value.ownBlock])), by repeat (first | (with_reducible first | exact HB.out | apply below_alloc | apply pw_below_drewN | apply below_drew1 | refine below_set ?_ GE219.out) | exact HB.out)⟩
            · rw [if_neg c8] at H
              exact absurd H (by simp)
        · rw [if_neg c5] at H
          have c5b0 : decide (0 < x11_1) = false := decide_eq_false c5
          clear c5
          simp only [Option.some.injEq, Prod.mk.injEq] at H
          obtain ⟨rfl, rfl, rfl⟩ := H
          go_wp2
          go_ret3
          exact ⟨_, _, by first | rfl | (simp [errW_none, errW_some] <;> rfl) | (simp [*, errW_none, errW_some] <;> rfl), by (with_reducible repeat (first | apply Kd.R_alloc | apply Kd.R_drewN | apply Kd.R_drew)); exact HO_9.out, by (with_reducible repeat (first | apply Kd.R_alloc | apply Kd.R_drewN | apply Kd.R_drew)); exact HO_10.out, by repeat (first | (with_reducible first | exact HB.out | apply below_alloc | apply pw_below_drewN | apply below_drew1) | exact HB.out)⟩

end Go.Proofs.Ytijlcahikeeigaa.QA
