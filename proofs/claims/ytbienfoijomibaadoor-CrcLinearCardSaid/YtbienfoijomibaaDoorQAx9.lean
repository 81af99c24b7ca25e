-- Laid by a program of this session out of Lean's own print of the program; hand-made contracts are pasted in. Lean checks it.
import Derived.Test.YtbienfoijomibaaDoorQAx0
import Derived.Test.YtbienfoijomibaaDoorQAx1
import Derived.Test.YtbienfoijomibaaDoorQAx2
import Derived.Test.YtbienfoijomibaaDoorQAx3
import Derived.Test.YtbienfoijomibaaDoorLinReg
namespace Go.Proofs.YtbienfoijomibaaDoor.QA
open Go.RowKit Go.Proofs.YtbienfoijomibaaDoorW.PrintWords Go.Proofs.YtbienfoijomibaaDoorW.PrintLast Go.Proofs.YtbienfoijomibaaDoorW.PrintMore
attribute [local go_sem] max2_int min2_int max_two min_two max_three min_three max_four min_four   -- for this text's walks alone
set_option linter.unusedVariables false
set_option linter.unusedSimpArgs false

/-! ### tidemarklaw02_CrcLinear: function 6 -/
mutual
def tidemarklaw02_CrcLinear.l0 : Nat → List Int → List Int → Int → Int → Int → List Int → List Int → Int → Option (Bool)
  | 0, _, _, _, _, _, _, _, _ => none
  | k + 1, x0, x1, x2, x3, x9, x10, x11, x12 => if x12 < x9 then (if 0 ≤ x12 then (if x12 < (x0.length : Int) then (if x12 < (x1.length : Int) then (if x10.length < 140737488355328 then (if x11.length < 140737488355328 then (tidemarklaw02_CrcLinear.l0 k x0 x1 x2 x3 x9 (x10 ++ [Go.bits .xor .u8 (rd x0 x12) (rd x1 x12)]) (x11 ++ [0]) (wrap64 (x12 + 1))) else (none)) else (none)) else (none)) else (none)) else (none)) else ((crc_Sum.f (([x10] : List (List Int)))).bind fun t112 => (if 0 ≤ x9 then (if x9 ≤ (x0.length : Int) then ((crc_Sum.f (([(x0.take (x9 : Int).toNat)] : List (List Int)))).bind fun t121 => (if x9 ≤ (x1.length : Int) then ((crc_Sum.f (([(x1.take (x9 : Int).toNat)] : List (List Int)))).bind fun t130 => ((crc_Sum.f (([x11] : List (List Int)))).bind fun t134 => (if t112 = (Go.bits .xor .u32 (Go.bits .xor .u32 t121 t130) t134) then ((tidemarklaw02_known.f).bind fun t135 => (tidemarklaw02_CrcLinear.j1 k x0 x2 x3 (!t135))) else (tidemarklaw02_CrcLinear.j1 k x0 x2 x3 true)))) else (none))) else (none)) else (none)))
def tidemarklaw02_CrcLinear.j1 : Nat → List Int → Int → Int → Bool → Option (Bool)
  | 0, _, _, _, _ => none
  | k + 1, x0, x2, x3, x60 => if x60 = true then (some false) else ((crc_More.f x2 x0).bind fun t136 => ((crc_More.f x3 x0).bind fun t137 => (some ((t136 == t137) == (x2 == x3)))))
end
def tidemarklaw02_CrcLinear.f (k : Nat) (l0 : List Int) (l1 : List Int) (a2 : Int) (a3 : Int) : Option (Bool) := tidemarklaw02_CrcLinear.l0 k l0 l1 a2 a3 (mn (l0.length : Int) (l1.length : Int)) ([] : List Int) ([] : List Int) 0
theorem tidemarklaw02_CrcLinear.mono_l : ∀ k, (∀ y0 y1 y2 y3 y4 y5 y6 y7, LeO (tidemarklaw02_CrcLinear.l0 k y0 y1 y2 y3 y4 y5 y6 y7) (tidemarklaw02_CrcLinear.l0 (k + 1) y0 y1 y2 y3 y4 y5 y6 y7)) ∧ (∀ y0 y1 y2 y3, LeO (tidemarklaw02_CrcLinear.j1 k y0 y1 y2 y3) (tidemarklaw02_CrcLinear.j1 (k + 1) y0 y1 y2 y3))
  | 0 => ⟨fun _ _ _ _ _ _ _ _ r h => by simp [tidemarklaw02_CrcLinear.l0] at h, fun _ _ _ _ r h => by simp [tidemarklaw02_CrcLinear.j1] at h⟩
  | k + 1 => by
    obtain ⟨ih0, ih1⟩ := tidemarklaw02_CrcLinear.mono_l k
    refine ⟨?_, ?_⟩
    · intro y0 y1 y2 y3 y4 y5 y6 y7
      unfold tidemarklaw02_CrcLinear.l0
      repeat' first
      | (with_reducible exact ih0 _ _ _ _ _ _ _ _)
      | (with_reducible exact ih1 _ _ _ _)
      | (with_reducible exact LeO.refl _)
      | (with_reducible exact LeO.none _)
      | (with_reducible refine LeO.ite ?_ ?_)
      | (with_reducible refine LeO.bind ?_ (fun _ => ?_))
      | exact ih0 _ _ _ _ _ _ _ _
      | exact ih1 _ _ _ _
      | exact LeO.none _
      | refine LeO.ite ?_ ?_
      | refine LeO.bind ?_ (fun _ => ?_)
    · intro y0 y1 y2 y3
      unfold tidemarklaw02_CrcLinear.j1
      repeat' first
      | (with_reducible exact ih0 _ _ _ _ _ _ _ _)
      | (with_reducible exact ih1 _ _ _ _)
      | (with_reducible exact LeO.refl _)
      | (with_reducible exact LeO.none _)
      | (with_reducible refine LeO.ite ?_ ?_)
      | (with_reducible refine LeO.bind ?_ (fun _ => ?_))
      | exact ih0 _ _ _ _ _ _ _ _
      | exact ih1 _ _ _ _
      | exact LeO.none _
      | refine LeO.ite ?_ ?_
      | refine LeO.bind ?_ (fun _ => ?_)
theorem tidemarklaw02_CrcLinear.mono : ∀ a0 a1 a2 a3 k, LeO (tidemarklaw02_CrcLinear.f k a0 a1 a2 a3) (tidemarklaw02_CrcLinear.f (k + 1) a0 a1 a2 a3) := by
  intro a0 a1 a2 a3 k
  obtain ⟨ih0, ih1⟩ := tidemarklaw02_CrcLinear.mono_l k
  unfold tidemarklaw02_CrcLinear.f
  repeat' first
      | (with_reducible exact ih0 _ _ _ _ _ _ _ _)
      | (with_reducible exact ih1 _ _ _ _)
      | (with_reducible exact LeO.refl _)
      | (with_reducible exact LeO.none _)
      | (with_reducible refine LeO.ite ?_ ?_)
      | (with_reducible refine LeO.bind ?_ (fun _ => ?_))
      | exact ih0 _ _ _ _ _ _ _ _
      | exact ih1 _ _ _ _
      | exact LeO.none _
      | refine LeO.ite ?_ ?_
      | refine LeO.bind ?_ (fun _ => ?_)
def tidemarklaw02_CrcLinear.T6 : Bool × List (List Nat × List Nat) := (true, [([], []), ([], []), ([], []), ([1, 2], [1, 2]), ([3], [3]), ([], []), ([], []), ([5, 6], [5, 6]), ([7], [7]), ([4, 8], [4, 8]), ([9], [9]), ([0, 10], [0, 10]), ([11, 11, 0, 1, 2, 3, 4, 5, 6, 7, 8, 9, 10, 11], [0, 11])])
def tidemarklaw02_CrcLinear.B6 : List Nat := [0, 0, 0, 6, 14, 0, 0, 96, 224, 510, 1022, 2047, 4095]
theorem tidemarklaw02_CrcLinear.tab6 : rtab .any (opsOf Tryd.f6 6) = tidemarklaw02_CrcLinear.T6 := by kernel_rfl
theorem tidemarklaw02_CrcLinear.bits6 : waitsOk tidemarklaw02_CrcLinear.T6.2 tidemarklaw02_CrcLinear.B6 = true := by kernel_rfl
def tidemarklaw02_CrcLinear.T8 : Bool × List (List Nat × List Nat) := (true, [([], []), ([0], [0]), ([1], [1]), ([], []), ([], []), ([3, 4], [3, 4]), ([5], [5]), ([6, 2], [6]), ([], []), ([], []), ([8, 9], [8, 9]), ([10], [10]), ([11, 7], [11]), ([7, 12], [7, 12]), ([], []), ([14], [14]), ([15, 12], [15]), ([13, 16], [13, 16]), ([2, 17], [2, 17]), ([18, 16], [18]), ([19, 19], [19]), ([20, 19], [19, 20]), ([19, 21], [19, 21])])
def tidemarklaw02_CrcLinear.B8 : List Nat := [0, 1, 3, 0, 0, 24, 56, 127, 0, 0, 768, 1792, 4095, 8191, 0, 16384, 57343, 131071, 262143, 524287, 1048575, 2097151, 4194303]
theorem tidemarklaw02_CrcLinear.tab8 : rtab .any (opsOf Tryd.f6 8) = tidemarklaw02_CrcLinear.T8 := by kernel_rfl
theorem tidemarklaw02_CrcLinear.bits8 : waitsOk tidemarklaw02_CrcLinear.T8.2 tidemarklaw02_CrcLinear.B8 = true := by kernel_rfl
set_option maxHeartbeats 8000000 in
set_option maxRecDepth 100000 in
theorem tidemarklaw02_CrcLinear.calls (k : Nat) (P0_ : Nat → Prop) (A0 : Option Addr) (c0 : Nat) (l0 : List Int) (P1_ : Nat → Prop) (A1 : Option Addr) (c1 : Nat) (l1 : List Int) (a2 : Int) (a3 : Int) (r : Bool) (w : World) (hs0 : Kd.V (Kd.int .u8) 5 w w.heap.size (fun k_ => P0_ k_) (.slice A0 l0.length c0) l0) (hs1 : Kd.V (Kd.int .u8) 5 w w.heap.size (fun k_ => P1_ k_) (.slice A1 l1.length c1) l1) (h : tidemarklaw02_CrcLinear.f k l0 l1 a2 a3 = some r) (hr_ : r = true) (hT : Aside0 (Tab w)) :
    Calls Tryd.prog 6 #[.slice A0 l0.length c0, .slice A1 l1.length c1, .int .u32 a2, .int .u32 a3] w fun e w' => e = .returned (.bool r) ∧ Below w.heap.size w w' := by
  have HPR := Aside0.mk hr_
  clear hr_
  have HO0 := Aside0.mk (show Kd.V (Kd.int .u8) 5 w w.heap.size (fun k_ => ((P0_ k_ ∨ P1_ k_) ∨ w.heap.size ≤ k_)) (.slice A0 l0.length c0) l0 from Kd.V_mono hs0 (fun k_ hk => .inl (.inl hk)))
  have HO1 := Aside0.mk (show Kd.V (Kd.int .u8) 5 w w.heap.size (fun k_ => ((P0_ k_ ∨ P1_ k_) ∨ w.heap.size ≤ k_)) (.slice A1 l1.length c1) l1 from Kd.V_mono hs1 (fun k_ hk => .inl (.inr hk)))
  have HB := Aside0.mk (Below.refl w.heap.size w)
  have H : (tidemarklaw02_CrcLinear.l0 k l0 l1 a2 a3 (mn (l0.length : Int) (l1.length : Int)) ([] : List Int) ([] : List Int) 0) = some r := h
  clear h
  obtain ⟨ji5, hji5⟩ : ∃ j_ : Int, (mn (l0.length : Int) (l1.length : Int)) = j_ := ⟨_, rfl⟩
  replace H : (tidemarklaw02_CrcLinear.l0 k l0 l1 a2 a3 ji5 ([] : List Int) ([] : List Int) 0) = some r := by first | (rw [hji5] at H; exact H) | (simp only [hji5] at H ⊢; exact H)
  (try (have hji5l : 0 ≤ ji5 := by (rw [← hji5]; unfold mn; (repeat' split) <;> omega)))
  (try (have hji5m : 0 ≤ ji5 := by omega))
  have hji5_ : (if (l1.length : Int) < (l0.length : Int) then (l1.length : Int) else (l0.length : Int)) = ji5 := hji5
  have hji5n_ : (if l1.length < l0.length then (l1.length : Int) else (l0.length : Int)) = ji5 := by rw [← hji5_]; simp only [Int.ofNat_lt]
  have H' := Aside0.mk H
  clear H
  go_enter Tryd.func6, Tryd.ntmps6
  go_wp2
  go_loopg [10, 11, 12] k (fun kq v10 v11 v12 w' => ∃ (x10_1 : List Int) (x11_1 : List Int) (x12_1 : Int), v12 = .int .i64 x12_1 ∧ Aside0 (tidemarklaw02_CrcLinear.l0 kq l0 l1 a2 a3 ji5 x10_1 x11_1 x12_1 = some r) ∧ Aside0 (kq ≤ k) ∧ Aside0 (Kd.V (Kd.int .u8) 5 w' w.heap.size (fun k_ => ((P0_ k_ ∨ P1_ k_) ∨ w.heap.size ≤ k_) ∧ some k_ ≠ (v10 : Value).ownBlock ∧ some k_ ≠ (v11 : Value).ownBlock) (.slice A0 l0.length c0) l0) ∧ Aside0 (Kd.V (Kd.int .u8) 5 w' w.heap.size (fun k_ => ((P0_ k_ ∨ P1_ k_) ∨ w.heap.size ≤ k_) ∧ some k_ ≠ (v10 : Value).ownBlock ∧ some k_ ≠ (v11 : Value).ownBlock) (.slice A1 l1.length c1) l1) ∧ Aside0 (Kd.R (Kd.int .u8) 5 w' w.heap.size (fun k_ => (w.heap.size ≤ k_) ∧ some k_ ≠ (v11 : Value).ownBlock) v10 x10_1) ∧ Aside0 (Kd.R (Kd.int .u8) 5 w' w.heap.size (fun k_ => (w.heap.size ≤ k_) ∧ some k_ ≠ (v10 : Value).ownBlock) v11 x11_1) ∧ Aside0 (Below w.heap.size w w'))
  case atStart => exact ⟨(([] : List Int)), (([] : List Int)), (0), (by first | rfl | (simp; done) | (simp [*]; done)), H', ⟨Nat.le_refl _⟩, ⟨by (with_reducible repeat (first | apply Kd.V_alloc | apply Kd.V_drewN | apply Kd.V_drew)); exact Kd.V_mono HO0.out (fun _ hk => ⟨hk, ⟨(by simp [Value.ownBlock]), (by simp [Value.ownBlock])⟩⟩)⟩, ⟨by (with_reducible repeat (first | apply Kd.V_alloc | apply Kd.V_drewN | apply Kd.V_drew)); exact Kd.V_mono HO1.out (fun _ hk => ⟨hk, ⟨(by simp [Value.ownBlock]), (by simp [Value.ownBlock])⟩⟩)⟩, ⟨by first | exact Kd.R_nil _ _ _ _ _ | exact Kd.N_nil _ _ _ _ _ | exact Kd.V_nil _ _ _ _ _ | exact Kd.Q_nil _ _ _ _ _ | exact Kd.S_nil _ _ _ _ _⟩, ⟨by first | exact Kd.R_nil _ _ _ _ _ | exact Kd.N_nil _ _ _ _ _ | exact Kd.V_nil _ _ _ _ _ | exact Kd.Q_nil _ _ _ _ _ | exact Kd.S_nil _ _ _ _ _⟩, ⟨by repeat (first | (with_reducible first | exact HB.out | apply below_alloc | apply pw_below_drewN | apply below_drew1) | exact HB.out)⟩⟩
  case round =>
    clear H'
    try clear c1
    try clear p2
    obtain ⟨x10_1, x11_1, x12_1, rfl, HA, HK1, HO_0, HO_1, HO_10, HO_11, HB⟩ := hrel
    cases gk with
    | zero => exact absurd HA.out (by simp [tidemarklaw02_CrcLinear.l0])
    | succ k1 =>
      have H := HA.out
      clear HA
      simp only [tidemarklaw02_CrcLinear.l0] at H
      by_cases c6 : x12_1 < ji5
      · rw [if_pos c6] at H
        have c6b0 : decide (x12_1 < ji5) = true := decide_eq_true c6
        clear c6
        by_cases c7 : 0 ≤ x12_1
        · rw [if_pos c7] at H
          have c7b0 : decide (0 ≤ x12_1) = true := decide_eq_true c7
          clear c7
          by_cases c8 : x12_1 < (l0.length : Int)
          · rw [if_pos c8] at H
            have c8b0 : decide (x12_1 < (l0.length : Int)) = true := decide_eq_true c8
            clear c8
            by_cases c9 : x12_1 < (l1.length : Int)
            · rw [if_pos c9] at H
              have c9b0 : decide (x12_1 < (l1.length : Int)) = true := decide_eq_true c9
              clear c9
              by_cases c10 : x10_1.length < 140737488355328
              · rw [if_pos c10] at H
                have LMc10 := Aside0.mk c10
                clear c10
                obtain ⟨y103, hy103⟩ : ∃ y_ : List Int, y_ = (x10_1 ++ [Go.bits .xor .u8 (rd l0 x12_1) (rd l1 x12_1)]) := ⟨_, rfl⟩
                replace H : (if x11_1.length < 140737488355328 then (tidemarklaw02_CrcLinear.l0 k1 l0 l1 a2 a3 ji5 y103 (x11_1 ++ [0]) (wrap64 (x12_1 + 1))) else (none)) = some r := by first | (rw [hy103]; with_reducible exact H) | (have H2_ := (Option.bind_some _ _).symm.trans H; rw [hy103]; with_reducible exact H2_) | (have H2_ := (Option.bind_some _ _).symm.trans H; with_reducible exact H2_) | with_reducible exact H | (rw [hy103]; exact H) | exact H
                have Ny103 := Aside0.mk hy103
                clear hy103
                by_cases c11 : x11_1.length < 140737488355328
                · rw [if_pos c11] at H
                  have LMc11 := Aside0.mk c11
                  clear c11
                  obtain ⟨y106, hy106⟩ : ∃ y_ : List Int, y_ = (x11_1 ++ [0]) := ⟨_, rfl⟩
                  replace H : (tidemarklaw02_CrcLinear.l0 k1 l0 l1 a2 a3 ji5 y103 y106 (wrap64 (x12_1 + 1))) = some r := by first | (rw [hy106]; with_reducible exact H) | (have H2_ := (Option.bind_some _ _).symm.trans H; rw [hy106]; with_reducible exact H2_) | (have H2_ := (Option.bind_some _ _).symm.trans H; with_reducible exact H2_) | with_reducible exact H | (rw [hy106]; exact H) | exact H
                  have Ny106 := Aside0.mk hy106
                  clear hy106
                  have H' := Aside0.mk H
                  clear H
                  try go_wp2
                  have n0_ := Aside0.mk (Kd.V_drew HO_0.out)
                  have n1_ := Aside0.mk (Kd.V_drew HO_1.out)
                  have n2_ := Aside0.mk (Kd.R_drew HO_10.out)
                  have n3_ := Aside0.mk (Kd.R_drew HO_11.out)
                  have n4_ := Aside0.mk (below_drew1 HB.out)
                  clear HO_0
                  clear HO_1
                  clear HO_10
                  clear HO_11
                  clear HB
                  have HO_0 := n0_
                  have HO_1 := n1_
                  have HO_10 := n2_
                  have HO_11 := n3_
                  have HB := n4_
                  clear n0_ n1_ n2_ n3_ n4_
                  have p101 : 0 ≤ (x12_1 : Int) := of_decide_eq_true (by first | (with_reducible assumption) | assumption)
                  have q101 : x12_1 < (l0.length : Int) := of_decide_eq_true (by first | (with_reducible assumption) | assumption)
                  obtain ⟨ad101, e101, hx101_0⟩ := Kd.at_int (Kd.V_reads' HO_0.out).2.2 x12_1 p101 q101
                  cases e101
                  replace p101 := eq_true p101
                  replace q101 := eq_true q101
                  have p102 : 0 ≤ (x12_1 : Int) := of_decide_eq_true (by first | (with_reducible assumption) | assumption)
                  have q102 : x12_1 < (l1.length : Int) := of_decide_eq_true (by first | (with_reducible assumption) | assumption)
                  obtain ⟨ad102, e102, hx102_0⟩ := Kd.at_int (Kd.V_reads' HO_1.out).2.2 x12_1 p102 q102
                  cases e102
                  replace p102 := eq_true p102
                  replace q102 := eq_true q102
                  refine start_ (n := 13) (S := fun w' => w'.cell? (ad101.add (x12_1).toNat) = some (.int .u8 (rd l0 x12_1)) ∧ w'.cell? (ad102.add (x12_1).toNat) = some (.int .u8 (rd l1 x12_1))) (ds := [10, 11]) #[false, false, false, false, false, false, false, false, false, false, false, false, false] (by kernel_rfl) rfl rfl ⟨hx101_0, hx102_0⟩ (fun hHeld => ?_); refine with_tabW tidemarklaw02_CrcLinear.tab6 tidemarklaw02_CrcLinear.bits6 (fun HT_ HW_ => ?_)
                  generalize wr.drew = w12 at HO_0 HO_1 HO_10 HO_11 HB hx101_0 hx102_0 hHeld ⊢
                  refine pure_ (i := 0) (N := some 23) (v := ?_) (a' := ?_) #[true, false, false, false, false, false, false, false, false, false, false, false, false] rfl rfl (any_of HT_.out (by kernel_rfl)) (fun _ _ _ h => h) (Or.inl ⟨by rfl, ?_⟩) ?_ ?_
                  rotate_left
                  · intro w'
                    go_simp
                    with_reducible rfl
                  rotate_left
                  · simp only [Act.put, List.setIfInBounds_toArray, List.set_cons_zero, List.set_cons_succ, i64_w, i32_w]
                    rfl
                  refine pure_ (i := 1) (N := some 24) (v := ?_) (a' := ?_) #[true, true, false, false, false, false, false, false, false, false, false, false, false] rfl rfl (any_of HT_.out (by kernel_rfl)) (fun _ _ _ h => h) (Or.inl ⟨by rfl, ?_⟩) ?_ ?_
                  rotate_left
                  · intro w'
                    go_simp
                    with_reducible rfl
                  rotate_left
                  · simp only [Act.put, List.setIfInBounds_toArray, List.set_cons_zero, List.set_cons_succ, i64_w, i32_w]
                    rfl
                  refine pure_ (i := 2) (N := some 25) (v := ?_) (a' := ?_) #[true, true, true, false, false, false, false, false, false, false, false, false, false] rfl rfl (any_of HT_.out (by kernel_rfl)) (fun _ _ _ h => h) (Or.inl ⟨by rfl, ?_⟩) ?_ ?_
                  rotate_left
                  · intro w'
                    go_simp
                    with_reducible rfl
                  rotate_left
                  · simp only [Act.put, List.setIfInBounds_toArray, List.set_cons_zero, List.set_cons_succ, i64_w, i32_w]
                    rfl
                  refine pure_ (i := 3) (N := some 26) (v := ?_) (a' := ?_) #[true, true, true, true, false, false, false, false, false, false, false, false, false] rfl rfl (any_of HT_.out (by kernel_rfl)) (fun _ _ _ h => h) (Or.inl ⟨by rfl, ?_⟩) ?_ ?_
                  rotate_left
                  · intro w'
                    go_simp
                    with_reducible rfl
                  rotate_left
                  · simp only [Act.put, List.setIfInBounds_toArray, List.set_cons_zero, List.set_cons_succ, i64_w, i32_w]
                    rfl
                  refine pure_ (i := 5) (N := some 28) (v := ?_) (a' := ?_) #[true, true, true, true, false, true, false, false, false, false, false, false, false] rfl rfl (any_of HT_.out (by kernel_rfl)) (fun _ _ _ h => h) (Or.inl ⟨by rfl, ?_⟩) ?_ ?_
                  rotate_left
                  · intro w'
                    go_simp
                    with_reducible rfl
                  rotate_left
                  · simp only [Act.put, List.setIfInBounds_toArray, List.set_cons_zero, List.set_cons_succ, i64_w, i32_w]
                    rfl
                  refine pure_ (i := 6) (N := some 29) (v := ?_) (a' := ?_) #[true, true, true, true, false, true, true, false, false, false, false, false, false] rfl rfl (any_of HT_.out (by kernel_rfl)) (fun _ _ _ h => h) (Or.inl ⟨by rfl, ?_⟩) ?_ ?_
                  rotate_left
                  · intro w'
                    go_simp
                    with_reducible rfl
                  rotate_left
                  · simp only [Act.put, List.setIfInBounds_toArray, List.set_cons_zero, List.set_cons_succ, i64_w, i32_w]
                    rfl
                  refine pure_ (i := 7) (N := some 30) (v := ?_) (a' := ?_) #[true, true, true, true, false, true, true, true, false, false, false, false, false] rfl rfl (any_of HT_.out (by kernel_rfl)) (fun _ _ _ h => h) (Or.inl ⟨by rfl, ?_⟩) ?_ ?_
                  rotate_left
                  · intro w'
                    go_simp
                    with_reducible rfl
                  rotate_left
                  · simp only [Act.put, List.setIfInBounds_toArray, List.set_cons_zero, List.set_cons_succ, i64_w, i32_w]
                    rfl
                  refine take_ (i := 4) (N := some 27) (v := ?_) (a' := ?_) #[true, true, true, true, true, true, true, true, false, false, false, false, false] rfl rfl (take_ofW HT_.out HW_.out (by kernel_rfl)) (fun _ _ _ h => h) (Or.inl ⟨by rfl, ?_⟩) hHeld ?_ ?_
                  rotate_left
                  · rintro w' ⟨s0, s1⟩
                    go_simp
                    with_reducible rfl
                  rotate_left
                  · simp only [Act.put, List.setIfInBounds_toArray, List.set_cons_zero, List.set_cons_succ, i64_w, i32_w]
                    rfl
                  refine take_ (i := 8) (N := some 31) (v := ?_) (a' := ?_) #[true, true, true, true, true, true, true, true, true, false, false, false, false] rfl rfl (take_ofW HT_.out HW_.out (by kernel_rfl)) (fun _ _ _ h => h) (Or.inl ⟨by rfl, ?_⟩) hHeld ?_ ?_
                  rotate_left
                  · rintro w' ⟨s0, s1⟩
                    go_simp
                    with_reducible rfl
                  rotate_left
                  · simp only [Act.put, List.setIfInBounds_toArray, List.set_cons_zero, List.set_cons_succ, i64_w, i32_w]
                    rfl
                  refine pure_ (i := 9) (N := some 32) (v := ?_) (a' := ?_) #[true, true, true, true, true, true, true, true, true, true, false, false, false] rfl rfl (any_of HT_.out (by kernel_rfl)) (fun _ _ _ h => h) (Or.inl ⟨by rfl, ?_⟩) ?_ ?_
                  rotate_left
                  · intro w'
                    go_simp
                    with_reducible rfl
                  rotate_left
                  · simp only [Act.put, List.setIfInBounds_toArray, List.set_cons_zero, List.set_cons_succ, i64_w, i32_w]
                    rfl
                  refine last_ (i := 10) (N := some 33) #[true, true, true, true, true, true, true, true, true, true, true, false, false] rfl rfl (one_of HT_.out (by kernel_rfl)) (by decide) (fun K hK => ?_)
                  refine value_ (w1 := ?_) (v := ?_) (by rfl) rfl ?_ ?_
                  rotate_left 2
                  · go_simp
                    constructor
                    · rfl
                    · rfl
                  refine hK.out _ _ ?_
                  clear hK K
                  refine norm_ (a' := ?_) ?_ ?_
                  rotate_left
                  · show Act.put _ (some 33) _ = _
                    simp only [Act.put, List.setIfInBounds_toArray, List.set_cons_zero, List.set_cons_succ, i64_w, i32_w]
                    rfl
                  refine last_ (i := 11) (N := some 34) #[true, true, true, true, true, true, true, true, true, true, true, true, false] rfl rfl (one_of HT_.out (by kernel_rfl)) (by decide) (fun K hK => ?_)
                  refine Kd.R_append_step (Kd.int .u8) (w0 := w) w.heap.size (by rfl) (.tmp 23) (.tmp 33) 28 5 (.int .u8 0) 1 rfl Tryd.underlying28 info5 rfl (by decide) (by omega) u10 x10_1 (Go.bits .xor .u8 (rd l0 x12_1) (rd l1 x12_1)) [.int .u8 (Go.bits .xor .u8 (rd l0 x12_1) (rd l1 x12_1))] (fun k_ => (w.heap.size ≤ k_) ∧ some k_ ≠ (u11 : Value).ownBlock) (fun _ => False) rfl rfl ?aP (fun _ hk => hk.elim) ?aF ?aO ?aB ?aS ?aL ?_
                  (case aP => exact rfl)
                  (case aB => exact (by repeat (first | (with_reducible first | exact HB.out | apply below_alloc | apply pw_below_drewN | apply below_drew1) | exact HB.out)))
                  (case aF => exact (fun k_ hk => ⟨(Nat.le_trans (below_size (by repeat (first | (with_reducible first | exact HB.out | apply below_alloc | apply pw_below_drewN | apply below_drew1) | exact HB.out))) hk), Kd.fresh' (Kd.R_lt (by (with_reducible repeat (first | apply Kd.R_alloc | apply Kd.R_drewN | apply Kd.R_drew)); exact HO_11.out)) k_ hk⟩))
                  (case aO => exact (by (with_reducible repeat (first | apply Kd.R_alloc | apply Kd.R_drewN | apply Kd.R_drew)); exact HO_10.out))
                  (case aS => exact (below_size (by repeat (first | (with_reducible first | exact HB.out | apply below_alloc | apply pw_below_drewN | apply below_drew1) | exact HB.out))))
                  (case aL => have := LMc10.out; omega)
                  intro v104 w13 ho hb hg hat
                  rw [← Ny103.out] at ho
                  have n0_ := Aside0.mk (Kd.V_afterv (ok := (fun k_ => ((P0_ k_ ∨ P1_ k_) ∨ w.heap.size ≤ k_) ∧ some k_ ≠ (u11 : Value).ownBlock)) (by (with_reducible repeat (first | apply Kd.V_alloc | apply Kd.V_drewN | apply Kd.V_drew)); exact Kd.V_mono HO_0.out (fun _ hk => ⟨⟨hk.1, hk.2.2⟩, hk.2.1⟩)) hg hat)
                  have n1_ := Aside0.mk (Kd.V_afterv (ok := (fun k_ => ((P0_ k_ ∨ P1_ k_) ∨ w.heap.size ≤ k_) ∧ some k_ ≠ (u11 : Value).ownBlock)) (by (with_reducible repeat (first | apply Kd.V_alloc | apply Kd.V_drewN | apply Kd.V_drew)); exact Kd.V_mono HO_1.out (fun _ hk => ⟨⟨hk.1, hk.2.2⟩, hk.2.1⟩)) hg hat)
                  have n2_ := Aside0.mk (Kd.R_after (ok := (fun k_ => (w.heap.size ≤ k_))) (by (with_reducible repeat (first | apply Kd.R_alloc | apply Kd.R_drewN | apply Kd.R_drew)); exact HO_11.out) hg hat)
                  have n3_ := Aside0.mk (hb)
                  have n4_ := Aside0.mk (ho)
                  clear HO_0
                  clear HO_1
                  clear HO_11
                  clear HB
                  clear HO_10
                  have HO_0 := n0_
                  have HO_1 := n1_
                  have HO_11 := n2_
                  have HB := n3_
                  have HO105 := n4_
                  clear n0_ n1_ n2_ n3_ n4_
                  clear ho hb hg hat
                  refine hK.out _ _ ?_
                  clear hK K
                  refine norm_ (a' := ?_) ?_ ?_
                  rotate_left
                  · show Act.put _ (some 34) _ = _
                    simp only [Act.put, List.setIfInBounds_toArray, List.set_cons_zero, List.set_cons_succ, i64_w, i32_w]
                    rfl
                  refine pure_ (i := 12) (N := some 10) (v := ?_) (a' := ?_) #[true, true, true, true, true, true, true, true, true, true, true, true, true] rfl rfl (any_of HT_.out (by kernel_rfl)) (fun _ _ _ h => h) (Or.inl ⟨by rfl, ?_⟩) ?_ ?_
                  rotate_left
                  · intro w'
                    go_simp
                    with_reducible rfl
                  rotate_left
                  · simp only [Act.put, List.setIfInBounds_toArray, List.set_cons_zero, List.set_cons_succ, i64_w, i32_w]
                    rfl
                  refine done_ (done_of HT_.out (by kernel_rfl)) ?_
                  try go_wp2_with (first | ((with_reducible refine gate_builtin (b := .append) (xs := #[.tmp 35, .tmp 36]) rfl ?_); at_builtin; refine Kd.R_append (Kd.int .u8) (w0 := w) w.heap.size rfl (.tmp 35) (.tmp 36) 28 5 (.int .u8 0) 1 rfl Tryd.underlying28 info5 rfl (by decide) (by omega) u11 x11_1 0 [.int .u8 0] (fun k_ => (w.heap.size ≤ k_) ∧ some k_ ≠ (v104 : Value).ownBlock) (fun _ => False) rfl rfl ?aP (fun _ hk => hk.elim) ?aF ?aO ?aB ?aS ?aL ?_; (case aP => exact rfl); (case aB => exact (by repeat (first | (with_reducible first | exact HB.out | apply below_alloc | apply pw_below_drewN | apply below_drew1) | exact HB.out))); (case aF => exact (fun k_ hk => ⟨(Nat.le_trans (below_size (by repeat (first | (with_reducible first | exact HB.out | apply below_alloc | apply pw_below_drewN | apply below_drew1) | exact HB.out))) hk), Kd.fresh' (Kd.R_lt (by (with_reducible repeat (first | apply Kd.R_alloc | apply Kd.R_drewN | apply Kd.R_drew)); exact HO105.out)) k_ hk⟩)); (case aO => exact (by (with_reducible repeat (first | apply Kd.R_alloc | apply Kd.R_drewN | apply Kd.R_drew)); exact HO_11.out)); (case aS => exact (below_size (by repeat (first | (with_reducible first | exact HB.out | apply below_alloc | apply pw_below_drewN | apply below_drew1) | exact HB.out)))); (case aL => have := LMc11.out; omega); intro v107 w14 ho hb hg hat; rw [← Ny106.out] at ho; have n0_ := Aside0.mk (Kd.V_afterv (ok := (fun k_ => ((P0_ k_ ∨ P1_ k_) ∨ w.heap.size ≤ k_) ∧ some k_ ≠ (v104 : Value).ownBlock)) (by (with_reducible repeat (first | apply Kd.V_alloc | apply Kd.V_drewN | apply Kd.V_drew)); exact Kd.V_mono HO_0.out (fun _ hk => ⟨⟨hk.1.1, hk.2⟩, hk.1.2⟩)) hg hat); have n1_ := Aside0.mk (Kd.V_afterv (ok := (fun k_ => ((P0_ k_ ∨ P1_ k_) ∨ w.heap.size ≤ k_) ∧ some k_ ≠ (v104 : Value).ownBlock)) (by (with_reducible repeat (first | apply Kd.V_alloc | apply Kd.V_drewN | apply Kd.V_drew)); exact Kd.V_mono HO_1.out (fun _ hk => ⟨⟨hk.1.1, hk.2⟩, hk.1.2⟩)) hg hat); have n2_ := Aside0.mk (Kd.R_after (ok := (fun k_ => (w.heap.size ≤ k_))) (by (with_reducible repeat (first | apply Kd.R_alloc | apply Kd.R_drewN | apply Kd.R_drew)); exact HO105.out) hg hat); have n3_ := Aside0.mk (hb); have n4_ := Aside0.mk (ho); clear HO_0; clear HO_1; clear HO105; clear HB; clear HO_11; have HO_0 := n0_; have HO_1 := n1_; have HO105 := n2_; have HB := n3_; have HO108 := n4_; clear n0_ n1_ n2_ n3_ n4_; clear ho hb hg hat))
                  go_roundg k1
                  case measure => have := HK1.out; omega
                  case rel => exact ⟨(y103), (y106), (wrap64 (x12_1 + 1)), (by first | rfl | (simp; done) | (simp [*]; done)), H', ⟨by have := HK1.out; omega⟩, ⟨by (with_reducible repeat (first | apply Kd.V_alloc | apply Kd.V_drewN | apply Kd.V_drew)); exact Kd.V_mono HO_0.out (fun _ hk => ⟨hk.1.1, ⟨hk.1.2, hk.2⟩⟩)⟩, ⟨by (with_reducible repeat (first | apply Kd.V_alloc | apply Kd.V_drewN | apply Kd.V_drew)); exact Kd.V_mono HO_1.out (fun _ hk => ⟨hk.1.1, ⟨hk.1.2, hk.2⟩⟩)⟩, ⟨by (with_reducible repeat (first | apply Kd.R_alloc | apply Kd.R_drewN | apply Kd.R_drew)); exact HO105.out⟩, ⟨by (with_reducible repeat (first | apply Kd.R_alloc | apply Kd.R_drewN | apply Kd.R_drew)); exact HO108.out⟩, ⟨by repeat (first | (with_reducible first | exact HB.out | apply below_alloc | apply pw_below_drewN | apply below_drew1) | exact HB.out)⟩⟩
                · rw [if_neg c11] at H
                  exact absurd H (by simp)
              · rw [if_neg c10] at H
                exact absurd H (by simp)
            · rw [if_neg c9] at H
              exact absurd H (by simp)
          · rw [if_neg c8] at H
            exact absurd H (by simp)
        · rw [if_neg c7] at H
          exact absurd H (by simp)
      · rw [if_neg c6] at H
        have c6b0 : decide (x12_1 < ji5) = false := decide_eq_false c6
        clear c6
        have HC15 := Aside0.mk H
        clear H
        go_upto_region 8 with (fail)
        go_cut [60] (fun v60 wc => ∃ (kq : Nat) (x60_14 : Bool), v60 = .bool x60_14 ∧ Aside0 (tidemarklaw02_CrcLinear.j1 kq l0 a2 a3 x60_14 = some r) ∧ Aside0 (kq ≤ k1) ∧ Aside0 (Kd.V (Kd.int .u8) 5 wc w.heap.size (fun k_ => ((P0_ k_ ∨ P1_ k_) ∨ w.heap.size ≤ k_)) (.slice A0 l0.length c0) l0) ∧ Aside0 (Below w.heap.size w wc))
        case first =>
          have H := HC15.out
          clear HC15
          obtain ⟨y109, hy109⟩ : ∃ y_ : List (List Int), y_ = (([x10_1] : List (List Int))) := ⟨_, rfl⟩
          replace H : ((crc_Sum.f y109).bind fun t112 => (if 0 ≤ ji5 then (if ji5 ≤ (l0.length : Int) then ((crc_Sum.f (([(l0.take (ji5 : Int).toNat)] : List (List Int)))).bind fun t121 => (if ji5 ≤ (l1.length : Int) then ((crc_Sum.f (([(l1.take (ji5 : Int).toNat)] : List (List Int)))).bind fun t130 => ((crc_Sum.f (([x11_1] : List (List Int)))).bind fun t134 => (if t112 = (Go.bits .xor .u32 (Go.bits .xor .u32 t121 t130) t134) then ((tidemarklaw02_known.f).bind fun t135 => (tidemarklaw02_CrcLinear.j1 k1 l0 a2 a3 (!t135))) else (tidemarklaw02_CrcLinear.j1 k1 l0 a2 a3 true)))) else (none))) else (none)) else (none))) = some r := by first | (rw [hy109]; with_reducible exact H) | (have H2_ := (Option.bind_some _ _).symm.trans H; rw [hy109]; with_reducible exact H2_) | (have H2_ := (Option.bind_some _ _).symm.trans H; with_reducible exact H2_) | with_reducible exact H | (rw [hy109]; exact H) | exact H
          have Ny109 := Aside0.mk hy109
          clear hy109
          replace H := Option.bind_eq_some_iff.mp H
          obtain ⟨t112, A160, H⟩ := H
          replace H : (if 0 ≤ ji5 then (if ji5 ≤ (l0.length : Int) then ((crc_Sum.f (([(l0.take (ji5 : Int).toNat)] : List (List Int)))).bind fun t121 => (if ji5 ≤ (l1.length : Int) then ((crc_Sum.f (([(l1.take (ji5 : Int).toNat)] : List (List Int)))).bind fun t130 => ((crc_Sum.f (([x11_1] : List (List Int)))).bind fun t134 => (if t112 = (Go.bits .xor .u32 (Go.bits .xor .u32 t121 t130) t134) then ((tidemarklaw02_known.f).bind fun t135 => (tidemarklaw02_CrcLinear.j1 k1 l0 a2 a3 (!t135))) else (tidemarklaw02_CrcLinear.j1 k1 l0 a2 a3 true)))) else (none))) else (none)) else (none)) = some r := H
          have A16 := Aside0.mk A160
          clear A160
          by_cases c17 : 0 ≤ ji5
          · rw [if_pos c17] at H
            have c17b0 := eq_true c17
            have c17b1 : decide (0 ≤ ji5) = true := decide_eq_true c17
            clear c17
            by_cases c18 : ji5 ≤ (l0.length : Int)
            · rw [if_pos c18] at H
              have c18b0 := eq_true c18
              have c18b1 : decide (ji5 ≤ (l0.length : Int)) = true := decide_eq_true c18
              clear c18
              obtain ⟨y113, hy113⟩ : ∃ y_ : List Int, y_ = (l0.take (ji5 : Int).toNat) := ⟨_, rfl⟩
              replace H : ((crc_Sum.f (([y113] : List (List Int)))).bind fun t121 => (if ji5 ≤ (l1.length : Int) then ((crc_Sum.f (([(l1.take (ji5 : Int).toNat)] : List (List Int)))).bind fun t130 => ((crc_Sum.f (([x11_1] : List (List Int)))).bind fun t134 => (if t112 = (Go.bits .xor .u32 (Go.bits .xor .u32 t121 t130) t134) then ((tidemarklaw02_known.f).bind fun t135 => (tidemarklaw02_CrcLinear.j1 k1 l0 a2 a3 (!t135))) else (tidemarklaw02_CrcLinear.j1 k1 l0 a2 a3 true)))) else (none))) = some r := by first | (rw [hy113]; with_reducible exact H) | (have H2_ := (Option.bind_some _ _).symm.trans H; rw [hy113]; with_reducible exact H2_) | (have H2_ := (Option.bind_some _ _).symm.trans H; with_reducible exact H2_) | with_reducible exact H | (rw [hy113]; exact H) | exact H
              have Ny113 := Aside0.mk hy113
              clear hy113
              obtain ⟨y118, hy118⟩ : ∃ y_ : List (List Int), y_ = (([y113] : List (List Int))) := ⟨_, rfl⟩
              replace H : ((crc_Sum.f y118).bind fun t121 => (if ji5 ≤ (l1.length : Int) then ((crc_Sum.f (([(l1.take (ji5 : Int).toNat)] : List (List Int)))).bind fun t130 => ((crc_Sum.f (([x11_1] : List (List Int)))).bind fun t134 => (if t112 = (Go.bits .xor .u32 (Go.bits .xor .u32 t121 t130) t134) then ((tidemarklaw02_known.f).bind fun t135 => (tidemarklaw02_CrcLinear.j1 k1 l0 a2 a3 (!t135))) else (tidemarklaw02_CrcLinear.j1 k1 l0 a2 a3 true)))) else (none))) = some r := by first | (rw [hy118]; with_reducible exact H) | (have H2_ := (Option.bind_some _ _).symm.trans H; rw [hy118]; with_reducible exact H2_) | (have H2_ := (Option.bind_some _ _).symm.trans H; with_reducible exact H2_) | with_reducible exact H | (rw [hy118]; exact H) | exact H
              have Ny118 := Aside0.mk hy118
              clear hy118
              replace H := Option.bind_eq_some_iff.mp H
              obtain ⟨t121, A190, H⟩ := H
              replace H : (if ji5 ≤ (l1.length : Int) then ((crc_Sum.f (([(l1.take (ji5 : Int).toNat)] : List (List Int)))).bind fun t130 => ((crc_Sum.f (([x11_1] : List (List Int)))).bind fun t134 => (if t112 = (Go.bits .xor .u32 (Go.bits .xor .u32 t121 t130) t134) then ((tidemarklaw02_known.f).bind fun t135 => (tidemarklaw02_CrcLinear.j1 k1 l0 a2 a3 (!t135))) else (tidemarklaw02_CrcLinear.j1 k1 l0 a2 a3 true)))) else (none)) = some r := H
              have A19 := Aside0.mk A190
              clear A190
              have c20b0 := eq_true (of_decide_eq_true (by first | (with_reducible assumption) | assumption) : 0 ≤ ji5)
              by_cases c21 : ji5 ≤ (l1.length : Int)
              · rw [if_pos c21] at H
                have c21b0 := eq_true c21
                have c21b1 : decide (ji5 ≤ (l1.length : Int)) = true := decide_eq_true c21
                clear c21
                obtain ⟨y122, hy122⟩ : ∃ y_ : List Int, y_ = (l1.take (ji5 : Int).toNat) := ⟨_, rfl⟩
                replace H : ((crc_Sum.f (([y122] : List (List Int)))).bind fun t130 => ((crc_Sum.f (([x11_1] : List (List Int)))).bind fun t134 => (if t112 = (Go.bits .xor .u32 (Go.bits .xor .u32 t121 t130) t134) then ((tidemarklaw02_known.f).bind fun t135 => (tidemarklaw02_CrcLinear.j1 k1 l0 a2 a3 (!t135))) else (tidemarklaw02_CrcLinear.j1 k1 l0 a2 a3 true)))) = some r := by first | (rw [hy122]; with_reducible exact H) | (have H2_ := (Option.bind_some _ _).symm.trans H; rw [hy122]; with_reducible exact H2_) | (have H2_ := (Option.bind_some _ _).symm.trans H; with_reducible exact H2_) | with_reducible exact H | (rw [hy122]; exact H) | exact H
                have Ny122 := Aside0.mk hy122
                clear hy122
                obtain ⟨y127, hy127⟩ : ∃ y_ : List (List Int), y_ = (([y122] : List (List Int))) := ⟨_, rfl⟩
                replace H : ((crc_Sum.f y127).bind fun t130 => ((crc_Sum.f (([x11_1] : List (List Int)))).bind fun t134 => (if t112 = (Go.bits .xor .u32 (Go.bits .xor .u32 t121 t130) t134) then ((tidemarklaw02_known.f).bind fun t135 => (tidemarklaw02_CrcLinear.j1 k1 l0 a2 a3 (!t135))) else (tidemarklaw02_CrcLinear.j1 k1 l0 a2 a3 true)))) = some r := by first | (rw [hy127]; with_reducible exact H) | (have H2_ := (Option.bind_some _ _).symm.trans H; rw [hy127]; with_reducible exact H2_) | (have H2_ := (Option.bind_some _ _).symm.trans H; with_reducible exact H2_) | with_reducible exact H | (rw [hy127]; exact H) | exact H
                have Ny127 := Aside0.mk hy127
                clear hy127
                replace H := Option.bind_eq_some_iff.mp H
                obtain ⟨t130, A220, H⟩ := H
                replace H : ((crc_Sum.f (([x11_1] : List (List Int)))).bind fun t134 => (if t112 = (Go.bits .xor .u32 (Go.bits .xor .u32 t121 t130) t134) then ((tidemarklaw02_known.f).bind fun t135 => (tidemarklaw02_CrcLinear.j1 k1 l0 a2 a3 (!t135))) else (tidemarklaw02_CrcLinear.j1 k1 l0 a2 a3 true))) = some r := H
                have A22 := Aside0.mk A220
                clear A220
                obtain ⟨y131, hy131⟩ : ∃ y_ : List (List Int), y_ = (([x11_1] : List (List Int))) := ⟨_, rfl⟩
                replace H : ((crc_Sum.f y131).bind fun t134 => (if t112 = (Go.bits .xor .u32 (Go.bits .xor .u32 t121 t130) t134) then ((tidemarklaw02_known.f).bind fun t135 => (tidemarklaw02_CrcLinear.j1 k1 l0 a2 a3 (!t135))) else (tidemarklaw02_CrcLinear.j1 k1 l0 a2 a3 true))) = some r := by first | (rw [hy131]; with_reducible exact H) | (have H2_ := (Option.bind_some _ _).symm.trans H; rw [hy131]; with_reducible exact H2_) | (have H2_ := (Option.bind_some _ _).symm.trans H; with_reducible exact H2_) | with_reducible exact H | (rw [hy131]; exact H) | exact H
                have Ny131 := Aside0.mk hy131
                clear hy131
                replace H := Option.bind_eq_some_iff.mp H
                obtain ⟨t134, A230, H⟩ := H
                replace H : (if t112 = (Go.bits .xor .u32 (Go.bits .xor .u32 t121 t130) t134) then ((tidemarklaw02_known.f).bind fun t135 => (tidemarklaw02_CrcLinear.j1 k1 l0 a2 a3 (!t135))) else (tidemarklaw02_CrcLinear.j1 k1 l0 a2 a3 true)) = some r := H
                have A23 := Aside0.mk A230
                clear A230
                by_cases c24 : t112 = (Go.bits .xor .u32 (Go.bits .xor .u32 t121 t130) t134)
                · rw [if_pos c24] at H
                  have c24b1 : (t112 != (Go.bits .xor .u32 (Go.bits .xor .u32 t121 t130) t134)) = false := bne_eq_false_iff_eq.mpr c24
                  clear c24
                  replace H := Option.bind_eq_some_iff.mp H
                  obtain ⟨t135, A250, H⟩ := H
                  replace H : (tidemarklaw02_CrcLinear.j1 k1 l0 a2 a3 (!t135)) = some r := H
                  obtain rfl : true = t135 := Option.some.inj A250
                  have H' := Aside0.mk H
                  clear H A250
                  have q27 : (ji5 : Int) ≤ ((l0.length : Int) : Int) := of_decide_eq_true (by first | (with_reducible assumption) | assumption)
                  obtain ⟨i027, hi027, _, hsz27, _⟩ := info_parts info5
                  have hroom27 : l0.length ≤ c0 := (Kd.V_reads' HO_0.out).2.1
                  have hC27 : Kd.F (Kd.int .u8) _ _ A0 l0.length l0 := (Kd.V_at (base := w.heap.size) HO_0.out).2.2
                  have hcut27 := cut_to (P := Tryd.prog) 28 5 .i64 Tryd.underlying28 hi027 A0 l0.length c0 ji5 (of_decide_eq_true (by first | (with_reducible assumption) | assumption)) q27 hroom27
                  have hr27 := Kd.F_take (m := (ji5 : Int).toNat) hC27 (by omega)
                  have hy27 : y113.length = (ji5 : Int).toNat := (by rw [Ny113.out, List.length_take]; omega)
                  rw [← Ny113.out] at hr27
                  rw [← hy27] at hcut27
                  have q28 : (ji5 : Int) ≤ ((l1.length : Int) : Int) := of_decide_eq_true (by first | (with_reducible assumption) | assumption)
                  obtain ⟨i028, hi028, _, hsz28, _⟩ := info_parts info5
                  have hroom28 : l1.length ≤ c1 := (Kd.V_reads' HO_1.out).2.1
                  have hC28 : Kd.F (Kd.int .u8) _ _ A1 l1.length l1 := (Kd.V_at (base := w.heap.size) HO_1.out).2.2
                  have hcut28 := cut_to (P := Tryd.prog) 28 5 .i64 Tryd.underlying28 hi028 A1 l1.length c1 ji5 (of_decide_eq_true (by first | (with_reducible assumption) | assumption)) q28 hroom28
                  have hr28 := Kd.F_take (m := (ji5 : Int).toNat) hC28 (by omega)
                  have hy28 : y122.length = (ji5 : Int).toNat := (by rw [Ny122.out, List.length_take]; omega)
                  rw [← Ny122.out] at hr28
                  rw [← hy28] at hcut28
                  obtain ⟨Ao29, co29, eo29⟩ := Kd.R_slice HO_10.out
                  subst eo29
                  obtain ⟨Ao30, co30, eo30⟩ := Kd.R_slice HO_11.out
                  subst eo30
                  have hc0_ : y113.length ≤ c0 := by omega
                  have hc1_ : y122.length ≤ c1 := by omega
                  have z0_ := (Kd.V_reads' (Kd.V_mk (e := 5) (base := w.heap.size) hc0_ hr27)).2.2
                  have z1_ := (Kd.V_reads' (Kd.V_mk (e := 5) (base := w.heap.size) hc1_ hr28)).2.2
                  have g109_ := Ny109.out; have g118_ := Ny118.out; have g127_ := Ny127.out; have g131_ := Ny131.out; clear Ny109 Ny118 Ny127 Ny131; subst g109_ g118_ g127_ g131_
                  refine Go.Slots.wp_region_slots (ops := ops8) (lin A0 A1 Ao29 Ao30 c0 c1 co29 co30 l0 l1 x10_1 x11_1 y113 y122 ji5 t112 t121 t130 t134) (fun W => Below wr.heap.size wr W) (by kernel_rfl) deps8 (below_drew1 (Below.refl _ _)) (fun s v W W' hb h => lin_mono s v W W' hb h)
                    (lin_steps rfl rfl rfl rfl rfl (Kd.R_reads' HO_10.out).2.2 (Kd.R_reads' HO_10.out).2.1 (Kd.R_reads' HO_11.out).2.2 (Kd.R_reads' HO_11.out).2.1 z0_ hc0_ z1_ hc1_ (hT.out.step HB.out) hcut27 hcut28 A16.out A19.out A22.out A23.out c24b1) ?_
                  intro us w26 hG hu
                  rw [frame8]
                  have h60 : us 60 = .bool false := hu 60 (by kernel_rfl)
                  try go_wp2
                  go_meet
                  case rel => exact ⟨_, (false), h60, H', ⟨by have := HK1.out; first | omega | exact Nat.le_refl _⟩, ⟨Kd.V_mono (Kd.V_below HO_0.out hG) (fun _ hk => hk.1)⟩, ⟨below_step HB.out hG⟩⟩
                · rw [if_neg c24] at H
                  cases k1 with
                  | zero => exact absurd H (by simp [tidemarklaw02_CrcLinear.j1])
                  | succ k1 =>
                    simp only [tidemarklaw02_CrcLinear.j1, if_true] at H
                    exact absurd ((Option.some.inj H).trans HPR.out) (by decide)
              · rw [if_neg c21] at H
                exact absurd H (by simp)
            · rw [if_neg c18] at H
              exact absurd H (by simp)
          · rw [if_neg c17] at H
            exact absurd H (by simp)
        case rest =>
          clear HC15
          try clear c1
          try clear c2
          try clear p2
          try clear c9
          try clear c17
          try clear c18
          try clear c21
          obtain ⟨kq, x60_14, rfl, HA, HJ14, HO_0, HB⟩ := hcut
          cases kq with
          | zero => exact absurd HA.out (by simp [tidemarklaw02_CrcLinear.j1])
          | succ kj14 =>
            have H := HA.out
            clear HA
            simp only [tidemarklaw02_CrcLinear.j1] at H
            by_cases c63 : x60_14 = true
            · subst c63
              have H1 : (some false) = some r := by rw [if_pos rfl] at H; exact H
              clear H
              have H := H1
              clear H1
              exact absurd ((Option.some.inj H).trans HPR.out) (by decide)
            · replace c63 := Bool.eq_false_iff.mpr c63
              subst c63
              have H1 : ((crc_More.f a2 l0).bind fun t136 => ((crc_More.f a3 l0).bind fun t137 => (some ((t136 == t137) == (a2 == a3))))) = some r := by rw [if_neg (show ¬ (false = true) by decide)] at H; exact H
              clear H
              have H := H1
              clear H1
              replace H := Option.bind_eq_some_iff.mp H
              obtain ⟨t136, A640, H⟩ := H
              replace H : ((crc_More.f a3 l0).bind fun t137 => (some ((t136 == t137) == (a2 == a3)))) = some r := H
              have A64 := Aside0.mk A640
              clear A640
              replace H := Option.bind_eq_some_iff.mp H
              obtain ⟨t137, A650, H⟩ := H
              replace H : (some ((t136 == t137) == (a2 == a3))) = some r := H
              have A65 := Aside0.mk A650
              clear A650
              obtain rfl := Option.some.inj H
              clear HPR
              go_wp2_with (first | ((with_reducible refine gate_callee (f := 11) rfl ?_); refine goesL_ (some 63) rfl rfl Tryd.func11 (by kernel_rfl) rfl #[.int .u32 a2, .slice A0 l0.length c0] rfl (by (try simp only [List.map_toArray, List.map_cons, List.map_nil]); first | done | rfl | (simp only [List.length_drop, List.length_take]; rfl)) ?_; (with_reducible refine (crc_More.calls a2 _ _ l0 t136 _ ?side1 ?side2 A64.out).mono ?_); (case side1 => repeat (first | exact (Kd.V_reads' HO_0.out).2.2 | (with_reducible refine Kd.C_alloc ?_ _) | (with_reducible refine Kd.C_drewN ?_ _) | (with_reducible refine Kd.C_drew ?_))); (case side2 => exact (Kd.V_reads' HO_0.out).2.1); rintro e w' ⟨rfl, ⟨nd, rfl⟩⟩; refine ⟨_, rfl, ?_⟩) | ((with_reducible refine gate_callee (f := 11) rfl ?_); refine goesL_ (some 66) rfl rfl Tryd.func11 (by kernel_rfl) rfl #[.int .u32 a3, .slice A0 l0.length c0] rfl (by (try simp only [List.map_toArray, List.map_cons, List.map_nil]); first | done | rfl | (simp only [List.length_drop, List.length_take]; rfl)) ?_; (with_reducible refine (crc_More.calls a3 _ _ l0 t137 _ ?side1 ?side2 A65.out).mono ?_); (case side1 => repeat (first | exact (Kd.V_reads' HO_0.out).2.2 | (with_reducible refine Kd.C_alloc ?_ _) | (with_reducible refine Kd.C_drewN ?_ _) | (with_reducible refine Kd.C_drew ?_))); (case side2 => exact (Kd.V_reads' HO_0.out).2.1); rintro e w' ⟨rfl, ⟨nd, rfl⟩⟩; refine ⟨_, rfl, ?_⟩))
              go_ret
              exact ⟨by first | rfl | (simp [errW_none, errW_some] <;> rfl) | (simp only [← hji5]; first | rfl | (simp [errW_none, errW_some] <;> rfl)) | (simp [*, errW_none, errW_some] <;> rfl), by repeat (first | (with_reducible first | exact HB.out | apply below_alloc | apply pw_below_drewN | apply below_drew1) | exact HB.out)⟩

end Go.Proofs.YtbienfoijomibaaDoor.QA
