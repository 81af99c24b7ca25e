-- Laid by a program of this session out of Lean's own print of the program; hand-made contracts are pasted in. Lean checks it.
import Derived.Test.YtbienfoijomibaaDoorQAx0
import Derived.Test.YtbienfoijomibaaDoorQAx1
import Derived.Test.YtbienfoijomibaaDoorQAx2
import Derived.Test.YtbienfoijomibaaDoorQAx3
namespace Go.Proofs.YtbienfoijomibaaDoor.QA
open Go.RowKit Go.Proofs.YtbienfoijomibaaDoorW.PrintWords Go.Proofs.YtbienfoijomibaaDoorW.PrintLast Go.Proofs.YtbienfoijomibaaDoorW.PrintMore
attribute [local go_sem] max2_int min2_int max_two min_two max_three min_three max_four min_four   -- for this text's walks alone
set_option linter.unusedVariables false
set_option linter.unusedSimpArgs false

/-! ### tidemarklaw02_CrcCuts: function 4 -/
def tidemarklaw02_CrcCuts.l0 : Nat → List Int → List Int → Int → List (List Int) → Int → Int → Int → Option (Bool)
  | 0, _, _, _, _, _, _, _ => none
  | k + 1, x0, x1, x5, x6, x7, x8, x9 => if x9 < (x1.length : Int) then (if 0 ≤ x9 then (if (wrap64 ((wrap64 ((x0.length : Int) - x7)) + 1)) = 0 then (none) else (if (Int.tmod (rd x1 x9) (wrap64 ((wrap64 ((x0.length : Int) - x7)) + 1))) < 0 then (if 0 ≤ x7 then (if x7 ≤ (wrap64 (x7 + (wrap64 (-(Int.tmod (rd x1 x9) (wrap64 ((wrap64 ((x0.length : Int) - x7)) + 1))))))) then (if (wrap64 (x7 + (wrap64 (-(Int.tmod (rd x1 x9) (wrap64 ((wrap64 ((x0.length : Int) - x7)) + 1))))))) ≤ (x0.length : Int) then ((some ((x0.take ((wrap64 (x7 + (wrap64 (-(Int.tmod (rd x1 x9) (wrap64 ((wrap64 ((x0.length : Int) - x7)) + 1))))))) : Int).toNat).drop (x7 : Int).toNat : List Int)).bind fun y118 => (if x6.length < 5864062014805 then ((crc_More.f x8 y118).bind fun t131 => (tidemarklaw02_CrcCuts.l0 k x0 x1 x5 (x6 ++ [y118]) (wrap64 (x7 + (wrap64 (-(Int.tmod (rd x1 x9) (wrap64 ((wrap64 ((x0.length : Int) - x7)) + 1))))))) t131 (wrap64 (x9 + 1)))) else (none))) else (none)) else (none)) else (none)) else (if 0 ≤ x7 then (if x7 ≤ (wrap64 (x7 + (Int.tmod (rd x1 x9) (wrap64 ((wrap64 ((x0.length : Int) - x7)) + 1))))) then (if (wrap64 (x7 + (Int.tmod (rd x1 x9) (wrap64 ((wrap64 ((x0.length : Int) - x7)) + 1))))) ≤ (x0.length : Int) then ((some ((x0.take ((wrap64 (x7 + (Int.tmod (rd x1 x9) (wrap64 ((wrap64 ((x0.length : Int) - x7)) + 1))))) : Int).toNat).drop (x7 : Int).toNat : List Int)).bind fun y132 => (if x6.length < 5864062014805 then ((crc_More.f x8 y132).bind fun t145 => (tidemarklaw02_CrcCuts.l0 k x0 x1 x5 (x6 ++ [y132]) (wrap64 (x7 + (Int.tmod (rd x1 x9) (wrap64 ((wrap64 ((x0.length : Int) - x7)) + 1))))) t145 (wrap64 (x9 + 1)))) else (none))) else (none)) else (none)) else (none)))) else (none)) else (if 0 ≤ x7 then (if x7 ≤ (x0.length : Int) then ((some (x0.drop (x7 : Int).toNat : List Int)).bind fun y146 => (if x6.length < 5864062014805 then ((crc_Sum.f (x6 ++ [y146])).bind fun t154 => (if t154 = x5 then ((crc_More.f x8 y146).bind fun t160 => (some (t160 == x5))) else (some false))) else (none))) else (none)) else (none))
def tidemarklaw02_CrcCuts.f (k : Nat) (l0 : List Int) (l1 : List Int) : Option (Bool) := (tidemarklaw02_known.f).bind fun t112 => (if t112 = true then ((crc_Sum.f (([l0] : List (List Int)))).bind fun t116 => (tidemarklaw02_CrcCuts.l0 k l0 l1 t116 ([] : List (List Int)) 0 0 0)) else (some false))
theorem tidemarklaw02_CrcCuts.mono_l : ∀ k, (∀ y0 y1 y2 y3 y4 y5 y6, LeO (tidemarklaw02_CrcCuts.l0 k y0 y1 y2 y3 y4 y5 y6) (tidemarklaw02_CrcCuts.l0 (k + 1) y0 y1 y2 y3 y4 y5 y6))
  | 0 => fun _ _ _ _ _ _ _ r h => by simp [tidemarklaw02_CrcCuts.l0] at h
  | k + 1 => by
    have ih0 := tidemarklaw02_CrcCuts.mono_l k
    · intro y0 y1 y2 y3 y4 y5 y6
      unfold tidemarklaw02_CrcCuts.l0
      repeat' first
      | (with_reducible exact ih0 _ _ _ _ _ _ _)
      | (with_reducible exact LeO.refl _)
      | (with_reducible exact LeO.none _)
      | (with_reducible refine LeO.ite ?_ ?_)
      | (with_reducible refine LeO.bind ?_ (fun _ => ?_))
      | exact ih0 _ _ _ _ _ _ _
      | exact LeO.none _
      | refine LeO.ite ?_ ?_
      | refine LeO.bind ?_ (fun _ => ?_)
theorem tidemarklaw02_CrcCuts.mono : ∀ a0 a1 k, LeO (tidemarklaw02_CrcCuts.f k a0 a1) (tidemarklaw02_CrcCuts.f (k + 1) a0 a1) := by
  intro a0 a1 k
  have ih0 := tidemarklaw02_CrcCuts.mono_l k
  unfold tidemarklaw02_CrcCuts.f
  repeat' first
      | (with_reducible exact ih0 _ _ _ _ _ _ _)
      | (with_reducible exact LeO.refl _)
      | (with_reducible exact LeO.none _)
      | (with_reducible refine LeO.ite ?_ ?_)
      | (with_reducible refine LeO.bind ?_ (fun _ => ?_))
      | exact ih0 _ _ _ _ _ _ _
      | exact LeO.none _
      | refine LeO.ite ?_ ?_
      | refine LeO.bind ?_ (fun _ => ?_)
set_option maxHeartbeats 8000000 in
set_option maxRecDepth 100000 in
theorem tidemarklaw02_CrcCuts.calls (k : Nat) (P0_ : Nat → Prop) (A0 : Option Addr) (c0 : Nat) (l0 : List Int) (A1 : Option Addr) (c1 : Nat) (l1 : List Int) (r : Bool) (w : World) (hs0 : Kd.V (Kd.int .u8) 5 w w.heap.size (fun k_ => P0_ k_) (.slice A0 l0.length c0) l0) (hr1 : Kd.C (Kd.int .i64) w A1 l1.length l1) (hc1 : l1.length ≤ c1) (h : tidemarklaw02_CrcCuts.f k l0 l1 = some r) (hr_ : r = true) (hT : Aside0 (Tab w)) :
    Calls Tryd.prog 4 #[.slice A0 l0.length c0, .slice A1 l1.length c1] w fun e w' => e = .returned (.bool r) ∧ Below w.heap.size w w' := by
  have HPR := Aside0.mk hr_
  clear hr_
  have HO0 := Aside0.mk (show Kd.V (Kd.int .u8) 5 w w.heap.size (fun k_ => (P0_ k_ ∨ w.heap.size ≤ k_)) (.slice A0 l0.length c0) l0 from Kd.V_mono hs0 (fun k_ hk => .inl hk))
  have HR1 := Aside0.mk hr1
  have HC1 := Aside0.mk hc1
  clear hr1 hc1
  have HB := Aside0.mk (Below.refl w.heap.size w)
  have H : ((tidemarklaw02_known.f).bind fun t112 => (if t112 = true then ((crc_Sum.f (([l0] : List (List Int)))).bind fun t116 => (tidemarklaw02_CrcCuts.l0 k l0 l1 t116 ([] : List (List Int)) 0 0 0)) else (some false))) = some r := h
  clear h
  replace H := Option.bind_eq_some_iff.mp H
  obtain ⟨t112, A30, H⟩ := H
  replace H : (if t112 = true then ((crc_Sum.f (([l0] : List (List Int)))).bind fun t116 => (tidemarklaw02_CrcCuts.l0 k l0 l1 t116 ([] : List (List Int)) 0 0 0)) else (some false)) = some r := H
  have A3 := Aside0.mk A30
  clear A30
  by_cases c4 : t112 = true
  · subst c4
    have H1 : ((crc_Sum.f (([l0] : List (List Int)))).bind fun t116 => (tidemarklaw02_CrcCuts.l0 k l0 l1 t116 ([] : List (List Int)) 0 0 0)) = some r := by rw [if_pos rfl] at H; exact H
    clear H
    have H := H1
    clear H1
    obtain ⟨y113, hy113⟩ : ∃ y_ : List (List Int), y_ = (([l0] : List (List Int))) := ⟨_, rfl⟩
    replace H : ((crc_Sum.f y113).bind fun t116 => (tidemarklaw02_CrcCuts.l0 k l0 l1 t116 ([] : List (List Int)) 0 0 0)) = some r := by first | (rw [hy113]; with_reducible exact H) | (have H2_ := (Option.bind_some _ _).symm.trans H; rw [hy113]; with_reducible exact H2_) | (have H2_ := (Option.bind_some _ _).symm.trans H; with_reducible exact H2_) | with_reducible exact H | (rw [hy113]; exact H) | exact H
    have Ny113 := Aside0.mk hy113
    clear hy113
    replace H := Option.bind_eq_some_iff.mp H
    obtain ⟨t116, A50, H⟩ := H
    replace H : (tidemarklaw02_CrcCuts.l0 k l0 l1 t116 ([] : List (List Int)) 0 0 0) = some r := H
    have A5 := Aside0.mk A50
    clear A50
    have H' := Aside0.mk H
    clear H
    go_enter Tryd.func4, Tryd.ntmps4
    go_wp2_with (first | ((with_reducible refine gate_callee (f := 8) rfl ?_); refine goesL_ (some 11) rfl rfl Tryd.func8 (by kernel_rfl) rfl #[] rfl (by (try simp only [List.map_toArray, List.map_cons, List.map_nil]); first | done | rfl | (simp only [List.length_drop, List.length_take]; rfl)) ?_; (with_reducible refine (tidemarklaw02_known.calls  true _ A3.out).mono ?_); rintro e w6 ⟨rfl, hb⟩; refine ⟨_, rfl, ?_⟩; have n0_ := Aside0.mk (Kd.V_below (by (with_reducible repeat (first | apply Kd.V_alloc | apply Kd.V_drewN | apply Kd.V_drew)); exact HO0.out) hb); have n1_ := Aside0.mk (below_step (by repeat (first | (with_reducible first | exact HB.out | apply below_alloc | apply pw_below_drewN | apply below_drew1) | exact HB.out)) hb); clear HO0; clear HB; have HO0 := n0_; have HB := n1_; clear n0_ n1_; (try clear hb); (try clear hb2); (try clear hk); (try clear hi)) | ((with_reducible refine gate_dst (N := 14) rfl ?_); refine Kd.N_lit (Kd.slice 5 (Kd.int .u8)) _ 28 ?hg (N' := 14) ?hd (xs := ([l0] : List (List Int))) (inner := [.slice A0 l0.length c0]) (ok := (fun k_ => (P0_ k_ ∨ w.heap.size ≤ k_))) (okp := (fun k_ => (P0_ k_ ∨ w.heap.size ≤ k_))) ?hr ?hp (fun _ hk => hk) ((show ∀ k_, w6.heap.size ≤ k_ → (fun k_ => (P0_ k_ ∨ w.heap.size ≤ k_)) k_ from fun k_ hk => (.inr (Nat.le_trans (below_size (by repeat (first | (with_reducible first | exact HB.out | apply below_alloc | apply pw_below_drewN | apply below_drew1) | exact HB.out))) hk))) _ (Nat.le_refl _)) (Below.refl _ _) (Nat.le_refl _) (by simp) ?_; (case hd => rfl); (case hg => rfl); (case hr => first | (go_simp; done) | (go_simp; rfl)); (case hp => exact (Reps.one (show Kd.FK (Kd.slice 5 (Kd.int .u8)) _ _ l0 [.slice A0 l0.length c0] from (Kd.FK_slice_mk (Kd.V_reads' (Kd.V_mono (ok' := (fun k_ => (P0_ k_ ∨ w.heap.size ≤ k_))) (HO0.out) (fun k_ hk => hk))).2.1 (Kd.V_F (Kd.V_mono (ok' := (fun k_ => (P0_ k_ ∨ w.heap.size ≤ k_))) (HO0.out) (fun k_ hk => hk))))) (Reps.none _ _))); intro v114 w7 ho8 hb hg_ hnew_; clear hg_ hnew_; (first | rw [← Ny113.out] at ho8 | (simp only [Int.reduceToNat] at ho8; rw [← Ny113.out] at ho8)); have n0_ := Aside0.mk (Kd.V_elder' (by (with_reducible repeat (first | apply Kd.V_alloc | apply Kd.V_drewN | apply Kd.V_drew)); exact HO0.out) (Kd.N_base ho8) hb); have n1_ := Aside0.mk (Kd.N_lower ho8 (below_size (by repeat (first | (with_reducible first | exact HB.out | apply below_alloc | apply pw_below_drewN | apply below_drew1) | exact HB.out)))); have n2_ := Aside0.mk (below_step (by repeat (first | (with_reducible first | exact HB.out | apply below_alloc | apply pw_below_drewN | apply below_drew1) | exact HB.out)) hb); clear HO0; clear HB; have HO0 := n0_; have HO115 := n1_; have HB := n2_; clear n0_ n1_ n2_; clear hb ho8; obtain ⟨Ao9, co9, eo9⟩ := Kd.N_slice HO115.out; subst eo9) | ((with_reducible refine gate_callee (f := 9) rfl ?_); refine goesL_ (some 15) rfl rfl Tryd.func9 (by kernel_rfl) rfl #[.slice Ao9 y113.length co9] rfl (by (try simp only [List.map_toArray, List.map_cons, List.map_nil]); first | done | rfl | (simp only [List.length_drop, List.length_take]; rfl)) ?_; (with_reducible refine (crc_Sum.calls _ _ y113 t116 _ ?side1 ?side2 A5.out).mono ?_); (case side1 => repeat (first | exact (Kd.N_reads' HO115.out).2.2 | (with_reducible refine Kd.C_alloc ?_ _) | (with_reducible refine Kd.C_drewN ?_ _) | (with_reducible refine Kd.C_drew ?_))); (case side2 => exact (Kd.N_reads' HO115.out).2.1); rintro e w' ⟨rfl, ⟨nd, rfl⟩⟩; refine ⟨_, rfl, ?_⟩))
    go_loopg [6, 7, 8, 9] k (fun kq v6 v7 v8 v9 w' => ∃ (x6_1 : List (List Int)) (x7_1 : Int) (x8_1 : Int) (x9_1 : Int), v7 = .int .i64 x7_1 ∧ v8 = .int .u32 x8_1 ∧ v9 = .int .i64 x9_1 ∧ Aside0 (tidemarklaw02_CrcCuts.l0 kq l0 l1 t116 x6_1 x7_1 x8_1 x9_1 = some r) ∧ Aside0 (kq ≤ k) ∧ Aside0 (Kd.V (Kd.int .u8) 5 w' w.heap.size (fun k_ => (P0_ k_ ∨ w.heap.size ≤ k_) ∧ some k_ ≠ (v6 : Value).ownBlock) (.slice A0 l0.length c0) l0) ∧ Aside0 (Kd.N (Kd.slice 5 (Kd.int .u8)) 28 w' w.heap.size (fun k_ => (P0_ k_ ∨ w.heap.size ≤ k_)) v6 x6_1) ∧ Aside0 (Below w.heap.size w w'))
    case atStart => exact ⟨(([] : List (List Int))), (0), (0), (0), (by first | rfl | (simp; done) | (simp [*]; done)), (by first | rfl | (simp; done) | (simp [*]; done)), (by first | rfl | (simp; done) | (simp [*]; done)), H', ⟨Nat.le_refl _⟩, ⟨by (with_reducible repeat (first | apply Kd.V_alloc | apply Kd.V_drewN | apply Kd.V_drew)); exact Kd.V_mono HO0.out (fun _ hk => ⟨hk.1, (by simp [Value.ownBlock])⟩)⟩, ⟨by first | exact Kd.S_nil _ _ _ _ _ | exact Kd.N_nil _ _ _ _ _ | exact Kd.V_nil _ _ _ _ _ | exact Kd.Q_nil _ _ _ _ _ | exact Kd.R_nil _ _ _ _ _⟩, ⟨by repeat (first | (with_reducible first | exact HB.out | apply below_alloc | apply pw_below_drewN | apply below_drew1) | exact HB.out)⟩⟩
    case round =>
      clear H'
      try clear c1
      try clear p2
      try clear c4
      try clear c8
      try clear c9
      obtain ⟨x6_1, x7_1, x8_1, x9_1, rfl, rfl, rfl, HA, HK1, HO_0, HO_6, HB⟩ := hrel
      cases gk with
      | zero => exact absurd HA.out (by simp [tidemarklaw02_CrcCuts.l0])
      | succ k1 =>
        have H := HA.out
        clear HA
        simp only [tidemarklaw02_CrcCuts.l0] at H
        by_cases c10 : x9_1 < (l1.length : Int)
        · rw [if_pos c10] at H
          have c10b0 : decide (x9_1 < (l1.length : Int)) = true := decide_eq_true c10
          clear c10
          by_cases c11 : 0 ≤ x9_1
          · rw [if_pos c11] at H
            have c11b0 : decide (0 ≤ x9_1) = true := decide_eq_true c11
            clear c11
            by_cases c12 : (wrap64 ((wrap64 ((l0.length : Int) - x7_1)) + 1)) = 0
            · rw [if_pos c12] at H
              exact absurd H (by simp)
            · rw [if_neg c12] at H
              have c12b0 : ((wrap64 ((wrap64 ((l0.length : Int) - x7_1)) + 1)) == 0) = false := beq_eq_false_iff_ne.mpr c12
              have c12b1 : ((wrap64 ((wrap64 ((l0.length : Int) - x7_1)) + 1)) != 0) = true := bne_iff_ne.mpr c12
              by_cases c13 : (Int.tmod (rd l1 x9_1) (wrap64 ((wrap64 ((l0.length : Int) - x7_1)) + 1))) < 0
              · rw [if_pos c13] at H
                have c13b0 : decide ((Int.tmod (rd l1 x9_1) (wrap64 ((wrap64 ((l0.length : Int) - x7_1)) + 1))) < 0) = true := decide_eq_true c13
                clear c13
                by_cases c14 : 0 ≤ x7_1
                · rw [if_pos c14] at H
                  have c14b0 := eq_true c14
                  have c14b1 : decide (0 ≤ x7_1) = true := decide_eq_true c14
                  clear c14
                  by_cases c15 : x7_1 ≤ (wrap64 (x7_1 + (wrap64 (-(Int.tmod (rd l1 x9_1) (wrap64 ((wrap64 ((l0.length : Int) - x7_1)) + 1)))))))
                  · rw [if_pos c15] at H
                    have c15b0 := eq_true c15
                    have c15b1 : decide (x7_1 ≤ (wrap64 (x7_1 + (wrap64 (-(Int.tmod (rd l1 x9_1) (wrap64 ((wrap64 ((l0.length : Int) - x7_1)) + 1)))))))) = true := decide_eq_true c15
                    by_cases c16 : (wrap64 (x7_1 + (wrap64 (-(Int.tmod (rd l1 x9_1) (wrap64 ((wrap64 ((l0.length : Int) - x7_1)) + 1))))))) ≤ (l0.length : Int)
                    · rw [if_pos c16] at H
                      have c16b0 := eq_true c16
                      have c16b1 : decide ((wrap64 (x7_1 + (wrap64 (-(Int.tmod (rd l1 x9_1) (wrap64 ((wrap64 ((l0.length : Int) - x7_1)) + 1))))))) ≤ (l0.length : Int)) = true := decide_eq_true c16
                      obtain ⟨y118, hy118⟩ : ∃ y_ : List Int, y_ = ((l0.take ((wrap64 (x7_1 + (wrap64 (-(Int.tmod (rd l1 x9_1) (wrap64 ((wrap64 ((l0.length : Int) - x7_1)) + 1))))))) : Int).toNat).drop (x7_1 : Int).toNat) := ⟨_, rfl⟩
                      replace H : (if x6_1.length < 5864062014805 then ((crc_More.f x8_1 y118).bind fun t131 => (tidemarklaw02_CrcCuts.l0 k1 l0 l1 t116 (x6_1 ++ [y118]) (wrap64 (x7_1 + (wrap64 (-(Int.tmod (rd l1 x9_1) (wrap64 ((wrap64 ((l0.length : Int) - x7_1)) + 1))))))) t131 (wrap64 (x9_1 + 1)))) else (none)) = some r := by first | (rw [hy118]; with_reducible exact H) | (have H2_ := (Option.bind_some _ _).symm.trans H; rw [hy118]; with_reducible exact H2_) | (have H2_ := (Option.bind_some _ _).symm.trans H; with_reducible exact H2_) | with_reducible exact H | (rw [hy118]; exact H) | exact H
                      have Ny118 := Aside0.mk hy118
                      clear hy118
                      by_cases c17 : x6_1.length < 5864062014805
                      · rw [if_pos c17] at H
                        have LMc17 := Aside0.mk c17
                        clear c17
                        obtain ⟨y123, hy123⟩ : ∃ y_ : List (List Int), y_ = (x6_1 ++ [y118]) := ⟨_, rfl⟩
                        replace H : ((crc_More.f x8_1 y118).bind fun t131 => (tidemarklaw02_CrcCuts.l0 k1 l0 l1 t116 y123 (wrap64 (x7_1 + (wrap64 (-(Int.tmod (rd l1 x9_1) (wrap64 ((wrap64 ((l0.length : Int) - x7_1)) + 1))))))) t131 (wrap64 (x9_1 + 1)))) = some r := by first | (rw [hy123]; with_reducible exact H) | (have H2_ := (Option.bind_some _ _).symm.trans H; rw [hy123]; with_reducible exact H2_) | (have H2_ := (Option.bind_some _ _).symm.trans H; with_reducible exact H2_) | with_reducible exact H | (rw [hy123]; exact H) | exact H
                        have Ny123 := Aside0.mk hy123
                        clear hy123
                        replace H := Option.bind_eq_some_iff.mp H
                        obtain ⟨t131, A180, H⟩ := H
                        replace H : (tidemarklaw02_CrcCuts.l0 k1 l0 l1 t116 y123 (wrap64 (x7_1 + (wrap64 (-(Int.tmod (rd l1 x9_1) (wrap64 ((wrap64 ((l0.length : Int) - x7_1)) + 1))))))) t131 (wrap64 (x9_1 + 1))) = some r := H
                        have A18 := Aside0.mk A180
                        clear A180
                        have H' := Aside0.mk H
                        clear H
                        have p117 : 0 ≤ (x9_1 : Int) := of_decide_eq_true (by first | (with_reducible assumption) | assumption)
                        have q117 : x9_1 < (l1.length : Int) := of_decide_eq_true (by first | (with_reducible assumption) | assumption)
                        obtain ⟨ad117, e117, hx117_0⟩ := Kd.at_int HR1.out x9_1 p117 q117
                        cases e117
                        replace hx117_0 := (HB.out.cell (World.block_lt_of_cell? w _ hx117_0)).trans hx117_0
                        replace p117 := eq_true p117
                        replace q117 := eq_true q117
                        have q19 : ((wrap64 (x7_1 + (wrap64 (-(Int.tmod (rd l1 x9_1) (wrap64 ((wrap64 ((l0.length : Int) - x7_1)) + 1))))))) : Int) ≤ ((l0.length : Int) : Int) := of_decide_eq_true (by first | (with_reducible assumption) | assumption)
                        obtain ⟨i019, hi019, _, hsz19, _⟩ := info_parts info5
                        have hroom19 : l0.length ≤ c0 := (Kd.V_reads' HO_0.out).2.1
                        have hC19 : Kd.F (Kd.int .u8) _ _ A0 l0.length l0 := (Kd.V_at (base := w.heap.size) HO_0.out).2.2
                        have ql19 : (x7_1 : Int) ≤ ((wrap64 (x7_1 + (wrap64 (-(Int.tmod (rd l1 x9_1) (wrap64 ((wrap64 ((l0.length : Int) - x7_1)) + 1))))))) : Int) := of_decide_eq_true (by first | (with_reducible assumption) | assumption)
                        have q019 : (0 : Int) ≤ (x7_1 : Int) := of_decide_eq_true (by first | (with_reducible assumption) | assumption)
                        have hcut19 := cut_mid (P := Tryd.prog) 28 5 .i64 .i64 Tryd.underlying28 hi019 1 hsz19 A0 l0.length c0 x7_1 (wrap64 (x7_1 + (wrap64 (-(Int.tmod (rd l1 x9_1) (wrap64 ((wrap64 ((l0.length : Int) - x7_1)) + 1))))))) q019 ql19 q19 hroom19
                        have hr19 := Kd.F_mid (lo := (x7_1 : Int).toNat) (hi := ((wrap64 (x7_1 + (wrap64 (-(Int.tmod (rd l1 x9_1) (wrap64 ((wrap64 ((l0.length : Int) - x7_1)) + 1))))))) : Int).toNat) (c := c0) hC19 (by omega) (by omega) hroom19
                        obtain ⟨A19, hA19⟩ : ∃ A1, A1 = (if c0 = (x7_1 : Int).toNat then A0 else (A0 : Option Addr).map (·.add ((x7_1 : Int).toNat * 1))) := ⟨_, rfl⟩
                        obtain ⟨c19, hc19⟩ : ∃ c1, c1 = c0 - (x7_1 : Int).toNat := ⟨_, rfl⟩
                        have hy19 : y118.length = ((wrap64 (x7_1 + (wrap64 (-(Int.tmod (rd l1 x9_1) (wrap64 ((wrap64 ((l0.length : Int) - x7_1)) + 1))))))) : Int).toNat - (x7_1 : Int).toNat := (by rw [Ny118.out, List.length_drop, List.length_take] <;> omega)
                        rw [show ((l0).take ((wrap64 (x7_1 + (wrap64 (-(Int.tmod (rd l1 x9_1) (wrap64 ((wrap64 ((l0.length : Int) - x7_1)) + 1))))))) : Int).toNat).drop (x7_1 : Int).toNat = y118 from Ny118.out.symm] at hr19
                        replace hr19 : Kd.F (Kd.int .u8) _ _ A19 y118.length y118 := (by rw [hA19]; exact hr19)
                        rw [← hy19, ← hA19, ← hc19] at hcut19
                        have HO122 := Aside0.mk (show Kd.V (Kd.int .u8) 5 _ w.heap.size _ (.slice A19 y118.length c19) y118 from Kd.V_mk (by rw [hy19, hc19]; exact Nat.sub_le_sub_right (Nat.le_trans (by omega) hroom19) _) hr19)
                        have HC122 := Aside0.mk (show y118.length ≤ c19 from by rw [hy19, hc19]; exact Nat.sub_le_sub_right (Nat.le_trans (by omega) hroom19) _)
                        clear hr19 hC19 hroom19 hi019 hsz19 hc19
                        have KY19 := Aside0.mk hy19
                        have KA19 := Aside0.mk hA19
                        clear hy19 hA19
                        replace q19 := eq_true q19
                        go_wp2_with (first | ((with_reducible refine gate_builtin (b := .append) (xs := #[.tmp 36, .tmp 43]) rfl ?_); at_builtin; refine Kd.N_append (Kd.slice 5 (Kd.int .u8)) (w0 := w) w.heap.size rfl (.tmp 36) (.tmp 43) 22 28 (.slice none 0 0) 24 rfl Tryd.underlying22 info28 rfl (by decide) (by omega) u6 x6_1 y118 [.slice A19 y118.length c19] (fun k_ => (P0_ k_ ∨ w.heap.size ≤ k_)) (fun k_ => ((fun k_ => (P0_ k_ ∨ w.heap.size ≤ k_))) k_ ∧ some k_ ≠ (u6 : Value).ownBlock) rfl rfl ?aP (fun _ hk => hk) ?aF ?aO ?aB ?aS ?aL ?_; (case aP => exact (Kd.FK_slice_mk (Kd.V_reads' (Kd.V_mono (ok' := (fun k_ => ((fun k_ => (P0_ k_ ∨ w.heap.size ≤ k_))) k_ ∧ some k_ ≠ (u6 : Value).ownBlock)) (HO122.out) (fun k_ hk => ⟨hk.1, hk.2⟩))).2.1 (Kd.V_F (Kd.V_mono (ok' := (fun k_ => ((fun k_ => (P0_ k_ ∨ w.heap.size ≤ k_))) k_ ∧ some k_ ≠ (u6 : Value).ownBlock)) (HO122.out) (fun k_ hk => ⟨hk.1, hk.2⟩))))); (case aB => exact (by repeat (first | (with_reducible first | exact HB.out | apply below_alloc | apply pw_below_drewN | apply below_drew1) | exact HB.out))); (case aF => exact (fun k_ hk => (.inr (Nat.le_trans (below_size (by repeat (first | (with_reducible first | exact HB.out | apply below_alloc | apply pw_below_drewN | apply below_drew1) | exact HB.out))) hk)))); (case aO => exact (by (with_reducible repeat (first | apply Kd.N_alloc | apply Kd.N_drewN | apply Kd.N_drew)); exact HO_6.out)); (case aS => exact (below_size (by repeat (first | (with_reducible first | exact HB.out | apply below_alloc | apply pw_below_drewN | apply below_drew1) | exact HB.out)))); (case aL => have := LMc17.out; omega); intro v124 w20 ho hb hg hat; rw [← Ny123.out] at ho; have n0_ := Aside0.mk (Kd.V_afterv (ok := (fun k_ => (P0_ k_ ∨ w.heap.size ≤ k_))) (by (with_reducible repeat (first | apply Kd.V_alloc | apply Kd.V_drewN | apply Kd.V_drew)); exact HO_0.out) hg hat); have n1_ := Aside0.mk (Kd.V_afterv (ok := (fun k_ => (P0_ k_ ∨ w.heap.size ≤ k_))) (by (with_reducible repeat (first | apply Kd.V_alloc | apply Kd.V_drewN | apply Kd.V_drew)); exact HO122.out) hg hat); have n2_ := Aside0.mk (hb); have n3_ := Aside0.mk (ho); clear HO_0; clear HO122; clear HB; clear HO_6; have HO_0 := n0_; have HO122 := n1_; have HB := n2_; have HO125 := n3_; clear n0_ n1_ n2_ n3_; clear ho hb hg hat) | ((with_reducible refine gate_callee (f := 11) rfl ?_); refine goesL_ (some 52) rfl rfl Tryd.func11 (by kernel_rfl) rfl #[.int .u32 x8_1, .slice A19 y118.length c19] rfl (by (try simp only [List.map_toArray, List.map_cons, List.map_nil]); first | done | rfl | (simp only [List.length_drop, List.length_take]; rfl)) ?_; (with_reducible refine (crc_More.calls x8_1 _ _ y118 t131 _ ?side1 ?side2 A18.out).mono ?_); (case side1 => repeat (first | exact (Kd.V_reads' HO122.out).2.2 | (with_reducible refine Kd.C_alloc ?_ _) | (with_reducible refine Kd.C_drewN ?_ _) | (with_reducible refine Kd.C_drew ?_))); (case side2 => exact (Kd.V_reads' HO122.out).2.1); rintro e w' ⟨rfl, ⟨nd, rfl⟩⟩; refine ⟨_, rfl, ?_⟩))
                        go_roundg k1
                        case measure => have := HK1.out; omega
                        case rel => exact ⟨(y123), (wrap64 (x7_1 + (wrap64 (-(Int.tmod (rd l1 x9_1) (wrap64 ((wrap64 ((l0.length : Int) - x7_1)) + 1))))))), (t131), (wrap64 (x9_1 + 1)), (by first | rfl | (simp; done) | (simp [*]; done)), (by first | rfl | (simp; done) | (simp [*]; done)), (by first | rfl | (simp; done) | (simp [*]; done)), H', ⟨by have := HK1.out; omega⟩, ⟨by (with_reducible repeat (first | apply Kd.V_alloc | apply Kd.V_drewN | apply Kd.V_drew)); exact HO_0.out⟩, ⟨by (with_reducible repeat (first | apply Kd.N_alloc | apply Kd.N_drewN | apply Kd.N_drew)); exact HO125.out⟩, ⟨by repeat (first | (with_reducible first | exact HB.out | apply below_alloc | apply pw_below_drewN | apply below_drew1) | exact HB.out)⟩⟩
                      · rw [if_neg c17] at H
                        exact absurd H (by simp)
                    · rw [if_neg c16] at H
                      exact absurd H (by simp)
                  · rw [if_neg c15] at H
                    exact absurd H (by simp)
                · rw [if_neg c14] at H
                  exact absurd H (by simp)
              · rw [if_neg c13] at H
                have c13b0 : decide ((Int.tmod (rd l1 x9_1) (wrap64 ((wrap64 ((l0.length : Int) - x7_1)) + 1))) < 0) = false := decide_eq_false c13
                clear c13
                by_cases c21 : 0 ≤ x7_1
                · rw [if_pos c21] at H
                  have c21b0 := eq_true c21
                  have c21b1 : decide (0 ≤ x7_1) = true := decide_eq_true c21
                  clear c21
                  by_cases c22 : x7_1 ≤ (wrap64 (x7_1 + (Int.tmod (rd l1 x9_1) (wrap64 ((wrap64 ((l0.length : Int) - x7_1)) + 1)))))
                  · rw [if_pos c22] at H
                    have c22b0 := eq_true c22
                    have c22b1 : decide (x7_1 ≤ (wrap64 (x7_1 + (Int.tmod (rd l1 x9_1) (wrap64 ((wrap64 ((l0.length : Int) - x7_1)) + 1)))))) = true := decide_eq_true c22
                    by_cases c23 : (wrap64 (x7_1 + (Int.tmod (rd l1 x9_1) (wrap64 ((wrap64 ((l0.length : Int) - x7_1)) + 1))))) ≤ (l0.length : Int)
                    · rw [if_pos c23] at H
                      have c23b0 := eq_true c23
                      have c23b1 : decide ((wrap64 (x7_1 + (Int.tmod (rd l1 x9_1) (wrap64 ((wrap64 ((l0.length : Int) - x7_1)) + 1))))) ≤ (l0.length : Int)) = true := decide_eq_true c23
                      obtain ⟨y132, hy132⟩ : ∃ y_ : List Int, y_ = ((l0.take ((wrap64 (x7_1 + (Int.tmod (rd l1 x9_1) (wrap64 ((wrap64 ((l0.length : Int) - x7_1)) + 1))))) : Int).toNat).drop (x7_1 : Int).toNat) := ⟨_, rfl⟩
                      replace H : (if x6_1.length < 5864062014805 then ((crc_More.f x8_1 y132).bind fun t145 => (tidemarklaw02_CrcCuts.l0 k1 l0 l1 t116 (x6_1 ++ [y132]) (wrap64 (x7_1 + (Int.tmod (rd l1 x9_1) (wrap64 ((wrap64 ((l0.length : Int) - x7_1)) + 1))))) t145 (wrap64 (x9_1 + 1)))) else (none)) = some r := by first | (rw [hy132]; with_reducible exact H) | (have H2_ := (Option.bind_some _ _).symm.trans H; rw [hy132]; with_reducible exact H2_) | (have H2_ := (Option.bind_some _ _).symm.trans H; with_reducible exact H2_) | with_reducible exact H | (rw [hy132]; exact H) | exact H
                      have Ny132 := Aside0.mk hy132
                      clear hy132
                      by_cases c24 : x6_1.length < 5864062014805
                      · rw [if_pos c24] at H
                        have LMc24 := Aside0.mk c24
                        clear c24
                        obtain ⟨y137, hy137⟩ : ∃ y_ : List (List Int), y_ = (x6_1 ++ [y132]) := ⟨_, rfl⟩
                        replace H : ((crc_More.f x8_1 y132).bind fun t145 => (tidemarklaw02_CrcCuts.l0 k1 l0 l1 t116 y137 (wrap64 (x7_1 + (Int.tmod (rd l1 x9_1) (wrap64 ((wrap64 ((l0.length : Int) - x7_1)) + 1))))) t145 (wrap64 (x9_1 + 1)))) = some r := by first | (rw [hy137]; with_reducible exact H) | (have H2_ := (Option.bind_some _ _).symm.trans H; rw [hy137]; with_reducible exact H2_) | (have H2_ := (Option.bind_some _ _).symm.trans H; with_reducible exact H2_) | with_reducible exact H | (rw [hy137]; exact H) | exact H
                        have Ny137 := Aside0.mk hy137
                        clear hy137
                        replace H := Option.bind_eq_some_iff.mp H
                        obtain ⟨t145, A250, H⟩ := H
                        replace H : (tidemarklaw02_CrcCuts.l0 k1 l0 l1 t116 y137 (wrap64 (x7_1 + (Int.tmod (rd l1 x9_1) (wrap64 ((wrap64 ((l0.length : Int) - x7_1)) + 1))))) t145 (wrap64 (x9_1 + 1))) = some r := H
                        have A25 := Aside0.mk A250
                        clear A250
                        have H' := Aside0.mk H
                        clear H
                        have p117 : 0 ≤ (x9_1 : Int) := of_decide_eq_true (by first | (with_reducible assumption) | assumption)
                        have q117 : x9_1 < (l1.length : Int) := of_decide_eq_true (by first | (with_reducible assumption) | assumption)
                        obtain ⟨ad117, e117, hx117_0⟩ := Kd.at_int HR1.out x9_1 p117 q117
                        cases e117
                        replace hx117_0 := (HB.out.cell (World.block_lt_of_cell? w _ hx117_0)).trans hx117_0
                        replace p117 := eq_true p117
                        replace q117 := eq_true q117
                        have q26 : ((wrap64 (x7_1 + (Int.tmod (rd l1 x9_1) (wrap64 ((wrap64 ((l0.length : Int) - x7_1)) + 1))))) : Int) ≤ ((l0.length : Int) : Int) := of_decide_eq_true (by first | (with_reducible assumption) | assumption)
                        obtain ⟨i026, hi026, _, hsz26, _⟩ := info_parts info5
                        have hroom26 : l0.length ≤ c0 := (Kd.V_reads' HO_0.out).2.1
                        have hC26 : Kd.F (Kd.int .u8) _ _ A0 l0.length l0 := (Kd.V_at (base := w.heap.size) HO_0.out).2.2
                        have ql26 : (x7_1 : Int) ≤ ((wrap64 (x7_1 + (Int.tmod (rd l1 x9_1) (wrap64 ((wrap64 ((l0.length : Int) - x7_1)) + 1))))) : Int) := of_decide_eq_true (by first | (with_reducible assumption) | assumption)
                        have q026 : (0 : Int) ≤ (x7_1 : Int) := of_decide_eq_true (by first | (with_reducible assumption) | assumption)
                        have hcut26 := cut_mid (P := Tryd.prog) 28 5 .i64 .i64 Tryd.underlying28 hi026 1 hsz26 A0 l0.length c0 x7_1 (wrap64 (x7_1 + (Int.tmod (rd l1 x9_1) (wrap64 ((wrap64 ((l0.length : Int) - x7_1)) + 1))))) q026 ql26 q26 hroom26
                        have hr26 := Kd.F_mid (lo := (x7_1 : Int).toNat) (hi := ((wrap64 (x7_1 + (Int.tmod (rd l1 x9_1) (wrap64 ((wrap64 ((l0.length : Int) - x7_1)) + 1))))) : Int).toNat) (c := c0) hC26 (by omega) (by omega) hroom26
                        obtain ⟨A26, hA26⟩ : ∃ A1, A1 = (if c0 = (x7_1 : Int).toNat then A0 else (A0 : Option Addr).map (·.add ((x7_1 : Int).toNat * 1))) := ⟨_, rfl⟩
                        obtain ⟨c26, hc26⟩ : ∃ c1, c1 = c0 - (x7_1 : Int).toNat := ⟨_, rfl⟩
                        have hy26 : y132.length = ((wrap64 (x7_1 + (Int.tmod (rd l1 x9_1) (wrap64 ((wrap64 ((l0.length : Int) - x7_1)) + 1))))) : Int).toNat - (x7_1 : Int).toNat := (by rw [Ny132.out, List.length_drop, List.length_take] <;> omega)
                        rw [show ((l0).take ((wrap64 (x7_1 + (Int.tmod (rd l1 x9_1) (wrap64 ((wrap64 ((l0.length : Int) - x7_1)) + 1))))) : Int).toNat).drop (x7_1 : Int).toNat = y132 from Ny132.out.symm] at hr26
                        replace hr26 : Kd.F (Kd.int .u8) _ _ A26 y132.length y132 := (by rw [hA26]; exact hr26)
                        rw [← hy26, ← hA26, ← hc26] at hcut26
                        have HO136 := Aside0.mk (show Kd.V (Kd.int .u8) 5 _ w.heap.size _ (.slice A26 y132.length c26) y132 from Kd.V_mk (by rw [hy26, hc26]; exact Nat.sub_le_sub_right (Nat.le_trans (by omega) hroom26) _) hr26)
                        have HC136 := Aside0.mk (show y132.length ≤ c26 from by rw [hy26, hc26]; exact Nat.sub_le_sub_right (Nat.le_trans (by omega) hroom26) _)
                        clear hr26 hC26 hroom26 hi026 hsz26 hc26
                        have KY26 := Aside0.mk hy26
                        have KA26 := Aside0.mk hA26
                        clear hy26 hA26
                        replace q26 := eq_true q26
                        go_wp2_with (first | ((with_reducible refine gate_builtin (b := .append) (xs := #[.tmp 36, .tmp 43]) rfl ?_); at_builtin; refine Kd.N_append (Kd.slice 5 (Kd.int .u8)) (w0 := w) w.heap.size rfl (.tmp 36) (.tmp 43) 22 28 (.slice none 0 0) 24 rfl Tryd.underlying22 info28 rfl (by decide) (by omega) u6 x6_1 y132 [.slice A26 y132.length c26] (fun k_ => (P0_ k_ ∨ w.heap.size ≤ k_)) (fun k_ => ((fun k_ => (P0_ k_ ∨ w.heap.size ≤ k_))) k_ ∧ some k_ ≠ (u6 : Value).ownBlock) rfl rfl ?aP (fun _ hk => hk) ?aF ?aO ?aB ?aS ?aL ?_; (case aP => exact (Kd.FK_slice_mk (Kd.V_reads' (Kd.V_mono (ok' := (fun k_ => ((fun k_ => (P0_ k_ ∨ w.heap.size ≤ k_))) k_ ∧ some k_ ≠ (u6 : Value).ownBlock)) (HO136.out) (fun k_ hk => ⟨hk.1, hk.2⟩))).2.1 (Kd.V_F (Kd.V_mono (ok' := (fun k_ => ((fun k_ => (P0_ k_ ∨ w.heap.size ≤ k_))) k_ ∧ some k_ ≠ (u6 : Value).ownBlock)) (HO136.out) (fun k_ hk => ⟨hk.1, hk.2⟩))))); (case aB => exact (by repeat (first | (with_reducible first | exact HB.out | apply below_alloc | apply pw_below_drewN | apply below_drew1) | exact HB.out))); (case aF => exact (fun k_ hk => (.inr (Nat.le_trans (below_size (by repeat (first | (with_reducible first | exact HB.out | apply below_alloc | apply pw_below_drewN | apply below_drew1) | exact HB.out))) hk)))); (case aO => exact (by (with_reducible repeat (first | apply Kd.N_alloc | apply Kd.N_drewN | apply Kd.N_drew)); exact HO_6.out)); (case aS => exact (below_size (by repeat (first | (with_reducible first | exact HB.out | apply below_alloc | apply pw_below_drewN | apply below_drew1) | exact HB.out)))); (case aL => have := LMc24.out; omega); intro v138 w27 ho hb hg hat; rw [← Ny137.out] at ho; have n0_ := Aside0.mk (Kd.V_afterv (ok := (fun k_ => (P0_ k_ ∨ w.heap.size ≤ k_))) (by (with_reducible repeat (first | apply Kd.V_alloc | apply Kd.V_drewN | apply Kd.V_drew)); exact HO_0.out) hg hat); have n1_ := Aside0.mk (Kd.V_afterv (ok := (fun k_ => (P0_ k_ ∨ w.heap.size ≤ k_))) (by (with_reducible repeat (first | apply Kd.V_alloc | apply Kd.V_drewN | apply Kd.V_drew)); exact HO136.out) hg hat); have n2_ := Aside0.mk (hb); have n3_ := Aside0.mk (ho); clear HO_0; clear HO136; clear HB; clear HO_6; have HO_0 := n0_; have HO136 := n1_; have HB := n2_; have HO139 := n3_; clear n0_ n1_ n2_ n3_; clear ho hb hg hat) | ((with_reducible refine gate_callee (f := 11) rfl ?_); refine goesL_ (some 52) rfl rfl Tryd.func11 (by kernel_rfl) rfl #[.int .u32 x8_1, .slice A26 y132.length c26] rfl (by (try simp only [List.map_toArray, List.map_cons, List.map_nil]); first | done | rfl | (simp only [List.length_drop, List.length_take]; rfl)) ?_; (with_reducible refine (crc_More.calls x8_1 _ _ y132 t145 _ ?side1 ?side2 A25.out).mono ?_); (case side1 => repeat (first | exact (Kd.V_reads' HO136.out).2.2 | (with_reducible refine Kd.C_alloc ?_ _) | (with_reducible refine Kd.C_drewN ?_ _) | (with_reducible refine Kd.C_drew ?_))); (case side2 => exact (Kd.V_reads' HO136.out).2.1); rintro e w' ⟨rfl, ⟨nd, rfl⟩⟩; refine ⟨_, rfl, ?_⟩))
                        go_roundg k1
                        case measure => have := HK1.out; omega
                        case rel => exact ⟨(y137), (wrap64 (x7_1 + (Int.tmod (rd l1 x9_1) (wrap64 ((wrap64 ((l0.length : Int) - x7_1)) + 1))))), (t145), (wrap64 (x9_1 + 1)), (by first | rfl | (simp; done) | (simp [*]; done)), (by first | rfl | (simp; done) | (simp [*]; done)), (by first | rfl | (simp; done) | (simp [*]; done)), H', ⟨by have := HK1.out; omega⟩, ⟨by (with_reducible repeat (first | apply Kd.V_alloc | apply Kd.V_drewN | apply Kd.V_drew)); exact HO_0.out⟩, ⟨by (with_reducible repeat (first | apply Kd.N_alloc | apply Kd.N_drewN | apply Kd.N_drew)); exact HO139.out⟩, ⟨by repeat (first | (with_reducible first | exact HB.out | apply below_alloc | apply pw_below_drewN | apply below_drew1) | exact HB.out)⟩⟩
                      · rw [if_neg c24] at H
                        exact absurd H (by simp)
                    · rw [if_neg c23] at H
                      exact absurd H (by simp)
                  · rw [if_neg c22] at H
                    exact absurd H (by simp)
                · rw [if_neg c21] at H
                  exact absurd H (by simp)
          · rw [if_neg c11] at H
            exact absurd H (by simp)
        · rw [if_neg c10] at H
          have c10b0 : decide (x9_1 < (l1.length : Int)) = false := decide_eq_false c10
          clear c10
          by_cases c28 : 0 ≤ x7_1
          · rw [if_pos c28] at H
            have c28b0 := eq_true c28
            have c28b1 : decide (0 ≤ x7_1) = true := decide_eq_true c28
            clear c28
            by_cases c29 : x7_1 ≤ (l0.length : Int)
            · rw [if_pos c29] at H
              have c29b0 := eq_true c29
              have c29b1 : decide (x7_1 ≤ (l0.length : Int)) = true := decide_eq_true c29
              clear c29
              obtain ⟨y146, hy146⟩ : ∃ y_ : List Int, y_ = (l0.drop (x7_1 : Int).toNat) := ⟨_, rfl⟩
              replace H : (if x6_1.length < 5864062014805 then ((crc_Sum.f (x6_1 ++ [y146])).bind fun t154 => (if t154 = t116 then ((crc_More.f x8_1 y146).bind fun t160 => (some (t160 == t116))) else (some false))) else (none)) = some r := by first | (rw [hy146]; with_reducible exact H) | (have H2_ := (Option.bind_some _ _).symm.trans H; rw [hy146]; with_reducible exact H2_) | (have H2_ := (Option.bind_some _ _).symm.trans H; with_reducible exact H2_) | with_reducible exact H | (rw [hy146]; exact H) | exact H
              have Ny146 := Aside0.mk hy146
              clear hy146
              by_cases c30 : x6_1.length < 5864062014805
              · rw [if_pos c30] at H
                have LMc30 := Aside0.mk c30
                clear c30
                obtain ⟨y151, hy151⟩ : ∃ y_ : List (List Int), y_ = (x6_1 ++ [y146]) := ⟨_, rfl⟩
                replace H : ((crc_Sum.f y151).bind fun t154 => (if t154 = t116 then ((crc_More.f x8_1 y146).bind fun t160 => (some (t160 == t116))) else (some false))) = some r := by first | (rw [hy151]; with_reducible exact H) | (have H2_ := (Option.bind_some _ _).symm.trans H; rw [hy151]; with_reducible exact H2_) | (have H2_ := (Option.bind_some _ _).symm.trans H; with_reducible exact H2_) | with_reducible exact H | (rw [hy151]; exact H) | exact H
                have Ny151 := Aside0.mk hy151
                clear hy151
                replace H := Option.bind_eq_some_iff.mp H
                obtain ⟨t154, A310, H⟩ := H
                replace H : (if t154 = t116 then ((crc_More.f x8_1 y146).bind fun t160 => (some (t160 == t116))) else (some false)) = some r := H
                have A31 := Aside0.mk A310
                clear A310
                by_cases c32 : t154 = t116
                · rw [if_pos c32] at H
                  have c32b0 : (t154 == t116) = true := beq_iff_eq.mpr c32
                  have c32b1 : (t154 != t116) = false := bne_eq_false_iff_eq.mpr c32
                  clear c32
                  replace H := Option.bind_eq_some_iff.mp H
                  obtain ⟨t160, A330, H⟩ := H
                  replace H : (some (t160 == t116)) = some r := H
                  have A33 := Aside0.mk A330
                  clear A330
                  obtain rfl := Option.some.inj H
                  clear HPR
                  have q34 : (x7_1 : Int) ≤ ((l0.length : Int) : Int) := of_decide_eq_true (by first | (with_reducible assumption) | assumption)
                  obtain ⟨i034, hi034, _, hsz34, _⟩ := info_parts info5
                  have hroom34 : l0.length ≤ c0 := (Kd.V_reads' HO_0.out).2.1
                  have hC34 : Kd.F (Kd.int .u8) _ _ A0 l0.length l0 := (Kd.V_at (base := w.heap.size) HO_0.out).2.2
                  have q034 : (0 : Int) ≤ (x7_1 : Int) := of_decide_eq_true (by first | (with_reducible assumption) | assumption)
                  have hcut34 := cut_from (P := Tryd.prog) 28 5 .i64 Tryd.underlying28 hi034 1 hsz34 A0 l0.length c0 x7_1 q034 q34
                  have hr34 := Kd.F_cut (m := (x7_1 : Int).toNat) (c := c0) hC34 (by omega) hroom34
                  obtain ⟨A34, hA34⟩ : ∃ A1, A1 = (if c0 = (x7_1 : Int).toNat then A0 else (A0 : Option Addr).map (·.add ((x7_1 : Int).toNat * 1))) := ⟨_, rfl⟩
                  obtain ⟨c34, hc34⟩ : ∃ c1, c1 = c0 - (x7_1 : Int).toNat := ⟨_, rfl⟩
                  have hy34 : y146.length = l0.length - (x7_1 : Int).toNat := (by rw [Ny146.out, List.length_drop] <;> omega)
                  rw [show (l0).drop (x7_1 : Int).toNat = y146 from Ny146.out.symm] at hr34
                  replace hr34 : Kd.F (Kd.int .u8) _ _ A34 y146.length y146 := (by rw [hA34]; exact hr34)
                  rw [← hy34, ← hA34, ← hc34] at hcut34
                  have HO150 := Aside0.mk (show Kd.V (Kd.int .u8) 5 _ w.heap.size _ (.slice A34 y146.length c34) y146 from Kd.V_mk (by rw [hy34, hc34]; exact Nat.sub_le_sub_right hroom34 _) hr34)
                  have HC150 := Aside0.mk (show y146.length ≤ c34 from by rw [hy34, hc34]; exact Nat.sub_le_sub_right hroom34 _)
                  clear hr34 hC34 hroom34 hi034 hsz34 hc34
                  have KY34 := Aside0.mk hy34
                  have KA34 := Aside0.mk hA34
                  clear hy34 hA34
                  replace q34 := eq_true q34
                  go_wp2_with (first | ((with_reducible refine gate_builtin (b := .append) (xs := #[.tmp 56, .tmp 60]) rfl ?_); at_builtin; refine Kd.N_append (Kd.slice 5 (Kd.int .u8)) (w0 := w) w.heap.size rfl (.tmp 56) (.tmp 60) 22 28 (.slice none 0 0) 24 rfl Tryd.underlying22 info28 rfl (by decide) (by omega) u6 x6_1 y146 [.slice A34 y146.length c34] (fun k_ => (P0_ k_ ∨ w.heap.size ≤ k_)) (fun k_ => ((fun k_ => (P0_ k_ ∨ w.heap.size ≤ k_))) k_ ∧ some k_ ≠ (u6 : Value).ownBlock) rfl rfl ?aP (fun _ hk => hk) ?aF ?aO ?aB ?aS ?aL ?_; (case aP => exact (Kd.FK_slice_mk (Kd.V_reads' (Kd.V_mono (ok' := (fun k_ => ((fun k_ => (P0_ k_ ∨ w.heap.size ≤ k_))) k_ ∧ some k_ ≠ (u6 : Value).ownBlock)) (HO150.out) (fun k_ hk => ⟨hk.1, hk.2⟩))).2.1 (Kd.V_F (Kd.V_mono (ok' := (fun k_ => ((fun k_ => (P0_ k_ ∨ w.heap.size ≤ k_))) k_ ∧ some k_ ≠ (u6 : Value).ownBlock)) (HO150.out) (fun k_ hk => ⟨hk.1, hk.2⟩))))); (case aB => exact (by repeat (first | (with_reducible first | exact HB.out | apply below_alloc | apply pw_below_drewN | apply below_drew1) | exact HB.out))); (case aF => exact (fun k_ hk => (.inr (Nat.le_trans (below_size (by repeat (first | (with_reducible first | exact HB.out | apply below_alloc | apply pw_below_drewN | apply below_drew1) | exact HB.out))) hk)))); (case aO => exact (by (with_reducible repeat (first | apply Kd.N_alloc | apply Kd.N_drewN | apply Kd.N_drew)); exact HO_6.out)); (case aS => exact (below_size (by repeat (first | (with_reducible first | exact HB.out | apply below_alloc | apply pw_below_drewN | apply below_drew1) | exact HB.out)))); (case aL => have := LMc30.out; omega); intro v152 w35 ho hb hg hat; rw [← Ny151.out] at ho; have n0_ := Aside0.mk (Kd.V_afterv (ok := (fun k_ => (P0_ k_ ∨ w.heap.size ≤ k_))) (by (with_reducible repeat (first | apply Kd.V_alloc | apply Kd.V_drewN | apply Kd.V_drew)); exact HO_0.out) hg hat); have n1_ := Aside0.mk (Kd.V_afterv (ok := (fun k_ => (P0_ k_ ∨ w.heap.size ≤ k_))) (by (with_reducible repeat (first | apply Kd.V_alloc | apply Kd.V_drewN | apply Kd.V_drew)); exact HO150.out) hg hat); have n2_ := Aside0.mk (hb); have n3_ := Aside0.mk (ho); clear HO_0; clear HO150; clear HB; clear HO_6; have HO_0 := n0_; have HO150 := n1_; have HB := n2_; have HO153 := n3_; clear n0_ n1_ n2_ n3_; clear ho hb hg hat; obtain ⟨Ao36, co36, eo36⟩ := Kd.N_slice HO153.out; subst eo36) | ((with_reducible refine gate_callee (f := 9) rfl ?_); refine goesL_ (some 63) rfl rfl Tryd.func9 (by kernel_rfl) rfl #[.slice Ao36 y151.length co36] rfl (by (try simp only [List.map_toArray, List.map_cons, List.map_nil]); first | done | rfl | (simp only [List.length_drop, List.length_take]; rfl)) ?_; (with_reducible refine (crc_Sum.calls _ _ y151 t154 _ ?side1 ?side2 A31.out).mono ?_); (case side1 => repeat (first | exact (Kd.N_reads' HO153.out).2.2 | (with_reducible refine Kd.C_alloc ?_ _) | (with_reducible refine Kd.C_drewN ?_ _) | (with_reducible refine Kd.C_drew ?_))); (case side2 => exact (Kd.N_reads' HO153.out).2.1); rintro e w' ⟨rfl, ⟨nd, rfl⟩⟩; refine ⟨_, rfl, ?_⟩) | (go_at_call 11; (with_reducible refine (crc_More.calls x8_1 _ _ y146 t160 _ ?side1 ?side2 A33.out).mono ?_); (case side1 => repeat (first | exact (Kd.V_reads' HO150.out).2.2 | (with_reducible refine Kd.C_alloc ?_ _) | (with_reducible refine Kd.C_drewN ?_ _) | (with_reducible refine Kd.C_drew ?_))); (case side2 => exact (Kd.V_reads' HO150.out).2.1); rintro e w' ⟨rfl, ⟨nd, rfl⟩⟩))
                  go_ret
                  exact ⟨by first | rfl | (simp [errW_none, errW_some] <;> rfl) | (simp [*, errW_none, errW_some] <;> rfl), by repeat (first | (with_reducible first | exact HB.out | apply below_alloc | apply pw_below_drewN | apply below_drew1) | exact HB.out)⟩
                · rw [if_neg c32] at H
                  have c32b0 : (t154 == t116) = false := beq_eq_false_iff_ne.mpr c32
                  have c32b1 : (t154 != t116) = true := bne_iff_ne.mpr c32
                  exact absurd ((Option.some.inj H).trans HPR.out) (by decide)
              · rw [if_neg c30] at H
                exact absurd H (by simp)
            · rw [if_neg c29] at H
              exact absurd H (by simp)
          · rw [if_neg c28] at H
            exact absurd H (by simp)
  · replace c4 := Bool.eq_false_iff.mpr c4
    subst c4
    have H1 : (some false) = some r := by rw [if_neg (show ¬ (false = true) by decide)] at H; exact H
    clear H
    have H := H1
    clear H1
    exact absurd ((Option.some.inj H).trans HPR.out) (by decide)

end Go.Proofs.YtbienfoijomibaaDoor.QA
