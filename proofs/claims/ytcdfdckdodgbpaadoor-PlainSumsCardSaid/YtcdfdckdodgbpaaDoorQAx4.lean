-- Laid by a program of this session out of Lean's own print of the program; hand-made contracts are pasted in. Lean checks it.
import Derived.Test.YtcdfdckdodgbpaaDoorQAx0
namespace Go.Proofs.YtcdfdckdodgbpaaDoor.QA
open Go.RowKit Go.Proofs.YtcdfdckdodgbpaaDoorW.PrintWords Go.Proofs.YtcdfdckdodgbpaaDoorW.PrintLast Go.Proofs.YtcdfdckdodgbpaaDoorW.PrintMore
attribute [local go_sem] max2_int min2_int max_two min_two max_three min_three max_four min_four   -- for this text's walks alone
set_option linter.unusedVariables false
set_option linter.unusedSimpArgs false

/-! ### tidemarkref18_Fold: function 9 -/
mutual
def tidemarkref18_Fold.l0 : Nat → List (List (S57)) → List (S71) → Int → Option ((List (S71)))
  | 0, _, _, _ => none
  | k + 1, x0, x3, x4 => if x4 < (x0.length : Int) then (tidemarkref18_Fold.l1 k x0 x3 x4 0) else (some x3)
def tidemarkref18_Fold.l1 : Nat → List (List (S57)) → List (S71) → Int → Int → Option ((List (S71)))
  | 0, _, _, _, _ => none
  | k + 1, x0, x3, x4, x5 => if 0 ≤ x4 then (if x4 < (x0.length : Int) then (if x5 < ((rd_L5 x0 x4).length : Int) then (if 0 ≤ x5 then (tidemarkref18_Fold.l2 k x0 x3 x4 x5 ([] : List (S71)) ((rd_T57 (rd_L5 x0 x4) x5).f2) 0 ((rd_T57 (rd_L5 x0 x4) x5).f0) ((rd_T57 (rd_L5 x0 x4) x5).f1) ((rd_T57 (rd_L5 x0 x4) x5).f2)) else (none)) else (tidemarkref18_Fold.l0 k x0 x3 (wrap64 (x4 + 1)))) else (none)) else (none)
def tidemarkref18_Fold.l2 : Nat → List (List (S57)) → List (S71) → Int → Int → List (S71) → Bool → Int → Int → Int → Bool → Option ((List (S71)))
  | 0, _, _, _, _, _, _, _, _, _, _ => none
  | k + 1, x0, x3, x4, x5, x7, x8, x9, x121000, x121001, x121002 => if x9 < (x3.length : Int) then (if x8 = true then (tidemarkref18_Fold.j3 k x0 x3 x4 x5 x7 x8 x9 false x121000 x121001 x121002) else (if 0 ≤ x9 then (tidemarkref18_Fold.j3 k x0 x3 x4 x5 x7 x8 x9 (decide (((rd_T71 x3 x9).f0) ≥ x121000)) x121000 x121001 x121002) else (none))) else (if x8 = true then (tidemarkref18_Fold.l1 k x0 x7 x4 (wrap64 (x5 + 1))) else (if x7.length < 8796093022208 then (tidemarkref18_Fold.l1 k x0 (x7 ++ [(⟨x121000, x121001⟩ : S71)]) x4 (wrap64 (x5 + 1))) else (none)))
def tidemarkref18_Fold.j3 : Nat → List (List (S57)) → List (S71) → Int → Int → List (S71) → Bool → Int → Bool → Int → Int → Bool → Option ((List (S71)))
  | 0, _, _, _, _, _, _, _, _, _, _, _ => none
  | k + 1, x0, x3, x4, x5, x7, x8, x9, x51, x121000, x121001, x121002 => if x51 = true then (if x7.length < 8796093022208 then ((some (x7 ++ [(⟨x121000, x121001⟩ : S71)] : List (S71))).bind fun y125 => (if 0 ≤ x9 then (if x9 < (x3.length : Int) then (if ((rd_T71 x3 x9).f0) = x121000 then (tidemarkref18_Fold.l2 k x0 x3 x4 x5 y125 true (wrap64 (x9 + 1)) x121000 x121001 x121002) else (if y125.length < 8796093022208 then (tidemarkref18_Fold.l2 k x0 x3 x4 x5 (y125 ++ [(⟨(rd_T71 x3 x9).f0, (rd_T71 x3 x9).f1⟩ : S71)]) true (wrap64 (x9 + 1)) x121000 x121001 x121002) else (none))) else (none)) else (none))) else (none)) else (if 0 ≤ x9 then (if x9 < (x3.length : Int) then (if ((rd_T71 x3 x9).f0) = x121000 then (tidemarkref18_Fold.l2 k x0 x3 x4 x5 x7 x8 (wrap64 (x9 + 1)) x121000 x121001 x121002) else (if x7.length < 8796093022208 then (tidemarkref18_Fold.l2 k x0 x3 x4 x5 (x7 ++ [(⟨(rd_T71 x3 x9).f0, (rd_T71 x3 x9).f1⟩ : S71)]) x8 (wrap64 (x9 + 1)) x121000 x121001 x121002) else (none))) else (none)) else (none))
end
def tidemarkref18_Fold.f (k : Nat) (l0 : List (List (S57))) : Option ((List (S71))) := tidemarkref18_Fold.l0 k l0 ([] : List (S71)) 0
theorem tidemarkref18_Fold.mono_l : ∀ k, (∀ y0 y1 y2, LeO (tidemarkref18_Fold.l0 k y0 y1 y2) (tidemarkref18_Fold.l0 (k + 1) y0 y1 y2)) ∧ (∀ y0 y1 y2 y3, LeO (tidemarkref18_Fold.l1 k y0 y1 y2 y3) (tidemarkref18_Fold.l1 (k + 1) y0 y1 y2 y3)) ∧ (∀ y0 y1 y2 y3 y4 y5 y6 y7 y8 y9, LeO (tidemarkref18_Fold.l2 k y0 y1 y2 y3 y4 y5 y6 y7 y8 y9) (tidemarkref18_Fold.l2 (k + 1) y0 y1 y2 y3 y4 y5 y6 y7 y8 y9)) ∧ (∀ y0 y1 y2 y3 y4 y5 y6 y7 y8 y9 y10, LeO (tidemarkref18_Fold.j3 k y0 y1 y2 y3 y4 y5 y6 y7 y8 y9 y10) (tidemarkref18_Fold.j3 (k + 1) y0 y1 y2 y3 y4 y5 y6 y7 y8 y9 y10))
  | 0 => ⟨fun _ _ _ r h => by simp [tidemarkref18_Fold.l0] at h, fun _ _ _ _ r h => by simp [tidemarkref18_Fold.l1] at h, fun _ _ _ _ _ _ _ _ _ _ r h => by simp [tidemarkref18_Fold.l2] at h, fun _ _ _ _ _ _ _ _ _ _ _ r h => by simp [tidemarkref18_Fold.j3] at h⟩
  | k + 1 => by
    obtain ⟨ih0, ih1, ih2, ih3⟩ := tidemarkref18_Fold.mono_l k
    refine ⟨?_, ?_, ?_, ?_⟩
    · intro y0 y1 y2
      unfold tidemarkref18_Fold.l0
      repeat' first
      | (with_reducible exact ih0 _ _ _)
      | (with_reducible exact ih1 _ _ _ _)
      | (with_reducible exact ih2 _ _ _ _ _ _ _ _ _ _)
      | (with_reducible exact ih3 _ _ _ _ _ _ _ _ _ _ _)
      | (with_reducible exact LeO.refl _)
      | (with_reducible exact LeO.none _)
      | (with_reducible refine LeO.ite ?_ ?_)
      | (with_reducible refine LeO.bind ?_ (fun _ => ?_))
      | exact ih0 _ _ _
      | exact ih1 _ _ _ _
      | exact ih2 _ _ _ _ _ _ _ _ _ _
      | exact ih3 _ _ _ _ _ _ _ _ _ _ _
      | exact LeO.none _
      | refine LeO.ite ?_ ?_
      | refine LeO.bind ?_ (fun _ => ?_)
    · intro y0 y1 y2 y3
      unfold tidemarkref18_Fold.l1
      repeat' first
      | (with_reducible exact ih0 _ _ _)
      | (with_reducible exact ih1 _ _ _ _)
      | (with_reducible exact ih2 _ _ _ _ _ _ _ _ _ _)
      | (with_reducible exact ih3 _ _ _ _ _ _ _ _ _ _ _)
      | (with_reducible exact LeO.refl _)
      | (with_reducible exact LeO.none _)
      | (with_reducible refine LeO.ite ?_ ?_)
      | (with_reducible refine LeO.bind ?_ (fun _ => ?_))
      | exact ih0 _ _ _
      | exact ih1 _ _ _ _
      | exact ih2 _ _ _ _ _ _ _ _ _ _
      | exact ih3 _ _ _ _ _ _ _ _ _ _ _
      | exact LeO.none _
      | refine LeO.ite ?_ ?_
      | refine LeO.bind ?_ (fun _ => ?_)
    · intro y0 y1 y2 y3 y4 y5 y6 y7 y8 y9
      unfold tidemarkref18_Fold.l2
      repeat' first
      | (with_reducible exact ih0 _ _ _)
      | (with_reducible exact ih1 _ _ _ _)
      | (with_reducible exact ih2 _ _ _ _ _ _ _ _ _ _)
      | (with_reducible exact ih3 _ _ _ _ _ _ _ _ _ _ _)
      | (with_reducible exact LeO.refl _)
      | (with_reducible exact LeO.none _)
      | (with_reducible refine LeO.ite ?_ ?_)
      | (with_reducible refine LeO.bind ?_ (fun _ => ?_))
      | exact ih0 _ _ _
      | exact ih1 _ _ _ _
      | exact ih2 _ _ _ _ _ _ _ _ _ _
      | exact ih3 _ _ _ _ _ _ _ _ _ _ _
      | exact LeO.none _
      | refine LeO.ite ?_ ?_
      | refine LeO.bind ?_ (fun _ => ?_)
    · intro y0 y1 y2 y3 y4 y5 y6 y7 y8 y9 y10
      unfold tidemarkref18_Fold.j3
      repeat' first
      | (with_reducible exact ih0 _ _ _)
      | (with_reducible exact ih1 _ _ _ _)
      | (with_reducible exact ih2 _ _ _ _ _ _ _ _ _ _)
      | (with_reducible exact ih3 _ _ _ _ _ _ _ _ _ _ _)
      | (with_reducible exact LeO.refl _)
      | (with_reducible exact LeO.none _)
      | (with_reducible refine LeO.ite ?_ ?_)
      | (with_reducible refine LeO.bind ?_ (fun _ => ?_))
      | exact ih0 _ _ _
      | exact ih1 _ _ _ _
      | exact ih2 _ _ _ _ _ _ _ _ _ _
      | exact ih3 _ _ _ _ _ _ _ _ _ _ _
      | exact LeO.none _
      | refine LeO.ite ?_ ?_
      | refine LeO.bind ?_ (fun _ => ?_)
theorem tidemarkref18_Fold.mono : ∀ a0 k, LeO (tidemarkref18_Fold.f k a0) (tidemarkref18_Fold.f (k + 1) a0) := by
  intro a0 k
  obtain ⟨ih0, ih1, ih2, ih3⟩ := tidemarkref18_Fold.mono_l k
  unfold tidemarkref18_Fold.f
  repeat' first
      | (with_reducible exact ih0 _ _ _)
      | (with_reducible exact ih1 _ _ _ _)
      | (with_reducible exact ih2 _ _ _ _ _ _ _ _ _ _)
      | (with_reducible exact ih3 _ _ _ _ _ _ _ _ _ _ _)
      | (with_reducible exact LeO.refl _)
      | (with_reducible exact LeO.none _)
      | (with_reducible refine LeO.ite ?_ ?_)
      | (with_reducible refine LeO.bind ?_ (fun _ => ?_))
      | exact ih0 _ _ _
      | exact ih1 _ _ _ _
      | exact ih2 _ _ _ _ _ _ _ _ _ _
      | exact ih3 _ _ _ _ _ _ _ _ _ _ _
      | exact LeO.none _
      | refine LeO.ite ?_ ?_
      | refine LeO.bind ?_ (fun _ => ?_)
set_option maxHeartbeats 8000000 in
set_option maxRecDepth 100000 in
theorem tidemarkref18_Fold.calls (k : Nat) (A0 : Option Addr) (c0 : Nat) (l0 : List (List (S57))) (r : List (S71)) (w : World) (hr0 : Kd.C (Kd.slice 57 k57) w A0 l0.length l0) (hc0 : l0.length ≤ c0) (h : tidemarkref18_Fold.f k l0 = some r) :
    Calls Tryd.prog 9 #[.slice A0 l0.length c0] w fun e w' => ∃ v0_ : Value, e = .returned (v0_) ∧ Kd.R k71 71 w' w.heap.size (fun _ => True) v0_ r ∧ Below w.heap.size w w' := by
  have hu57 := Tryd.underlying57
  have hu71 := Tryd.underlying71
  have HR0 := Aside0.mk hr0
  have HC0 := Aside0.mk hc0
  clear hr0 hc0
  have HB := Aside0.mk (Below.refl w.heap.size w)
  have H : (tidemarkref18_Fold.l0 k l0 ([] : List (S71)) 0) = some r := h
  clear h
  have H' := Aside0.mk H
  clear H
  go_enter Tryd.func9, Tryd.ntmps9
  go_wp2
  repeat (go_quiet (fail); try go_wp2)
  go_loopg [3, 4] k (fun kq v3 v4 w' => ∃ (x3_1 : List (S71)) (x4_1 : Int), v4 = .int .i64 x4_1 ∧ Aside0 (tidemarkref18_Fold.l0 kq l0 x3_1 x4_1 = some r) ∧ Aside0 (kq ≤ k) ∧ Aside0 (Kd.R k71 71 w' w.heap.size (fun _ => True) v3 x3_1) ∧ Aside0 (Below w.heap.size w w'))
  case atStart => exact ⟨(([] : List (S71))), (0), (by first | rfl | (simp; done) | (simp [*]; done)), H', ⟨Nat.le_refl _⟩, ⟨by first | exact Kd.R_nil _ _ _ _ _ | exact Kd.N_nil _ _ _ _ _ | exact Kd.V_nil _ _ _ _ _ | exact Kd.Q_nil _ _ _ _ _ | exact Kd.S_nil _ _ _ _ _⟩, ⟨by repeat (first | (with_reducible first | exact HB.out | apply below_alloc | apply pw_below_drewN | apply below_drew1) | exact HB.out)⟩⟩
  case round =>
    clear H'
    obtain ⟨x3_1, x4_1, rfl, HA, HK1, HO_3, HB⟩ := hrel
    cases gk with
    | zero => exact absurd HA.out (by simp [tidemarkref18_Fold.l0])
    | succ k1 =>
      have H := HA.out
      clear HA
      simp only [tidemarkref18_Fold.l0] at H
      by_cases c2 : x4_1 < (l0.length : Int)
      · rw [if_pos c2] at H
        have c2b0 : decide (x4_1 < (l0.length : Int)) = true := decide_eq_true c2
        clear c2
        have H' := Aside0.mk H
        clear H
        go_wp2
        repeat (go_quiet (fail); try go_wp2)
        go_loopg [3, 5] k1 (fun kq v3 v5 w' => ∃ (x3_2 : List (S71)) (x5_2 : Int), v5 = .int .i64 x5_2 ∧ Aside0 (tidemarkref18_Fold.l1 kq l0 x3_2 x4_1 x5_2 = some r) ∧ Aside0 (kq ≤ k1) ∧ Aside0 (Kd.R k71 71 w' w.heap.size (fun _ => True) v3 x3_2) ∧ Aside0 (Below w.heap.size w w'))
        case atStart => exact ⟨(x3_1), (0), (by first | rfl | (simp; done) | (simp [*]; done)), H', ⟨Nat.le_refl _⟩, ⟨by (with_reducible repeat (first | apply Kd.R_alloc | apply Kd.R_drewN | apply Kd.R_drew)); exact HO_3.out⟩, ⟨by repeat (first | (with_reducible first | exact HB.out | apply below_alloc | apply pw_below_drewN | apply below_drew1) | exact HB.out)⟩⟩
        case round =>
          clear H'
          try clear c2
          try clear c2b0
          try clear p2
          obtain ⟨x3_2, x5_2, rfl, HA, HK2, HO_3, HB⟩ := hrel
          cases gk with
          | zero => exact absurd HA.out (by simp [tidemarkref18_Fold.l1])
          | succ k2 =>
            have H := HA.out
            clear HA
            simp only [tidemarkref18_Fold.l1] at H
            by_cases c3 : 0 ≤ x4_1
            · rw [if_pos c3] at H
              have c3b0 : decide (0 ≤ x4_1) = true := decide_eq_true c3
              clear c3
              by_cases c4 : x4_1 < (l0.length : Int)
              · rw [if_pos c4] at H
                have c4b0 : decide (x4_1 < (l0.length : Int)) = true := decide_eq_true c4
                clear c4
                by_cases c5 : x5_2 < ((rd_L5 l0 x4_1).length : Int)
                · rw [if_pos c5] at H
                  have c5b0 : decide (x5_2 < ((rd_L5 l0 x4_1).length : Int)) = true := decide_eq_true c5
                  clear c5
                  by_cases c6 : 0 ≤ x5_2
                  · rw [if_pos c6] at H
                    have c6b0 : decide (0 ≤ x5_2) = true := decide_eq_true c6
                    clear c6
                    have H' := Aside0.mk H
                    clear H
                    have p117 : 0 ≤ (x4_1 : Int) := of_decide_eq_true (by first | (with_reducible assumption) | assumption)
                    have q117 : x4_1 < (l0.length : Int) := of_decide_eq_true (by first | (with_reducible assumption) | assumption)
                    obtain ⟨ad117, A117_0, c117_0, e117, hx117_0, hl117_0, hi117_0⟩ := at_L5 HR0.out x4_1 p117 q117
                    cases e117
                    replace hx117_0 := (HB.out.cell (World.block_lt_of_cell? w _ hx117_0)).trans hx117_0
                    have HR117_0 := Aside0.mk hi117_0
                    have HC117_0 := Aside0.mk hl117_0
                    clear hi117_0 hl117_0
                    replace p117 := eq_true p117
                    replace q117 := eq_true q117
                    have p118 : 0 ≤ (x4_1 : Int) := of_decide_eq_true (by first | (with_reducible assumption) | assumption)
                    have q118 : x4_1 < (l0.length : Int) := of_decide_eq_true (by first | (with_reducible assumption) | assumption)
                    obtain ⟨ad118, A118_0, c118_0, e118, hx118_0, hl118_0, hi118_0⟩ := at_L5 HR0.out x4_1 p118 q118
                    obtain rfl : ad117 = ad118 := (by injection e118)
                    replace hx118_0 := (HB.out.cell (World.block_lt_of_cell? w _ hx118_0)).trans hx118_0
                    have HR118_0 := Aside0.mk hi118_0
                    have HC118_0 := Aside0.mk hl118_0
                    clear hi118_0 hl118_0
                    replace p118 := eq_true p118
                    replace q118 := eq_true q118
                    have ea_ := Option.some.inj (hx117_0.symm.trans hx118_0)
                    injection ea_ with ea_ en_ ec_
                    subst ea_
                    subst ec_
                    clear en_
                    have p119 : 0 ≤ (x5_2 : Int) := of_decide_eq_true (by first | (with_reducible assumption) | assumption)
                    have q119 : x5_2 < ((rd_L5 l0 x4_1).length : Int) := of_decide_eq_true (by first | (with_reducible assumption) | assumption)
                    obtain ⟨ad119, e119, hx119_0, hx119_1, hx119_2⟩ := at_T57 HR118_0.out x5_2 p119 q119
                    cases e119
                    replace hx119_0 := (HB.out.cell (World.block_lt_of_cell? w _ hx119_0)).trans hx119_0
                    replace hx119_1 := (HB.out.cell (World.block_lt_of_cell? w _ hx119_1)).trans hx119_1
                    replace hx119_2 := (HB.out.cell (World.block_lt_of_cell? w _ hx119_2)).trans hx119_2
                    replace p119 := eq_true p119
                    replace q119 := eq_true q119
                    go_wp2_with (first | ((with_reducible refine gate_dst (N := 6) rfl ?_); refine box_event ?hg (N := 6) ?hd (cs := #[.int .i64 0, .int .u64 0, .bool false]) (t := 57) ?hr ?_; (case hd => rfl); (case hg => rfl); (case hr => first | (go_simp; done) | (go_simp; rfl)); intro gb120 hg w7 hbox hb; have n0_ := Aside0.mk (Kd.R_below (by (with_reducible repeat (first | apply Kd.R_alloc | apply Kd.R_drewN | apply Kd.R_drew)); exact HO_3.out) hb); have n1_ := Aside0.mk (below_step (by repeat (first | (with_reducible first | exact HB.out | apply below_alloc | apply pw_below_drewN | apply below_drew1) | exact HB.out)) hb); have n2_ := Aside0.mk (hbox); have n3_ := Aside0.mk ((by rw [hg]; exact (below_size (by repeat (first | (with_reducible first | exact HB.out | apply below_alloc | apply pw_below_drewN | apply below_drew1) | exact HB.out))) : w.heap.size ≤ gb120)); have n4_ := Aside0.mk ((by rw [hg]; exact (below_size (by repeat (first | (with_reducible first | exact HB.out | apply below_alloc | apply pw_below_drewN | apply below_drew1) | exact HB.out))) : w.heap.size ≤ gb120)); clear HO_3; clear HB; have HO_3 := n0_; have HB := n1_; have BK120 := n2_; have GW120 := n3_; have GE120 := n4_; clear n0_ n1_ n2_ n3_ n4_; clear hb hbox hg; have hcz8_0 : w7.cell? ⟨gb120, 0, none⟩ = some (.int .i64 0) := (blk_cell BK120.out 0).trans rfl; have hcz8_1 : w7.cell? ⟨gb120, 1, none⟩ = some (.int .u64 0) := (blk_cell BK120.out 1).trans rfl; have hcz8_2 : w7.cell? ⟨gb120, 2, none⟩ = some (.bool false) := (blk_cell BK120.out 2).trans rfl; have hfz8_0 := blk_frozen BK120.out 0; have hfz8_1 := blk_frozen BK120.out 1; have hfz8_2 := blk_frozen BK120.out 2))
                    repeat (go_quiet (first | ((with_reducible refine gate_dst (N := 6) rfl ?_); refine box_event ?hg (N := 6) ?hd (cs := #[.int .i64 0, .int .u64 0, .bool false]) (t := 57) ?hr ?_; (case hd => rfl); (case hg => rfl); (case hr => first | (go_simp; done) | (go_simp; rfl)); intro gb120 hg w7 hbox hb; have n0_ := Aside0.mk (Kd.R_below (by (with_reducible repeat (first | apply Kd.R_alloc | apply Kd.R_drewN | apply Kd.R_drew)); exact HO_3.out) hb); have n1_ := Aside0.mk (below_step (by repeat (first | (with_reducible first | exact HB.out | apply below_alloc | apply pw_below_drewN | apply below_drew1) | exact HB.out)) hb); have n2_ := Aside0.mk (hbox); have n3_ := Aside0.mk ((by rw [hg]; exact (below_size (by repeat (first | (with_reducible first | exact HB.out | apply below_alloc | apply pw_below_drewN | apply below_drew1) | exact HB.out))) : w.heap.size ≤ gb120)); have n4_ := Aside0.mk ((by rw [hg]; exact (below_size (by repeat (first | (with_reducible first | exact HB.out | apply below_alloc | apply pw_below_drewN | apply below_drew1) | exact HB.out))) : w.heap.size ≤ gb120)); clear HO_3; clear HB; have HO_3 := n0_; have HB := n1_; have BK120 := n2_; have GW120 := n3_; have GE120 := n4_; clear n0_ n1_ n2_ n3_ n4_; clear hb hbox hg; have hcz8_0 : w7.cell? ⟨gb120, 0, none⟩ = some (.int .i64 0) := (blk_cell BK120.out 0).trans rfl; have hcz8_1 : w7.cell? ⟨gb120, 1, none⟩ = some (.int .u64 0) := (blk_cell BK120.out 1).trans rfl; have hcz8_2 : w7.cell? ⟨gb120, 2, none⟩ = some (.bool false) := (blk_cell BK120.out 2).trans rfl; have hfz8_0 := blk_frozen BK120.out 0; have hfz8_1 := blk_frozen BK120.out 1; have hfz8_2 := blk_frozen BK120.out 2)); try go_wp2_with (first | ((with_reducible refine gate_dst (N := 6) rfl ?_); refine box_event ?hg (N := 6) ?hd (cs := #[.int .i64 0, .int .u64 0, .bool false]) (t := 57) ?hr ?_; (case hd => rfl); (case hg => rfl); (case hr => first | (go_simp; done) | (go_simp; rfl)); intro gb120 hg w7 hbox hb; have n0_ := Aside0.mk (Kd.R_below (by (with_reducible repeat (first | apply Kd.R_alloc | apply Kd.R_drewN | apply Kd.R_drew)); exact HO_3.out) hb); have n1_ := Aside0.mk (below_step (by repeat (first | (with_reducible first | exact HB.out | apply below_alloc | apply pw_below_drewN | apply below_drew1) | exact HB.out)) hb); have n2_ := Aside0.mk (hbox); have n3_ := Aside0.mk ((by rw [hg]; exact (below_size (by repeat (first | (with_reducible first | exact HB.out | apply below_alloc | apply pw_below_drewN | apply below_drew1) | exact HB.out))) : w.heap.size ≤ gb120)); have n4_ := Aside0.mk ((by rw [hg]; exact (below_size (by repeat (first | (with_reducible first | exact HB.out | apply below_alloc | apply pw_below_drewN | apply below_drew1) | exact HB.out))) : w.heap.size ≤ gb120)); clear HO_3; clear HB; have HO_3 := n0_; have HB := n1_; have BK120 := n2_; have GW120 := n3_; have GE120 := n4_; clear n0_ n1_ n2_ n3_ n4_; clear hb hbox hg; have hcz8_0 : w7.cell? ⟨gb120, 0, none⟩ = some (.int .i64 0) := (blk_cell BK120.out 0).trans rfl; have hcz8_1 : w7.cell? ⟨gb120, 1, none⟩ = some (.int .u64 0) := (blk_cell BK120.out 1).trans rfl; have hcz8_2 : w7.cell? ⟨gb120, 2, none⟩ = some (.bool false) := (blk_cell BK120.out 2).trans rfl; have hfz8_0 := blk_frozen BK120.out 0; have hfz8_1 := blk_frozen BK120.out 1; have hfz8_2 := blk_frozen BK120.out 2)))
                    go_loopg [7, 8, 9] k2 (fun kq v7 v8 v9 w' => ∃ (x7_3 : List (S71)) (x8_3 : Bool) (x9_3 : Int), v8 = .bool x8_3 ∧ v9 = .int .i64 x9_3 ∧ Aside0 (tidemarkref18_Fold.l2 kq l0 x3_2 x4_1 x5_2 x7_3 x8_3 x9_3 ((rd_T57 (rd_L5 l0 x4_1) x5_2).f0) ((rd_T57 (rd_L5 l0 x4_1) x5_2).f1) ((rd_T57 (rd_L5 l0 x4_1) x5_2).f2) = some r) ∧ Aside0 (kq ≤ k2) ∧ Aside0 (Kd.R k71 71 w' w.heap.size (fun k_ => some k_ ≠ (v7 : Value).ownBlock) u3 x3_2) ∧ Aside0 (Kd.R k71 71 w' w.heap.size (fun k_ => some k_ ≠ (u3 : Value).ownBlock) v7 x7_3) ∧ Aside0 (w'.heap[gb120]? = some (.cells #[.int .i64 ((rd_T57 (rd_L5 l0 x4_1) x5_2).f0), .int .u64 ((rd_T57 (rd_L5 l0 x4_1) x5_2).f1), .bool ((rd_T57 (rd_L5 l0 x4_1) x5_2).f2)] 57 (0, 0))) ∧ Aside0 (Below w.heap.size w w'))
                    case atStart => exact ⟨(([] : List (S71))), ((rd_T57 (rd_L5 l0 x4_1) x5_2).f2), (0), (by first | rfl | (simp; done) | (simp [*]; done)), (by first | rfl | (simp; done) | (simp [*]; done)), H', ⟨Nat.le_refl _⟩, ⟨by (with_reducible repeat (first | apply Kd.R_alloc | apply Kd.R_drewN | apply Kd.R_drew)); exact Kd.R_mono (Kd.R_far (p := ⟨gb120, 2, none⟩) (Kd.R_far (p := ⟨gb120, 1, none⟩) (Kd.R_far (p := ⟨gb120, 0, none⟩) (Kd.R_types HO_3.out BK120.out (by decide)) (fun _ hk => hk.2) (.int .i64 ((rd_T57 (rd_L5 l0 x4_1) x5_2).f0))) (fun _ hk => hk.2) (.int .u64 ((rd_T57 (rd_L5 l0 x4_1) x5_2).f1))) (fun _ hk => hk.2) (.bool ((rd_T57 (rd_L5 l0 x4_1) x5_2).f2))) (fun _ hk => (by simp [Value.ownBlock]))⟩, ⟨by first | exact Kd.R_nil _ _ _ _ _ | exact Kd.N_nil _ _ _ _ _ | exact Kd.V_nil _ _ _ _ _ | exact Kd.Q_nil _ _ _ _ _ | exact Kd.S_nil _ _ _ _ _⟩, ⟨by (with_reducible repeat (first | refine blk_drewN ?_ _ | refine blk_drew ?_ | refine blk_alloc ?_ _)); refine blk_put (cs := #[.int .i64 ((rd_T57 (rd_L5 l0 x4_1) x5_2).f0), .int .u64 ((rd_T57 (rd_L5 l0 x4_1) x5_2).f1), .bool false]) ?_ 2 _ rfl; (with_reducible repeat (first | refine blk_drewN ?_ _ | refine blk_drew ?_ | refine blk_alloc ?_ _)); refine blk_put (cs := #[.int .i64 ((rd_T57 (rd_L5 l0 x4_1) x5_2).f0), .int .u64 0, .bool false]) ?_ 1 _ rfl; (with_reducible repeat (first | refine blk_drewN ?_ _ | refine blk_drew ?_ | refine blk_alloc ?_ _)); refine blk_put (cs := #[.int .i64 0, .int .u64 0, .bool false]) ?_ 0 _ rfl; (with_reducible repeat (first | refine blk_drewN ?_ _ | refine blk_drew ?_ | refine blk_alloc ?_ _)); exact BK120.out⟩, ⟨by repeat (first | (with_reducible first | exact HB.out | apply below_alloc | apply pw_below_drewN | apply below_drew1 | refine below_set ?_ GE120.out) | exact HB.out)⟩⟩
                    case round =>
                      clear H'
                      try clear c1
                      try clear p1
                      try clear q1
                      try clear hx1
                      try clear c2
                      try clear c2b0
                      try clear p2
                      try clear c3
                      try clear c3b0
                      try clear c4
                      try clear c4b0
                      try clear c5
                      try clear c5b0
                      try clear c6
                      try clear c6b0
                      try clear hcz8_0
                      try clear hcz8_1
                      try clear hcz8_2
                      try clear hfz8_0
                      try clear hfz8_1
                      try clear hfz8_2
                      try clear hx117_0
                      try clear hx118_0
                      try clear hx119_0
                      try clear hx119_1
                      try clear hx119_2
                      try clear p117
                      try clear p118
                      try clear p119
                      try clear p2
                      try clear q117
                      try clear q118
                      try clear q119
                      obtain ⟨x7_3, x8_3, x9_3, rfl, rfl, HA, HK3, HO_3, HO_7, BK120, HB⟩ := hrel
                      cases gk with
                      | zero => exact absurd HA.out (by simp [tidemarkref18_Fold.l2])
                      | succ k3 =>
                        have H := HA.out
                        clear HA
                        simp only [tidemarkref18_Fold.l2] at H
                        by_cases c9 : x9_3 < (x3_2.length : Int)
                        · rw [if_pos c9] at H
                          have c9b0 : decide (x9_3 < (x3_2.length : Int)) = true := decide_eq_true c9
                          clear c9
                          have HC10 := Aside0.mk H
                          clear H
                          obtain ⟨Ao11, co11, eo11⟩ := Kd.R_slice HO_3.out
                          subst eo11
                          go_upto_region 14 with (fail)
                          repeat (go_quiet (fail); go_upto_region 14 with (fail))
                          go_cut [51] (fun v51 wc => ∃ (kq : Nat) (x51_9 : Bool), v51 = .bool x51_9 ∧ Aside0 (tidemarkref18_Fold.j3 kq l0 x3_2 x4_1 x5_2 x7_3 x8_3 x9_3 x51_9 ((rd_T57 (rd_L5 l0 x4_1) x5_2).f0) ((rd_T57 (rd_L5 l0 x4_1) x5_2).f1) ((rd_T57 (rd_L5 l0 x4_1) x5_2).f2) = some r) ∧ Aside0 (kq ≤ k3) ∧ Aside0 (Kd.R k71 71 wc w.heap.size (fun k_ => some k_ ≠ (u7 : Value).ownBlock) (.slice Ao11 x3_2.length co11) x3_2) ∧ Aside0 (Kd.R k71 71 wc w.heap.size (fun k_ => some k_ ≠ ((.slice Ao11 x3_2.length co11) : Value).ownBlock) u7 x7_3) ∧ Aside0 (wc.heap[gb120]? = some (.cells #[.int .i64 ((rd_T57 (rd_L5 l0 x4_1) x5_2).f0), .int .u64 ((rd_T57 (rd_L5 l0 x4_1) x5_2).f1), .bool ((rd_T57 (rd_L5 l0 x4_1) x5_2).f2)] 57 (0, 0))) ∧ Aside0 (Below w.heap.size w wc))
                          case first =>
                            have H := HC10.out
                            clear HC10
                            by_cases c12 : x8_3 = true
                            · subst c12
                              have H1 : (tidemarkref18_Fold.j3 k3 l0 x3_2 x4_1 x5_2 x7_3 true x9_3 false ((rd_T57 (rd_L5 l0 x4_1) x5_2).f0) ((rd_T57 (rd_L5 l0 x4_1) x5_2).f1) ((rd_T57 (rd_L5 l0 x4_1) x5_2).f2)) = some r := by rw [if_pos rfl] at H; exact H
                              clear H
                              have H := H1
                              clear H1
                              have H' := Aside0.mk H
                              clear H
                              go_wp2
                              repeat (go_quiet (fail); try go_wp2)
                              go_meet
                              case rel => exact ⟨_, (false), (by first | rfl | (simp; done) | (simp [*]; done)), H', ⟨by have := HK1.out; have := HK2.out; have := HK3.out; first | omega | exact Nat.le_refl _⟩, ⟨by (with_reducible repeat (first | apply Kd.R_alloc | apply Kd.R_drewN | apply Kd.R_drew)); exact HO_3.out⟩, ⟨by (with_reducible repeat (first | apply Kd.R_alloc | apply Kd.R_drewN | apply Kd.R_drew)); exact HO_7.out⟩, ⟨by (with_reducible repeat (first | refine blk_drewN ?_ _ | refine blk_drew ?_ | refine blk_alloc ?_ _)); exact BK120.out⟩, ⟨by repeat (first | (with_reducible first | exact HB.out | apply below_alloc | apply pw_below_drewN | apply below_drew1 | refine below_set ?_ GE120.out) | exact HB.out)⟩⟩
                            · replace c12 := Bool.eq_false_iff.mpr c12
                              subst c12
                              have H1 : (if 0 ≤ x9_3 then (tidemarkref18_Fold.j3 k3 l0 x3_2 x4_1 x5_2 x7_3 false x9_3 (decide (((rd_T71 x3_2 x9_3).f0) ≥ ((rd_T57 (rd_L5 l0 x4_1) x5_2).f0))) ((rd_T57 (rd_L5 l0 x4_1) x5_2).f0) ((rd_T57 (rd_L5 l0 x4_1) x5_2).f1) ((rd_T57 (rd_L5 l0 x4_1) x5_2).f2)) else (none)) = some r := by rw [if_neg (show ¬ (false = true) by decide)] at H; exact H
                              clear H
                              have H := H1
                              clear H1
                              by_cases c13 : 0 ≤ x9_3
                              · rw [if_pos c13] at H
                                have c13b0 : decide (0 ≤ x9_3) = true := decide_eq_true c13
                                clear c13
                                (first | rw [c13b0] | (simp only [i64_w, i32_w]; rw [c13b0]) | skip)
                                have H' := Aside0.mk H
                                clear H
                                have p124 : 0 ≤ (x9_3 : Int) := of_decide_eq_true (by first | (with_reducible assumption) | assumption)
                                have q124 : x9_3 < (x3_2.length : Int) := of_decide_eq_true (by first | (with_reducible assumption) | assumption)
                                obtain ⟨ad124, e124, hx124_0, hx124_1⟩ := at_T71 (Kd.R_reads' HO_3.out).2.2 x9_3 p124 q124
                                cases e124
                                replace p124 := eq_true p124
                                replace q124 := eq_true q124
                                have hcz14_0 : wr.cell? ⟨gb120, 0, none⟩ = some (.int .i64 ((rd_T57 (rd_L5 l0 x4_1) x5_2).f0)) := (blk_cell BK120.out 0).trans rfl
                                have hcz14_1 : wr.cell? ⟨gb120, 1, none⟩ = some (.int .u64 ((rd_T57 (rd_L5 l0 x4_1) x5_2).f1)) := (blk_cell BK120.out 1).trans rfl
                                have hcz14_2 : wr.cell? ⟨gb120, 2, none⟩ = some (.bool ((rd_T57 (rd_L5 l0 x4_1) x5_2).f2)) := (blk_cell BK120.out 2).trans rfl
                                have hfz14_0 := blk_frozen BK120.out 0
                                have hfz14_1 := blk_frozen BK120.out 1
                                have hfz14_2 := blk_frozen BK120.out 2
                                go_wp2
                                repeat (go_quiet (fail); try go_wp2)
                                go_meet
                                case rel => exact ⟨_, (decide (((rd_T71 x3_2 x9_3).f0) ≥ ((rd_T57 (rd_L5 l0 x4_1) x5_2).f0))), (by first | rfl | (simp; done) | (simp [*]; done)), H', ⟨by have := HK1.out; have := HK2.out; have := HK3.out; first | omega | exact Nat.le_refl _⟩, ⟨by (with_reducible repeat (first | apply Kd.R_alloc | apply Kd.R_drewN | apply Kd.R_drew)); exact HO_3.out⟩, ⟨by (with_reducible repeat (first | apply Kd.R_alloc | apply Kd.R_drewN | apply Kd.R_drew)); exact HO_7.out⟩, ⟨by (with_reducible repeat (first | refine blk_drewN ?_ _ | refine blk_drew ?_ | refine blk_alloc ?_ _)); exact BK120.out⟩, ⟨by repeat (first | (with_reducible first | exact HB.out | apply below_alloc | apply pw_below_drewN | apply below_drew1 | refine below_set ?_ GE120.out) | exact HB.out)⟩⟩
                              · rw [if_neg c13] at H
                                exact absurd H (by simp)
                          case rest =>
                            clear HC10
                            try clear c1
                            try clear p1
                            try clear q1
                            try clear hx1
                            try clear c2
                            try clear c2b0
                            try clear p2
                            try clear c3
                            try clear c3b0
                            try clear c4
                            try clear c4b0
                            try clear c5
                            try clear c5b0
                            try clear c6
                            try clear c6b0
                            try clear c9
                            try clear c9b0
                            try clear c11
                            try clear p11
                            try clear q11
                            try clear hx11
                            try clear c12
                            try clear p12
                            try clear q12
                            try clear hx12
                            try clear c13
                            try clear c13b0
                            try clear hcz14_0
                            try clear hcz14_1
                            try clear hcz14_2
                            try clear hcz8_0
                            try clear hcz8_1
                            try clear hcz8_2
                            try clear hfz14_0
                            try clear hfz14_1
                            try clear hfz14_2
                            try clear hfz8_0
                            try clear hfz8_1
                            try clear hfz8_2
                            try clear hx117_0
                            try clear hx118_0
                            try clear hx119_0
                            try clear hx119_1
                            try clear hx119_2
                            try clear hx124_0
                            try clear hx124_1
                            try clear p1
                            try clear p117
                            try clear p118
                            try clear p119
                            try clear p124
                            try clear p2
                            try clear q1
                            try clear q117
                            try clear q118
                            try clear q119
                            try clear q124
                            obtain ⟨kq, x51_9, rfl, HA, HJ9, HO_3, HO_7, BK120, HB⟩ := hcut
                            cases kq with
                            | zero => exact absurd HA.out (by simp [tidemarkref18_Fold.j3])
                            | succ kj9 =>
                              have H := HA.out
                              clear HA
                              simp only [tidemarkref18_Fold.j3] at H
                              by_cases c15 : x51_9 = true
                              · subst c15
                                have H1 : (if x7_3.length < 8796093022208 then ((some (x7_3 ++ [(⟨((rd_T57 (rd_L5 l0 x4_1) x5_2).f0), ((rd_T57 (rd_L5 l0 x4_1) x5_2).f1)⟩ : S71)] : List (S71))).bind fun y125 => (if 0 ≤ x9_3 then (if x9_3 < (x3_2.length : Int) then (if ((rd_T71 x3_2 x9_3).f0) = ((rd_T57 (rd_L5 l0 x4_1) x5_2).f0) then (tidemarkref18_Fold.l2 kj9 l0 x3_2 x4_1 x5_2 y125 true (wrap64 (x9_3 + 1)) ((rd_T57 (rd_L5 l0 x4_1) x5_2).f0) ((rd_T57 (rd_L5 l0 x4_1) x5_2).f1) ((rd_T57 (rd_L5 l0 x4_1) x5_2).f2)) else (if y125.length < 8796093022208 then (tidemarkref18_Fold.l2 kj9 l0 x3_2 x4_1 x5_2 (y125 ++ [(⟨(rd_T71 x3_2 x9_3).f0, (rd_T71 x3_2 x9_3).f1⟩ : S71)]) true (wrap64 (x9_3 + 1)) ((rd_T57 (rd_L5 l0 x4_1) x5_2).f0) ((rd_T57 (rd_L5 l0 x4_1) x5_2).f1) ((rd_T57 (rd_L5 l0 x4_1) x5_2).f2)) else (none))) else (none)) else (none))) else (none)) = some r := by rw [if_pos rfl] at H; exact H
                                clear H
                                have H := H1
                                clear H1
                                by_cases c16 : x7_3.length < 8796093022208
                                · rw [if_pos c16] at H
                                  have LMc16 := Aside0.mk c16
                                  clear c16
                                  obtain ⟨y125, hy125⟩ : ∃ y_ : List (S71), y_ = (x7_3 ++ [(⟨((rd_T57 (rd_L5 l0 x4_1) x5_2).f0), ((rd_T57 (rd_L5 l0 x4_1) x5_2).f1)⟩ : S71)]) := ⟨_, rfl⟩
                                  replace H : (if 0 ≤ x9_3 then (if x9_3 < (x3_2.length : Int) then (if ((rd_T71 x3_2 x9_3).f0) = ((rd_T57 (rd_L5 l0 x4_1) x5_2).f0) then (tidemarkref18_Fold.l2 kj9 l0 x3_2 x4_1 x5_2 y125 true (wrap64 (x9_3 + 1)) ((rd_T57 (rd_L5 l0 x4_1) x5_2).f0) ((rd_T57 (rd_L5 l0 x4_1) x5_2).f1) ((rd_T57 (rd_L5 l0 x4_1) x5_2).f2)) else (if y125.length < 8796093022208 then (tidemarkref18_Fold.l2 kj9 l0 x3_2 x4_1 x5_2 (y125 ++ [(⟨(rd_T71 x3_2 x9_3).f0, (rd_T71 x3_2 x9_3).f1⟩ : S71)]) true (wrap64 (x9_3 + 1)) ((rd_T57 (rd_L5 l0 x4_1) x5_2).f0) ((rd_T57 (rd_L5 l0 x4_1) x5_2).f1) ((rd_T57 (rd_L5 l0 x4_1) x5_2).f2)) else (none))) else (none)) else (none)) = some r := by first | (rw [hy125]; with_reducible exact H) | (have H2_ := (Option.bind_some _ _).symm.trans H; rw [hy125]; with_reducible exact H2_) | (have H2_ := (Option.bind_some _ _).symm.trans H; with_reducible exact H2_) | with_reducible exact H | (rw [hy125]; exact H) | exact H
                                  have Ny125 := Aside0.mk hy125
                                  clear hy125
                                  by_cases c17 : 0 ≤ x9_3
                                  · rw [if_pos c17] at H
                                    have c17b0 : decide (0 ≤ x9_3) = true := decide_eq_true c17
                                    clear c17
                                    by_cases c18 : x9_3 < (x3_2.length : Int)
                                    · rw [if_pos c18] at H
                                      have c18b0 : decide (x9_3 < (x3_2.length : Int)) = true := decide_eq_true c18
                                      clear c18
                                      by_cases c19 : ((rd_T71 x3_2 x9_3).f0) = ((rd_T57 (rd_L5 l0 x4_1) x5_2).f0)
                                      · rw [if_pos c19] at H
                                        have c19b0 : (((rd_T71 x3_2 x9_3).f0) == ((rd_T57 (rd_L5 l0 x4_1) x5_2).f0)) = true := beq_iff_eq.mpr c19
                                        have c19b1 : (((rd_T71 x3_2 x9_3).f0) != ((rd_T57 (rd_L5 l0 x4_1) x5_2).f0)) = false := bne_eq_false_iff_eq.mpr c19
                                        clear c19
                                        have H' := Aside0.mk H
                                        clear H
                                        have hcz20_0 : wc.cell? ⟨gb120, 0, none⟩ = some (.int .i64 ((rd_T57 (rd_L5 l0 x4_1) x5_2).f0)) := (blk_cell BK120.out 0).trans rfl
                                        have hcz20_1 : wc.cell? ⟨gb120, 1, none⟩ = some (.int .u64 ((rd_T57 (rd_L5 l0 x4_1) x5_2).f1)) := (blk_cell BK120.out 1).trans rfl
                                        have hcz20_2 : wc.cell? ⟨gb120, 2, none⟩ = some (.bool ((rd_T57 (rd_L5 l0 x4_1) x5_2).f2)) := (blk_cell BK120.out 2).trans rfl
                                        have hfz20_0 := blk_frozen BK120.out 0
                                        have hfz20_1 := blk_frozen BK120.out 1
                                        have hfz20_2 := blk_frozen BK120.out 2
                                        go_wp2_with (first | ((with_reducible refine gate_builtin (b := .append) (xs := #[.tmp 52, .tmp 58]) rfl ?_); at_builtin; refine Kd.R_append k71 (w0 := w) w.heap.size rfl (.tmp 52) (.tmp 58) 27 71 (.agg #[(.int .i64 0), (.int .u64 0)]) 16 rfl Tryd.underlying27 info71 rfl (by decide) (by omega) u7 x7_3 (⟨((rd_T57 (rd_L5 l0 x4_1) x5_2).f0), ((rd_T57 (rd_L5 l0 x4_1) x5_2).f1)⟩ : S71) [.int .i64 ((rd_T57 (rd_L5 l0 x4_1) x5_2).f0), .int .u64 ((rd_T57 (rd_L5 l0 x4_1) x5_2).f1)] (fun k_ => some k_ ≠ (.slice Ao11 x3_2.length co11 : Value).ownBlock) (fun _ => False) rfl rfl ?aP (fun _ hk => hk.elim) ?aF ?aO ?aB ?aS ?aL ?_; (case aP => exact k71_mkM _ _ _ (⟨((rd_T57 (rd_L5 l0 x4_1) x5_2).f0), ((rd_T57 (rd_L5 l0 x4_1) x5_2).f1)⟩ : S71)); (case aB => exact (by repeat (first | (with_reducible first | exact HB.out | apply below_alloc | apply pw_below_drewN | apply below_drew1 | refine below_set ?_ GE120.out) | exact HB.out))); (case aF => exact (fun k_ hk => Kd.fresh' (Kd.R_lt (by (with_reducible repeat (first | apply Kd.R_alloc | apply Kd.R_drewN | apply Kd.R_drew)); exact HO_3.out)) k_ hk)); (case aO => exact (by (with_reducible repeat (first | apply Kd.R_alloc | apply Kd.R_drewN | apply Kd.R_drew)); exact HO_7.out)); (case aS => exact (below_size (by repeat (first | (with_reducible first | exact HB.out | apply below_alloc | apply pw_below_drewN | apply below_drew1 | refine below_set ?_ GE120.out) | exact HB.out)))); (case aL => have := LMc16.out; omega); intro v126 w21 ho hb hg hat; rw [← Ny125.out] at ho; have n0_ := Aside0.mk (Kd.R_after (ok := (fun _ => True)) (by (with_reducible repeat (first | apply Kd.R_alloc | apply Kd.R_drewN | apply Kd.R_drew)); exact Kd.R_mono HO_3.out (fun _ hk => ⟨trivial, hk⟩)) hg hat); have n1_ := Aside0.mk (blk_grown (g := gb120) (o := .cells #[.int .i64 ((rd_T57 (rd_L5 l0 x4_1) x5_2).f0), .int .u64 ((rd_T57 (rd_L5 l0 x4_1) x5_2).f1), .bool ((rd_T57 (rd_L5 l0 x4_1) x5_2).f2)] 57 (0, 0)) (by (with_reducible repeat (first | refine blk_drewN ?_ _ | refine blk_drew ?_ | refine blk_alloc ?_ _)); exact BK120.out) hg (Kd.R_ne HO_7.out BK120.out (by decide))); have n2_ := Aside0.mk (hb); have n3_ := Aside0.mk (ho); clear HO_3; clear BK120; clear HB; clear HO_7; have HO_3 := n0_; have BK120 := n1_; have HB := n2_; have HO127 := n3_; clear n0_ n1_ n2_ n3_; clear ho hb hg hat; have p128 : 0 ≤ (x9_3 : Int) := of_decide_eq_true (by first | (with_reducible assumption) | assumption); have q128 : x9_3 < (x3_2.length : Int) := of_decide_eq_true (by first | (with_reducible assumption) | assumption); obtain ⟨ad128, e128, hx128_0, hx128_1⟩ := at_T71 (Kd.R_reads' HO_3.out).2.2 x9_3 p128 q128; cases e128; replace p128 := eq_true p128; replace q128 := eq_true q128; have hcz22_0 : w21.cell? ⟨gb120, 0, none⟩ = some (.int .i64 ((rd_T57 (rd_L5 l0 x4_1) x5_2).f0)) := (blk_cell BK120.out 0).trans rfl; have hcz22_1 : w21.cell? ⟨gb120, 1, none⟩ = some (.int .u64 ((rd_T57 (rd_L5 l0 x4_1) x5_2).f1)) := (blk_cell BK120.out 1).trans rfl; have hcz22_2 : w21.cell? ⟨gb120, 2, none⟩ = some (.bool ((rd_T57 (rd_L5 l0 x4_1) x5_2).f2)) := (blk_cell BK120.out 2).trans rfl; have hfz22_0 := blk_frozen BK120.out 0; have hfz22_1 := blk_frozen BK120.out 1; have hfz22_2 := blk_frozen BK120.out 2))
                                        repeat (go_quiet (first | ((with_reducible refine gate_builtin (b := .append) (xs := #[.tmp 52, .tmp 58]) rfl ?_); at_builtin; refine Kd.R_append k71 (w0 := w) w.heap.size rfl (.tmp 52) (.tmp 58) 27 71 (.agg #[(.int .i64 0), (.int .u64 0)]) 16 rfl Tryd.underlying27 info71 rfl (by decide) (by omega) u7 x7_3 (⟨((rd_T57 (rd_L5 l0 x4_1) x5_2).f0), ((rd_T57 (rd_L5 l0 x4_1) x5_2).f1)⟩ : S71) [.int .i64 ((rd_T57 (rd_L5 l0 x4_1) x5_2).f0), .int .u64 ((rd_T57 (rd_L5 l0 x4_1) x5_2).f1)] (fun k_ => some k_ ≠ (.slice Ao11 x3_2.length co11 : Value).ownBlock) (fun _ => False) rfl rfl ?aP (fun _ hk => hk.elim) ?aF ?aO ?aB ?aS ?aL ?_; (case aP => exact k71_mkM _ _ _ (⟨((rd_T57 (rd_L5 l0 x4_1) x5_2).f0), ((rd_T57 (rd_L5 l0 x4_1) x5_2).f1)⟩ : S71)); (case aB => exact (by repeat (first | (with_reducible first | exact HB.out | apply below_alloc | apply pw_below_drewN | apply below_drew1 | refine below_set ?_ GE120.out) | exact HB.out))); (case aF => exact (fun k_ hk => Kd.fresh' (Kd.R_lt (by (with_reducible repeat (first | apply Kd.R_alloc | apply Kd.R_drewN | apply Kd.R_drew)); exact HO_3.out)) k_ hk)); (case aO => exact (by (with_reducible repeat (first | apply Kd.R_alloc | apply Kd.R_drewN | apply Kd.R_drew)); exact HO_7.out)); (case aS => exact (below_size (by repeat (first | (with_reducible first | exact HB.out | apply below_alloc | apply pw_below_drewN | apply below_drew1 | refine below_set ?_ GE120.out) | exact HB.out)))); (case aL => have := LMc16.out; omega); intro v126 w21 ho hb hg hat; rw [← Ny125.out] at ho; have n0_ := Aside0.mk (Kd.R_after (ok := (fun _ => True)) (by (with_reducible repeat (first | apply Kd.R_alloc | apply Kd.R_drewN | apply Kd.R_drew)); exact Kd.R_mono HO_3.out (fun _ hk => ⟨trivial, hk⟩)) hg hat); have n1_ := Aside0.mk (blk_grown (g := gb120) (o := .cells #[.int .i64 ((rd_T57 (rd_L5 l0 x4_1) x5_2).f0), .int .u64 ((rd_T57 (rd_L5 l0 x4_1) x5_2).f1), .bool ((rd_T57 (rd_L5 l0 x4_1) x5_2).f2)] 57 (0, 0)) (by (with_reducible repeat (first | refine blk_drewN ?_ _ | refine blk_drew ?_ | refine blk_alloc ?_ _)); exact BK120.out) hg (Kd.R_ne HO_7.out BK120.out (by decide))); have n2_ := Aside0.mk (hb); have n3_ := Aside0.mk (ho); clear HO_3; clear BK120; clear HB; clear HO_7; have HO_3 := n0_; have BK120 := n1_; have HB := n2_; have HO127 := n3_; clear n0_ n1_ n2_ n3_; clear ho hb hg hat; have p128 : 0 ≤ (x9_3 : Int) := of_decide_eq_true (by first | (with_reducible assumption) | assumption); have q128 : x9_3 < (x3_2.length : Int) := of_decide_eq_true (by first | (with_reducible assumption) | assumption); obtain ⟨ad128, e128, hx128_0, hx128_1⟩ := at_T71 (Kd.R_reads' HO_3.out).2.2 x9_3 p128 q128; cases e128; replace p128 := eq_true p128; replace q128 := eq_true q128; have hcz22_0 : w21.cell? ⟨gb120, 0, none⟩ = some (.int .i64 ((rd_T57 (rd_L5 l0 x4_1) x5_2).f0)) := (blk_cell BK120.out 0).trans rfl; have hcz22_1 : w21.cell? ⟨gb120, 1, none⟩ = some (.int .u64 ((rd_T57 (rd_L5 l0 x4_1) x5_2).f1)) := (blk_cell BK120.out 1).trans rfl; have hcz22_2 : w21.cell? ⟨gb120, 2, none⟩ = some (.bool ((rd_T57 (rd_L5 l0 x4_1) x5_2).f2)) := (blk_cell BK120.out 2).trans rfl; have hfz22_0 := blk_frozen BK120.out 0; have hfz22_1 := blk_frozen BK120.out 1; have hfz22_2 := blk_frozen BK120.out 2)); try go_wp2_with (first | ((with_reducible refine gate_builtin (b := .append) (xs := #[.tmp 52, .tmp 58]) rfl ?_); at_builtin; refine Kd.R_append k71 (w0 := w) w.heap.size rfl (.tmp 52) (.tmp 58) 27 71 (.agg #[(.int .i64 0), (.int .u64 0)]) 16 rfl Tryd.underlying27 info71 rfl (by decide) (by omega) u7 x7_3 (⟨((rd_T57 (rd_L5 l0 x4_1) x5_2).f0), ((rd_T57 (rd_L5 l0 x4_1) x5_2).f1)⟩ : S71) [.int .i64 ((rd_T57 (rd_L5 l0 x4_1) x5_2).f0), .int .u64 ((rd_T57 (rd_L5 l0 x4_1) x5_2).f1)] (fun k_ => some k_ ≠ (.slice Ao11 x3_2.length co11 : Value).ownBlock) (fun _ => False) rfl rfl ?aP (fun _ hk => hk.elim) ?aF ?aO ?aB ?aS ?aL ?_; (case aP => exact k71_mkM _ _ _ (⟨((rd_T57 (rd_L5 l0 x4_1) x5_2).f0), ((rd_T57 (rd_L5 l0 x4_1) x5_2).f1)⟩ : S71)); (case aB => exact (by repeat (first | (with_reducible first | exact HB.out | apply below_alloc | apply pw_below_drewN | apply below_drew1 | refine below_set ?_ GE120.out) | exact HB.out))); (case aF => exact (fun k_ hk => Kd.fresh' (Kd.R_lt (by (with_reducible repeat (first | apply Kd.R_alloc | apply Kd.R_drewN | apply Kd.R_drew)); exact HO_3.out)) k_ hk)); (case aO => exact (by (with_reducible repeat (first | apply Kd.R_alloc | apply Kd.R_drewN | apply Kd.R_drew)); exact HO_7.out)); (case aS => exact (below_size (by repeat (first | (with_reducible first | exact HB.out | apply below_alloc | apply pw_below_drewN | apply below_drew1 | refine below_set ?_ GE120.out) | exact HB.out)))); (case aL => have := LMc16.out; omega); intro v126 w21 ho hb hg hat; rw [← Ny125.out] at ho; have n0_ := Aside0.mk (Kd.R_after (ok := (fun _ => True)) (by (with_reducible repeat (first | apply Kd.R_alloc | apply Kd.R_drewN | apply Kd.R_drew)); exact Kd.R_mono HO_3.out (fun _ hk => ⟨trivial, hk⟩)) hg hat); have n1_ := Aside0.mk (blk_grown (g := gb120) (o := .cells #[.int .i64 ((rd_T57 (rd_L5 l0 x4_1) x5_2).f0), .int .u64 ((rd_T57 (rd_L5 l0 x4_1) x5_2).f1), .bool ((rd_T57 (rd_L5 l0 x4_1) x5_2).f2)] 57 (0, 0)) (by (with_reducible repeat (first | refine blk_drewN ?_ _ | refine blk_drew ?_ | refine blk_alloc ?_ _)); exact BK120.out) hg (Kd.R_ne HO_7.out BK120.out (by decide))); have n2_ := Aside0.mk (hb); have n3_ := Aside0.mk (ho); clear HO_3; clear BK120; clear HB; clear HO_7; have HO_3 := n0_; have BK120 := n1_; have HB := n2_; have HO127 := n3_; clear n0_ n1_ n2_ n3_; clear ho hb hg hat; have p128 : 0 ≤ (x9_3 : Int) := of_decide_eq_true (by first | (with_reducible assumption) | assumption); have q128 : x9_3 < (x3_2.length : Int) := of_decide_eq_true (by first | (with_reducible assumption) | assumption); obtain ⟨ad128, e128, hx128_0, hx128_1⟩ := at_T71 (Kd.R_reads' HO_3.out).2.2 x9_3 p128 q128; cases e128; replace p128 := eq_true p128; replace q128 := eq_true q128; have hcz22_0 : w21.cell? ⟨gb120, 0, none⟩ = some (.int .i64 ((rd_T57 (rd_L5 l0 x4_1) x5_2).f0)) := (blk_cell BK120.out 0).trans rfl; have hcz22_1 : w21.cell? ⟨gb120, 1, none⟩ = some (.int .u64 ((rd_T57 (rd_L5 l0 x4_1) x5_2).f1)) := (blk_cell BK120.out 1).trans rfl; have hcz22_2 : w21.cell? ⟨gb120, 2, none⟩ = some (.bool ((rd_T57 (rd_L5 l0 x4_1) x5_2).f2)) := (blk_cell BK120.out 2).trans rfl; have hfz22_0 := blk_frozen BK120.out 0; have hfz22_1 := blk_frozen BK120.out 1; have hfz22_2 := blk_frozen BK120.out 2)))
                                        go_roundg kj9
                                        case measure => have := HK1.out; have := HK2.out; have := HK3.out; have := HJ9.out; omega
                                        case rel => exact ⟨(y125), (true), (wrap64 (x9_3 + 1)), (by first | rfl | (simp; done) | (simp [*]; done)), (by first | rfl | (simp; done) | (simp [*]; done)), H', ⟨by have := HK1.out; have := HK2.out; have := HK3.out; have := HJ9.out; omega⟩, ⟨by (with_reducible repeat (first | apply Kd.R_alloc | apply Kd.R_drewN | apply Kd.R_drew)); exact Kd.R_mono HO_3.out (fun _ hk => hk.2)⟩, ⟨by (with_reducible repeat (first | apply Kd.R_alloc | apply Kd.R_drewN | apply Kd.R_drew)); exact HO127.out⟩, ⟨by (with_reducible repeat (first | refine blk_drewN ?_ _ | refine blk_drew ?_ | refine blk_alloc ?_ _)); exact BK120.out⟩, ⟨by repeat (first | (with_reducible first | exact HB.out | apply below_alloc | apply pw_below_drewN | apply below_drew1 | refine below_set ?_ GE120.out) | exact HB.out)⟩⟩
                                      · rw [if_neg c19] at H
                                        have c19b0 : (((rd_T71 x3_2 x9_3).f0) == ((rd_T57 (rd_L5 l0 x4_1) x5_2).f0)) = false := beq_eq_false_iff_ne.mpr c19
                                        have c19b1 : (((rd_T71 x3_2 x9_3).f0) != ((rd_T57 (rd_L5 l0 x4_1) x5_2).f0)) = true := bne_iff_ne.mpr c19
                                        by_cases c23 : y125.length < 8796093022208
                                        · rw [if_pos c23] at H
                                          have LMc23 := Aside0.mk c23
                                          clear c23
                                          obtain ⟨y130, hy130⟩ : ∃ y_ : List (S71), y_ = (y125 ++ [(⟨(rd_T71 x3_2 x9_3).f0, (rd_T71 x3_2 x9_3).f1⟩ : S71)]) := ⟨_, rfl⟩
                                          replace H : (tidemarkref18_Fold.l2 kj9 l0 x3_2 x4_1 x5_2 y130 true (wrap64 (x9_3 + 1)) ((rd_T57 (rd_L5 l0 x4_1) x5_2).f0) ((rd_T57 (rd_L5 l0 x4_1) x5_2).f1) ((rd_T57 (rd_L5 l0 x4_1) x5_2).f2)) = some r := by first | (rw [hy130]; with_reducible exact H) | (have H2_ := (Option.bind_some _ _).symm.trans H; rw [hy130]; with_reducible exact H2_) | (have H2_ := (Option.bind_some _ _).symm.trans H; with_reducible exact H2_) | with_reducible exact H | (rw [hy130]; exact H) | exact H
                                          have Ny130 := Aside0.mk hy130
                                          clear hy130
                                          have H' := Aside0.mk H
                                          clear H
                                          have hcz24_0 : wc.cell? ⟨gb120, 0, none⟩ = some (.int .i64 ((rd_T57 (rd_L5 l0 x4_1) x5_2).f0)) := (blk_cell BK120.out 0).trans rfl
                                          have hcz24_1 : wc.cell? ⟨gb120, 1, none⟩ = some (.int .u64 ((rd_T57 (rd_L5 l0 x4_1) x5_2).f1)) := (blk_cell BK120.out 1).trans rfl
                                          have hcz24_2 : wc.cell? ⟨gb120, 2, none⟩ = some (.bool ((rd_T57 (rd_L5 l0 x4_1) x5_2).f2)) := (blk_cell BK120.out 2).trans rfl
                                          have hfz24_0 := blk_frozen BK120.out 0
                                          have hfz24_1 := blk_frozen BK120.out 1
                                          have hfz24_2 := blk_frozen BK120.out 2
                                          go_wp2_with (first | ((with_reducible refine gate_builtin (b := .append) (xs := #[.tmp 52, .tmp 58]) rfl ?_); at_builtin; refine Kd.R_append k71 (w0 := w) w.heap.size rfl (.tmp 52) (.tmp 58) 27 71 (.agg #[(.int .i64 0), (.int .u64 0)]) 16 rfl Tryd.underlying27 info71 rfl (by decide) (by omega) u7 x7_3 (⟨((rd_T57 (rd_L5 l0 x4_1) x5_2).f0), ((rd_T57 (rd_L5 l0 x4_1) x5_2).f1)⟩ : S71) [.int .i64 ((rd_T57 (rd_L5 l0 x4_1) x5_2).f0), .int .u64 ((rd_T57 (rd_L5 l0 x4_1) x5_2).f1)] (fun k_ => some k_ ≠ (.slice Ao11 x3_2.length co11 : Value).ownBlock) (fun _ => False) rfl rfl ?aP (fun _ hk => hk.elim) ?aF ?aO ?aB ?aS ?aL ?_; (case aP => exact k71_mkM _ _ _ (⟨((rd_T57 (rd_L5 l0 x4_1) x5_2).f0), ((rd_T57 (rd_L5 l0 x4_1) x5_2).f1)⟩ : S71)); (case aB => exact (by repeat (first | (with_reducible first | exact HB.out | apply below_alloc | apply pw_below_drewN | apply below_drew1 | refine below_set ?_ GE120.out) | exact HB.out))); (case aF => exact (fun k_ hk => Kd.fresh' (Kd.R_lt (by (with_reducible repeat (first | apply Kd.R_alloc | apply Kd.R_drewN | apply Kd.R_drew)); exact HO_3.out)) k_ hk)); (case aO => exact (by (with_reducible repeat (first | apply Kd.R_alloc | apply Kd.R_drewN | apply Kd.R_drew)); exact HO_7.out)); (case aS => exact (below_size (by repeat (first | (with_reducible first | exact HB.out | apply below_alloc | apply pw_below_drewN | apply below_drew1 | refine below_set ?_ GE120.out) | exact HB.out)))); (case aL => have := LMc16.out; omega); intro v126 w25 ho hb hg hat; rw [← Ny125.out] at ho; have n0_ := Aside0.mk (Kd.R_after (ok := (fun _ => True)) (by (with_reducible repeat (first | apply Kd.R_alloc | apply Kd.R_drewN | apply Kd.R_drew)); exact Kd.R_mono HO_3.out (fun _ hk => ⟨trivial, hk⟩)) hg hat); have n1_ := Aside0.mk (blk_grown (g := gb120) (o := .cells #[.int .i64 ((rd_T57 (rd_L5 l0 x4_1) x5_2).f0), .int .u64 ((rd_T57 (rd_L5 l0 x4_1) x5_2).f1), .bool ((rd_T57 (rd_L5 l0 x4_1) x5_2).f2)] 57 (0, 0)) (by (with_reducible repeat (first | refine blk_drewN ?_ _ | refine blk_drew ?_ | refine blk_alloc ?_ _)); exact BK120.out) hg (Kd.R_ne HO_7.out BK120.out (by decide))); have n2_ := Aside0.mk (hb); have n3_ := Aside0.mk (ho); clear HO_3; clear BK120; clear HB; clear HO_7; have HO_3 := n0_; have BK120 := n1_; have HB := n2_; have HO127 := n3_; clear n0_ n1_ n2_ n3_; clear ho hb hg hat; have p128 : 0 ≤ (x9_3 : Int) := of_decide_eq_true (by first | (with_reducible assumption) | assumption); have q128 : x9_3 < (x3_2.length : Int) := of_decide_eq_true (by first | (with_reducible assumption) | assumption); obtain ⟨ad128, e128, hx128_0, hx128_1⟩ := at_T71 (Kd.R_reads' HO_3.out).2.2 x9_3 p128 q128; cases e128; replace p128 := eq_true p128; replace q128 := eq_true q128; have hcz26_0 : w25.cell? ⟨gb120, 0, none⟩ = some (.int .i64 ((rd_T57 (rd_L5 l0 x4_1) x5_2).f0)) := (blk_cell BK120.out 0).trans rfl; have hcz26_1 : w25.cell? ⟨gb120, 1, none⟩ = some (.int .u64 ((rd_T57 (rd_L5 l0 x4_1) x5_2).f1)) := (blk_cell BK120.out 1).trans rfl; have hcz26_2 : w25.cell? ⟨gb120, 2, none⟩ = some (.bool ((rd_T57 (rd_L5 l0 x4_1) x5_2).f2)) := (blk_cell BK120.out 2).trans rfl; have hfz26_0 := blk_frozen BK120.out 0; have hfz26_1 := blk_frozen BK120.out 1; have hfz26_2 := blk_frozen BK120.out 2; have p129 : 0 ≤ (x9_3 : Int) := of_decide_eq_true (by first | (with_reducible assumption) | assumption); have q129 : x9_3 < (x3_2.length : Int) := of_decide_eq_true (by first | (with_reducible assumption) | assumption); obtain ⟨ad129, e129, hx129_0, hx129_1⟩ := at_T71 (Kd.R_reads' HO_3.out).2.2 x9_3 p129 q129; obtain rfl : ad128 = ad129 := (by injection e129); replace p129 := eq_true p129; replace q129 := eq_true q129) | ((with_reducible refine gate_builtin (b := .append) (xs := #[.tmp 68, .tmp 73]) rfl ?_); at_builtin; refine Kd.R_append k71 (w0 := w) w.heap.size rfl (.tmp 68) (.tmp 73) 27 71 (.agg #[(.int .i64 0), (.int .u64 0)]) 16 rfl Tryd.underlying27 info71 rfl (by decide) (by omega) v126 y125 (⟨(rd_T71 x3_2 x9_3).f0, (rd_T71 x3_2 x9_3).f1⟩ : S71) [.int .i64 ((rd_T71 x3_2 x9_3).f0), .int .u64 ((rd_T71 x3_2 x9_3).f1)] (fun k_ => some k_ ≠ (.slice (some ad128) x3_2.length co11 : Value).ownBlock) (fun _ => False) rfl rfl ?aP (fun _ hk => hk.elim) ?aF ?aO ?aB ?aS ?aL ?_; (case aP => exact k71_mkM _ _ _ (⟨(rd_T71 x3_2 x9_3).f0, (rd_T71 x3_2 x9_3).f1⟩ : S71)); (case aB => exact (by repeat (first | (with_reducible first | exact HB.out | apply below_alloc | apply pw_below_drewN | apply below_drew1 | refine below_set ?_ GE120.out) | exact HB.out))); (case aF => exact (fun k_ hk => Kd.fresh' (Kd.R_lt (by (with_reducible repeat (first | apply Kd.R_alloc | apply Kd.R_drewN | apply Kd.R_drew)); exact HO_3.out)) k_ hk)); (case aO => exact (by (with_reducible repeat (first | apply Kd.R_alloc | apply Kd.R_drewN | apply Kd.R_drew)); exact HO127.out)); (case aS => exact (below_size (by repeat (first | (with_reducible first | exact HB.out | apply below_alloc | apply pw_below_drewN | apply below_drew1 | refine below_set ?_ GE120.out) | exact HB.out)))); (case aL => have := LMc23.out; omega); intro v131 w27 ho hb hg hat; rw [← Ny130.out] at ho; have n0_ := Aside0.mk (Kd.R_after (ok := (fun _ => True)) (by (with_reducible repeat (first | apply Kd.R_alloc | apply Kd.R_drewN | apply Kd.R_drew)); exact HO_3.out) hg hat); have n1_ := Aside0.mk (blk_grown (g := gb120) (o := .cells #[.int .i64 ((rd_T57 (rd_L5 l0 x4_1) x5_2).f0), .int .u64 ((rd_T57 (rd_L5 l0 x4_1) x5_2).f1), .bool ((rd_T57 (rd_L5 l0 x4_1) x5_2).f2)] 57 (0, 0)) (by (with_reducible repeat (first | refine blk_drewN ?_ _ | refine blk_drew ?_ | refine blk_alloc ?_ _)); exact BK120.out) hg (Kd.R_ne HO127.out BK120.out (by decide))); have n2_ := Aside0.mk (hb); have n3_ := Aside0.mk (ho); clear HO_3; clear BK120; clear HB; clear HO127; have HO_3 := n0_; have BK120 := n1_; have HB := n2_; have HO132 := n3_; clear n0_ n1_ n2_ n3_; clear ho hb hg hat))
                                          repeat (go_quiet (first | ((with_reducible refine gate_builtin (b := .append) (xs := #[.tmp 52, .tmp 58]) rfl ?_); at_builtin; refine Kd.R_append k71 (w0 := w) w.heap.size rfl (.tmp 52) (.tmp 58) 27 71 (.agg #[(.int .i64 0), (.int .u64 0)]) 16 rfl Tryd.underlying27 info71 rfl (by decide) (by omega) u7 x7_3 (⟨((rd_T57 (rd_L5 l0 x4_1) x5_2).f0), ((rd_T57 (rd_L5 l0 x4_1) x5_2).f1)⟩ : S71) [.int .i64 ((rd_T57 (rd_L5 l0 x4_1) x5_2).f0), .int .u64 ((rd_T57 (rd_L5 l0 x4_1) x5_2).f1)] (fun k_ => some k_ ≠ (.slice Ao11 x3_2.length co11 : Value).ownBlock) (fun _ => False) rfl rfl ?aP (fun _ hk => hk.elim) ?aF ?aO ?aB ?aS ?aL ?_; (case aP => exact k71_mkM _ _ _ (⟨((rd_T57 (rd_L5 l0 x4_1) x5_2).f0), ((rd_T57 (rd_L5 l0 x4_1) x5_2).f1)⟩ : S71)); (case aB => exact (by repeat (first | (with_reducible first | exact HB.out | apply below_alloc | apply pw_below_drewN | apply below_drew1 | refine below_set ?_ GE120.out) | exact HB.out))); (case aF => exact (fun k_ hk => Kd.fresh' (Kd.R_lt (by (with_reducible repeat (first | apply Kd.R_alloc | apply Kd.R_drewN | apply Kd.R_drew)); exact HO_3.out)) k_ hk)); (case aO => exact (by (with_reducible repeat (first | apply Kd.R_alloc | apply Kd.R_drewN | apply Kd.R_drew)); exact HO_7.out)); (case aS => exact (below_size (by repeat (first | (with_reducible first | exact HB.out | apply below_alloc | apply pw_below_drewN | apply below_drew1 | refine below_set ?_ GE120.out) | exact HB.out)))); (case aL => have := LMc16.out; omega); intro v126 w25 ho hb hg hat; rw [← Ny125.out] at ho; have n0_ := Aside0.mk (Kd.R_after (ok := (fun _ => True)) (by (with_reducible repeat (first | apply Kd.R_alloc | apply Kd.R_drewN | apply Kd.R_drew)); exact Kd.R_mono HO_3.out (fun _ hk => ⟨trivial, hk⟩)) hg hat); have n1_ := Aside0.mk (blk_grown (g := gb120) (o := .cells #[.int .i64 ((rd_T57 (rd_L5 l0 x4_1) x5_2).f0), .int .u64 ((rd_T57 (rd_L5 l0 x4_1) x5_2).f1), .bool ((rd_T57 (rd_L5 l0 x4_1) x5_2).f2)] 57 (0, 0)) (by (with_reducible repeat (first | refine blk_drewN ?_ _ | refine blk_drew ?_ | refine blk_alloc ?_ _)); exact BK120.out) hg (Kd.R_ne HO_7.out BK120.out (by decide))); have n2_ := Aside0.mk (hb); have n3_ := Aside0.mk (ho); clear HO_3; clear BK120; clear HB; clear HO_7; have HO_3 := n0_; have BK120 := n1_; have HB := n2_; have HO127 := n3_; clear n0_ n1_ n2_ n3_; clear ho hb hg hat; have p128 : 0 ≤ (x9_3 : Int) := of_decide_eq_true (by first | (with_reducible assumption) | assumption); have q128 : x9_3 < (x3_2.length : Int) := of_decide_eq_true (by first | (with_reducible assumption) | assumption); obtain ⟨ad128, e128, hx128_0, hx128_1⟩ := at_T71 (Kd.R_reads' HO_3.out).2.2 x9_3 p128 q128; cases e128; replace p128 := eq_true p128; replace q128 := eq_true q128; have hcz26_0 : w25.cell? ⟨gb120, 0, none⟩ = some (.int .i64 ((rd_T57 (rd_L5 l0 x4_1) x5_2).f0)) := (blk_cell BK120.out 0).trans rfl; have hcz26_1 : w25.cell? ⟨gb120, 1, none⟩ = some (.int .u64 ((rd_T57 (rd_L5 l0 x4_1) x5_2).f1)) := (blk_cell BK120.out 1).trans rfl; have hcz26_2 : w25.cell? ⟨gb120, 2, none⟩ = some (.bool ((rd_T57 (rd_L5 l0 x4_1) x5_2).f2)) := (blk_cell BK120.out 2).trans rfl; have hfz26_0 := blk_frozen BK120.out 0; have hfz26_1 := blk_frozen BK120.out 1; have hfz26_2 := blk_frozen BK120.out 2; have p129 : 0 ≤ (x9_3 : Int) := of_decide_eq_true (by first | (with_reducible assumption) | assumption); have q129 : x9_3 < (x3_2.length : Int) := of_decide_eq_true (by first | (with_reducible assumption) | assumption); obtain ⟨ad129, e129, hx129_0, hx129_1⟩ := at_T71 (Kd.R_reads' HO_3.out).2.2 x9_3 p129 q129; obtain rfl : ad128 = ad129 := (by injection e129); replace p129 := eq_true p129; replace q129 := eq_true q129) | ((with_reducible refine gate_builtin (b := .append) (xs := #[.tmp 68, .tmp 73]) rfl ?_); at_builtin; refine Kd.R_append k71 (w0 := w) w.heap.size rfl (.tmp 68) (.tmp 73) 27 71 (.agg #[(.int .i64 0), (.int .u64 0)]) 16 rfl Tryd.underlying27 info71 rfl (by decide) (by omega) v126 y125 (⟨(rd_T71 x3_2 x9_3).f0, (rd_T71 x3_2 x9_3).f1⟩ : S71) [.int .i64 ((rd_T71 x3_2 x9_3).f0), .int .u64 ((rd_T71 x3_2 x9_3).f1)] (fun k_ => some k_ ≠ (.slice (some ad128) x3_2.length co11 : Value).ownBlock) (fun _ => False) rfl rfl ?aP (fun _ hk => hk.elim) ?aF ?aO ?aB ?aS ?aL ?_; (case aP => exact k71_mkM _ _ _ (⟨(rd_T71 x3_2 x9_3).f0, (rd_T71 x3_2 x9_3).f1⟩ : S71)); (case aB => exact (by repeat (first | (with_reducible first | exact HB.out | apply below_alloc | apply pw_below_drewN | apply below_drew1 | refine below_set ?_ GE120.out) | exact HB.out))); (case aF => exact (fun k_ hk => Kd.fresh' (Kd.R_lt (by (with_reducible repeat (first | apply Kd.R_alloc | apply Kd.R_drewN | apply Kd.R_drew)); exact HO_3.out)) k_ hk)); (case aO => exact (by (with_reducible repeat (first | apply Kd.R_alloc | apply Kd.R_drewN | apply Kd.R_drew)); exact HO127.out)); (case aS => exact (below_size (by repeat (first | (with_reducible first | exact HB.out | apply below_alloc | apply pw_below_drewN | apply below_drew1 | refine below_set ?_ GE120.out) | exact HB.out)))); (case aL => have := LMc23.out; omega); intro v131 w27 ho hb hg hat; rw [← Ny130.out] at ho; have n0_ := Aside0.mk (Kd.R_after (ok := (fun _ => True)) (by (with_reducible repeat (first | apply Kd.R_alloc | apply Kd.R_drewN | apply Kd.R_drew)); exact HO_3.out) hg hat); have n1_ := Aside0.mk (blk_grown (g := gb120) (o := .cells #[.int .i64 ((rd_T57 (rd_L5 l0 x4_1) x5_2).f0), .int .u64 ((rd_T57 (rd_L5 l0 x4_1) x5_2).f1), .bool ((rd_T57 (rd_L5 l0 x4_1) x5_2).f2)] 57 (0, 0)) (by (with_reducible repeat (first | refine blk_drewN ?_ _ | refine blk_drew ?_ | refine blk_alloc ?_ _)); exact BK120.out) hg (Kd.R_ne HO127.out BK120.out (by decide))); have n2_ := Aside0.mk (hb); have n3_ := Aside0.mk (ho); clear HO_3; clear BK120; clear HB; clear HO127; have HO_3 := n0_; have BK120 := n1_; have HB := n2_; have HO132 := n3_; clear n0_ n1_ n2_ n3_; clear ho hb hg hat)); try go_wp2_with (first | ((with_reducible refine gate_builtin (b := .append) (xs := #[.tmp 52, .tmp 58]) rfl ?_); at_builtin; refine Kd.R_append k71 (w0 := w) w.heap.size rfl (.tmp 52) (.tmp 58) 27 71 (.agg #[(.int .i64 0), (.int .u64 0)]) 16 rfl Tryd.underlying27 info71 rfl (by decide) (by omega) u7 x7_3 (⟨((rd_T57 (rd_L5 l0 x4_1) x5_2).f0), ((rd_T57 (rd_L5 l0 x4_1) x5_2).f1)⟩ : S71) [.int .i64 ((rd_T57 (rd_L5 l0 x4_1) x5_2).f0), .int .u64 ((rd_T57 (rd_L5 l0 x4_1) x5_2).f1)] (fun k_ => some k_ ≠ (.slice Ao11 x3_2.length co11 : Value).ownBlock) (fun _ => False) rfl rfl ?aP (fun _ hk => hk.elim) ?aF ?aO ?aB ?aS ?aL ?_; (case aP => exact k71_mkM _ _ _ (⟨((rd_T57 (rd_L5 l0 x4_1) x5_2).f0), ((rd_T57 (rd_L5 l0 x4_1) x5_2).f1)⟩ : S71)); (case aB => exact (by repeat (first | (with_reducible first | exact HB.out | apply below_alloc | apply pw_below_drewN | apply below_drew1 | refine below_set ?_ GE120.out) | exact HB.out))); (case aF => exact (fun k_ hk => Kd.fresh' (Kd.R_lt (by (with_reducible repeat (first | apply Kd.R_alloc | apply Kd.R_drewN | apply Kd.R_drew)); exact HO_3.out)) k_ hk)); (case aO => exact (by (with_reducible repeat (first | apply Kd.R_alloc | apply Kd.R_drewN | apply Kd.R_drew)); exact HO_7.out)); (case aS => exact (below_size (by repeat (first | (with_reducible first | exact HB.out | apply below_alloc | apply pw_below_drewN | apply below_drew1 | refine below_set ?_ GE120.out) | exact HB.out)))); (case aL => have := LMc16.out; omega); intro v126 w25 ho hb hg hat; rw [← Ny125.out] at ho; have n0_ := Aside0.mk (Kd.R_after (ok := (fun _ => True)) (by (with_reducible repeat (first | apply Kd.R_alloc | apply Kd.R_drewN | apply Kd.R_drew)); exact Kd.R_mono HO_3.out (fun _ hk => ⟨trivial, hk⟩)) hg hat); have n1_ := Aside0.mk (blk_grown (g := gb120) (o := .cells #[.int .i64 ((rd_T57 (rd_L5 l0 x4_1) x5_2).f0), .int .u64 ((rd_T57 (rd_L5 l0 x4_1) x5_2).f1), .bool ((rd_T57 (rd_L5 l0 x4_1) x5_2).f2)] 57 (0, 0)) (by (with_reducible repeat (first | refine blk_drewN ?_ _ | refine blk_drew ?_ | refine blk_alloc ?_ _)); exact BK120.out) hg (Kd.R_ne HO_7.out BK120.out (by decide))); have n2_ := Aside0.mk (hb); have n3_ := Aside0.mk (ho); clear HO_3; clear BK120; clear HB; clear HO_7; have HO_3 := n0_; have BK120 := n1_; have HB := n2_; have HO127 := n3_; clear n0_ n1_ n2_ n3_; clear ho hb hg hat; have p128 : 0 ≤ (x9_3 : Int) := of_decide_eq_true (by first | (with_reducible assumption) | assumption); have q128 : x9_3 < (x3_2.length : Int) := of_decide_eq_true (by first | (with_reducible assumption) | assumption); obtain ⟨ad128, e128, hx128_0, hx128_1⟩ := at_T71 (Kd.R_reads' HO_3.out).2.2 x9_3 p128 q128; cases e128; replace p128 := eq_true p128; replace q128 := eq_true q128; have hcz26_0 : w25.cell? ⟨gb120, 0, none⟩ = some (.int .i64 ((rd_T57 (rd_L5 l0 x4_1) x5_2).f0)) := (blk_cell BK120.out 0).trans rfl; have hcz26_1 : w25.cell? ⟨gb120, 1, none⟩ = some (.int .u64 ((rd_T57 (rd_L5 l0 x4_1) x5_2).f1)) := (blk_cell BK120.out 1).trans rfl; have hcz26_2 : w25.cell? ⟨gb120, 2, none⟩ = some (.bool ((rd_T57 (rd_L5 l0 x4_1) x5_2).f2)) := (blk_cell BK120.out 2).trans rfl; have hfz26_0 := blk_frozen BK120.out 0; have hfz26_1 := blk_frozen BK120.out 1; have hfz26_2 := blk_frozen BK120.out 2; have p129 : 0 ≤ (x9_3 : Int) := of_decide_eq_true (by first | (with_reducible assumption) | assumption); have q129 : x9_3 < (x3_2.length : Int) := of_decide_eq_true (by first | (with_reducible assumption) | assumption); obtain ⟨ad129, e129, hx129_0, hx129_1⟩ := at_T71 (Kd.R_reads' HO_3.out).2.2 x9_3 p129 q129; obtain rfl : ad128 = ad129 := (by injection e129); replace p129 := eq_true p129; replace q129 := eq_true q129) | ((with_reducible refine gate_builtin (b := .append) (xs := #[.tmp 68, .tmp 73]) rfl ?_); at_builtin; refine Kd.R_append k71 (w0 := w) w.heap.size rfl (.tmp 68) (.tmp 73) 27 71 (.agg #[(.int .i64 0), (.int .u64 0)]) 16 rfl Tryd.underlying27 info71 rfl (by decide) (by omega) v126 y125 (⟨(rd_T71 x3_2 x9_3).f0, (rd_T71 x3_2 x9_3).f1⟩ : S71) [.int .i64 ((rd_T71 x3_2 x9_3).f0), .int .u64 ((rd_T71 x3_2 x9_3).f1)] (fun k_ => some k_ ≠ (.slice (some ad128) x3_2.length co11 : Value).ownBlock) (fun _ => False) rfl rfl ?aP (fun _ hk => hk.elim) ?aF ?aO ?aB ?aS ?aL ?_; (case aP => exact k71_mkM _ _ _ (⟨(rd_T71 x3_2 x9_3).f0, (rd_T71 x3_2 x9_3).f1⟩ : S71)); (case aB => exact (by repeat (first | (with_reducible first | exact HB.out | apply below_alloc | apply pw_below_drewN | apply below_drew1 | refine below_set ?_ GE120.out) | exact HB.out))); (case aF => exact (fun k_ hk => Kd.fresh' (Kd.R_lt (by (with_reducible repeat (first | apply Kd.R_alloc | apply Kd.R_drewN | apply Kd.R_drew)); exact HO_3.out)) k_ hk)); (case aO => exact (by (with_reducible repeat (first | apply Kd.R_alloc | apply Kd.R_drewN | apply Kd.R_drew)); exact HO127.out)); (case aS => exact (below_size (by repeat (first | (with_reducible first | exact HB.out | apply below_alloc | apply pw_below_drewN | apply below_drew1 | refine below_set ?_ GE120.out) | exact HB.out)))); (case aL => have := LMc23.out; omega); intro v131 w27 ho hb hg hat; rw [← Ny130.out] at ho; have n0_ := Aside0.mk (Kd.R_after (ok := (fun _ => True)) (by (with_reducible repeat (first | apply Kd.R_alloc | apply Kd.R_drewN | apply Kd.R_drew)); exact HO_3.out) hg hat); have n1_ := Aside0.mk (blk_grown (g := gb120) (o := .cells #[.int .i64 ((rd_T57 (rd_L5 l0 x4_1) x5_2).f0), .int .u64 ((rd_T57 (rd_L5 l0 x4_1) x5_2).f1), .bool ((rd_T57 (rd_L5 l0 x4_1) x5_2).f2)] 57 (0, 0)) (by (with_reducible repeat (first | refine blk_drewN ?_ _ | refine blk_drew ?_ | refine blk_alloc ?_ _)); exact BK120.out) hg (Kd.R_ne HO127.out BK120.out (by decide))); have n2_ := Aside0.mk (hb); have n3_ := Aside0.mk (ho); clear HO_3; clear BK120; clear HB; clear HO127; have HO_3 := n0_; have BK120 := n1_; have HB := n2_; have HO132 := n3_; clear n0_ n1_ n2_ n3_; clear ho hb hg hat)))
                                          go_roundg kj9
                                          case measure => have := HK1.out; have := HK2.out; have := HK3.out; have := HJ9.out; omega
                                          case rel => exact ⟨(y130), (true), (wrap64 (x9_3 + 1)), (by first | rfl | (simp; done) | (simp [*]; done)), (by first | rfl | (simp; done) | (simp [*]; done)), H', ⟨by have := HK1.out; have := HK2.out; have := HK3.out; have := HJ9.out; omega⟩, ⟨by (with_reducible repeat (first | apply Kd.R_alloc | apply Kd.R_drewN | apply Kd.R_drew)); exact Kd.R_mono HO_3.out (fun _ hk => hk.2)⟩, ⟨by (with_reducible repeat (first | apply Kd.R_alloc | apply Kd.R_drewN | apply Kd.R_drew)); exact HO132.out⟩, ⟨by (with_reducible repeat (first | refine blk_drewN ?_ _ | refine blk_drew ?_ | refine blk_alloc ?_ _)); exact BK120.out⟩, ⟨by repeat (first | (with_reducible first | exact HB.out | apply below_alloc | apply pw_below_drewN | apply below_drew1 | refine below_set ?_ GE120.out) | exact HB.out)⟩⟩
                                        · rw [if_neg c23] at H
                                          exact absurd H (by simp)
                                    · rw [if_neg c18] at H
                                      exact absurd H (by simp)
                                  · rw [if_neg c17] at H
                                    exact absurd H (by simp)
                                · rw [if_neg c16] at H
                                  exact absurd H (by simp)
                              · replace c15 := Bool.eq_false_iff.mpr c15
                                subst c15
                                have H1 : (if 0 ≤ x9_3 then (if x9_3 < (x3_2.length : Int) then (if ((rd_T71 x3_2 x9_3).f0) = ((rd_T57 (rd_L5 l0 x4_1) x5_2).f0) then (tidemarkref18_Fold.l2 kj9 l0 x3_2 x4_1 x5_2 x7_3 x8_3 (wrap64 (x9_3 + 1)) ((rd_T57 (rd_L5 l0 x4_1) x5_2).f0) ((rd_T57 (rd_L5 l0 x4_1) x5_2).f1) ((rd_T57 (rd_L5 l0 x4_1) x5_2).f2)) else (if x7_3.length < 8796093022208 then (tidemarkref18_Fold.l2 kj9 l0 x3_2 x4_1 x5_2 (x7_3 ++ [(⟨(rd_T71 x3_2 x9_3).f0, (rd_T71 x3_2 x9_3).f1⟩ : S71)]) x8_3 (wrap64 (x9_3 + 1)) ((rd_T57 (rd_L5 l0 x4_1) x5_2).f0) ((rd_T57 (rd_L5 l0 x4_1) x5_2).f1) ((rd_T57 (rd_L5 l0 x4_1) x5_2).f2)) else (none))) else (none)) else (none)) = some r := by rw [if_neg (show ¬ (false = true) by decide)] at H; exact H
                                clear H
                                have H := H1
                                clear H1
                                by_cases c28 : 0 ≤ x9_3
                                · rw [if_pos c28] at H
                                  have c28b0 : decide (0 ≤ x9_3) = true := decide_eq_true c28
                                  clear c28
                                  by_cases c29 : x9_3 < (x3_2.length : Int)
                                  · rw [if_pos c29] at H
                                    have c29b0 : decide (x9_3 < (x3_2.length : Int)) = true := decide_eq_true c29
                                    clear c29
                                    by_cases c30 : ((rd_T71 x3_2 x9_3).f0) = ((rd_T57 (rd_L5 l0 x4_1) x5_2).f0)
                                    · rw [if_pos c30] at H
                                      have c30b0 : (((rd_T71 x3_2 x9_3).f0) == ((rd_T57 (rd_L5 l0 x4_1) x5_2).f0)) = true := beq_iff_eq.mpr c30
                                      have c30b1 : (((rd_T71 x3_2 x9_3).f0) != ((rd_T57 (rd_L5 l0 x4_1) x5_2).f0)) = false := bne_eq_false_iff_eq.mpr c30
                                      clear c30
                                      have H' := Aside0.mk H
                                      clear H
                                      have p133 : 0 ≤ (x9_3 : Int) := of_decide_eq_true (by first | (with_reducible assumption) | assumption)
                                      have q133 : x9_3 < (x3_2.length : Int) := of_decide_eq_true (by first | (with_reducible assumption) | assumption)
                                      obtain ⟨ad133, e133, hx133_0, hx133_1⟩ := at_T71 (Kd.R_reads' HO_3.out).2.2 x9_3 p133 q133
                                      cases e133
                                      replace p133 := eq_true p133
                                      replace q133 := eq_true q133
                                      have hcz31_0 : wc.cell? ⟨gb120, 0, none⟩ = some (.int .i64 ((rd_T57 (rd_L5 l0 x4_1) x5_2).f0)) := (blk_cell BK120.out 0).trans rfl
                                      have hcz31_1 : wc.cell? ⟨gb120, 1, none⟩ = some (.int .u64 ((rd_T57 (rd_L5 l0 x4_1) x5_2).f1)) := (blk_cell BK120.out 1).trans rfl
                                      have hcz31_2 : wc.cell? ⟨gb120, 2, none⟩ = some (.bool ((rd_T57 (rd_L5 l0 x4_1) x5_2).f2)) := (blk_cell BK120.out 2).trans rfl
                                      have hfz31_0 := blk_frozen BK120.out 0
                                      have hfz31_1 := blk_frozen BK120.out 1
                                      have hfz31_2 := blk_frozen BK120.out 2
                                      go_wp2
                                      repeat (go_quiet (fail); try go_wp2)
                                      go_roundg kj9
                                      case measure => have := HK1.out; have := HK2.out; have := HK3.out; have := HJ9.out; omega
                                      case rel => exact ⟨(x7_3), (x8_3), (wrap64 (x9_3 + 1)), (by first | rfl | (simp; done) | (simp [*]; done)), (by first | rfl | (simp; done) | (simp [*]; done)), H', ⟨by have := HK1.out; have := HK2.out; have := HK3.out; have := HJ9.out; omega⟩, ⟨by (with_reducible repeat (first | apply Kd.R_alloc | apply Kd.R_drewN | apply Kd.R_drew)); exact HO_3.out⟩, ⟨by (with_reducible repeat (first | apply Kd.R_alloc | apply Kd.R_drewN | apply Kd.R_drew)); exact HO_7.out⟩, ⟨by (with_reducible repeat (first | refine blk_drewN ?_ _ | refine blk_drew ?_ | refine blk_alloc ?_ _)); exact BK120.out⟩, ⟨by repeat (first | (with_reducible first | exact HB.out | apply below_alloc | apply pw_below_drewN | apply below_drew1 | refine below_set ?_ GE120.out) | exact HB.out)⟩⟩
                                    · rw [if_neg c30] at H
                                      have c30b0 : (((rd_T71 x3_2 x9_3).f0) == ((rd_T57 (rd_L5 l0 x4_1) x5_2).f0)) = false := beq_eq_false_iff_ne.mpr c30
                                      have c30b1 : (((rd_T71 x3_2 x9_3).f0) != ((rd_T57 (rd_L5 l0 x4_1) x5_2).f0)) = true := bne_iff_ne.mpr c30
                                      by_cases c32 : x7_3.length < 8796093022208
                                      · rw [if_pos c32] at H
                                        have LMc32 := Aside0.mk c32
                                        clear c32
                                        obtain ⟨y135, hy135⟩ : ∃ y_ : List (S71), y_ = (x7_3 ++ [(⟨(rd_T71 x3_2 x9_3).f0, (rd_T71 x3_2 x9_3).f1⟩ : S71)]) := ⟨_, rfl⟩
                                        replace H : (tidemarkref18_Fold.l2 kj9 l0 x3_2 x4_1 x5_2 y135 x8_3 (wrap64 (x9_3 + 1)) ((rd_T57 (rd_L5 l0 x4_1) x5_2).f0) ((rd_T57 (rd_L5 l0 x4_1) x5_2).f1) ((rd_T57 (rd_L5 l0 x4_1) x5_2).f2)) = some r := by first | (rw [hy135]; with_reducible exact H) | (have H2_ := (Option.bind_some _ _).symm.trans H; rw [hy135]; with_reducible exact H2_) | (have H2_ := (Option.bind_some _ _).symm.trans H; with_reducible exact H2_) | with_reducible exact H | (rw [hy135]; exact H) | exact H
                                        have Ny135 := Aside0.mk hy135
                                        clear hy135
                                        have H' := Aside0.mk H
                                        clear H
                                        have p133 : 0 ≤ (x9_3 : Int) := of_decide_eq_true (by first | (with_reducible assumption) | assumption)
                                        have q133 : x9_3 < (x3_2.length : Int) := of_decide_eq_true (by first | (with_reducible assumption) | assumption)
                                        obtain ⟨ad133, e133, hx133_0, hx133_1⟩ := at_T71 (Kd.R_reads' HO_3.out).2.2 x9_3 p133 q133
                                        cases e133
                                        replace p133 := eq_true p133
                                        replace q133 := eq_true q133
                                        have hcz33_0 : wc.cell? ⟨gb120, 0, none⟩ = some (.int .i64 ((rd_T57 (rd_L5 l0 x4_1) x5_2).f0)) := (blk_cell BK120.out 0).trans rfl
                                        have hcz33_1 : wc.cell? ⟨gb120, 1, none⟩ = some (.int .u64 ((rd_T57 (rd_L5 l0 x4_1) x5_2).f1)) := (blk_cell BK120.out 1).trans rfl
                                        have hcz33_2 : wc.cell? ⟨gb120, 2, none⟩ = some (.bool ((rd_T57 (rd_L5 l0 x4_1) x5_2).f2)) := (blk_cell BK120.out 2).trans rfl
                                        have hfz33_0 := blk_frozen BK120.out 0
                                        have hfz33_1 := blk_frozen BK120.out 1
                                        have hfz33_2 := blk_frozen BK120.out 2
                                        have p134 : 0 ≤ (x9_3 : Int) := of_decide_eq_true (by first | (with_reducible assumption) | assumption)
                                        have q134 : x9_3 < (x3_2.length : Int) := of_decide_eq_true (by first | (with_reducible assumption) | assumption)
                                        obtain ⟨ad134, e134, hx134_0, hx134_1⟩ := at_T71 (Kd.R_reads' HO_3.out).2.2 x9_3 p134 q134
                                        obtain rfl : ad133 = ad134 := (by injection e134)
                                        replace p134 := eq_true p134
                                        replace q134 := eq_true q134
                                        go_wp2_with (first | ((with_reducible refine gate_builtin (b := .append) (xs := #[.tmp 68, .tmp 73]) rfl ?_); at_builtin; refine Kd.R_append k71 (w0 := w) w.heap.size rfl (.tmp 68) (.tmp 73) 27 71 (.agg #[(.int .i64 0), (.int .u64 0)]) 16 rfl Tryd.underlying27 info71 rfl (by decide) (by omega) u7 x7_3 (⟨(rd_T71 x3_2 x9_3).f0, (rd_T71 x3_2 x9_3).f1⟩ : S71) [.int .i64 ((rd_T71 x3_2 x9_3).f0), .int .u64 ((rd_T71 x3_2 x9_3).f1)] (fun k_ => some k_ ≠ (.slice (some ad133) x3_2.length co11 : Value).ownBlock) (fun _ => False) rfl rfl ?aP (fun _ hk => hk.elim) ?aF ?aO ?aB ?aS ?aL ?_; (case aP => exact k71_mkM _ _ _ (⟨(rd_T71 x3_2 x9_3).f0, (rd_T71 x3_2 x9_3).f1⟩ : S71)); (case aB => exact (by repeat (first | (with_reducible first | exact HB.out | apply below_alloc | apply pw_below_drewN | apply below_drew1 | refine below_set ?_ GE120.out) | exact HB.out))); (case aF => exact (fun k_ hk => Kd.fresh' (Kd.R_lt (by (with_reducible repeat (first | apply Kd.R_alloc | apply Kd.R_drewN | apply Kd.R_drew)); exact HO_3.out)) k_ hk)); (case aO => exact (by (with_reducible repeat (first | apply Kd.R_alloc | apply Kd.R_drewN | apply Kd.R_drew)); exact HO_7.out)); (case aS => exact (below_size (by repeat (first | (with_reducible first | exact HB.out | apply below_alloc | apply pw_below_drewN | apply below_drew1 | refine below_set ?_ GE120.out) | exact HB.out)))); (case aL => have := LMc32.out; omega); intro v136 w34 ho hb hg hat; rw [← Ny135.out] at ho; have n0_ := Aside0.mk (Kd.R_after (ok := (fun _ => True)) (by (with_reducible repeat (first | apply Kd.R_alloc | apply Kd.R_drewN | apply Kd.R_drew)); exact Kd.R_mono HO_3.out (fun _ hk => ⟨trivial, hk⟩)) hg hat); have n1_ := Aside0.mk (blk_grown (g := gb120) (o := .cells #[.int .i64 ((rd_T57 (rd_L5 l0 x4_1) x5_2).f0), .int .u64 ((rd_T57 (rd_L5 l0 x4_1) x5_2).f1), .bool ((rd_T57 (rd_L5 l0 x4_1) x5_2).f2)] 57 (0, 0)) (by (with_reducible repeat (first | refine blk_drewN ?_ _ | refine blk_drew ?_ | refine blk_alloc ?_ _)); exact BK120.out) hg (Kd.R_ne HO_7.out BK120.out (by decide))); have n2_ := Aside0.mk (hb); have n3_ := Aside0.mk (ho); clear HO_3; clear BK120; clear HB; clear HO_7; have HO_3 := n0_; have BK120 := n1_; have HB := n2_; have HO137 := n3_; clear n0_ n1_ n2_ n3_; clear ho hb hg hat))
                                        repeat (go_quiet (first | ((with_reducible refine gate_builtin (b := .append) (xs := #[.tmp 68, .tmp 73]) rfl ?_); at_builtin; refine Kd.R_append k71 (w0 := w) w.heap.size rfl (.tmp 68) (.tmp 73) 27 71 (.agg #[(.int .i64 0), (.int .u64 0)]) 16 rfl Tryd.underlying27 info71 rfl (by decide) (by omega) u7 x7_3 (⟨(rd_T71 x3_2 x9_3).f0, (rd_T71 x3_2 x9_3).f1⟩ : S71) [.int .i64 ((rd_T71 x3_2 x9_3).f0), .int .u64 ((rd_T71 x3_2 x9_3).f1)] (fun k_ => some k_ ≠ (.slice (some ad133) x3_2.length co11 : Value).ownBlock) (fun _ => False) rfl rfl ?aP (fun _ hk => hk.elim) ?aF ?aO ?aB ?aS ?aL ?_; (case aP => exact k71_mkM _ _ _ (⟨(rd_T71 x3_2 x9_3).f0, (rd_T71 x3_2 x9_3).f1⟩ : S71)); (case aB => exact (by repeat (first | (with_reducible first | exact HB.out | apply below_alloc | apply pw_below_drewN | apply below_drew1 | refine below_set ?_ GE120.out) | exact HB.out))); (case aF => exact (fun k_ hk => Kd.fresh' (Kd.R_lt (by (with_reducible repeat (first | apply Kd.R_alloc | apply Kd.R_drewN | apply Kd.R_drew)); exact HO_3.out)) k_ hk)); (case aO => exact (by (with_reducible repeat (first | apply Kd.R_alloc | apply Kd.R_drewN | apply Kd.R_drew)); exact HO_7.out)); (case aS => exact (below_size (by repeat (first | (with_reducible first | exact HB.out | apply below_alloc | apply pw_below_drewN | apply below_drew1 | refine below_set ?_ GE120.out) | exact HB.out)))); (case aL => have := LMc32.out; omega); intro v136 w34 ho hb hg hat; rw [← Ny135.out] at ho; have n0_ := Aside0.mk (Kd.R_after (ok := (fun _ => True)) (by (with_reducible repeat (first | apply Kd.R_alloc | apply Kd.R_drewN | apply Kd.R_drew)); exact Kd.R_mono HO_3.out (fun _ hk => ⟨trivial, hk⟩)) hg hat); have n1_ := Aside0.mk (blk_grown (g := gb120) (o := .cells #[.int .i64 ((rd_T57 (rd_L5 l0 x4_1) x5_2).f0), .int .u64 ((rd_T57 (rd_L5 l0 x4_1) x5_2).f1), .bool ((rd_T57 (rd_L5 l0 x4_1) x5_2).f2)] 57 (0, 0)) (by (with_reducible repeat (first | refine blk_drewN ?_ _ | refine blk_drew ?_ | refine blk_alloc ?_ _)); exact BK120.out) hg (Kd.R_ne HO_7.out BK120.out (by decide))); have n2_ := Aside0.mk (hb); have n3_ := Aside0.mk (ho); clear HO_3; clear BK120; clear HB; clear HO_7; have HO_3 := n0_; have BK120 := n1_; have HB := n2_; have HO137 := n3_; clear n0_ n1_ n2_ n3_; clear ho hb hg hat)); try go_wp2_with (first | ((with_reducible refine gate_builtin (b := .append) (xs := #[.tmp 68, .tmp 73]) rfl ?_); at_builtin; refine Kd.R_append k71 (w0 := w) w.heap.size rfl (.tmp 68) (.tmp 73) 27 71 (.agg #[(.int .i64 0), (.int .u64 0)]) 16 rfl Tryd.underlying27 info71 rfl (by decide) (by omega) u7 x7_3 (⟨(rd_T71 x3_2 x9_3).f0, (rd_T71 x3_2 x9_3).f1⟩ : S71) [.int .i64 ((rd_T71 x3_2 x9_3).f0), .int .u64 ((rd_T71 x3_2 x9_3).f1)] (fun k_ => some k_ ≠ (.slice (some ad133) x3_2.length co11 : Value).ownBlock) (fun _ => False) rfl rfl ?aP (fun _ hk => hk.elim) ?aF ?aO ?aB ?aS ?aL ?_; (case aP => exact k71_mkM _ _ _ (⟨(rd_T71 x3_2 x9_3).f0, (rd_T71 x3_2 x9_3).f1⟩ : S71)); (case aB => exact (by repeat (first | (with_reducible first | exact HB.out | apply below_alloc | apply pw_below_drewN | apply below_drew1 | refine below_set ?_ GE120.out) | exact HB.out))); (case aF => exact (fun k_ hk => Kd.fresh' (Kd.R_lt (by (with_reducible repeat (first | apply Kd.R_alloc | apply Kd.R_drewN | apply Kd.R_drew)); exact HO_3.out)) k_ hk)); (case aO => exact (by (with_reducible repeat (first | apply Kd.R_alloc | apply Kd.R_drewN | apply Kd.R_drew)); exact HO_7.out)); (case aS => exact (below_size (by repeat (first | (with_reducible first | exact HB.out | apply below_alloc | apply pw_below_drewN | apply below_drew1 | refine below_set ?_ GE120.out) | exact HB.out)))); (case aL => have := LMc32.out; omega); intro v136 w34 ho hb hg hat; rw [← Ny135.out] at ho; have n0_ := Aside0.mk (Kd.R_after (ok := (fun _ => True)) (by (with_reducible repeat (first | apply Kd.R_alloc | apply Kd.R_drewN | apply Kd.R_drew)); exact Kd.R_mono HO_3.out (fun _ hk => ⟨trivial, hk⟩)) hg hat); have n1_ := Aside0.mk (blk_grown (g := gb120) (o := .cells #[.int .i64 ((rd_T57 (rd_L5 l0 x4_1) x5_2).f0), .int .u64 ((rd_T57 (rd_L5 l0 x4_1) x5_2).f1), .bool ((rd_T57 (rd_L5 l0 x4_1) x5_2).f2)] 57 (0, 0)) (by (with_reducible repeat (first | refine blk_drewN ?_ _ | refine blk_drew ?_ | refine blk_alloc ?_ _)); exact BK120.out) hg (Kd.R_ne HO_7.out BK120.out (by decide))); have n2_ := Aside0.mk (hb); have n3_ := Aside0.mk (ho); clear HO_3; clear BK120; clear HB; clear HO_7; have HO_3 := n0_; have BK120 := n1_; have HB := n2_; have HO137 := n3_; clear n0_ n1_ n2_ n3_; clear ho hb hg hat)))
                                        go_roundg kj9
                                        case measure => have := HK1.out; have := HK2.out; have := HK3.out; have := HJ9.out; omega
                                        case rel => exact ⟨(y135), (x8_3), (wrap64 (x9_3 + 1)), (by first | rfl | (simp; done) | (simp [*]; done)), (by first | rfl | (simp; done) | (simp [*]; done)), H', ⟨by have := HK1.out; have := HK2.out; have := HK3.out; have := HJ9.out; omega⟩, ⟨by (with_reducible repeat (first | apply Kd.R_alloc | apply Kd.R_drewN | apply Kd.R_drew)); exact Kd.R_mono HO_3.out (fun _ hk => hk.2)⟩, ⟨by (with_reducible repeat (first | apply Kd.R_alloc | apply Kd.R_drewN | apply Kd.R_drew)); exact HO137.out⟩, ⟨by (with_reducible repeat (first | refine blk_drewN ?_ _ | refine blk_drew ?_ | refine blk_alloc ?_ _)); exact BK120.out⟩, ⟨by repeat (first | (with_reducible first | exact HB.out | apply below_alloc | apply pw_below_drewN | apply below_drew1 | refine below_set ?_ GE120.out) | exact HB.out)⟩⟩
                                      · rw [if_neg c32] at H
                                        exact absurd H (by simp)
                                  · rw [if_neg c29] at H
                                    exact absurd H (by simp)
                                · rw [if_neg c28] at H
                                  exact absurd H (by simp)
                        · rw [if_neg c9] at H
                          have c9b0 : decide (x9_3 < (x3_2.length : Int)) = false := decide_eq_false c9
                          clear c9
                          by_cases c35 : x8_3 = true
                          · subst c35
                            have H1 : (tidemarkref18_Fold.l1 k3 l0 x7_3 x4_1 (wrap64 (x5_2 + 1))) = some r := by rw [if_pos rfl] at H; exact H
                            clear H
                            have H := H1
                            clear H1
                            have H' := Aside0.mk H
                            clear H
                            obtain ⟨Ao36, co36, eo36⟩ := Kd.R_slice HO_3.out
                            subst eo36
                            go_wp2
                            repeat (go_quiet (fail); try go_wp2)
                            go_roundg k3
                            case measure => have := HK1.out; have := HK2.out; have := HK3.out; omega
                            case rel => exact ⟨(x7_3), (wrap64 (x5_2 + 1)), (by first | rfl | (simp; done) | (simp [*]; done)), H', ⟨by have := HK1.out; have := HK2.out; have := HK3.out; omega⟩, ⟨by (with_reducible repeat (first | apply Kd.R_alloc | apply Kd.R_drewN | apply Kd.R_drew)); exact Kd.R_mono HO_7.out (fun _ hk => trivial)⟩, ⟨by repeat (first | (with_reducible first | exact HB.out | apply below_alloc | apply pw_below_drewN | apply below_drew1 | refine below_set ?_ GE120.out) | exact HB.out)⟩⟩
                          · replace c35 := Bool.eq_false_iff.mpr c35
                            subst c35
                            have H1 : (if x7_3.length < 8796093022208 then (tidemarkref18_Fold.l1 k3 l0 (x7_3 ++ [(⟨((rd_T57 (rd_L5 l0 x4_1) x5_2).f0), ((rd_T57 (rd_L5 l0 x4_1) x5_2).f1)⟩ : S71)]) x4_1 (wrap64 (x5_2 + 1))) else (none)) = some r := by rw [if_neg (show ¬ (false = true) by decide)] at H; exact H
                            clear H
                            have H := H1
                            clear H1
                            by_cases c37 : x7_3.length < 8796093022208
                            · rw [if_pos c37] at H
                              have LMc37 := Aside0.mk c37
                              clear c37
                              obtain ⟨y121, hy121⟩ : ∃ y_ : List (S71), y_ = (x7_3 ++ [(⟨((rd_T57 (rd_L5 l0 x4_1) x5_2).f0), ((rd_T57 (rd_L5 l0 x4_1) x5_2).f1)⟩ : S71)]) := ⟨_, rfl⟩
                              replace H : (tidemarkref18_Fold.l1 k3 l0 y121 x4_1 (wrap64 (x5_2 + 1))) = some r := by first | (rw [hy121]; with_reducible exact H) | (have H2_ := (Option.bind_some _ _).symm.trans H; rw [hy121]; with_reducible exact H2_) | (have H2_ := (Option.bind_some _ _).symm.trans H; with_reducible exact H2_) | with_reducible exact H | (rw [hy121]; exact H) | exact H
                              have Ny121 := Aside0.mk hy121
                              clear hy121
                              have H' := Aside0.mk H
                              clear H
                              obtain ⟨Ao38, co38, eo38⟩ := Kd.R_slice HO_3.out
                              subst eo38
                              have hcz39_0 : wr.cell? ⟨gb120, 0, none⟩ = some (.int .i64 ((rd_T57 (rd_L5 l0 x4_1) x5_2).f0)) := (blk_cell BK120.out 0).trans rfl
                              have hcz39_1 : wr.cell? ⟨gb120, 1, none⟩ = some (.int .u64 ((rd_T57 (rd_L5 l0 x4_1) x5_2).f1)) := (blk_cell BK120.out 1).trans rfl
                              have hcz39_2 : wr.cell? ⟨gb120, 2, none⟩ = some (.bool ((rd_T57 (rd_L5 l0 x4_1) x5_2).f2)) := (blk_cell BK120.out 2).trans rfl
                              have hfz39_0 := blk_frozen BK120.out 0
                              have hfz39_1 := blk_frozen BK120.out 1
                              have hfz39_2 := blk_frozen BK120.out 2
                              go_wp2_with (first | ((with_reducible refine gate_builtin (b := .append) (xs := #[.tmp 77, .tmp 83]) rfl ?_); at_builtin; refine Kd.R_append k71 (w0 := w) w.heap.size rfl (.tmp 77) (.tmp 83) 27 71 (.agg #[(.int .i64 0), (.int .u64 0)]) 16 rfl Tryd.underlying27 info71 rfl (by decide) (by omega) u7 x7_3 (⟨((rd_T57 (rd_L5 l0 x4_1) x5_2).f0), ((rd_T57 (rd_L5 l0 x4_1) x5_2).f1)⟩ : S71) [.int .i64 ((rd_T57 (rd_L5 l0 x4_1) x5_2).f0), .int .u64 ((rd_T57 (rd_L5 l0 x4_1) x5_2).f1)] (fun k_ => some k_ ≠ (.slice Ao38 x3_2.length co38 : Value).ownBlock) (fun _ => False) rfl rfl ?aP (fun _ hk => hk.elim) ?aF ?aO ?aB ?aS ?aL ?_; (case aP => exact k71_mkM _ _ _ (⟨((rd_T57 (rd_L5 l0 x4_1) x5_2).f0), ((rd_T57 (rd_L5 l0 x4_1) x5_2).f1)⟩ : S71)); (case aB => exact (by repeat (first | (with_reducible first | exact HB.out | apply below_alloc | apply pw_below_drewN | apply below_drew1 | refine below_set ?_ GE120.out) | exact HB.out))); (case aF => exact (fun k_ hk => Kd.fresh' (Kd.R_lt (by (with_reducible repeat (first | apply Kd.R_alloc | apply Kd.R_drewN | apply Kd.R_drew)); exact HO_3.out)) k_ hk)); (case aO => exact (by (with_reducible repeat (first | apply Kd.R_alloc | apply Kd.R_drewN | apply Kd.R_drew)); exact HO_7.out)); (case aS => exact (below_size (by repeat (first | (with_reducible first | exact HB.out | apply below_alloc | apply pw_below_drewN | apply below_drew1 | refine below_set ?_ GE120.out) | exact HB.out)))); (case aL => have := LMc37.out; omega); intro v122 w40 ho hb hg hat; rw [← Ny121.out] at ho; have n0_ := Aside0.mk (Kd.R_after (ok := (fun _ => True)) (by (with_reducible repeat (first | apply Kd.R_alloc | apply Kd.R_drewN | apply Kd.R_drew)); exact Kd.R_mono HO_3.out (fun _ hk => ⟨trivial, hk⟩)) hg hat); have n1_ := Aside0.mk (blk_grown (g := gb120) (o := .cells #[.int .i64 ((rd_T57 (rd_L5 l0 x4_1) x5_2).f0), .int .u64 ((rd_T57 (rd_L5 l0 x4_1) x5_2).f1), .bool ((rd_T57 (rd_L5 l0 x4_1) x5_2).f2)] 57 (0, 0)) (by (with_reducible repeat (first | refine blk_drewN ?_ _ | refine blk_drew ?_ | refine blk_alloc ?_ _)); exact BK120.out) hg (Kd.R_ne HO_7.out BK120.out (by decide))); have n2_ := Aside0.mk (hb); have n3_ := Aside0.mk (ho); clear HO_3; clear BK120; clear HB; clear HO_7; have HO_3 := n0_; have BK120 := n1_; have HB := n2_; have HO123 := n3_; clear n0_ n1_ n2_ n3_; clear ho hb hg hat))
                              repeat (go_quiet (first | ((with_reducible refine gate_builtin (b := .append) (xs := #[.tmp 77, .tmp 83]) rfl ?_); at_builtin; refine Kd.R_append k71 (w0 := w) w.heap.size rfl (.tmp 77) (.tmp 83) 27 71 (.agg #[(.int .i64 0), (.int .u64 0)]) 16 rfl Tryd.underlying27 info71 rfl (by decide) (by omega) u7 x7_3 (⟨((rd_T57 (rd_L5 l0 x4_1) x5_2).f0), ((rd_T57 (rd_L5 l0 x4_1) x5_2).f1)⟩ : S71) [.int .i64 ((rd_T57 (rd_L5 l0 x4_1) x5_2).f0), .int .u64 ((rd_T57 (rd_L5 l0 x4_1) x5_2).f1)] (fun k_ => some k_ ≠ (.slice Ao38 x3_2.length co38 : Value).ownBlock) (fun _ => False) rfl rfl ?aP (fun _ hk => hk.elim) ?aF ?aO ?aB ?aS ?aL ?_; (case aP => exact k71_mkM _ _ _ (⟨((rd_T57 (rd_L5 l0 x4_1) x5_2).f0), ((rd_T57 (rd_L5 l0 x4_1) x5_2).f1)⟩ : S71)); (case aB => exact (by repeat (first | (with_reducible first | exact HB.out | apply below_alloc | apply pw_below_drewN | apply below_drew1 | refine below_set ?_ GE120.out) | exact HB.out))); (case aF => exact (fun k_ hk => Kd.fresh' (Kd.R_lt (by (with_reducible repeat (first | apply Kd.R_alloc | apply Kd.R_drewN | apply Kd.R_drew)); exact HO_3.out)) k_ hk)); (case aO => exact (by (with_reducible repeat (first | apply Kd.R_alloc | apply Kd.R_drewN | apply Kd.R_drew)); exact HO_7.out)); (case aS => exact (below_size (by repeat (first | (with_reducible first | exact HB.out | apply below_alloc | apply pw_below_drewN | apply below_drew1 | refine below_set ?_ GE120.out) | exact HB.out)))); (case aL => have := LMc37.out; omega); intro v122 w40 ho hb hg hat; rw [← Ny121.out] at ho; have n0_ := Aside0.mk (Kd.R_after (ok := (fun _ => True)) (by (with_reducible repeat (first | apply Kd.R_alloc | apply Kd.R_drewN | apply Kd.R_drew)); exact Kd.R_mono HO_3.out (fun _ hk => ⟨trivial, hk⟩)) hg hat); have n1_ := Aside0.mk (blk_grown (g := gb120) (o := .cells #[.int .i64 ((rd_T57 (rd_L5 l0 x4_1) x5_2).f0), .int .u64 ((rd_T57 (rd_L5 l0 x4_1) x5_2).f1), .bool ((rd_T57 (rd_L5 l0 x4_1) x5_2).f2)] 57 (0, 0)) (by (with_reducible repeat (first | refine blk_drewN ?_ _ | refine blk_drew ?_ | refine blk_alloc ?_ _)); exact BK120.out) hg (Kd.R_ne HO_7.out BK120.out (by decide))); have n2_ := Aside0.mk (hb); have n3_ := Aside0.mk (ho); clear HO_3; clear BK120; clear HB; clear HO_7; have HO_3 := n0_; have BK120 := n1_; have HB := n2_; have HO123 := n3_; clear n0_ n1_ n2_ n3_; clear ho hb hg hat)); try go_wp2_with (first | ((with_reducible refine gate_builtin (b := .append) (xs := #[.tmp 77, .tmp 83]) rfl ?_); at_builtin; refine Kd.R_append k71 (w0 := w) w.heap.size rfl (.tmp 77) (.tmp 83) 27 71 (.agg #[(.int .i64 0), (.int .u64 0)]) 16 rfl Tryd.underlying27 info71 rfl (by decide) (by omega) u7 x7_3 (⟨((rd_T57 (rd_L5 l0 x4_1) x5_2).f0), ((rd_T57 (rd_L5 l0 x4_1) x5_2).f1)⟩ : S71) [.int .i64 ((rd_T57 (rd_L5 l0 x4_1) x5_2).f0), .int .u64 ((rd_T57 (rd_L5 l0 x4_1) x5_2).f1)] (fun k_ => some k_ ≠ (.slice Ao38 x3_2.length co38 : Value).ownBlock) (fun _ => False) rfl rfl ?aP (fun _ hk => hk.elim) ?aF ?aO ?aB ?aS ?aL ?_; (case aP => exact k71_mkM _ _ _ (⟨((rd_T57 (rd_L5 l0 x4_1) x5_2).f0), ((rd_T57 (rd_L5 l0 x4_1) x5_2).f1)⟩ : S71)); (case aB => exact (by repeat (first | (with_reducible first | exact HB.out | apply below_alloc | apply pw_below_drewN | apply below_drew1 | refine below_set ?_ GE120.out) | exact HB.out))); (case aF => exact (fun k_ hk => Kd.fresh' (Kd.R_lt (by (with_reducible repeat (first | apply Kd.R_alloc | apply Kd.R_drewN | apply Kd.R_drew)); exact HO_3.out)) k_ hk)); (case aO => exact (by (with_reducible repeat (first | apply Kd.R_alloc | apply Kd.R_drewN | apply Kd.R_drew)); exact HO_7.out)); (case aS => exact (below_size (by repeat (first | (with_reducible first | exact HB.out | apply below_alloc | apply pw_below_drewN | apply below_drew1 | refine below_set ?_ GE120.out) | exact HB.out)))); (case aL => have := LMc37.out; omega); intro v122 w40 ho hb hg hat; rw [← Ny121.out] at ho; have n0_ := Aside0.mk (Kd.R_after (ok := (fun _ => True)) (by (with_reducible repeat (first | apply Kd.R_alloc | apply Kd.R_drewN | apply Kd.R_drew)); exact Kd.R_mono HO_3.out (fun _ hk => ⟨trivial, hk⟩)) hg hat); have n1_ := Aside0.mk (blk_grown (g := gb120) (o := .cells #[.int .i64 ((rd_T57 (rd_L5 l0 x4_1) x5_2).f0), .int .u64 ((rd_T57 (rd_L5 l0 x4_1) x5_2).f1), .bool ((rd_T57 (rd_L5 l0 x4_1) x5_2).f2)] 57 (0, 0)) (by (with_reducible repeat (first | refine blk_drewN ?_ _ | refine blk_drew ?_ | refine blk_alloc ?_ _)); exact BK120.out) hg (Kd.R_ne HO_7.out BK120.out (by decide))); have n2_ := Aside0.mk (hb); have n3_ := Aside0.mk (ho); clear HO_3; clear BK120; clear HB; clear HO_7; have HO_3 := n0_; have BK120 := n1_; have HB := n2_; have HO123 := n3_; clear n0_ n1_ n2_ n3_; clear ho hb hg hat)))
                              go_roundg k3
                              case measure => have := HK1.out; have := HK2.out; have := HK3.out; omega
                              case rel => exact ⟨(y121), (wrap64 (x5_2 + 1)), (by first | rfl | (simp; done) | (simp [*]; done)), H', ⟨by have := HK1.out; have := HK2.out; have := HK3.out; omega⟩, ⟨by (with_reducible repeat (first | apply Kd.R_alloc | apply Kd.R_drewN | apply Kd.R_drew)); exact Kd.R_mono HO123.out (fun _ hk => trivial)⟩, ⟨by repeat (first | (with_reducible first | exact HB.out | apply below_alloc | apply pw_below_drewN | apply below_drew1 | refine below_set ?_ GE120.out) | exact HB.out)⟩⟩
                            · rw [if_neg c37] at H
                              exact absurd H (by simp)
                  · rw [if_neg c6] at H
                    exact absurd H (by simp)
                · rw [if_neg c5] at H
                  have c5b0 : decide (x5_2 < ((rd_L5 l0 x4_1).length : Int)) = false := decide_eq_false c5
                  clear c5
                  have H' := Aside0.mk H
                  clear H
                  have p117 : 0 ≤ (x4_1 : Int) := of_decide_eq_true (by first | (with_reducible assumption) | assumption)
                  have q117 : x4_1 < (l0.length : Int) := of_decide_eq_true (by first | (with_reducible assumption) | assumption)
                  obtain ⟨ad117, A117_0, c117_0, e117, hx117_0, hl117_0, hi117_0⟩ := at_L5 HR0.out x4_1 p117 q117
                  cases e117
                  replace hx117_0 := (HB.out.cell (World.block_lt_of_cell? w _ hx117_0)).trans hx117_0
                  have HR117_0 := Aside0.mk hi117_0
                  have HC117_0 := Aside0.mk hl117_0
                  clear hi117_0 hl117_0
                  replace p117 := eq_true p117
                  replace q117 := eq_true q117
                  go_wp2
                  repeat (go_quiet (fail); try go_wp2)
                  go_roundg k2
                  case measure => have := HK1.out; have := HK2.out; omega
                  case rel => exact ⟨(x3_2), (wrap64 (x4_1 + 1)), (by first | rfl | (simp; done) | (simp [*]; done)), H', ⟨by have := HK1.out; have := HK2.out; omega⟩, ⟨by (with_reducible repeat (first | apply Kd.R_alloc | apply Kd.R_drewN | apply Kd.R_drew)); exact HO_3.out⟩, ⟨by repeat (first | (with_reducible first | exact HB.out | apply below_alloc | apply pw_below_drewN | apply below_drew1) | exact HB.out)⟩⟩
              · rw [if_neg c4] at H
                exact absurd H (by simp)
            · rw [if_neg c3] at H
              exact absurd H (by simp)
      · rw [if_neg c2] at H
        have c2b0 : decide (x4_1 < (l0.length : Int)) = false := decide_eq_false c2
        clear c2
        obtain rfl := Option.some.inj H
        go_wp2
        repeat (go_quiet (fail); try go_wp2)
        go_ret
        exact ⟨_, by first | rfl | (simp [errW_none, errW_some] <;> rfl) | (simp [*, errW_none, errW_some] <;> rfl), by (with_reducible repeat (first | apply Kd.R_alloc | apply Kd.R_drewN | apply Kd.R_drew)); exact HO_3.out, by repeat (first | (with_reducible first | exact HB.out | apply below_alloc | apply pw_below_drewN | apply below_drew1) | exact HB.out)⟩

end Go.Proofs.YtcdfdckdodgbpaaDoor.QA
