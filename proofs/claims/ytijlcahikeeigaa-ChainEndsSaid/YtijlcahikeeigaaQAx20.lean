-- Laid by a program of this session out of Lean's own print of the program; hand-made contracts are pasted in. Lean checks it.
import Derived.Test.YtijlcahikeeigaaQAx0
import Derived.Test.YtijlcahikeeigaaQAx7
import Derived.Test.YtijlcahikeeigaaQAx12
import Derived.Test.YtijlcahikeeigaaQAx19
namespace Go.Proofs.Ytijlcahikeeigaa.QA
open Go.RowKit Go.Proofs.YtijlcahikeeigaaW.PrintWords Go.Proofs.YtijlcahikeeigaaW.PrintLast Go.Proofs.YtijlcahikeeigaaW.PrintMore
attribute [local go_sem] max2_int min2_int max_two min_two max_three min_three max_four min_four   -- for this text's walks alone
set_option linter.unusedVariables false
set_option linter.unusedSimpArgs false

/-! ### tidemarklaw12_ChainEnds: function 6 -/
mutual
def tidemarklaw12_ChainEnds.l0 : Nat → List (S43) → Bool → Int → Int → Option (Bool)
  | 0, _, _, _, _ => none
  | k + 1, x0, x1, x2, x7 => if x7 < 2 then ((tidemarklaw12_asking.f k x0 x1 (x7 == 1) x2).bind fun bt246 => (if (bt246.2.2.length : Int) > 4096 then (tidemarklaw12_ChainEnds.j1 k x0 x1 x2 x7 bt246.1 bt246.2.1 bt246.2.2 true) else ((tidemarklaw12_falls.f k bt246.1).bind fun t253 => (if t253 = true then (if bt246.2.1 = 0 then (if x2 ≤ 0 then (if (bt246.2.2.length : Int) = 0 then (if x2 > 0 then (tidemarklaw12_ChainEnds.j1 k x0 x1 x2 x7 bt246.1 bt246.2.1 bt246.2.2 true) else (tidemarklaw12_ChainEnds.j1 k x0 x1 x2 x7 bt246.1 bt246.2.1 bt246.2.2 false)) else (tidemarklaw12_ChainEnds.j1 k x0 x1 x2 x7 bt246.1 bt246.2.1 bt246.2.2 true)) else (if x2 > 0 then (if (bt246.2.2.length : Int) = 0 then (tidemarklaw12_ChainEnds.j1 k x0 x1 x2 x7 bt246.1 bt246.2.1 bt246.2.2 true) else (if 0 < (bt246.2.2.length : Int) then (tidemarklaw12_ChainEnds.j1 k x0 x1 x2 x7 bt246.1 bt246.2.1 bt246.2.2 ((rd bt246.2.2 0) != x2)) else (none))) else (tidemarklaw12_ChainEnds.j1 k x0 x1 x2 x7 bt246.1 bt246.2.1 bt246.2.2 false))) else (if (bt246.1.length : Int) = 0 then (if x2 ≤ 0 then (if (bt246.2.2.length : Int) = 0 then (if x2 > 0 then (tidemarklaw12_ChainEnds.j1 k x0 x1 x2 x7 bt246.1 bt246.2.1 bt246.2.2 true) else (tidemarklaw12_ChainEnds.j1 k x0 x1 x2 x7 bt246.1 bt246.2.1 bt246.2.2 false)) else (tidemarklaw12_ChainEnds.j1 k x0 x1 x2 x7 bt246.1 bt246.2.1 bt246.2.2 true)) else (if x2 > 0 then (if (bt246.2.2.length : Int) = 0 then (tidemarklaw12_ChainEnds.j1 k x0 x1 x2 x7 bt246.1 bt246.2.1 bt246.2.2 true) else (if 0 < (bt246.2.2.length : Int) then (tidemarklaw12_ChainEnds.j1 k x0 x1 x2 x7 bt246.1 bt246.2.1 bt246.2.2 ((rd bt246.2.2 0) != x2)) else (none))) else (tidemarklaw12_ChainEnds.j1 k x0 x1 x2 x7 bt246.1 bt246.2.1 bt246.2.2 false))) else (tidemarklaw12_ChainEnds.j1 k x0 x1 x2 x7 bt246.1 bt246.2.1 bt246.2.2 true))) else (tidemarklaw12_ChainEnds.j1 k x0 x1 x2 x7 bt246.1 bt246.2.1 bt246.2.2 true))))) else (some true)
def tidemarklaw12_ChainEnds.j1 : Nat → List (S43) → Bool → Int → Int → List Int → Int → List Int → Bool → Option (Bool)
  | 0, _, _, _, _, _, _, _, _ => none
  | k + 1, x0, x1, x2, x7, x8, x9, x10, x70 => if x70 = true then (some false) else ((tidemarklaw12_falls.f k x10).bind fun t256 => (if t256 = true then (if x2 = 0 then (if x9 = 0 then (if (x8.length : Int) = 0 then (if x2 < 0 then (tidemarklaw12_ChainEnds.j2 k x0 x1 x2 x7 x8 x10 (x9 != 120)) else (tidemarklaw12_ChainEnds.j2 k x0 x1 x2 x7 x8 x10 false)) else (tidemarklaw12_ChainEnds.j2 k x0 x1 x2 x7 x8 x10 true)) else (tidemarklaw12_ChainEnds.j2 k x0 x1 x2 x7 x8 x10 true)) else (if x2 < 0 then (tidemarklaw12_ChainEnds.j2 k x0 x1 x2 x7 x8 x10 (x9 != 120)) else (tidemarklaw12_ChainEnds.j2 k x0 x1 x2 x7 x8 x10 false))) else (tidemarklaw12_ChainEnds.j2 k x0 x1 x2 x7 x8 x10 true)))
def tidemarklaw12_ChainEnds.j2 : Nat → List (S43) → Bool → Int → Int → List Int → List Int → Bool → Option (Bool)
  | 0, _, _, _, _, _, _, _ => none
  | k + 1, x0, x1, x2, x7, x8, x10, x94 => if x94 = true then (some false) else (tidemarklaw12_ChainEnds.l1 k x0 x1 x2 x7 x8 x10 0 0)
def tidemarklaw12_ChainEnds.l1 : Nat → List (S43) → Bool → Int → Int → List Int → List Int → Int → Int → Option (Bool)
  | 0, _, _, _, _, _, _, _, _ => none
  | k + 1, x0, x1, x2, x7, x8, x10, x11, x12 => if x12 < (x8.length : Int) then (tidemarklaw12_ChainEnds.l2 k x0 x1 x2 x7 x8 x10 x11 x12) else (tidemarklaw12_ChainEnds.l0 k x0 x1 x2 (wrap64 (x7 + 1)))
def tidemarklaw12_ChainEnds.l2 : Nat → List (S43) → Bool → Int → Int → List Int → List Int → Int → Int → Option (Bool)
  | 0, _, _, _, _, _, _, _, _ => none
  | k + 1, x0, x1, x2, x7, x8, x10, x11, x12 => if x11 < (x10.length : Int) then (if 0 ≤ x11 then (if 0 ≤ x12 then (if x12 < (x8.length : Int) then (if (rd x10 x11) = (rd x8 x12) then (if x11 = (x10.length : Int) then (some false) else (tidemarklaw12_ChainEnds.l1 k x0 x1 x2 x7 x8 x10 x11 (wrap64 (x12 + 1)))) else (tidemarklaw12_ChainEnds.l2 k x0 x1 x2 x7 x8 x10 (wrap64 (x11 + 1)) x12)) else (none)) else (none)) else (none)) else (if x11 = (x10.length : Int) then (some false) else (tidemarklaw12_ChainEnds.l1 k x0 x1 x2 x7 x8 x10 x11 (wrap64 (x12 + 1))))
end
def tidemarklaw12_ChainEnds.f (k : Nat) (l0 : List (S43)) (a1 : Bool) (a2 : Int) : Option (Bool) := (tidemarklaw12_known.f k).bind fun t245 => (if t245 = true then (tidemarklaw12_ChainEnds.l0 k l0 a1 a2 0) else (some false))
theorem tidemarklaw12_ChainEnds.mono_l : ∀ k, (∀ y0 y1 y2 y3, LeO (tidemarklaw12_ChainEnds.l0 k y0 y1 y2 y3) (tidemarklaw12_ChainEnds.l0 (k + 1) y0 y1 y2 y3)) ∧ (∀ y0 y1 y2 y3 y4 y5 y6 y7, LeO (tidemarklaw12_ChainEnds.j1 k y0 y1 y2 y3 y4 y5 y6 y7) (tidemarklaw12_ChainEnds.j1 (k + 1) y0 y1 y2 y3 y4 y5 y6 y7)) ∧ (∀ y0 y1 y2 y3 y4 y5 y6, LeO (tidemarklaw12_ChainEnds.j2 k y0 y1 y2 y3 y4 y5 y6) (tidemarklaw12_ChainEnds.j2 (k + 1) y0 y1 y2 y3 y4 y5 y6)) ∧ (∀ y0 y1 y2 y3 y4 y5 y6 y7, LeO (tidemarklaw12_ChainEnds.l1 k y0 y1 y2 y3 y4 y5 y6 y7) (tidemarklaw12_ChainEnds.l1 (k + 1) y0 y1 y2 y3 y4 y5 y6 y7)) ∧ (∀ y0 y1 y2 y3 y4 y5 y6 y7, LeO (tidemarklaw12_ChainEnds.l2 k y0 y1 y2 y3 y4 y5 y6 y7) (tidemarklaw12_ChainEnds.l2 (k + 1) y0 y1 y2 y3 y4 y5 y6 y7))
  | 0 => ⟨fun _ _ _ _ r h => by simp [tidemarklaw12_ChainEnds.l0] at h, fun _ _ _ _ _ _ _ _ r h => by simp [tidemarklaw12_ChainEnds.j1] at h, fun _ _ _ _ _ _ _ r h => by simp [tidemarklaw12_ChainEnds.j2] at h, fun _ _ _ _ _ _ _ _ r h => by simp [tidemarklaw12_ChainEnds.l1] at h, fun _ _ _ _ _ _ _ _ r h => by simp [tidemarklaw12_ChainEnds.l2] at h⟩
  | k + 1 => by
    obtain ⟨ih0, ih1, ih2, ih3, ih4⟩ := tidemarklaw12_ChainEnds.mono_l k
    refine ⟨?_, ?_, ?_, ?_, ?_⟩
    · intro y0 y1 y2 y3
      unfold tidemarklaw12_ChainEnds.l0
      repeat' first
      | (with_reducible exact ih0 _ _ _ _)
      | (with_reducible exact ih1 _ _ _ _ _ _ _ _)
      | (with_reducible exact ih2 _ _ _ _ _ _ _)
      | (with_reducible exact ih3 _ _ _ _ _ _ _ _)
      | (with_reducible exact ih4 _ _ _ _ _ _ _ _)
      | (with_reducible exact tidemarklaw12_asking.mono _ _ _ _ _)
      | (with_reducible exact tidemarklaw12_falls.mono _ _)
      | (with_reducible exact tidemarklaw12_known.mono _)
      | (with_reducible exact LeO.refl _)
      | (with_reducible exact LeO.none _)
      | (with_reducible refine LeO.ite ?_ ?_)
      | (with_reducible refine LeO.bind ?_ (fun _ => ?_))
      | exact ih0 _ _ _ _
      | exact ih1 _ _ _ _ _ _ _ _
      | exact ih2 _ _ _ _ _ _ _
      | exact ih3 _ _ _ _ _ _ _ _
      | exact ih4 _ _ _ _ _ _ _ _
      | exact tidemarklaw12_asking.mono _ _ _ _ _
      | exact tidemarklaw12_falls.mono _ _
      | exact tidemarklaw12_known.mono _
      | exact LeO.none _
      | refine LeO.ite ?_ ?_
      | refine LeO.bind ?_ (fun _ => ?_)
    · intro y0 y1 y2 y3 y4 y5 y6 y7
      unfold tidemarklaw12_ChainEnds.j1
      repeat' first
      | (with_reducible exact ih0 _ _ _ _)
      | (with_reducible exact ih1 _ _ _ _ _ _ _ _)
      | (with_reducible exact ih2 _ _ _ _ _ _ _)
      | (with_reducible exact ih3 _ _ _ _ _ _ _ _)
      | (with_reducible exact ih4 _ _ _ _ _ _ _ _)
      | (with_reducible exact tidemarklaw12_asking.mono _ _ _ _ _)
      | (with_reducible exact tidemarklaw12_falls.mono _ _)
      | (with_reducible exact tidemarklaw12_known.mono _)
      | (with_reducible exact LeO.refl _)
      | (with_reducible exact LeO.none _)
      | (with_reducible refine LeO.ite ?_ ?_)
      | (with_reducible refine LeO.bind ?_ (fun _ => ?_))
      | exact ih0 _ _ _ _
      | exact ih1 _ _ _ _ _ _ _ _
      | exact ih2 _ _ _ _ _ _ _
      | exact ih3 _ _ _ _ _ _ _ _
      | exact ih4 _ _ _ _ _ _ _ _
      | exact tidemarklaw12_asking.mono _ _ _ _ _
      | exact tidemarklaw12_falls.mono _ _
      | exact tidemarklaw12_known.mono _
      | exact LeO.none _
      | refine LeO.ite ?_ ?_
      | refine LeO.bind ?_ (fun _ => ?_)
    · intro y0 y1 y2 y3 y4 y5 y6
      unfold tidemarklaw12_ChainEnds.j2
      repeat' first
      | (with_reducible exact ih0 _ _ _ _)
      | (with_reducible exact ih1 _ _ _ _ _ _ _ _)
      | (with_reducible exact ih2 _ _ _ _ _ _ _)
      | (with_reducible exact ih3 _ _ _ _ _ _ _ _)
      | (with_reducible exact ih4 _ _ _ _ _ _ _ _)
      | (with_reducible exact tidemarklaw12_asking.mono _ _ _ _ _)
      | (with_reducible exact tidemarklaw12_falls.mono _ _)
      | (with_reducible exact tidemarklaw12_known.mono _)
      | (with_reducible exact LeO.refl _)
      | (with_reducible exact LeO.none _)
      | (with_reducible refine LeO.ite ?_ ?_)
      | (with_reducible refine LeO.bind ?_ (fun _ => ?_))
      | exact ih0 _ _ _ _
      | exact ih1 _ _ _ _ _ _ _ _
      | exact ih2 _ _ _ _ _ _ _
      | exact ih3 _ _ _ _ _ _ _ _
      | exact ih4 _ _ _ _ _ _ _ _
      | exact tidemarklaw12_asking.mono _ _ _ _ _
      | exact tidemarklaw12_falls.mono _ _
      | exact tidemarklaw12_known.mono _
      | exact LeO.none _
      | refine LeO.ite ?_ ?_
      | refine LeO.bind ?_ (fun _ => ?_)
    · intro y0 y1 y2 y3 y4 y5 y6 y7
      unfold tidemarklaw12_ChainEnds.l1
      repeat' first
      | (with_reducible exact ih0 _ _ _ _)
      | (with_reducible exact ih1 _ _ _ _ _ _ _ _)
      | (with_reducible exact ih2 _ _ _ _ _ _ _)
      | (with_reducible exact ih3 _ _ _ _ _ _ _ _)
      | (with_reducible exact ih4 _ _ _ _ _ _ _ _)
      | (with_reducible exact tidemarklaw12_asking.mono _ _ _ _ _)
      | (with_reducible exact tidemarklaw12_falls.mono _ _)
      | (with_reducible exact tidemarklaw12_known.mono _)
      | (with_reducible exact LeO.refl _)
      | (with_reducible exact LeO.none _)
      | (with_reducible refine LeO.ite ?_ ?_)
      | (with_reducible refine LeO.bind ?_ (fun _ => ?_))
      | exact ih0 _ _ _ _
      | exact ih1 _ _ _ _ _ _ _ _
      | exact ih2 _ _ _ _ _ _ _
      | exact ih3 _ _ _ _ _ _ _ _
      | exact ih4 _ _ _ _ _ _ _ _
      | exact tidemarklaw12_asking.mono _ _ _ _ _
      | exact tidemarklaw12_falls.mono _ _
      | exact tidemarklaw12_known.mono _
      | exact LeO.none _
      | refine LeO.ite ?_ ?_
      | refine LeO.bind ?_ (fun _ => ?_)
    · intro y0 y1 y2 y3 y4 y5 y6 y7
      unfold tidemarklaw12_ChainEnds.l2
      repeat' first
      | (with_reducible exact ih0 _ _ _ _)
      | (with_reducible exact ih1 _ _ _ _ _ _ _ _)
      | (with_reducible exact ih2 _ _ _ _ _ _ _)
      | (with_reducible exact ih3 _ _ _ _ _ _ _ _)
      | (with_reducible exact ih4 _ _ _ _ _ _ _ _)
      | (with_reducible exact tidemarklaw12_asking.mono _ _ _ _ _)
      | (with_reducible exact tidemarklaw12_falls.mono _ _)
      | (with_reducible exact tidemarklaw12_known.mono _)
      | (with_reducible exact LeO.refl _)
      | (with_reducible exact LeO.none _)
      | (with_reducible refine LeO.ite ?_ ?_)
      | (with_reducible refine LeO.bind ?_ (fun _ => ?_))
      | exact ih0 _ _ _ _
      | exact ih1 _ _ _ _ _ _ _ _
      | exact ih2 _ _ _ _ _ _ _
      | exact ih3 _ _ _ _ _ _ _ _
      | exact ih4 _ _ _ _ _ _ _ _
      | exact tidemarklaw12_asking.mono _ _ _ _ _
      | exact tidemarklaw12_falls.mono _ _
      | exact tidemarklaw12_known.mono _
      | exact LeO.none _
      | refine LeO.ite ?_ ?_
      | refine LeO.bind ?_ (fun _ => ?_)
theorem tidemarklaw12_ChainEnds.mono : ∀ a0 a1 a2 k, LeO (tidemarklaw12_ChainEnds.f k a0 a1 a2) (tidemarklaw12_ChainEnds.f (k + 1) a0 a1 a2) := by
  intro a0 a1 a2 k
  obtain ⟨ih0, ih1, ih2, ih3, ih4⟩ := tidemarklaw12_ChainEnds.mono_l k
  unfold tidemarklaw12_ChainEnds.f
  repeat' first
      | (with_reducible exact ih0 _ _ _ _)
      | (with_reducible exact ih1 _ _ _ _ _ _ _ _)
      | (with_reducible exact ih2 _ _ _ _ _ _ _)
      | (with_reducible exact ih3 _ _ _ _ _ _ _ _)
      | (with_reducible exact ih4 _ _ _ _ _ _ _ _)
      | (with_reducible exact tidemarklaw12_asking.mono _ _ _ _ _)
      | (with_reducible exact tidemarklaw12_falls.mono _ _)
      | (with_reducible exact tidemarklaw12_known.mono _)
      | (with_reducible exact LeO.refl _)
      | (with_reducible exact LeO.none _)
      | (with_reducible refine LeO.ite ?_ ?_)
      | (with_reducible refine LeO.bind ?_ (fun _ => ?_))
      | exact ih0 _ _ _ _
      | exact ih1 _ _ _ _ _ _ _ _
      | exact ih2 _ _ _ _ _ _ _
      | exact ih3 _ _ _ _ _ _ _ _
      | exact ih4 _ _ _ _ _ _ _ _
      | exact tidemarklaw12_asking.mono _ _ _ _ _
      | exact tidemarklaw12_falls.mono _ _
      | exact tidemarklaw12_known.mono _
      | exact LeO.none _
      | refine LeO.ite ?_ ?_
      | refine LeO.bind ?_ (fun _ => ?_)
set_option maxHeartbeats 8000000 in
set_option maxRecDepth 100000 in
theorem tidemarklaw12_ChainEnds.calls (k : Nat) (A0 : Option Addr) (c0 : Nat) (l0 : List (S43)) (a1 : Bool) (a2 : Int) (r : Bool) (w : World) (hr0 : Kd.C k43 w A0 l0.length l0) (hc0 : l0.length ≤ c0) (h : tidemarklaw12_ChainEnds.f k l0 a1 a2 = some r) (hr_ : r = true) :
    Calls Try.prog 6 #[.slice A0 l0.length c0, .bool a1, .int .i64 a2] w fun e w' => e = .returned (.bool r) ∧ Below w.heap.size w w' := by
  have HPR := Aside0.mk hr_
  clear hr_
  have HR0 := Aside0.mk hr0
  have HC0 := Aside0.mk hc0
  clear hr0 hc0
  have HB := Aside0.mk (Below.refl w.heap.size w)
  have H : ((tidemarklaw12_known.f k).bind fun t245 => (if t245 = true then (tidemarklaw12_ChainEnds.l0 k l0 a1 a2 0) else (some false))) = some r := h
  clear h
  replace H := Option.bind_eq_some_iff.mp H
  obtain ⟨t245, A40, H⟩ := H
  replace H : (if t245 = true then (tidemarklaw12_ChainEnds.l0 k l0 a1 a2 0) else (some false)) = some r := H
  have A4 := Aside0.mk A40
  clear A40
  by_cases c5 : t245 = true
  · subst c5
    have H1 : (tidemarklaw12_ChainEnds.l0 k l0 a1 a2 0) = some r := by rw [if_pos rfl] at H; exact H
    clear H
    have H := H1
    clear H1
    have H' := Aside0.mk H
    clear H
    go_enter Try.func6, Try.ntmps6
    go_wp2_with (first | (go_at_call 10; (with_reducible refine (tidemarklaw12_known.calls k  true _ A4.out).mono ?_); rintro e w6 ⟨rfl, hb⟩; have n0_ := Aside0.mk (below_step (by repeat (first | (with_reducible first | exact HB.out | apply below_alloc | apply pw_below_drewN | apply below_drew1) | exact HB.out)) hb); clear HB; have HB := n0_; clear n0_; (try clear hb); (try clear hb2); (try clear hk); (try clear hi)))
    repeat (go_quiet (first | (go_at_call 10; (with_reducible refine (tidemarklaw12_known.calls k  true _ A4.out).mono ?_); rintro e w6 ⟨rfl, hb⟩; have n0_ := Aside0.mk (below_step (by repeat (first | (with_reducible first | exact HB.out | apply below_alloc | apply pw_below_drewN | apply below_drew1) | exact HB.out)) hb); clear HB; have HB := n0_; clear n0_; (try clear hb); (try clear hb2); (try clear hk); (try clear hi))); try go_wp2_with (first | (go_at_call 10; (with_reducible refine (tidemarklaw12_known.calls k  true _ A4.out).mono ?_); rintro e w6 ⟨rfl, hb⟩; have n0_ := Aside0.mk (below_step (by repeat (first | (with_reducible first | exact HB.out | apply below_alloc | apply pw_below_drewN | apply below_drew1) | exact HB.out)) hb); clear HB; have HB := n0_; clear n0_; (try clear hb); (try clear hb2); (try clear hk); (try clear hi))))
    go_loopg [7] k (fun kq v7 w' => ∃ (x7_1 : Int), v7 = .int .i64 x7_1 ∧ Aside0 (tidemarklaw12_ChainEnds.l0 kq l0 a1 a2 x7_1 = some r) ∧ Aside0 (kq ≤ k) ∧ Aside0 (Below w.heap.size w w'))
    case atStart => exact ⟨(0), (by first | rfl | (simp; done) | (simp [*]; done)), H', ⟨Nat.le_refl _⟩, ⟨by repeat (first | (with_reducible first | exact HB.out | apply below_alloc | apply pw_below_drewN | apply below_drew1) | exact HB.out)⟩⟩
    case round =>
      clear H'
      try clear p2
      try clear c5
      try clear c6
      obtain ⟨x7_1, rfl, HA, HK1, HB⟩ := hrel
      cases gk with
      | zero => exact absurd HA.out (by simp [tidemarklaw12_ChainEnds.l0])
      | succ k1 =>
        have H := HA.out
        clear HA
        simp only [tidemarklaw12_ChainEnds.l0] at H
        by_cases c7 : x7_1 < 2
        · rw [if_pos c7] at H
          have c7b0 : decide (x7_1 < 2) = true := decide_eq_true c7
          clear c7
          replace H := Option.bind_eq_some_iff.mp H
          obtain ⟨⟨t246, t247, t248⟩, A80, H⟩ := H
          replace H : (if (t248.length : Int) > 4096 then (tidemarklaw12_ChainEnds.j1 k1 l0 a1 a2 x7_1 t246 t247 t248 true) else ((tidemarklaw12_falls.f k1 t246).bind fun t253 => (if t253 = true then (if t247 = 0 then (if a2 ≤ 0 then (if (t248.length : Int) = 0 then (if a2 > 0 then (tidemarklaw12_ChainEnds.j1 k1 l0 a1 a2 x7_1 t246 t247 t248 true) else (tidemarklaw12_ChainEnds.j1 k1 l0 a1 a2 x7_1 t246 t247 t248 false)) else (tidemarklaw12_ChainEnds.j1 k1 l0 a1 a2 x7_1 t246 t247 t248 true)) else (if a2 > 0 then (if (t248.length : Int) = 0 then (tidemarklaw12_ChainEnds.j1 k1 l0 a1 a2 x7_1 t246 t247 t248 true) else (if 0 < (t248.length : Int) then (tidemarklaw12_ChainEnds.j1 k1 l0 a1 a2 x7_1 t246 t247 t248 ((rd t248 0) != a2)) else (none))) else (tidemarklaw12_ChainEnds.j1 k1 l0 a1 a2 x7_1 t246 t247 t248 false))) else (if (t246.length : Int) = 0 then (if a2 ≤ 0 then (if (t248.length : Int) = 0 then (if a2 > 0 then (tidemarklaw12_ChainEnds.j1 k1 l0 a1 a2 x7_1 t246 t247 t248 true) else (tidemarklaw12_ChainEnds.j1 k1 l0 a1 a2 x7_1 t246 t247 t248 false)) else (tidemarklaw12_ChainEnds.j1 k1 l0 a1 a2 x7_1 t246 t247 t248 true)) else (if a2 > 0 then (if (t248.length : Int) = 0 then (tidemarklaw12_ChainEnds.j1 k1 l0 a1 a2 x7_1 t246 t247 t248 true) else (if 0 < (t248.length : Int) then (tidemarklaw12_ChainEnds.j1 k1 l0 a1 a2 x7_1 t246 t247 t248 ((rd t248 0) != a2)) else (none))) else (tidemarklaw12_ChainEnds.j1 k1 l0 a1 a2 x7_1 t246 t247 t248 false))) else (tidemarklaw12_ChainEnds.j1 k1 l0 a1 a2 x7_1 t246 t247 t248 true))) else (tidemarklaw12_ChainEnds.j1 k1 l0 a1 a2 x7_1 t246 t247 t248 true)))) = some r := H
          have A8 := Aside0.mk A80
          clear A80
          have HC9 := Aside0.mk H
          clear H
          go_upto_region 7 with (first | (go_at_call 8; (with_reducible refine (tidemarklaw12_asking.calls k1 _ _ l0 a1 (x7_1 == 1) a2 t246 t247 t248 _ ?side1 ?side2 A8.out).mono ?_); (case side1 => repeat (first | exact (Kd.C_below HR0.out HB.out) | (with_reducible refine Kd.C_alloc ?_ _) | (with_reducible refine Kd.C_drewN ?_ _) | (with_reducible refine Kd.C_drew ?_))); (case side2 => exact HC0.out); rintro e w10 ⟨v249, v251, rfl, ho0, ho1, hb⟩; have n0_ := Aside0.mk (Kd.R_lower ho0 (below_size (by repeat (first | (with_reducible first | exact HB.out | apply below_alloc | apply pw_below_drewN | apply below_drew1) | exact HB.out)))); have n1_ := Aside0.mk (Kd.R_lower ho1 (below_size (by repeat (first | (with_reducible first | exact HB.out | apply below_alloc | apply pw_below_drewN | apply below_drew1) | exact HB.out)))); have n2_ := Aside0.mk (below_step (by repeat (first | (with_reducible first | exact HB.out | apply below_alloc | apply pw_below_drewN | apply below_drew1) | exact HB.out)) hb); clear HB; have HO250 := n0_; have HO252 := n1_; have HB := n2_; clear n0_ n1_ n2_; (try clear hb); (try clear hb2); (try clear hk); (try clear hi); (try clear ho0); (try clear ho1)))
          repeat (go_quiet (first | (go_at_call 8; (with_reducible refine (tidemarklaw12_asking.calls k1 _ _ l0 a1 (x7_1 == 1) a2 t246 t247 t248 _ ?side1 ?side2 A8.out).mono ?_); (case side1 => repeat (first | exact (Kd.C_below HR0.out HB.out) | (with_reducible refine Kd.C_alloc ?_ _) | (with_reducible refine Kd.C_drewN ?_ _) | (with_reducible refine Kd.C_drew ?_))); (case side2 => exact HC0.out); rintro e w10 ⟨v249, v251, rfl, ho0, ho1, hb⟩; have n0_ := Aside0.mk (Kd.R_lower ho0 (below_size (by repeat (first | (with_reducible first | exact HB.out | apply below_alloc | apply pw_below_drewN | apply below_drew1) | exact HB.out)))); have n1_ := Aside0.mk (Kd.R_lower ho1 (below_size (by repeat (first | (with_reducible first | exact HB.out | apply below_alloc | apply pw_below_drewN | apply below_drew1) | exact HB.out)))); have n2_ := Aside0.mk (below_step (by repeat (first | (with_reducible first | exact HB.out | apply below_alloc | apply pw_below_drewN | apply below_drew1) | exact HB.out)) hb); clear HB; have HO250 := n0_; have HO252 := n1_; have HB := n2_; clear n0_ n1_ n2_; (try clear hb); (try clear hb2); (try clear hk); (try clear hi); (try clear ho0); (try clear ho1))); go_upto_region 7 with (first | (go_at_call 8; (with_reducible refine (tidemarklaw12_asking.calls k1 _ _ l0 a1 (x7_1 == 1) a2 t246 t247 t248 _ ?side1 ?side2 A8.out).mono ?_); (case side1 => repeat (first | exact (Kd.C_below HR0.out HB.out) | (with_reducible refine Kd.C_alloc ?_ _) | (with_reducible refine Kd.C_drewN ?_ _) | (with_reducible refine Kd.C_drew ?_))); (case side2 => exact HC0.out); rintro e w10 ⟨v249, v251, rfl, ho0, ho1, hb⟩; have n0_ := Aside0.mk (Kd.R_lower ho0 (below_size (by repeat (first | (with_reducible first | exact HB.out | apply below_alloc | apply pw_below_drewN | apply below_drew1) | exact HB.out)))); have n1_ := Aside0.mk (Kd.R_lower ho1 (below_size (by repeat (first | (with_reducible first | exact HB.out | apply below_alloc | apply pw_below_drewN | apply below_drew1) | exact HB.out)))); have n2_ := Aside0.mk (below_step (by repeat (first | (with_reducible first | exact HB.out | apply below_alloc | apply pw_below_drewN | apply below_drew1) | exact HB.out)) hb); clear HB; have HO250 := n0_; have HO252 := n1_; have HB := n2_; clear n0_ n1_ n2_; (try clear hb); (try clear hb2); (try clear hk); (try clear hi); (try clear ho0); (try clear ho1))))
          (try simp only [Act.put, List.setIfInBounds_toArray, List.set_cons_zero, List.set_cons_succ])
          go_cut [70] (fun v70 wc => ∃ (kq : Nat) (x70_8 : Bool), v70 = .bool x70_8 ∧ Aside0 (tidemarklaw12_ChainEnds.j1 kq l0 a1 a2 x7_1 t246 t247 t248 x70_8 = some r) ∧ Aside0 (kq ≤ k1) ∧ Aside0 (Kd.R (Kd.int .i64) 3 wc w.heap.size (fun k_ => some k_ ≠ (v251 : Value).ownBlock) v249 t246) ∧ Aside0 (Kd.R (Kd.int .i64) 3 wc w.heap.size (fun k_ => some k_ ≠ (v249 : Value).ownBlock) v251 t248) ∧ Aside0 (Below w.heap.size w wc))
          case first =>
            have H := HC9.out
            clear HC9
            by_cases c11 : (t248.length : Int) > 4096
            · rw [if_pos c11] at H
              have c11b0 : decide (4096 < (t248.length : Int)) = true := decide_eq_true c11
              have c11b1 : decide (4096 < t248.length) = true := decide_eq_true (by omega)
              clear c11
              (first | rw [c11b0] | (simp only [i64_w, i32_w]; rw [c11b0]) | skip)
              have H' := Aside0.mk H
              clear H
              obtain ⟨Ao12, co12, eo12⟩ := Kd.R_slice HO252.out
              subst eo12
              go_wp2
              repeat (go_quiet (fail); try go_wp2)
              go_meet
              case rel => exact ⟨_, (true), (by first | rfl | (simp; done) | (simp [*]; done)), H', ⟨by have := HK1.out; first | omega | exact Nat.le_refl _⟩, ⟨by (with_reducible repeat (first | apply Kd.R_alloc | apply Kd.R_drewN | apply Kd.R_drew)); exact HO250.out⟩, ⟨by (with_reducible repeat (first | apply Kd.R_alloc | apply Kd.R_drewN | apply Kd.R_drew)); exact HO252.out⟩, ⟨by repeat (first | (with_reducible first | exact HB.out | apply below_alloc | apply pw_below_drewN | apply below_drew1) | exact HB.out)⟩⟩
            · rw [if_neg c11] at H
              have c11b0 : decide (4096 < (t248.length : Int)) = false := decide_eq_false c11
              have c11b1 : decide (4096 < t248.length) = false := decide_eq_false (by omega)
              clear c11
              (first | rw [c11b0] | (simp only [i64_w, i32_w]; rw [c11b0]) | skip)
              replace H := Option.bind_eq_some_iff.mp H
              obtain ⟨t253, A130, H⟩ := H
              replace H : (if t253 = true then (if t247 = 0 then (if a2 ≤ 0 then (if (t248.length : Int) = 0 then (if a2 > 0 then (tidemarklaw12_ChainEnds.j1 k1 l0 a1 a2 x7_1 t246 t247 t248 true) else (tidemarklaw12_ChainEnds.j1 k1 l0 a1 a2 x7_1 t246 t247 t248 false)) else (tidemarklaw12_ChainEnds.j1 k1 l0 a1 a2 x7_1 t246 t247 t248 true)) else (if a2 > 0 then (if (t248.length : Int) = 0 then (tidemarklaw12_ChainEnds.j1 k1 l0 a1 a2 x7_1 t246 t247 t248 true) else (if 0 < (t248.length : Int) then (tidemarklaw12_ChainEnds.j1 k1 l0 a1 a2 x7_1 t246 t247 t248 ((rd t248 0) != a2)) else (none))) else (tidemarklaw12_ChainEnds.j1 k1 l0 a1 a2 x7_1 t246 t247 t248 false))) else (if (t246.length : Int) = 0 then (if a2 ≤ 0 then (if (t248.length : Int) = 0 then (if a2 > 0 then (tidemarklaw12_ChainEnds.j1 k1 l0 a1 a2 x7_1 t246 t247 t248 true) else (tidemarklaw12_ChainEnds.j1 k1 l0 a1 a2 x7_1 t246 t247 t248 false)) else (tidemarklaw12_ChainEnds.j1 k1 l0 a1 a2 x7_1 t246 t247 t248 true)) else (if a2 > 0 then (if (t248.length : Int) = 0 then (tidemarklaw12_ChainEnds.j1 k1 l0 a1 a2 x7_1 t246 t247 t248 true) else (if 0 < (t248.length : Int) then (tidemarklaw12_ChainEnds.j1 k1 l0 a1 a2 x7_1 t246 t247 t248 ((rd t248 0) != a2)) else (none))) else (tidemarklaw12_ChainEnds.j1 k1 l0 a1 a2 x7_1 t246 t247 t248 false))) else (tidemarklaw12_ChainEnds.j1 k1 l0 a1 a2 x7_1 t246 t247 t248 true))) else (tidemarklaw12_ChainEnds.j1 k1 l0 a1 a2 x7_1 t246 t247 t248 true)) = some r := H
              have A13 := Aside0.mk A130
              clear A130
              by_cases c14 : t253 = true
              · subst c14
                have H1 : (if t247 = 0 then (if a2 ≤ 0 then (if (t248.length : Int) = 0 then (if a2 > 0 then (tidemarklaw12_ChainEnds.j1 k1 l0 a1 a2 x7_1 t246 t247 t248 true) else (tidemarklaw12_ChainEnds.j1 k1 l0 a1 a2 x7_1 t246 t247 t248 false)) else (tidemarklaw12_ChainEnds.j1 k1 l0 a1 a2 x7_1 t246 t247 t248 true)) else (if a2 > 0 then (if (t248.length : Int) = 0 then (tidemarklaw12_ChainEnds.j1 k1 l0 a1 a2 x7_1 t246 t247 t248 true) else (if 0 < (t248.length : Int) then (tidemarklaw12_ChainEnds.j1 k1 l0 a1 a2 x7_1 t246 t247 t248 ((rd t248 0) != a2)) else (none))) else (tidemarklaw12_ChainEnds.j1 k1 l0 a1 a2 x7_1 t246 t247 t248 false))) else (if (t246.length : Int) = 0 then (if a2 ≤ 0 then (if (t248.length : Int) = 0 then (if a2 > 0 then (tidemarklaw12_ChainEnds.j1 k1 l0 a1 a2 x7_1 t246 t247 t248 true) else (tidemarklaw12_ChainEnds.j1 k1 l0 a1 a2 x7_1 t246 t247 t248 false)) else (tidemarklaw12_ChainEnds.j1 k1 l0 a1 a2 x7_1 t246 t247 t248 true)) else (if a2 > 0 then (if (t248.length : Int) = 0 then (tidemarklaw12_ChainEnds.j1 k1 l0 a1 a2 x7_1 t246 t247 t248 true) else (if 0 < (t248.length : Int) then (tidemarklaw12_ChainEnds.j1 k1 l0 a1 a2 x7_1 t246 t247 t248 ((rd t248 0) != a2)) else (none))) else (tidemarklaw12_ChainEnds.j1 k1 l0 a1 a2 x7_1 t246 t247 t248 false))) else (tidemarklaw12_ChainEnds.j1 k1 l0 a1 a2 x7_1 t246 t247 t248 true))) = some r := by rw [if_pos rfl] at H; exact H
                clear H
                have H := H1
                clear H1
                by_cases c15 : t247 = 0
                · rw [if_pos c15] at H
                  have c15b0 : (t247 == 0) = true := beq_iff_eq.mpr c15
                  have c15b1 : (t247 != 0) = false := bne_eq_false_iff_eq.mpr c15
                  clear c15
                  by_cases c16 : a2 ≤ 0
                  · rw [if_pos c16] at H
                    have c16b0 : decide (a2 ≤ 0) = true := decide_eq_true c16
                    clear c16
                    by_cases c17 : (t248.length : Int) = 0
                    · rw [if_pos c17] at H
                      have c17b0 : ((t248.length : Int) == 0) = true := beq_iff_eq.mpr c17
                      have c17b1 : ((t248.length : Int) != 0) = false := bne_eq_false_iff_eq.mpr c17
                      clear c17
                      by_cases c18 : a2 > 0
                      · rw [if_pos c18] at H
                        have c18b0 : decide (0 < a2) = true := decide_eq_true c18
                        clear c18
                        have H' := Aside0.mk H
                        clear H
                        obtain ⟨Ao19, co19, eo19⟩ := Kd.R_slice HO252.out
                        subst eo19
                        obtain ⟨Ao20, co20, eo20⟩ := Kd.R_slice HO250.out
                        subst eo20
                        go_wp2_with (first | (go_at_call 14; (with_reducible refine (tidemarklaw12_falls.calls k1 _ _ t246 true _ ?side1 ?side2 A13.out).mono ?_); (case side1 => repeat (first | exact (Kd.R_reads' HO250.out).2.2 | (with_reducible refine Kd.C_alloc ?_ _) | (with_reducible refine Kd.C_drewN ?_ _) | (with_reducible refine Kd.C_drew ?_))); (case side2 => exact (Kd.R_reads' HO250.out).2.1); rintro e w' ⟨rfl, ⟨nd, rfl⟩⟩; (try first | exact ⟨rfl, _, World.drewN_drewN _ _ _⟩ | exact ⟨rfl, _, Eq.trans (World.drewN_drewN _ _ _) (congrArg (World.drewN _) (Nat.add_assoc _ _ _))⟩)))
                        repeat (go_quiet (first | (go_at_call 14; (with_reducible refine (tidemarklaw12_falls.calls k1 _ _ t246 true _ ?side1 ?side2 A13.out).mono ?_); (case side1 => repeat (first | exact (Kd.R_reads' HO250.out).2.2 | (with_reducible refine Kd.C_alloc ?_ _) | (with_reducible refine Kd.C_drewN ?_ _) | (with_reducible refine Kd.C_drew ?_))); (case side2 => exact (Kd.R_reads' HO250.out).2.1); rintro e w' ⟨rfl, ⟨nd, rfl⟩⟩; (try first | exact ⟨rfl, _, World.drewN_drewN _ _ _⟩ | exact ⟨rfl, _, Eq.trans (World.drewN_drewN _ _ _) (congrArg (World.drewN _) (Nat.add_assoc _ _ _))⟩))); try go_wp2_with (first | (go_at_call 14; (with_reducible refine (tidemarklaw12_falls.calls k1 _ _ t246 true _ ?side1 ?side2 A13.out).mono ?_); (case side1 => repeat (first | exact (Kd.R_reads' HO250.out).2.2 | (with_reducible refine Kd.C_alloc ?_ _) | (with_reducible refine Kd.C_drewN ?_ _) | (with_reducible refine Kd.C_drew ?_))); (case side2 => exact (Kd.R_reads' HO250.out).2.1); rintro e w' ⟨rfl, ⟨nd, rfl⟩⟩; (try first | exact ⟨rfl, _, World.drewN_drewN _ _ _⟩ | exact ⟨rfl, _, Eq.trans (World.drewN_drewN _ _ _) (congrArg (World.drewN _) (Nat.add_assoc _ _ _))⟩))))
                        go_meet
                        case rel => exact ⟨_, (true), (by first | rfl | (simp; done) | (simp [*]; done)), H', ⟨by have := HK1.out; first | omega | exact Nat.le_refl _⟩, ⟨by (with_reducible repeat (first | apply Kd.R_alloc | apply Kd.R_drewN | apply Kd.R_drew)); exact HO250.out⟩, ⟨by (with_reducible repeat (first | apply Kd.R_alloc | apply Kd.R_drewN | apply Kd.R_drew)); exact HO252.out⟩, ⟨by repeat (first | (with_reducible first | exact HB.out | apply below_alloc | apply pw_below_drewN | apply below_drew1) | exact HB.out)⟩⟩
                      · rw [if_neg c18] at H
                        have c18b0 : decide (0 < a2) = false := decide_eq_false c18
                        clear c18
                        have H' := Aside0.mk H
                        clear H
                        obtain ⟨Ao21, co21, eo21⟩ := Kd.R_slice HO252.out
                        subst eo21
                        obtain ⟨Ao22, co22, eo22⟩ := Kd.R_slice HO250.out
                        subst eo22
                        go_wp2_with (first | (go_at_call 14; (with_reducible refine (tidemarklaw12_falls.calls k1 _ _ t246 true _ ?side1 ?side2 A13.out).mono ?_); (case side1 => repeat (first | exact (Kd.R_reads' HO250.out).2.2 | (with_reducible refine Kd.C_alloc ?_ _) | (with_reducible refine Kd.C_drewN ?_ _) | (with_reducible refine Kd.C_drew ?_))); (case side2 => exact (Kd.R_reads' HO250.out).2.1); rintro e w' ⟨rfl, ⟨nd, rfl⟩⟩; (try first | exact ⟨rfl, _, World.drewN_drewN _ _ _⟩ | exact ⟨rfl, _, Eq.trans (World.drewN_drewN _ _ _) (congrArg (World.drewN _) (Nat.add_assoc _ _ _))⟩)))
                        repeat (go_quiet (first | (go_at_call 14; (with_reducible refine (tidemarklaw12_falls.calls k1 _ _ t246 true _ ?side1 ?side2 A13.out).mono ?_); (case side1 => repeat (first | exact (Kd.R_reads' HO250.out).2.2 | (with_reducible refine Kd.C_alloc ?_ _) | (with_reducible refine Kd.C_drewN ?_ _) | (with_reducible refine Kd.C_drew ?_))); (case side2 => exact (Kd.R_reads' HO250.out).2.1); rintro e w' ⟨rfl, ⟨nd, rfl⟩⟩; (try first | exact ⟨rfl, _, World.drewN_drewN _ _ _⟩ | exact ⟨rfl, _, Eq.trans (World.drewN_drewN _ _ _) (congrArg (World.drewN _) (Nat.add_assoc _ _ _))⟩))); try go_wp2_with (first | (go_at_call 14; (with_reducible refine (tidemarklaw12_falls.calls k1 _ _ t246 true _ ?side1 ?side2 A13.out).mono ?_); (case side1 => repeat (first | exact (Kd.R_reads' HO250.out).2.2 | (with_reducible refine Kd.C_alloc ?_ _) | (with_reducible refine Kd.C_drewN ?_ _) | (with_reducible refine Kd.C_drew ?_))); (case side2 => exact (Kd.R_reads' HO250.out).2.1); rintro e w' ⟨rfl, ⟨nd, rfl⟩⟩; (try first | exact ⟨rfl, _, World.drewN_drewN _ _ _⟩ | exact ⟨rfl, _, Eq.trans (World.drewN_drewN _ _ _) (congrArg (World.drewN _) (Nat.add_assoc _ _ _))⟩))))
                        go_meet
                        case rel => exact ⟨_, (false), (by first | rfl | (simp; done) | (simp [*]; done)), H', ⟨by have := HK1.out; first | omega | exact Nat.le_refl _⟩, ⟨by (with_reducible repeat (first | apply Kd.R_alloc | apply Kd.R_drewN | apply Kd.R_drew)); exact HO250.out⟩, ⟨by (with_reducible repeat (first | apply Kd.R_alloc | apply Kd.R_drewN | apply Kd.R_drew)); exact HO252.out⟩, ⟨by repeat (first | (with_reducible first | exact HB.out | apply below_alloc | apply pw_below_drewN | apply below_drew1) | exact HB.out)⟩⟩
                    · rw [if_neg c17] at H
                      have c17b0 : ((t248.length : Int) == 0) = false := beq_eq_false_iff_ne.mpr c17
                      have c17b1 : ((t248.length : Int) != 0) = true := bne_iff_ne.mpr c17
                      have c17b2 : ¬ (t248 = []) := fun h_ => c17 (by rw [h_]; rfl)
                      have H' := Aside0.mk H
                      clear H
                      obtain ⟨Ao23, co23, eo23⟩ := Kd.R_slice HO252.out
                      subst eo23
                      obtain ⟨Ao24, co24, eo24⟩ := Kd.R_slice HO250.out
                      subst eo24
                      go_wp2_with (first | (go_at_call 14; (with_reducible refine (tidemarklaw12_falls.calls k1 _ _ t246 true _ ?side1 ?side2 A13.out).mono ?_); (case side1 => repeat (first | exact (Kd.R_reads' HO250.out).2.2 | (with_reducible refine Kd.C_alloc ?_ _) | (with_reducible refine Kd.C_drewN ?_ _) | (with_reducible refine Kd.C_drew ?_))); (case side2 => exact (Kd.R_reads' HO250.out).2.1); rintro e w' ⟨rfl, ⟨nd, rfl⟩⟩; (try first | exact ⟨rfl, _, World.drewN_drewN _ _ _⟩ | exact ⟨rfl, _, Eq.trans (World.drewN_drewN _ _ _) (congrArg (World.drewN _) (Nat.add_assoc _ _ _))⟩)))
                      repeat (go_quiet (first | (go_at_call 14; (with_reducible refine (tidemarklaw12_falls.calls k1 _ _ t246 true _ ?side1 ?side2 A13.out).mono ?_); (case side1 => repeat (first | exact (Kd.R_reads' HO250.out).2.2 | (with_reducible refine Kd.C_alloc ?_ _) | (with_reducible refine Kd.C_drewN ?_ _) | (with_reducible refine Kd.C_drew ?_))); (case side2 => exact (Kd.R_reads' HO250.out).2.1); rintro e w' ⟨rfl, ⟨nd, rfl⟩⟩; (try first | exact ⟨rfl, _, World.drewN_drewN _ _ _⟩ | exact ⟨rfl, _, Eq.trans (World.drewN_drewN _ _ _) (congrArg (World.drewN _) (Nat.add_assoc _ _ _))⟩))); try go_wp2_with (first | (go_at_call 14; (with_reducible refine (tidemarklaw12_falls.calls k1 _ _ t246 true _ ?side1 ?side2 A13.out).mono ?_); (case side1 => repeat (first | exact (Kd.R_reads' HO250.out).2.2 | (with_reducible refine Kd.C_alloc ?_ _) | (with_reducible refine Kd.C_drewN ?_ _) | (with_reducible refine Kd.C_drew ?_))); (case side2 => exact (Kd.R_reads' HO250.out).2.1); rintro e w' ⟨rfl, ⟨nd, rfl⟩⟩; (try first | exact ⟨rfl, _, World.drewN_drewN _ _ _⟩ | exact ⟨rfl, _, Eq.trans (World.drewN_drewN _ _ _) (congrArg (World.drewN _) (Nat.add_assoc _ _ _))⟩))))
                      go_meet
                      case rel => exact ⟨_, (true), (by first | rfl | (simp; done) | (simp [*]; done)), H', ⟨by have := HK1.out; first | omega | exact Nat.le_refl _⟩, ⟨by (with_reducible repeat (first | apply Kd.R_alloc | apply Kd.R_drewN | apply Kd.R_drew)); exact HO250.out⟩, ⟨by (with_reducible repeat (first | apply Kd.R_alloc | apply Kd.R_drewN | apply Kd.R_drew)); exact HO252.out⟩, ⟨by repeat (first | (with_reducible first | exact HB.out | apply below_alloc | apply pw_below_drewN | apply below_drew1) | exact HB.out)⟩⟩
                  · rw [if_neg c16] at H
                    have c16b0 : decide (a2 ≤ 0) = false := decide_eq_false c16
                    clear c16
                    by_cases c25 : a2 > 0
                    · rw [if_pos c25] at H
                      have c25b0 : decide (0 < a2) = true := decide_eq_true c25
                      clear c25
                      by_cases c26 : (t248.length : Int) = 0
                      · rw [if_pos c26] at H
                        have c26b0 : ((t248.length : Int) == 0) = true := beq_iff_eq.mpr c26
                        have c26b1 : ((t248.length : Int) != 0) = false := bne_eq_false_iff_eq.mpr c26
                        clear c26
                        have H' := Aside0.mk H
                        clear H
                        obtain ⟨Ao27, co27, eo27⟩ := Kd.R_slice HO252.out
                        subst eo27
                        obtain ⟨Ao28, co28, eo28⟩ := Kd.R_slice HO250.out
                        subst eo28
                        go_wp2_with (first | (go_at_call 14; (with_reducible refine (tidemarklaw12_falls.calls k1 _ _ t246 true _ ?side1 ?side2 A13.out).mono ?_); (case side1 => repeat (first | exact (Kd.R_reads' HO250.out).2.2 | (with_reducible refine Kd.C_alloc ?_ _) | (with_reducible refine Kd.C_drewN ?_ _) | (with_reducible refine Kd.C_drew ?_))); (case side2 => exact (Kd.R_reads' HO250.out).2.1); rintro e w' ⟨rfl, ⟨nd, rfl⟩⟩; (try first | exact ⟨rfl, _, World.drewN_drewN _ _ _⟩ | exact ⟨rfl, _, Eq.trans (World.drewN_drewN _ _ _) (congrArg (World.drewN _) (Nat.add_assoc _ _ _))⟩)))
                        repeat (go_quiet (first | (go_at_call 14; (with_reducible refine (tidemarklaw12_falls.calls k1 _ _ t246 true _ ?side1 ?side2 A13.out).mono ?_); (case side1 => repeat (first | exact (Kd.R_reads' HO250.out).2.2 | (with_reducible refine Kd.C_alloc ?_ _) | (with_reducible refine Kd.C_drewN ?_ _) | (with_reducible refine Kd.C_drew ?_))); (case side2 => exact (Kd.R_reads' HO250.out).2.1); rintro e w' ⟨rfl, ⟨nd, rfl⟩⟩; (try first | exact ⟨rfl, _, World.drewN_drewN _ _ _⟩ | exact ⟨rfl, _, Eq.trans (World.drewN_drewN _ _ _) (congrArg (World.drewN _) (Nat.add_assoc _ _ _))⟩))); try go_wp2_with (first | (go_at_call 14; (with_reducible refine (tidemarklaw12_falls.calls k1 _ _ t246 true _ ?side1 ?side2 A13.out).mono ?_); (case side1 => repeat (first | exact (Kd.R_reads' HO250.out).2.2 | (with_reducible refine Kd.C_alloc ?_ _) | (with_reducible refine Kd.C_drewN ?_ _) | (with_reducible refine Kd.C_drew ?_))); (case side2 => exact (Kd.R_reads' HO250.out).2.1); rintro e w' ⟨rfl, ⟨nd, rfl⟩⟩; (try first | exact ⟨rfl, _, World.drewN_drewN _ _ _⟩ | exact ⟨rfl, _, Eq.trans (World.drewN_drewN _ _ _) (congrArg (World.drewN _) (Nat.add_assoc _ _ _))⟩))))
                        go_meet
                        case rel => exact ⟨_, (true), (by first | rfl | (simp; done) | (simp [*]; done)), H', ⟨by have := HK1.out; first | omega | exact Nat.le_refl _⟩, ⟨by (with_reducible repeat (first | apply Kd.R_alloc | apply Kd.R_drewN | apply Kd.R_drew)); exact HO250.out⟩, ⟨by (with_reducible repeat (first | apply Kd.R_alloc | apply Kd.R_drewN | apply Kd.R_drew)); exact HO252.out⟩, ⟨by repeat (first | (with_reducible first | exact HB.out | apply below_alloc | apply pw_below_drewN | apply below_drew1) | exact HB.out)⟩⟩
                      · rw [if_neg c26] at H
                        have c26b0 : ((t248.length : Int) == 0) = false := beq_eq_false_iff_ne.mpr c26
                        have c26b1 : ((t248.length : Int) != 0) = true := bne_iff_ne.mpr c26
                        have c26b2 : ¬ (t248 = []) := fun h_ => c26 (by rw [h_]; rfl)
                        by_cases c29 : 0 < (t248.length : Int)
                        · rw [if_pos c29] at H
                          have c29b0 : decide (0 < (t248.length : Int)) = true := decide_eq_true c29
                          have c29b1 : decide (0 < t248.length) = true := decide_eq_true (by omega)
                          clear c29
                          have H' := Aside0.mk H
                          clear H
                          obtain ⟨Ao30, co30, eo30⟩ := Kd.R_slice HO252.out
                          subst eo30
                          obtain ⟨Ao31, co31, eo31⟩ := Kd.R_slice HO250.out
                          subst eo31
                          go_wp2_with (first | (go_at_call 14; (with_reducible refine (tidemarklaw12_falls.calls k1 _ _ t246 true _ ?side1 ?side2 A13.out).mono ?_); (case side1 => repeat (first | exact (Kd.R_reads' HO250.out).2.2 | (with_reducible refine Kd.C_alloc ?_ _) | (with_reducible refine Kd.C_drewN ?_ _) | (with_reducible refine Kd.C_drew ?_))); (case side2 => exact (Kd.R_reads' HO250.out).2.1); rintro e w' ⟨rfl, ⟨nd, rfl⟩⟩; (try first | exact ⟨rfl, _, World.drewN_drewN _ _ _⟩ | exact ⟨rfl, _, Eq.trans (World.drewN_drewN _ _ _) (congrArg (World.drewN _) (Nat.add_assoc _ _ _))⟩); have p254 : 0 ≤ (0 : Int) := (by omega); have q254 : 0 < (t248.length : Int) := of_decide_eq_true (by first | (with_reducible assumption) | assumption); obtain ⟨ad254, e254, hx254_0⟩ := Kd.at_int (Kd.R_reads' HO252.out).2.2 0 p254 q254; cases e254; have qi254 : (0 < t248.length) = True := eq_true (by omega); (try rw [show ((0 : Int)).toNat = 0 from rfl] at hx254_0); (try rw [Addr.add_zero'] at hx254_0); replace p254 := eq_true p254; replace q254 := eq_true q254))
                          repeat (go_quiet (first | (go_at_call 14; (with_reducible refine (tidemarklaw12_falls.calls k1 _ _ t246 true _ ?side1 ?side2 A13.out).mono ?_); (case side1 => repeat (first | exact (Kd.R_reads' HO250.out).2.2 | (with_reducible refine Kd.C_alloc ?_ _) | (with_reducible refine Kd.C_drewN ?_ _) | (with_reducible refine Kd.C_drew ?_))); (case side2 => exact (Kd.R_reads' HO250.out).2.1); rintro e w' ⟨rfl, ⟨nd, rfl⟩⟩; (try first | exact ⟨rfl, _, World.drewN_drewN _ _ _⟩ | exact ⟨rfl, _, Eq.trans (World.drewN_drewN _ _ _) (congrArg (World.drewN _) (Nat.add_assoc _ _ _))⟩); have p254 : 0 ≤ (0 : Int) := (by omega); have q254 : 0 < (t248.length : Int) := of_decide_eq_true (by first | (with_reducible assumption) | assumption); obtain ⟨ad254, e254, hx254_0⟩ := Kd.at_int (Kd.R_reads' HO252.out).2.2 0 p254 q254; cases e254; have qi254 : (0 < t248.length) = True := eq_true (by omega); (try rw [show ((0 : Int)).toNat = 0 from rfl] at hx254_0); (try rw [Addr.add_zero'] at hx254_0); replace p254 := eq_true p254; replace q254 := eq_true q254)); try go_wp2_with (first | (go_at_call 14; (with_reducible refine (tidemarklaw12_falls.calls k1 _ _ t246 true _ ?side1 ?side2 A13.out).mono ?_); (case side1 => repeat (first | exact (Kd.R_reads' HO250.out).2.2 | (with_reducible refine Kd.C_alloc ?_ _) | (with_reducible refine Kd.C_drewN ?_ _) | (with_reducible refine Kd.C_drew ?_))); (case side2 => exact (Kd.R_reads' HO250.out).2.1); rintro e w' ⟨rfl, ⟨nd, rfl⟩⟩; (try first | exact ⟨rfl, _, World.drewN_drewN _ _ _⟩ | exact ⟨rfl, _, Eq.trans (World.drewN_drewN _ _ _) (congrArg (World.drewN _) (Nat.add_assoc _ _ _))⟩); have p254 : 0 ≤ (0 : Int) := (by omega); have q254 : 0 < (t248.length : Int) := of_decide_eq_true (by first | (with_reducible assumption) | assumption); obtain ⟨ad254, e254, hx254_0⟩ := Kd.at_int (Kd.R_reads' HO252.out).2.2 0 p254 q254; cases e254; have qi254 : (0 < t248.length) = True := eq_true (by omega); (try rw [show ((0 : Int)).toNat = 0 from rfl] at hx254_0); (try rw [Addr.add_zero'] at hx254_0); replace p254 := eq_true p254; replace q254 := eq_true q254)))
                          go_meet
                          case rel => exact ⟨_, (((rd t248 0) != a2)), (by first | rfl | (simp; done) | (simp [*]; done)), H', ⟨by have := HK1.out; first | omega | exact Nat.le_refl _⟩, ⟨by (with_reducible repeat (first | apply Kd.R_alloc | apply Kd.R_drewN | apply Kd.R_drew)); exact HO250.out⟩, ⟨by (with_reducible repeat (first | apply Kd.R_alloc | apply Kd.R_drewN | apply Kd.R_drew)); exact HO252.out⟩, ⟨by repeat (first | (with_reducible first | exact HB.out | apply below_alloc | apply pw_below_drewN | apply below_drew1) | exact HB.out)⟩⟩
                        · rw [if_neg c29] at H
                          exact absurd H (by simp)
                    · rw [if_neg c25] at H
                      have c25b0 : decide (0 < a2) = false := decide_eq_false c25
                      clear c25
                      have H' := Aside0.mk H
                      clear H
                      obtain ⟨Ao32, co32, eo32⟩ := Kd.R_slice HO252.out
                      subst eo32
                      obtain ⟨Ao33, co33, eo33⟩ := Kd.R_slice HO250.out
                      subst eo33
                      go_wp2_with (first | (go_at_call 14; (with_reducible refine (tidemarklaw12_falls.calls k1 _ _ t246 true _ ?side1 ?side2 A13.out).mono ?_); (case side1 => repeat (first | exact (Kd.R_reads' HO250.out).2.2 | (with_reducible refine Kd.C_alloc ?_ _) | (with_reducible refine Kd.C_drewN ?_ _) | (with_reducible refine Kd.C_drew ?_))); (case side2 => exact (Kd.R_reads' HO250.out).2.1); rintro e w' ⟨rfl, ⟨nd, rfl⟩⟩; (try first | exact ⟨rfl, _, World.drewN_drewN _ _ _⟩ | exact ⟨rfl, _, Eq.trans (World.drewN_drewN _ _ _) (congrArg (World.drewN _) (Nat.add_assoc _ _ _))⟩)))
                      repeat (go_quiet (first | (go_at_call 14; (with_reducible refine (tidemarklaw12_falls.calls k1 _ _ t246 true _ ?side1 ?side2 A13.out).mono ?_); (case side1 => repeat (first | exact (Kd.R_reads' HO250.out).2.2 | (with_reducible refine Kd.C_alloc ?_ _) | (with_reducible refine Kd.C_drewN ?_ _) | (with_reducible refine Kd.C_drew ?_))); (case side2 => exact (Kd.R_reads' HO250.out).2.1); rintro e w' ⟨rfl, ⟨nd, rfl⟩⟩; (try first | exact ⟨rfl, _, World.drewN_drewN _ _ _⟩ | exact ⟨rfl, _, Eq.trans (World.drewN_drewN _ _ _) (congrArg (World.drewN _) (Nat.add_assoc _ _ _))⟩))); try go_wp2_with (first | (go_at_call 14; (with_reducible refine (tidemarklaw12_falls.calls k1 _ _ t246 true _ ?side1 ?side2 A13.out).mono ?_); (case side1 => repeat (first | exact (Kd.R_reads' HO250.out).2.2 | (with_reducible refine Kd.C_alloc ?_ _) | (with_reducible refine Kd.C_drewN ?_ _) | (with_reducible refine Kd.C_drew ?_))); (case side2 => exact (Kd.R_reads' HO250.out).2.1); rintro e w' ⟨rfl, ⟨nd, rfl⟩⟩; (try first | exact ⟨rfl, _, World.drewN_drewN _ _ _⟩ | exact ⟨rfl, _, Eq.trans (World.drewN_drewN _ _ _) (congrArg (World.drewN _) (Nat.add_assoc _ _ _))⟩))))
                      go_meet
                      case rel => exact ⟨_, (false), (by first | rfl | (simp; done) | (simp [*]; done)), H', ⟨by have := HK1.out; first | omega | exact Nat.le_refl _⟩, ⟨by (with_reducible repeat (first | apply Kd.R_alloc | apply Kd.R_drewN | apply Kd.R_drew)); exact HO250.out⟩, ⟨by (with_reducible repeat (first | apply Kd.R_alloc | apply Kd.R_drewN | apply Kd.R_drew)); exact HO252.out⟩, ⟨by repeat (first | (with_reducible first | exact HB.out | apply below_alloc | apply pw_below_drewN | apply below_drew1) | exact HB.out)⟩⟩
                · rw [if_neg c15] at H
                  have c15b0 : (t247 == 0) = false := beq_eq_false_iff_ne.mpr c15
                  have c15b1 : (t247 != 0) = true := bne_iff_ne.mpr c15
                  by_cases c34 : (t246.length : Int) = 0
                  · rw [if_pos c34] at H
                    have c34b0 : ((t246.length : Int) == 0) = true := beq_iff_eq.mpr c34
                    have c34b1 : ((t246.length : Int) != 0) = false := bne_eq_false_iff_eq.mpr c34
                    clear c34
                    by_cases c35 : a2 ≤ 0
                    · rw [if_pos c35] at H
                      have c35b0 : decide (a2 ≤ 0) = true := decide_eq_true c35
                      clear c35
                      by_cases c36 : (t248.length : Int) = 0
                      · rw [if_pos c36] at H
                        have c36b0 : ((t248.length : Int) == 0) = true := beq_iff_eq.mpr c36
                        have c36b1 : ((t248.length : Int) != 0) = false := bne_eq_false_iff_eq.mpr c36
                        clear c36
                        by_cases c37 : a2 > 0
                        · rw [if_pos c37] at H
                          have c37b0 : decide (0 < a2) = true := decide_eq_true c37
                          clear c37
                          have H' := Aside0.mk H
                          clear H
                          obtain ⟨Ao38, co38, eo38⟩ := Kd.R_slice HO252.out
                          subst eo38
                          obtain ⟨Ao39, co39, eo39⟩ := Kd.R_slice HO250.out
                          subst eo39
                          go_wp2_with (first | (go_at_call 14; (with_reducible refine (tidemarklaw12_falls.calls k1 _ _ t246 true _ ?side1 ?side2 A13.out).mono ?_); (case side1 => repeat (first | exact (Kd.R_reads' HO250.out).2.2 | (with_reducible refine Kd.C_alloc ?_ _) | (with_reducible refine Kd.C_drewN ?_ _) | (with_reducible refine Kd.C_drew ?_))); (case side2 => exact (Kd.R_reads' HO250.out).2.1); rintro e w' ⟨rfl, ⟨nd, rfl⟩⟩; (try first | exact ⟨rfl, _, World.drewN_drewN _ _ _⟩ | exact ⟨rfl, _, Eq.trans (World.drewN_drewN _ _ _) (congrArg (World.drewN _) (Nat.add_assoc _ _ _))⟩)))
                          repeat (go_quiet (first | (go_at_call 14; (with_reducible refine (tidemarklaw12_falls.calls k1 _ _ t246 true _ ?side1 ?side2 A13.out).mono ?_); (case side1 => repeat (first | exact (Kd.R_reads' HO250.out).2.2 | (with_reducible refine Kd.C_alloc ?_ _) | (with_reducible refine Kd.C_drewN ?_ _) | (with_reducible refine Kd.C_drew ?_))); (case side2 => exact (Kd.R_reads' HO250.out).2.1); rintro e w' ⟨rfl, ⟨nd, rfl⟩⟩; (try first | exact ⟨rfl, _, World.drewN_drewN _ _ _⟩ | exact ⟨rfl, _, Eq.trans (World.drewN_drewN _ _ _) (congrArg (World.drewN _) (Nat.add_assoc _ _ _))⟩))); try go_wp2_with (first | (go_at_call 14; (with_reducible refine (tidemarklaw12_falls.calls k1 _ _ t246 true _ ?side1 ?side2 A13.out).mono ?_); (case side1 => repeat (first | exact (Kd.R_reads' HO250.out).2.2 | (with_reducible refine Kd.C_alloc ?_ _) | (with_reducible refine Kd.C_drewN ?_ _) | (with_reducible refine Kd.C_drew ?_))); (case side2 => exact (Kd.R_reads' HO250.out).2.1); rintro e w' ⟨rfl, ⟨nd, rfl⟩⟩; (try first | exact ⟨rfl, _, World.drewN_drewN _ _ _⟩ | exact ⟨rfl, _, Eq.trans (World.drewN_drewN _ _ _) (congrArg (World.drewN _) (Nat.add_assoc _ _ _))⟩))))
                          go_meet
                          case rel => exact ⟨_, (true), (by first | rfl | (simp; done) | (simp [*]; done)), H', ⟨by have := HK1.out; first | omega | exact Nat.le_refl _⟩, ⟨by (with_reducible repeat (first | apply Kd.R_alloc | apply Kd.R_drewN | apply Kd.R_drew)); exact HO250.out⟩, ⟨by (with_reducible repeat (first | apply Kd.R_alloc | apply Kd.R_drewN | apply Kd.R_drew)); exact HO252.out⟩, ⟨by repeat (first | (with_reducible first | exact HB.out | apply below_alloc | apply pw_below_drewN | apply below_drew1) | exact HB.out)⟩⟩
                        · rw [if_neg c37] at H
                          have c37b0 : decide (0 < a2) = false := decide_eq_false c37
                          clear c37
                          have H' := Aside0.mk H
                          clear H
                          obtain ⟨Ao40, co40, eo40⟩ := Kd.R_slice HO252.out
                          subst eo40
                          obtain ⟨Ao41, co41, eo41⟩ := Kd.R_slice HO250.out
                          subst eo41
                          go_wp2_with (first | (go_at_call 14; (with_reducible refine (tidemarklaw12_falls.calls k1 _ _ t246 true _ ?side1 ?side2 A13.out).mono ?_); (case side1 => repeat (first | exact (Kd.R_reads' HO250.out).2.2 | (with_reducible refine Kd.C_alloc ?_ _) | (with_reducible refine Kd.C_drewN ?_ _) | (with_reducible refine Kd.C_drew ?_))); (case side2 => exact (Kd.R_reads' HO250.out).2.1); rintro e w' ⟨rfl, ⟨nd, rfl⟩⟩; (try first | exact ⟨rfl, _, World.drewN_drewN _ _ _⟩ | exact ⟨rfl, _, Eq.trans (World.drewN_drewN _ _ _) (congrArg (World.drewN _) (Nat.add_assoc _ _ _))⟩)))
                          repeat (go_quiet (first | (go_at_call 14; (with_reducible refine (tidemarklaw12_falls.calls k1 _ _ t246 true _ ?side1 ?side2 A13.out).mono ?_); (case side1 => repeat (first | exact (Kd.R_reads' HO250.out).2.2 | (with_reducible refine Kd.C_alloc ?_ _) | (with_reducible refine Kd.C_drewN ?_ _) | (with_reducible refine Kd.C_drew ?_))); (case side2 => exact (Kd.R_reads' HO250.out).2.1); rintro e w' ⟨rfl, ⟨nd, rfl⟩⟩; (try first | exact ⟨rfl, _, World.drewN_drewN _ _ _⟩ | exact ⟨rfl, _, Eq.trans (World.drewN_drewN _ _ _) (congrArg (World.drewN _) (Nat.add_assoc _ _ _))⟩))); try go_wp2_with (first | (go_at_call 14; (with_reducible refine (tidemarklaw12_falls.calls k1 _ _ t246 true _ ?side1 ?side2 A13.out).mono ?_); (case side1 => repeat (first | exact (Kd.R_reads' HO250.out).2.2 | (with_reducible refine Kd.C_alloc ?_ _) | (with_reducible refine Kd.C_drewN ?_ _) | (with_reducible refine Kd.C_drew ?_))); (case side2 => exact (Kd.R_reads' HO250.out).2.1); rintro e w' ⟨rfl, ⟨nd, rfl⟩⟩; (try first | exact ⟨rfl, _, World.drewN_drewN _ _ _⟩ | exact ⟨rfl, _, Eq.trans (World.drewN_drewN _ _ _) (congrArg (World.drewN _) (Nat.add_assoc _ _ _))⟩))))
                          go_meet
                          case rel => exact ⟨_, (false), (by first | rfl | (simp; done) | (simp [*]; done)), H', ⟨by have := HK1.out; first | omega | exact Nat.le_refl _⟩, ⟨by (with_reducible repeat (first | apply Kd.R_alloc | apply Kd.R_drewN | apply Kd.R_drew)); exact HO250.out⟩, ⟨by (with_reducible repeat (first | apply Kd.R_alloc | apply Kd.R_drewN | apply Kd.R_drew)); exact HO252.out⟩, ⟨by repeat (first | (with_reducible first | exact HB.out | apply below_alloc | apply pw_below_drewN | apply below_drew1) | exact HB.out)⟩⟩
                      · rw [if_neg c36] at H
                        have c36b0 : ((t248.length : Int) == 0) = false := beq_eq_false_iff_ne.mpr c36
                        have c36b1 : ((t248.length : Int) != 0) = true := bne_iff_ne.mpr c36
                        have c36b2 : ¬ (t248 = []) := fun h_ => c36 (by rw [h_]; rfl)
                        have H' := Aside0.mk H
                        clear H
                        obtain ⟨Ao42, co42, eo42⟩ := Kd.R_slice HO252.out
                        subst eo42
                        obtain ⟨Ao43, co43, eo43⟩ := Kd.R_slice HO250.out
                        subst eo43
                        go_wp2_with (first | (go_at_call 14; (with_reducible refine (tidemarklaw12_falls.calls k1 _ _ t246 true _ ?side1 ?side2 A13.out).mono ?_); (case side1 => repeat (first | exact (Kd.R_reads' HO250.out).2.2 | (with_reducible refine Kd.C_alloc ?_ _) | (with_reducible refine Kd.C_drewN ?_ _) | (with_reducible refine Kd.C_drew ?_))); (case side2 => exact (Kd.R_reads' HO250.out).2.1); rintro e w' ⟨rfl, ⟨nd, rfl⟩⟩; (try first | exact ⟨rfl, _, World.drewN_drewN _ _ _⟩ | exact ⟨rfl, _, Eq.trans (World.drewN_drewN _ _ _) (congrArg (World.drewN _) (Nat.add_assoc _ _ _))⟩)))
                        repeat (go_quiet (first | (go_at_call 14; (with_reducible refine (tidemarklaw12_falls.calls k1 _ _ t246 true _ ?side1 ?side2 A13.out).mono ?_); (case side1 => repeat (first | exact (Kd.R_reads' HO250.out).2.2 | (with_reducible refine Kd.C_alloc ?_ _) | (with_reducible refine Kd.C_drewN ?_ _) | (with_reducible refine Kd.C_drew ?_))); (case side2 => exact (Kd.R_reads' HO250.out).2.1); rintro e w' ⟨rfl, ⟨nd, rfl⟩⟩; (try first | exact ⟨rfl, _, World.drewN_drewN _ _ _⟩ | exact ⟨rfl, _, Eq.trans (World.drewN_drewN _ _ _) (congrArg (World.drewN _) (Nat.add_assoc _ _ _))⟩))); try go_wp2_with (first | (go_at_call 14; (with_reducible refine (tidemarklaw12_falls.calls k1 _ _ t246 true _ ?side1 ?side2 A13.out).mono ?_); (case side1 => repeat (first | exact (Kd.R_reads' HO250.out).2.2 | (with_reducible refine Kd.C_alloc ?_ _) | (with_reducible refine Kd.C_drewN ?_ _) | (with_reducible refine Kd.C_drew ?_))); (case side2 => exact (Kd.R_reads' HO250.out).2.1); rintro e w' ⟨rfl, ⟨nd, rfl⟩⟩; (try first | exact ⟨rfl, _, World.drewN_drewN _ _ _⟩ | exact ⟨rfl, _, Eq.trans (World.drewN_drewN _ _ _) (congrArg (World.drewN _) (Nat.add_assoc _ _ _))⟩))))
                        go_meet
                        case rel => exact ⟨_, (true), (by first | rfl | (simp; done) | (simp [*]; done)), H', ⟨by have := HK1.out; first | omega | exact Nat.le_refl _⟩, ⟨by (with_reducible repeat (first | apply Kd.R_alloc | apply Kd.R_drewN | apply Kd.R_drew)); exact HO250.out⟩, ⟨by (with_reducible repeat (first | apply Kd.R_alloc | apply Kd.R_drewN | apply Kd.R_drew)); exact HO252.out⟩, ⟨by repeat (first | (with_reducible first | exact HB.out | apply below_alloc | apply pw_below_drewN | apply below_drew1) | exact HB.out)⟩⟩
                    · rw [if_neg c35] at H
                      have c35b0 : decide (a2 ≤ 0) = false := decide_eq_false c35
                      clear c35
                      by_cases c44 : a2 > 0
                      · rw [if_pos c44] at H
                        have c44b0 : decide (0 < a2) = true := decide_eq_true c44
                        clear c44
                        by_cases c45 : (t248.length : Int) = 0
                        · rw [if_pos c45] at H
                          have c45b0 : ((t248.length : Int) == 0) = true := beq_iff_eq.mpr c45
                          have c45b1 : ((t248.length : Int) != 0) = false := bne_eq_false_iff_eq.mpr c45
                          clear c45
                          have H' := Aside0.mk H
                          clear H
                          obtain ⟨Ao46, co46, eo46⟩ := Kd.R_slice HO252.out
                          subst eo46
                          obtain ⟨Ao47, co47, eo47⟩ := Kd.R_slice HO250.out
                          subst eo47
                          go_wp2_with (first | (go_at_call 14; (with_reducible refine (tidemarklaw12_falls.calls k1 _ _ t246 true _ ?side1 ?side2 A13.out).mono ?_); (case side1 => repeat (first | exact (Kd.R_reads' HO250.out).2.2 | (with_reducible refine Kd.C_alloc ?_ _) | (with_reducible refine Kd.C_drewN ?_ _) | (with_reducible refine Kd.C_drew ?_))); (case side2 => exact (Kd.R_reads' HO250.out).2.1); rintro e w' ⟨rfl, ⟨nd, rfl⟩⟩; (try first | exact ⟨rfl, _, World.drewN_drewN _ _ _⟩ | exact ⟨rfl, _, Eq.trans (World.drewN_drewN _ _ _) (congrArg (World.drewN _) (Nat.add_assoc _ _ _))⟩)))
                          repeat (go_quiet (first | (go_at_call 14; (with_reducible refine (tidemarklaw12_falls.calls k1 _ _ t246 true _ ?side1 ?side2 A13.out).mono ?_); (case side1 => repeat (first | exact (Kd.R_reads' HO250.out).2.2 | (with_reducible refine Kd.C_alloc ?_ _) | (with_reducible refine Kd.C_drewN ?_ _) | (with_reducible refine Kd.C_drew ?_))); (case side2 => exact (Kd.R_reads' HO250.out).2.1); rintro e w' ⟨rfl, ⟨nd, rfl⟩⟩; (try first | exact ⟨rfl, _, World.drewN_drewN _ _ _⟩ | exact ⟨rfl, _, Eq.trans (World.drewN_drewN _ _ _) (congrArg (World.drewN _) (Nat.add_assoc _ _ _))⟩))); try go_wp2_with (first | (go_at_call 14; (with_reducible refine (tidemarklaw12_falls.calls k1 _ _ t246 true _ ?side1 ?side2 A13.out).mono ?_); (case side1 => repeat (first | exact (Kd.R_reads' HO250.out).2.2 | (with_reducible refine Kd.C_alloc ?_ _) | (with_reducible refine Kd.C_drewN ?_ _) | (with_reducible refine Kd.C_drew ?_))); (case side2 => exact (Kd.R_reads' HO250.out).2.1); rintro e w' ⟨rfl, ⟨nd, rfl⟩⟩; (try first | exact ⟨rfl, _, World.drewN_drewN _ _ _⟩ | exact ⟨rfl, _, Eq.trans (World.drewN_drewN _ _ _) (congrArg (World.drewN _) (Nat.add_assoc _ _ _))⟩))))
                          go_meet
                          case rel => exact ⟨_, (true), (by first | rfl | (simp; done) | (simp [*]; done)), H', ⟨by have := HK1.out; first | omega | exact Nat.le_refl _⟩, ⟨by (with_reducible repeat (first | apply Kd.R_alloc | apply Kd.R_drewN | apply Kd.R_drew)); exact HO250.out⟩, ⟨by (with_reducible repeat (first | apply Kd.R_alloc | apply Kd.R_drewN | apply Kd.R_drew)); exact HO252.out⟩, ⟨by repeat (first | (with_reducible first | exact HB.out | apply below_alloc | apply pw_below_drewN | apply below_drew1) | exact HB.out)⟩⟩
                        · rw [if_neg c45] at H
                          have c45b0 : ((t248.length : Int) == 0) = false := beq_eq_false_iff_ne.mpr c45
                          have c45b1 : ((t248.length : Int) != 0) = true := bne_iff_ne.mpr c45
                          have c45b2 : ¬ (t248 = []) := fun h_ => c45 (by rw [h_]; rfl)
                          by_cases c48 : 0 < (t248.length : Int)
                          · rw [if_pos c48] at H
                            have c48b0 : decide (0 < (t248.length : Int)) = true := decide_eq_true c48
                            have c48b1 : decide (0 < t248.length) = true := decide_eq_true (by omega)
                            clear c48
                            have H' := Aside0.mk H
                            clear H
                            obtain ⟨Ao49, co49, eo49⟩ := Kd.R_slice HO252.out
                            subst eo49
                            obtain ⟨Ao50, co50, eo50⟩ := Kd.R_slice HO250.out
                            subst eo50
                            go_wp2_with (first | (go_at_call 14; (with_reducible refine (tidemarklaw12_falls.calls k1 _ _ t246 true _ ?side1 ?side2 A13.out).mono ?_); (case side1 => repeat (first | exact (Kd.R_reads' HO250.out).2.2 | (with_reducible refine Kd.C_alloc ?_ _) | (with_reducible refine Kd.C_drewN ?_ _) | (with_reducible refine Kd.C_drew ?_))); (case side2 => exact (Kd.R_reads' HO250.out).2.1); rintro e w' ⟨rfl, ⟨nd, rfl⟩⟩; (try first | exact ⟨rfl, _, World.drewN_drewN _ _ _⟩ | exact ⟨rfl, _, Eq.trans (World.drewN_drewN _ _ _) (congrArg (World.drewN _) (Nat.add_assoc _ _ _))⟩); have p255 : 0 ≤ (0 : Int) := (by omega); have q255 : 0 < (t248.length : Int) := of_decide_eq_true (by first | (with_reducible assumption) | assumption); obtain ⟨ad255, e255, hx255_0⟩ := Kd.at_int (Kd.R_reads' HO252.out).2.2 0 p255 q255; cases e255; have qi255 : (0 < t248.length) = True := eq_true (by omega); (try rw [show ((0 : Int)).toNat = 0 from rfl] at hx255_0); (try rw [Addr.add_zero'] at hx255_0); replace p255 := eq_true p255; replace q255 := eq_true q255))
                            repeat (go_quiet (first | (go_at_call 14; (with_reducible refine (tidemarklaw12_falls.calls k1 _ _ t246 true _ ?side1 ?side2 A13.out).mono ?_); (case side1 => repeat (first | exact (Kd.R_reads' HO250.out).2.2 | (with_reducible refine Kd.C_alloc ?_ _) | (with_reducible refine Kd.C_drewN ?_ _) | (with_reducible refine Kd.C_drew ?_))); (case side2 => exact (Kd.R_reads' HO250.out).2.1); rintro e w' ⟨rfl, ⟨nd, rfl⟩⟩; (try first | exact ⟨rfl, _, World.drewN_drewN _ _ _⟩ | exact ⟨rfl, _, Eq.trans (World.drewN_drewN _ _ _) (congrArg (World.drewN _) (Nat.add_assoc _ _ _))⟩); have p255 : 0 ≤ (0 : Int) := (by omega); have q255 : 0 < (t248.length : Int) := of_decide_eq_true (by first | (with_reducible assumption) | assumption); obtain ⟨ad255, e255, hx255_0⟩ := Kd.at_int (Kd.R_reads' HO252.out).2.2 0 p255 q255; cases e255; have qi255 : (0 < t248.length) = True := eq_true (by omega); (try rw [show ((0 : Int)).toNat = 0 from rfl] at hx255_0); (try rw [Addr.add_zero'] at hx255_0); replace p255 := eq_true p255; replace q255 := eq_true q255)); try go_wp2_with (first | (go_at_call 14; (with_reducible refine (tidemarklaw12_falls.calls k1 _ _ t246 true _ ?side1 ?side2 A13.out).mono ?_); (case side1 => repeat (first | exact (Kd.R_reads' HO250.out).2.2 | (with_reducible refine Kd.C_alloc ?_ _) | (with_reducible refine Kd.C_drewN ?_ _) | (with_reducible refine Kd.C_drew ?_))); (case side2 => exact (Kd.R_reads' HO250.out).2.1); rintro e w' ⟨rfl, ⟨nd, rfl⟩⟩; (try first | exact ⟨rfl, _, World.drewN_drewN _ _ _⟩ | exact ⟨rfl, _, Eq.trans (World.drewN_drewN _ _ _) (congrArg (World.drewN _) (Nat.add_assoc _ _ _))⟩); have p255 : 0 ≤ (0 : Int) := (by omega); have q255 : 0 < (t248.length : Int) := of_decide_eq_true (by first | (with_reducible assumption) | assumption); obtain ⟨ad255, e255, hx255_0⟩ := Kd.at_int (Kd.R_reads' HO252.out).2.2 0 p255 q255; cases e255; have qi255 : (0 < t248.length) = True := eq_true (by omega); (try rw [show ((0 : Int)).toNat = 0 from rfl] at hx255_0); (try rw [Addr.add_zero'] at hx255_0); replace p255 := eq_true p255; replace q255 := eq_true q255)))
                            go_meet
                            case rel => exact ⟨_, (((rd t248 0) != a2)), (by first | rfl | (simp; done) | (simp [*]; done)), H', ⟨by have := HK1.out; first | omega | exact Nat.le_refl _⟩, ⟨by (with_reducible repeat (first | apply Kd.R_alloc | apply Kd.R_drewN | apply Kd.R_drew)); exact HO250.out⟩, ⟨by (with_reducible repeat (first | apply Kd.R_alloc | apply Kd.R_drewN | apply Kd.R_drew)); exact HO252.out⟩, ⟨by repeat (first | (with_reducible first | exact HB.out | apply below_alloc | apply pw_below_drewN | apply below_drew1) | exact HB.out)⟩⟩
                          · rw [if_neg c48] at H
                            exact absurd H (by simp)
                      · rw [if_neg c44] at H
                        have c44b0 : decide (0 < a2) = false := decide_eq_false c44
                        clear c44
                        have H' := Aside0.mk H
                        clear H
                        obtain ⟨Ao51, co51, eo51⟩ := Kd.R_slice HO252.out
                        subst eo51
                        obtain ⟨Ao52, co52, eo52⟩ := Kd.R_slice HO250.out
                        subst eo52
                        go_wp2_with (first | (go_at_call 14; (with_reducible refine (tidemarklaw12_falls.calls k1 _ _ t246 true _ ?side1 ?side2 A13.out).mono ?_); (case side1 => repeat (first | exact (Kd.R_reads' HO250.out).2.2 | (with_reducible refine Kd.C_alloc ?_ _) | (with_reducible refine Kd.C_drewN ?_ _) | (with_reducible refine Kd.C_drew ?_))); (case side2 => exact (Kd.R_reads' HO250.out).2.1); rintro e w' ⟨rfl, ⟨nd, rfl⟩⟩; (try first | exact ⟨rfl, _, World.drewN_drewN _ _ _⟩ | exact ⟨rfl, _, Eq.trans (World.drewN_drewN _ _ _) (congrArg (World.drewN _) (Nat.add_assoc _ _ _))⟩)))
                        repeat (go_quiet (first | (go_at_call 14; (with_reducible refine (tidemarklaw12_falls.calls k1 _ _ t246 true _ ?side1 ?side2 A13.out).mono ?_); (case side1 => repeat (first | exact (Kd.R_reads' HO250.out).2.2 | (with_reducible refine Kd.C_alloc ?_ _) | (with_reducible refine Kd.C_drewN ?_ _) | (with_reducible refine Kd.C_drew ?_))); (case side2 => exact (Kd.R_reads' HO250.out).2.1); rintro e w' ⟨rfl, ⟨nd, rfl⟩⟩; (try first | exact ⟨rfl, _, World.drewN_drewN _ _ _⟩ | exact ⟨rfl, _, Eq.trans (World.drewN_drewN _ _ _) (congrArg (World.drewN _) (Nat.add_assoc _ _ _))⟩))); try go_wp2_with (first | (go_at_call 14; (with_reducible refine (tidemarklaw12_falls.calls k1 _ _ t246 true _ ?side1 ?side2 A13.out).mono ?_); (case side1 => repeat (first | exact (Kd.R_reads' HO250.out).2.2 | (with_reducible refine Kd.C_alloc ?_ _) | (with_reducible refine Kd.C_drewN ?_ _) | (with_reducible refine Kd.C_drew ?_))); (case side2 => exact (Kd.R_reads' HO250.out).2.1); rintro e w' ⟨rfl, ⟨nd, rfl⟩⟩; (try first | exact ⟨rfl, _, World.drewN_drewN _ _ _⟩ | exact ⟨rfl, _, Eq.trans (World.drewN_drewN _ _ _) (congrArg (World.drewN _) (Nat.add_assoc _ _ _))⟩))))
                        go_meet
                        case rel => exact ⟨_, (false), (by first | rfl | (simp; done) | (simp [*]; done)), H', ⟨by have := HK1.out; first | omega | exact Nat.le_refl _⟩, ⟨by (with_reducible repeat (first | apply Kd.R_alloc | apply Kd.R_drewN | apply Kd.R_drew)); exact HO250.out⟩, ⟨by (with_reducible repeat (first | apply Kd.R_alloc | apply Kd.R_drewN | apply Kd.R_drew)); exact HO252.out⟩, ⟨by repeat (first | (with_reducible first | exact HB.out | apply below_alloc | apply pw_below_drewN | apply below_drew1) | exact HB.out)⟩⟩
                  · rw [if_neg c34] at H
                    have c34b0 : ((t246.length : Int) == 0) = false := beq_eq_false_iff_ne.mpr c34
                    have c34b1 : ((t246.length : Int) != 0) = true := bne_iff_ne.mpr c34
                    have c34b2 : ¬ (t246 = []) := fun h_ => c34 (by rw [h_]; rfl)
                    have H' := Aside0.mk H
                    clear H
                    obtain ⟨Ao53, co53, eo53⟩ := Kd.R_slice HO252.out
                    subst eo53
                    obtain ⟨Ao54, co54, eo54⟩ := Kd.R_slice HO250.out
                    subst eo54
                    go_wp2_with (first | (go_at_call 14; (with_reducible refine (tidemarklaw12_falls.calls k1 _ _ t246 true _ ?side1 ?side2 A13.out).mono ?_); (case side1 => repeat (first | exact (Kd.R_reads' HO250.out).2.2 | (with_reducible refine Kd.C_alloc ?_ _) | (with_reducible refine Kd.C_drewN ?_ _) | (with_reducible refine Kd.C_drew ?_))); (case side2 => exact (Kd.R_reads' HO250.out).2.1); rintro e w' ⟨rfl, ⟨nd, rfl⟩⟩; (try first | exact ⟨rfl, _, World.drewN_drewN _ _ _⟩ | exact ⟨rfl, _, Eq.trans (World.drewN_drewN _ _ _) (congrArg (World.drewN _) (Nat.add_assoc _ _ _))⟩)))
                    repeat (go_quiet (first | (go_at_call 14; (with_reducible refine (tidemarklaw12_falls.calls k1 _ _ t246 true _ ?side1 ?side2 A13.out).mono ?_); (case side1 => repeat (first | exact (Kd.R_reads' HO250.out).2.2 | (with_reducible refine Kd.C_alloc ?_ _) | (with_reducible refine Kd.C_drewN ?_ _) | (with_reducible refine Kd.C_drew ?_))); (case side2 => exact (Kd.R_reads' HO250.out).2.1); rintro e w' ⟨rfl, ⟨nd, rfl⟩⟩; (try first | exact ⟨rfl, _, World.drewN_drewN _ _ _⟩ | exact ⟨rfl, _, Eq.trans (World.drewN_drewN _ _ _) (congrArg (World.drewN _) (Nat.add_assoc _ _ _))⟩))); try go_wp2_with (first | (go_at_call 14; (with_reducible refine (tidemarklaw12_falls.calls k1 _ _ t246 true _ ?side1 ?side2 A13.out).mono ?_); (case side1 => repeat (first | exact (Kd.R_reads' HO250.out).2.2 | (with_reducible refine Kd.C_alloc ?_ _) | (with_reducible refine Kd.C_drewN ?_ _) | (with_reducible refine Kd.C_drew ?_))); (case side2 => exact (Kd.R_reads' HO250.out).2.1); rintro e w' ⟨rfl, ⟨nd, rfl⟩⟩; (try first | exact ⟨rfl, _, World.drewN_drewN _ _ _⟩ | exact ⟨rfl, _, Eq.trans (World.drewN_drewN _ _ _) (congrArg (World.drewN _) (Nat.add_assoc _ _ _))⟩))))
                    go_meet
                    case rel => exact ⟨_, (true), (by first | rfl | (simp; done) | (simp [*]; done)), H', ⟨by have := HK1.out; first | omega | exact Nat.le_refl _⟩, ⟨by (with_reducible repeat (first | apply Kd.R_alloc | apply Kd.R_drewN | apply Kd.R_drew)); exact HO250.out⟩, ⟨by (with_reducible repeat (first | apply Kd.R_alloc | apply Kd.R_drewN | apply Kd.R_drew)); exact HO252.out⟩, ⟨by repeat (first | (with_reducible first | exact HB.out | apply below_alloc | apply pw_below_drewN | apply below_drew1) | exact HB.out)⟩⟩
              · replace c14 := Bool.eq_false_iff.mpr c14
                subst c14
                have H1 : (tidemarklaw12_ChainEnds.j1 k1 l0 a1 a2 x7_1 t246 t247 t248 true) = some r := by rw [if_neg (show ¬ (false = true) by decide)] at H; exact H
                clear H
                have H := H1
                clear H1
                have H' := Aside0.mk H
                clear H
                obtain ⟨Ao55, co55, eo55⟩ := Kd.R_slice HO252.out
                subst eo55
                obtain ⟨Ao56, co56, eo56⟩ := Kd.R_slice HO250.out
                subst eo56
                go_wp2_with (first | (go_at_call 14; (with_reducible refine (tidemarklaw12_falls.calls k1 _ _ t246 false _ ?side1 ?side2 A13.out).mono ?_); (case side1 => repeat (first | exact (Kd.R_reads' HO250.out).2.2 | (with_reducible refine Kd.C_alloc ?_ _) | (with_reducible refine Kd.C_drewN ?_ _) | (with_reducible refine Kd.C_drew ?_))); (case side2 => exact (Kd.R_reads' HO250.out).2.1); rintro e w' ⟨rfl, ⟨nd, rfl⟩⟩; (try first | exact ⟨rfl, _, World.drewN_drewN _ _ _⟩ | exact ⟨rfl, _, Eq.trans (World.drewN_drewN _ _ _) (congrArg (World.drewN _) (Nat.add_assoc _ _ _))⟩)))
                repeat (go_quiet (first | (go_at_call 14; (with_reducible refine (tidemarklaw12_falls.calls k1 _ _ t246 false _ ?side1 ?side2 A13.out).mono ?_); (case side1 => repeat (first | exact (Kd.R_reads' HO250.out).2.2 | (with_reducible refine Kd.C_alloc ?_ _) | (with_reducible refine Kd.C_drewN ?_ _) | (with_reducible refine Kd.C_drew ?_))); (case side2 => exact (Kd.R_reads' HO250.out).2.1); rintro e w' ⟨rfl, ⟨nd, rfl⟩⟩; (try first | exact ⟨rfl, _, World.drewN_drewN _ _ _⟩ | exact ⟨rfl, _, Eq.trans (World.drewN_drewN _ _ _) (congrArg (World.drewN _) (Nat.add_assoc _ _ _))⟩))); try go_wp2_with (first | (go_at_call 14; (with_reducible refine (tidemarklaw12_falls.calls k1 _ _ t246 false _ ?side1 ?side2 A13.out).mono ?_); (case side1 => repeat (first | exact (Kd.R_reads' HO250.out).2.2 | (with_reducible refine Kd.C_alloc ?_ _) | (with_reducible refine Kd.C_drewN ?_ _) | (with_reducible refine Kd.C_drew ?_))); (case side2 => exact (Kd.R_reads' HO250.out).2.1); rintro e w' ⟨rfl, ⟨nd, rfl⟩⟩; (try first | exact ⟨rfl, _, World.drewN_drewN _ _ _⟩ | exact ⟨rfl, _, Eq.trans (World.drewN_drewN _ _ _) (congrArg (World.drewN _) (Nat.add_assoc _ _ _))⟩))))
                go_meet
                case rel => exact ⟨_, (true), (by first | rfl | (simp; done) | (simp [*]; done)), H', ⟨by have := HK1.out; first | omega | exact Nat.le_refl _⟩, ⟨by (with_reducible repeat (first | apply Kd.R_alloc | apply Kd.R_drewN | apply Kd.R_drew)); exact HO250.out⟩, ⟨by (with_reducible repeat (first | apply Kd.R_alloc | apply Kd.R_drewN | apply Kd.R_drew)); exact HO252.out⟩, ⟨by repeat (first | (with_reducible first | exact HB.out | apply below_alloc | apply pw_below_drewN | apply below_drew1) | exact HB.out)⟩⟩
          case rest =>
            clear HC9
            try clear c1
            try clear c2
            try clear p2
            try clear q2
            try clear hx2
            try clear qi2
            try clear c3
            try clear c4
            try clear c5
            try clear c6
            try clear c7
            try clear c7b0
            try clear c11
            try clear c11b0
            try clear c11b1
            try clear c14
            try clear c15
            try clear c15b0
            try clear c15b1
            try clear c16
            try clear c16b0
            try clear c17
            try clear c17b0
            try clear c17b1
            try clear c17b2
            try clear c18
            try clear c18b0
            try clear c25
            try clear c25b0
            try clear p25
            try clear q25
            try clear hx25
            try clear qi25
            try clear c26
            try clear c26b0
            try clear c26b1
            try clear c26b2
            try clear c29
            try clear c29b0
            try clear c29b1
            try clear c34
            try clear c34b0
            try clear c34b1
            try clear c34b2
            try clear c35
            try clear c35b0
            try clear c36
            try clear c36b0
            try clear c36b1
            try clear c36b2
            try clear c37
            try clear c37b0
            try clear c44
            try clear c44b0
            try clear c45
            try clear c45b0
            try clear c45b1
            try clear c45b2
            try clear c48
            try clear c48b0
            try clear c48b1
            try clear hx254_0
            try clear hx255_0
            try clear p2
            try clear p254
            try clear p255
            try clear q254
            try clear q255
            obtain ⟨kq, x70_8, rfl, HA, HJ8, HO_8, HO_10, HB⟩ := hcut
            cases kq with
            | zero => exact absurd HA.out (by simp [tidemarklaw12_ChainEnds.j1])
            | succ kj8 =>
              have H := HA.out
              clear HA
              simp only [tidemarklaw12_ChainEnds.j1] at H
              by_cases c57 : x70_8 = true
              · subst c57
                have H1 : (some false) = some r := by rw [if_pos rfl] at H; exact H
                clear H
                have H := H1
                clear H1
                exact absurd ((Option.some.inj H).trans HPR.out) (by decide)
              · replace c57 := Bool.eq_false_iff.mpr c57
                subst c57
                have H1 : ((tidemarklaw12_falls.f kj8 t248).bind fun t256 => (if t256 = true then (if a2 = 0 then (if t247 = 0 then (if (t246.length : Int) = 0 then (if a2 < 0 then (tidemarklaw12_ChainEnds.j2 kj8 l0 a1 a2 x7_1 t246 t248 (t247 != 120)) else (tidemarklaw12_ChainEnds.j2 kj8 l0 a1 a2 x7_1 t246 t248 false)) else (tidemarklaw12_ChainEnds.j2 kj8 l0 a1 a2 x7_1 t246 t248 true)) else (tidemarklaw12_ChainEnds.j2 kj8 l0 a1 a2 x7_1 t246 t248 true)) else (if a2 < 0 then (tidemarklaw12_ChainEnds.j2 kj8 l0 a1 a2 x7_1 t246 t248 (t247 != 120)) else (tidemarklaw12_ChainEnds.j2 kj8 l0 a1 a2 x7_1 t246 t248 false))) else (tidemarklaw12_ChainEnds.j2 kj8 l0 a1 a2 x7_1 t246 t248 true))) = some r := by rw [if_neg (show ¬ (false = true) by decide)] at H; exact H
                clear H
                have H := H1
                clear H1
                have HC58 := Aside0.mk H
                clear H
                go_upto_region 9 with (fail)
                repeat (go_quiet (fail); go_upto_region 9 with (fail))
                go_cut [94] (fun v94 wc => ∃ (kq : Nat) (x94_57 : Bool), v94 = .bool x94_57 ∧ Aside0 (tidemarklaw12_ChainEnds.j2 kq l0 a1 a2 x7_1 t246 t248 x94_57 = some r) ∧ Aside0 (kq ≤ kj8) ∧ Aside0 (Kd.R (Kd.int .i64) 3 wc w.heap.size (fun k_ => some k_ ≠ (v251 : Value).ownBlock) v249 t246) ∧ Aside0 (Kd.R (Kd.int .i64) 3 wc w.heap.size (fun k_ => some k_ ≠ (v249 : Value).ownBlock) v251 t248) ∧ Aside0 (Below w.heap.size w wc))
                case first =>
                  have H := HC58.out
                  clear HC58
                  replace H := Option.bind_eq_some_iff.mp H
                  obtain ⟨t256, A590, H⟩ := H
                  replace H : (if t256 = true then (if a2 = 0 then (if t247 = 0 then (if (t246.length : Int) = 0 then (if a2 < 0 then (tidemarklaw12_ChainEnds.j2 kj8 l0 a1 a2 x7_1 t246 t248 (t247 != 120)) else (tidemarklaw12_ChainEnds.j2 kj8 l0 a1 a2 x7_1 t246 t248 false)) else (tidemarklaw12_ChainEnds.j2 kj8 l0 a1 a2 x7_1 t246 t248 true)) else (tidemarklaw12_ChainEnds.j2 kj8 l0 a1 a2 x7_1 t246 t248 true)) else (if a2 < 0 then (tidemarklaw12_ChainEnds.j2 kj8 l0 a1 a2 x7_1 t246 t248 (t247 != 120)) else (tidemarklaw12_ChainEnds.j2 kj8 l0 a1 a2 x7_1 t246 t248 false))) else (tidemarklaw12_ChainEnds.j2 kj8 l0 a1 a2 x7_1 t246 t248 true)) = some r := H
                  have A59 := Aside0.mk A590
                  clear A590
                  by_cases c60 : t256 = true
                  · subst c60
                    have H1 : (if a2 = 0 then (if t247 = 0 then (if (t246.length : Int) = 0 then (if a2 < 0 then (tidemarklaw12_ChainEnds.j2 kj8 l0 a1 a2 x7_1 t246 t248 (t247 != 120)) else (tidemarklaw12_ChainEnds.j2 kj8 l0 a1 a2 x7_1 t246 t248 false)) else (tidemarklaw12_ChainEnds.j2 kj8 l0 a1 a2 x7_1 t246 t248 true)) else (tidemarklaw12_ChainEnds.j2 kj8 l0 a1 a2 x7_1 t246 t248 true)) else (if a2 < 0 then (tidemarklaw12_ChainEnds.j2 kj8 l0 a1 a2 x7_1 t246 t248 (t247 != 120)) else (tidemarklaw12_ChainEnds.j2 kj8 l0 a1 a2 x7_1 t246 t248 false))) = some r := by rw [if_pos rfl] at H; exact H
                    clear H
                    have H := H1
                    clear H1
                    by_cases c61 : a2 = 0
                    · rw [if_pos c61] at H
                      have c61b0 : (a2 == 0) = true := beq_iff_eq.mpr c61
                      have c61b1 : (a2 != 0) = false := bne_eq_false_iff_eq.mpr c61
                      clear c61
                      (first | rw [c61b0] | (simp only [i64_w, i32_w]; rw [c61b0]) | skip)
                      by_cases c62 : t247 = 0
                      · rw [if_pos c62] at H
                        have c62b0 : (t247 == 0) = true := beq_iff_eq.mpr c62
                        have c62b1 : (t247 != 0) = false := bne_eq_false_iff_eq.mpr c62
                        clear c62
                        by_cases c63 : (t246.length : Int) = 0
                        · rw [if_pos c63] at H
                          have c63b0 : ((t246.length : Int) == 0) = true := beq_iff_eq.mpr c63
                          have c63b1 : ((t246.length : Int) != 0) = false := bne_eq_false_iff_eq.mpr c63
                          clear c63
                          by_cases c64 : a2 < 0
                          · rw [if_pos c64] at H
                            have c64b0 : decide (a2 < 0) = true := decide_eq_true c64
                            clear c64
                            have H' := Aside0.mk H
                            clear H
                            obtain ⟨Ao65, co65, eo65⟩ := Kd.R_slice HO_10.out
                            subst eo65
                            go_wp2_with (first | (go_at_call 14; (with_reducible refine (tidemarklaw12_falls.calls kj8 _ _ t248 true _ ?side1 ?side2 A59.out).mono ?_); (case side1 => repeat (first | exact (Kd.R_reads' HO_10.out).2.2 | (with_reducible refine Kd.C_alloc ?_ _) | (with_reducible refine Kd.C_drewN ?_ _) | (with_reducible refine Kd.C_drew ?_))); (case side2 => exact (Kd.R_reads' HO_10.out).2.1); rintro e w' ⟨rfl, ⟨nd, rfl⟩⟩; (try first | exact ⟨rfl, _, World.drewN_drewN _ _ _⟩ | exact ⟨rfl, _, Eq.trans (World.drewN_drewN _ _ _) (congrArg (World.drewN _) (Nat.add_assoc _ _ _))⟩); obtain ⟨Ao66, co66, eo66⟩ := Kd.R_slice HO_8.out; subst eo66))
                            repeat (go_quiet (first | (go_at_call 14; (with_reducible refine (tidemarklaw12_falls.calls kj8 _ _ t248 true _ ?side1 ?side2 A59.out).mono ?_); (case side1 => repeat (first | exact (Kd.R_reads' HO_10.out).2.2 | (with_reducible refine Kd.C_alloc ?_ _) | (with_reducible refine Kd.C_drewN ?_ _) | (with_reducible refine Kd.C_drew ?_))); (case side2 => exact (Kd.R_reads' HO_10.out).2.1); rintro e w' ⟨rfl, ⟨nd, rfl⟩⟩; (try first | exact ⟨rfl, _, World.drewN_drewN _ _ _⟩ | exact ⟨rfl, _, Eq.trans (World.drewN_drewN _ _ _) (congrArg (World.drewN _) (Nat.add_assoc _ _ _))⟩); obtain ⟨Ao66, co66, eo66⟩ := Kd.R_slice HO_8.out; subst eo66)); try go_wp2_with (first | (go_at_call 14; (with_reducible refine (tidemarklaw12_falls.calls kj8 _ _ t248 true _ ?side1 ?side2 A59.out).mono ?_); (case side1 => repeat (first | exact (Kd.R_reads' HO_10.out).2.2 | (with_reducible refine Kd.C_alloc ?_ _) | (with_reducible refine Kd.C_drewN ?_ _) | (with_reducible refine Kd.C_drew ?_))); (case side2 => exact (Kd.R_reads' HO_10.out).2.1); rintro e w' ⟨rfl, ⟨nd, rfl⟩⟩; (try first | exact ⟨rfl, _, World.drewN_drewN _ _ _⟩ | exact ⟨rfl, _, Eq.trans (World.drewN_drewN _ _ _) (congrArg (World.drewN _) (Nat.add_assoc _ _ _))⟩); obtain ⟨Ao66, co66, eo66⟩ := Kd.R_slice HO_8.out; subst eo66)))
                            go_meet
                            case rel => exact ⟨_, ((t247 != 120)), (by first | rfl | (simp; done) | (simp [*]; done)), H', ⟨by have := HK1.out; have := HJ8.out; first | omega | exact Nat.le_refl _⟩, ⟨by (with_reducible repeat (first | apply Kd.R_alloc | apply Kd.R_drewN | apply Kd.R_drew)); exact HO_8.out⟩, ⟨by (with_reducible repeat (first | apply Kd.R_alloc | apply Kd.R_drewN | apply Kd.R_drew)); exact HO_10.out⟩, ⟨by repeat (first | (with_reducible first | exact HB.out | apply below_alloc | apply pw_below_drewN | apply below_drew1) | exact HB.out)⟩⟩
                          · rw [if_neg c64] at H
                            have c64b0 : decide (a2 < 0) = false := decide_eq_false c64
                            clear c64
                            have H' := Aside0.mk H
                            clear H
                            obtain ⟨Ao67, co67, eo67⟩ := Kd.R_slice HO_10.out
                            subst eo67
                            go_wp2_with (first | (go_at_call 14; (with_reducible refine (tidemarklaw12_falls.calls kj8 _ _ t248 true _ ?side1 ?side2 A59.out).mono ?_); (case side1 => repeat (first | exact (Kd.R_reads' HO_10.out).2.2 | (with_reducible refine Kd.C_alloc ?_ _) | (with_reducible refine Kd.C_drewN ?_ _) | (with_reducible refine Kd.C_drew ?_))); (case side2 => exact (Kd.R_reads' HO_10.out).2.1); rintro e w' ⟨rfl, ⟨nd, rfl⟩⟩; (try first | exact ⟨rfl, _, World.drewN_drewN _ _ _⟩ | exact ⟨rfl, _, Eq.trans (World.drewN_drewN _ _ _) (congrArg (World.drewN _) (Nat.add_assoc _ _ _))⟩); obtain ⟨Ao68, co68, eo68⟩ := Kd.R_slice HO_8.out; subst eo68))
                            repeat (go_quiet (first | (go_at_call 14; (with_reducible refine (tidemarklaw12_falls.calls kj8 _ _ t248 true _ ?side1 ?side2 A59.out).mono ?_); (case side1 => repeat (first | exact (Kd.R_reads' HO_10.out).2.2 | (with_reducible refine Kd.C_alloc ?_ _) | (with_reducible refine Kd.C_drewN ?_ _) | (with_reducible refine Kd.C_drew ?_))); (case side2 => exact (Kd.R_reads' HO_10.out).2.1); rintro e w' ⟨rfl, ⟨nd, rfl⟩⟩; (try first | exact ⟨rfl, _, World.drewN_drewN _ _ _⟩ | exact ⟨rfl, _, Eq.trans (World.drewN_drewN _ _ _) (congrArg (World.drewN _) (Nat.add_assoc _ _ _))⟩); obtain ⟨Ao68, co68, eo68⟩ := Kd.R_slice HO_8.out; subst eo68)); try go_wp2_with (first | (go_at_call 14; (with_reducible refine (tidemarklaw12_falls.calls kj8 _ _ t248 true _ ?side1 ?side2 A59.out).mono ?_); (case side1 => repeat (first | exact (Kd.R_reads' HO_10.out).2.2 | (with_reducible refine Kd.C_alloc ?_ _) | (with_reducible refine Kd.C_drewN ?_ _) | (with_reducible refine Kd.C_drew ?_))); (case side2 => exact (Kd.R_reads' HO_10.out).2.1); rintro e w' ⟨rfl, ⟨nd, rfl⟩⟩; (try first | exact ⟨rfl, _, World.drewN_drewN _ _ _⟩ | exact ⟨rfl, _, Eq.trans (World.drewN_drewN _ _ _) (congrArg (World.drewN _) (Nat.add_assoc _ _ _))⟩); obtain ⟨Ao68, co68, eo68⟩ := Kd.R_slice HO_8.out; subst eo68)))
                            go_meet
                            case rel => exact ⟨_, (false), (by first | rfl | (simp; done) | (simp [*]; done)), H', ⟨by have := HK1.out; have := HJ8.out; first | omega | exact Nat.le_refl _⟩, ⟨by (with_reducible repeat (first | apply Kd.R_alloc | apply Kd.R_drewN | apply Kd.R_drew)); exact HO_8.out⟩, ⟨by (with_reducible repeat (first | apply Kd.R_alloc | apply Kd.R_drewN | apply Kd.R_drew)); exact HO_10.out⟩, ⟨by repeat (first | (with_reducible first | exact HB.out | apply below_alloc | apply pw_below_drewN | apply below_drew1) | exact HB.out)⟩⟩
                        · rw [if_neg c63] at H
                          have c63b0 : ((t246.length : Int) == 0) = false := beq_eq_false_iff_ne.mpr c63
                          have c63b1 : ((t246.length : Int) != 0) = true := bne_iff_ne.mpr c63
                          have c63b2 : ¬ (t246 = []) := fun h_ => c63 (by rw [h_]; rfl)
                          have H' := Aside0.mk H
                          clear H
                          obtain ⟨Ao69, co69, eo69⟩ := Kd.R_slice HO_10.out
                          subst eo69
                          go_wp2_with (first | (go_at_call 14; (with_reducible refine (tidemarklaw12_falls.calls kj8 _ _ t248 true _ ?side1 ?side2 A59.out).mono ?_); (case side1 => repeat (first | exact (Kd.R_reads' HO_10.out).2.2 | (with_reducible refine Kd.C_alloc ?_ _) | (with_reducible refine Kd.C_drewN ?_ _) | (with_reducible refine Kd.C_drew ?_))); (case side2 => exact (Kd.R_reads' HO_10.out).2.1); rintro e w' ⟨rfl, ⟨nd, rfl⟩⟩; (try first | exact ⟨rfl, _, World.drewN_drewN _ _ _⟩ | exact ⟨rfl, _, Eq.trans (World.drewN_drewN _ _ _) (congrArg (World.drewN _) (Nat.add_assoc _ _ _))⟩); obtain ⟨Ao70, co70, eo70⟩ := Kd.R_slice HO_8.out; subst eo70))
                          repeat (go_quiet (first | (go_at_call 14; (with_reducible refine (tidemarklaw12_falls.calls kj8 _ _ t248 true _ ?side1 ?side2 A59.out).mono ?_); (case side1 => repeat (first | exact (Kd.R_reads' HO_10.out).2.2 | (with_reducible refine Kd.C_alloc ?_ _) | (with_reducible refine Kd.C_drewN ?_ _) | (with_reducible refine Kd.C_drew ?_))); (case side2 => exact (Kd.R_reads' HO_10.out).2.1); rintro e w' ⟨rfl, ⟨nd, rfl⟩⟩; (try first | exact ⟨rfl, _, World.drewN_drewN _ _ _⟩ | exact ⟨rfl, _, Eq.trans (World.drewN_drewN _ _ _) (congrArg (World.drewN _) (Nat.add_assoc _ _ _))⟩); obtain ⟨Ao70, co70, eo70⟩ := Kd.R_slice HO_8.out; subst eo70)); try go_wp2_with (first | (go_at_call 14; (with_reducible refine (tidemarklaw12_falls.calls kj8 _ _ t248 true _ ?side1 ?side2 A59.out).mono ?_); (case side1 => repeat (first | exact (Kd.R_reads' HO_10.out).2.2 | (with_reducible refine Kd.C_alloc ?_ _) | (with_reducible refine Kd.C_drewN ?_ _) | (with_reducible refine Kd.C_drew ?_))); (case side2 => exact (Kd.R_reads' HO_10.out).2.1); rintro e w' ⟨rfl, ⟨nd, rfl⟩⟩; (try first | exact ⟨rfl, _, World.drewN_drewN _ _ _⟩ | exact ⟨rfl, _, Eq.trans (World.drewN_drewN _ _ _) (congrArg (World.drewN _) (Nat.add_assoc _ _ _))⟩); obtain ⟨Ao70, co70, eo70⟩ := Kd.R_slice HO_8.out; subst eo70)))
                          go_meet
                          case rel => exact ⟨_, (true), (by first | rfl | (simp; done) | (simp [*]; done)), H', ⟨by have := HK1.out; have := HJ8.out; first | omega | exact Nat.le_refl _⟩, ⟨by (with_reducible repeat (first | apply Kd.R_alloc | apply Kd.R_drewN | apply Kd.R_drew)); exact HO_8.out⟩, ⟨by (with_reducible repeat (first | apply Kd.R_alloc | apply Kd.R_drewN | apply Kd.R_drew)); exact HO_10.out⟩, ⟨by repeat (first | (with_reducible first | exact HB.out | apply below_alloc | apply pw_below_drewN | apply below_drew1) | exact HB.out)⟩⟩
                      · rw [if_neg c62] at H
                        have c62b0 : (t247 == 0) = false := beq_eq_false_iff_ne.mpr c62
                        have c62b1 : (t247 != 0) = true := bne_iff_ne.mpr c62
                        have H' := Aside0.mk H
                        clear H
                        obtain ⟨Ao71, co71, eo71⟩ := Kd.R_slice HO_10.out
                        subst eo71
                        go_wp2_with (first | (go_at_call 14; (with_reducible refine (tidemarklaw12_falls.calls kj8 _ _ t248 true _ ?side1 ?side2 A59.out).mono ?_); (case side1 => repeat (first | exact (Kd.R_reads' HO_10.out).2.2 | (with_reducible refine Kd.C_alloc ?_ _) | (with_reducible refine Kd.C_drewN ?_ _) | (with_reducible refine Kd.C_drew ?_))); (case side2 => exact (Kd.R_reads' HO_10.out).2.1); rintro e w' ⟨rfl, ⟨nd, rfl⟩⟩; (try first | exact ⟨rfl, _, World.drewN_drewN _ _ _⟩ | exact ⟨rfl, _, Eq.trans (World.drewN_drewN _ _ _) (congrArg (World.drewN _) (Nat.add_assoc _ _ _))⟩)))
                        repeat (go_quiet (first | (go_at_call 14; (with_reducible refine (tidemarklaw12_falls.calls kj8 _ _ t248 true _ ?side1 ?side2 A59.out).mono ?_); (case side1 => repeat (first | exact (Kd.R_reads' HO_10.out).2.2 | (with_reducible refine Kd.C_alloc ?_ _) | (with_reducible refine Kd.C_drewN ?_ _) | (with_reducible refine Kd.C_drew ?_))); (case side2 => exact (Kd.R_reads' HO_10.out).2.1); rintro e w' ⟨rfl, ⟨nd, rfl⟩⟩; (try first | exact ⟨rfl, _, World.drewN_drewN _ _ _⟩ | exact ⟨rfl, _, Eq.trans (World.drewN_drewN _ _ _) (congrArg (World.drewN _) (Nat.add_assoc _ _ _))⟩))); try go_wp2_with (first | (go_at_call 14; (with_reducible refine (tidemarklaw12_falls.calls kj8 _ _ t248 true _ ?side1 ?side2 A59.out).mono ?_); (case side1 => repeat (first | exact (Kd.R_reads' HO_10.out).2.2 | (with_reducible refine Kd.C_alloc ?_ _) | (with_reducible refine Kd.C_drewN ?_ _) | (with_reducible refine Kd.C_drew ?_))); (case side2 => exact (Kd.R_reads' HO_10.out).2.1); rintro e w' ⟨rfl, ⟨nd, rfl⟩⟩; (try first | exact ⟨rfl, _, World.drewN_drewN _ _ _⟩ | exact ⟨rfl, _, Eq.trans (World.drewN_drewN _ _ _) (congrArg (World.drewN _) (Nat.add_assoc _ _ _))⟩))))
                        go_meet
                        case rel => exact ⟨_, (true), (by first | rfl | (simp; done) | (simp [*]; done)), H', ⟨by have := HK1.out; have := HJ8.out; first | omega | exact Nat.le_refl _⟩, ⟨by (with_reducible repeat (first | apply Kd.R_alloc | apply Kd.R_drewN | apply Kd.R_drew)); exact HO_8.out⟩, ⟨by (with_reducible repeat (first | apply Kd.R_alloc | apply Kd.R_drewN | apply Kd.R_drew)); exact HO_10.out⟩, ⟨by repeat (first | (with_reducible first | exact HB.out | apply below_alloc | apply pw_below_drewN | apply below_drew1) | exact HB.out)⟩⟩
                    · rw [if_neg c61] at H
                      have c61b0 : (a2 == 0) = false := beq_eq_false_iff_ne.mpr c61
                      have c61b1 : (a2 != 0) = true := bne_iff_ne.mpr c61
                      (first | rw [c61b0] | (simp only [i64_w, i32_w]; rw [c61b0]) | skip)
                      by_cases c72 : a2 < 0
                      · rw [if_pos c72] at H
                        have c72b0 : decide (a2 < 0) = true := decide_eq_true c72
                        clear c72
                        have H' := Aside0.mk H
                        clear H
                        obtain ⟨Ao73, co73, eo73⟩ := Kd.R_slice HO_10.out
                        subst eo73
                        go_wp2_with (first | (go_at_call 14; (with_reducible refine (tidemarklaw12_falls.calls kj8 _ _ t248 true _ ?side1 ?side2 A59.out).mono ?_); (case side1 => repeat (first | exact (Kd.R_reads' HO_10.out).2.2 | (with_reducible refine Kd.C_alloc ?_ _) | (with_reducible refine Kd.C_drewN ?_ _) | (with_reducible refine Kd.C_drew ?_))); (case side2 => exact (Kd.R_reads' HO_10.out).2.1); rintro e w' ⟨rfl, ⟨nd, rfl⟩⟩; (try first | exact ⟨rfl, _, World.drewN_drewN _ _ _⟩ | exact ⟨rfl, _, Eq.trans (World.drewN_drewN _ _ _) (congrArg (World.drewN _) (Nat.add_assoc _ _ _))⟩)))
                        repeat (go_quiet (first | (go_at_call 14; (with_reducible refine (tidemarklaw12_falls.calls kj8 _ _ t248 true _ ?side1 ?side2 A59.out).mono ?_); (case side1 => repeat (first | exact (Kd.R_reads' HO_10.out).2.2 | (with_reducible refine Kd.C_alloc ?_ _) | (with_reducible refine Kd.C_drewN ?_ _) | (with_reducible refine Kd.C_drew ?_))); (case side2 => exact (Kd.R_reads' HO_10.out).2.1); rintro e w' ⟨rfl, ⟨nd, rfl⟩⟩; (try first | exact ⟨rfl, _, World.drewN_drewN _ _ _⟩ | exact ⟨rfl, _, Eq.trans (World.drewN_drewN _ _ _) (congrArg (World.drewN _) (Nat.add_assoc _ _ _))⟩))); try go_wp2_with (first | (go_at_call 14; (with_reducible refine (tidemarklaw12_falls.calls kj8 _ _ t248 true _ ?side1 ?side2 A59.out).mono ?_); (case side1 => repeat (first | exact (Kd.R_reads' HO_10.out).2.2 | (with_reducible refine Kd.C_alloc ?_ _) | (with_reducible refine Kd.C_drewN ?_ _) | (with_reducible refine Kd.C_drew ?_))); (case side2 => exact (Kd.R_reads' HO_10.out).2.1); rintro e w' ⟨rfl, ⟨nd, rfl⟩⟩; (try first | exact ⟨rfl, _, World.drewN_drewN _ _ _⟩ | exact ⟨rfl, _, Eq.trans (World.drewN_drewN _ _ _) (congrArg (World.drewN _) (Nat.add_assoc _ _ _))⟩))))
                        go_meet
                        case rel => exact ⟨_, ((t247 != 120)), (by first | rfl | (simp; done) | (simp [*]; done)), H', ⟨by have := HK1.out; have := HJ8.out; first | omega | exact Nat.le_refl _⟩, ⟨by (with_reducible repeat (first | apply Kd.R_alloc | apply Kd.R_drewN | apply Kd.R_drew)); exact HO_8.out⟩, ⟨by (with_reducible repeat (first | apply Kd.R_alloc | apply Kd.R_drewN | apply Kd.R_drew)); exact HO_10.out⟩, ⟨by repeat (first | (with_reducible first | exact HB.out | apply below_alloc | apply pw_below_drewN | apply below_drew1) | exact HB.out)⟩⟩
                      · rw [if_neg c72] at H
                        have c72b0 : decide (a2 < 0) = false := decide_eq_false c72
                        clear c72
                        have H' := Aside0.mk H
                        clear H
                        obtain ⟨Ao74, co74, eo74⟩ := Kd.R_slice HO_10.out
                        subst eo74
                        go_wp2_with (first | (go_at_call 14; (with_reducible refine (tidemarklaw12_falls.calls kj8 _ _ t248 true _ ?side1 ?side2 A59.out).mono ?_); (case side1 => repeat (first | exact (Kd.R_reads' HO_10.out).2.2 | (with_reducible refine Kd.C_alloc ?_ _) | (with_reducible refine Kd.C_drewN ?_ _) | (with_reducible refine Kd.C_drew ?_))); (case side2 => exact (Kd.R_reads' HO_10.out).2.1); rintro e w' ⟨rfl, ⟨nd, rfl⟩⟩; (try first | exact ⟨rfl, _, World.drewN_drewN _ _ _⟩ | exact ⟨rfl, _, Eq.trans (World.drewN_drewN _ _ _) (congrArg (World.drewN _) (Nat.add_assoc _ _ _))⟩)))
                        repeat (go_quiet (first | (go_at_call 14; (with_reducible refine (tidemarklaw12_falls.calls kj8 _ _ t248 true _ ?side1 ?side2 A59.out).mono ?_); (case side1 => repeat (first | exact (Kd.R_reads' HO_10.out).2.2 | (with_reducible refine Kd.C_alloc ?_ _) | (with_reducible refine Kd.C_drewN ?_ _) | (with_reducible refine Kd.C_drew ?_))); (case side2 => exact (Kd.R_reads' HO_10.out).2.1); rintro e w' ⟨rfl, ⟨nd, rfl⟩⟩; (try first | exact ⟨rfl, _, World.drewN_drewN _ _ _⟩ | exact ⟨rfl, _, Eq.trans (World.drewN_drewN _ _ _) (congrArg (World.drewN _) (Nat.add_assoc _ _ _))⟩))); try go_wp2_with (first | (go_at_call 14; (with_reducible refine (tidemarklaw12_falls.calls kj8 _ _ t248 true _ ?side1 ?side2 A59.out).mono ?_); (case side1 => repeat (first | exact (Kd.R_reads' HO_10.out).2.2 | (with_reducible refine Kd.C_alloc ?_ _) | (with_reducible refine Kd.C_drewN ?_ _) | (with_reducible refine Kd.C_drew ?_))); (case side2 => exact (Kd.R_reads' HO_10.out).2.1); rintro e w' ⟨rfl, ⟨nd, rfl⟩⟩; (try first | exact ⟨rfl, _, World.drewN_drewN _ _ _⟩ | exact ⟨rfl, _, Eq.trans (World.drewN_drewN _ _ _) (congrArg (World.drewN _) (Nat.add_assoc _ _ _))⟩))))
                        go_meet
                        case rel => exact ⟨_, (false), (by first | rfl | (simp; done) | (simp [*]; done)), H', ⟨by have := HK1.out; have := HJ8.out; first | omega | exact Nat.le_refl _⟩, ⟨by (with_reducible repeat (first | apply Kd.R_alloc | apply Kd.R_drewN | apply Kd.R_drew)); exact HO_8.out⟩, ⟨by (with_reducible repeat (first | apply Kd.R_alloc | apply Kd.R_drewN | apply Kd.R_drew)); exact HO_10.out⟩, ⟨by repeat (first | (with_reducible first | exact HB.out | apply below_alloc | apply pw_below_drewN | apply below_drew1) | exact HB.out)⟩⟩
                  · replace c60 := Bool.eq_false_iff.mpr c60
                    subst c60
                    have H1 : (tidemarklaw12_ChainEnds.j2 kj8 l0 a1 a2 x7_1 t246 t248 true) = some r := by rw [if_neg (show ¬ (false = true) by decide)] at H; exact H
                    clear H
                    have H := H1
                    clear H1
                    have H' := Aside0.mk H
                    clear H
                    obtain ⟨Ao75, co75, eo75⟩ := Kd.R_slice HO_10.out
                    subst eo75
                    go_wp2_with (first | (go_at_call 14; (with_reducible refine (tidemarklaw12_falls.calls kj8 _ _ t248 false _ ?side1 ?side2 A59.out).mono ?_); (case side1 => repeat (first | exact (Kd.R_reads' HO_10.out).2.2 | (with_reducible refine Kd.C_alloc ?_ _) | (with_reducible refine Kd.C_drewN ?_ _) | (with_reducible refine Kd.C_drew ?_))); (case side2 => exact (Kd.R_reads' HO_10.out).2.1); rintro e w' ⟨rfl, ⟨nd, rfl⟩⟩; (try first | exact ⟨rfl, _, World.drewN_drewN _ _ _⟩ | exact ⟨rfl, _, Eq.trans (World.drewN_drewN _ _ _) (congrArg (World.drewN _) (Nat.add_assoc _ _ _))⟩)))
                    repeat (go_quiet (first | (go_at_call 14; (with_reducible refine (tidemarklaw12_falls.calls kj8 _ _ t248 false _ ?side1 ?side2 A59.out).mono ?_); (case side1 => repeat (first | exact (Kd.R_reads' HO_10.out).2.2 | (with_reducible refine Kd.C_alloc ?_ _) | (with_reducible refine Kd.C_drewN ?_ _) | (with_reducible refine Kd.C_drew ?_))); (case side2 => exact (Kd.R_reads' HO_10.out).2.1); rintro e w' ⟨rfl, ⟨nd, rfl⟩⟩; (try first | exact ⟨rfl, _, World.drewN_drewN _ _ _⟩ | exact ⟨rfl, _, Eq.trans (World.drewN_drewN _ _ _) (congrArg (World.drewN _) (Nat.add_assoc _ _ _))⟩))); try go_wp2_with (first | (go_at_call 14; (with_reducible refine (tidemarklaw12_falls.calls kj8 _ _ t248 false _ ?side1 ?side2 A59.out).mono ?_); (case side1 => repeat (first | exact (Kd.R_reads' HO_10.out).2.2 | (with_reducible refine Kd.C_alloc ?_ _) | (with_reducible refine Kd.C_drewN ?_ _) | (with_reducible refine Kd.C_drew ?_))); (case side2 => exact (Kd.R_reads' HO_10.out).2.1); rintro e w' ⟨rfl, ⟨nd, rfl⟩⟩; (try first | exact ⟨rfl, _, World.drewN_drewN _ _ _⟩ | exact ⟨rfl, _, Eq.trans (World.drewN_drewN _ _ _) (congrArg (World.drewN _) (Nat.add_assoc _ _ _))⟩))))
                    go_meet
                    case rel => exact ⟨_, (true), (by first | rfl | (simp; done) | (simp [*]; done)), H', ⟨by have := HK1.out; have := HJ8.out; first | omega | exact Nat.le_refl _⟩, ⟨by (with_reducible repeat (first | apply Kd.R_alloc | apply Kd.R_drewN | apply Kd.R_drew)); exact HO_8.out⟩, ⟨by (with_reducible repeat (first | apply Kd.R_alloc | apply Kd.R_drewN | apply Kd.R_drew)); exact HO_10.out⟩, ⟨by repeat (first | (with_reducible first | exact HB.out | apply below_alloc | apply pw_below_drewN | apply below_drew1) | exact HB.out)⟩⟩
                case rest =>
                  clear HC58
                  try clear c1
                  try clear c2
                  try clear p2
                  try clear q2
                  try clear hx2
                  try clear qi2
                  try clear c3
                  try clear c4
                  try clear c5
                  try clear c6
                  try clear c7
                  try clear c7b0
                  try clear c11
                  try clear c11b0
                  try clear c11b1
                  try clear c14
                  try clear c15
                  try clear c15b0
                  try clear c15b1
                  try clear c16
                  try clear c16b0
                  try clear c17
                  try clear c17b0
                  try clear c17b1
                  try clear c17b2
                  try clear c18
                  try clear c18b0
                  try clear c25
                  try clear c25b0
                  try clear p25
                  try clear q25
                  try clear hx25
                  try clear qi25
                  try clear c26
                  try clear c26b0
                  try clear c26b1
                  try clear c26b2
                  try clear c29
                  try clear c29b0
                  try clear c29b1
                  try clear c34
                  try clear c34b0
                  try clear c34b1
                  try clear c34b2
                  try clear c35
                  try clear c35b0
                  try clear c36
                  try clear c36b0
                  try clear c36b1
                  try clear c36b2
                  try clear c37
                  try clear c37b0
                  try clear c44
                  try clear c44b0
                  try clear c45
                  try clear c45b0
                  try clear c45b1
                  try clear c45b2
                  try clear c48
                  try clear c48b0
                  try clear c48b1
                  try clear c57
                  try clear c60
                  try clear c61
                  try clear c61b0
                  try clear c61b1
                  try clear c62
                  try clear c62b0
                  try clear c62b1
                  try clear c63
                  try clear c63b0
                  try clear c63b1
                  try clear c63b2
                  try clear c64
                  try clear c64b0
                  try clear c72
                  try clear c72b0
                  try clear hx254_0
                  try clear hx255_0
                  try clear p2
                  try clear p25
                  try clear p254
                  try clear p255
                  try clear q2
                  try clear q25
                  try clear q254
                  try clear q255
                  obtain ⟨kq, x94_57, rfl, HA, HJ57, HO_8, HO_10, HB⟩ := hcut
                  cases kq with
                  | zero => exact absurd HA.out (by simp [tidemarklaw12_ChainEnds.j2])
                  | succ kj57 =>
                    have H := HA.out
                    clear HA
                    simp only [tidemarklaw12_ChainEnds.j2] at H
                    by_cases c76 : x94_57 = true
                    · subst c76
                      have H1 : (some false) = some r := by rw [if_pos rfl] at H; exact H
                      clear H
                      have H := H1
                      clear H1
                      exact absurd ((Option.some.inj H).trans HPR.out) (by decide)
                    · replace c76 := Bool.eq_false_iff.mpr c76
                      subst c76
                      have H1 : (tidemarklaw12_ChainEnds.l1 kj57 l0 a1 a2 x7_1 t246 t248 0 0) = some r := by rw [if_neg (show ¬ (false = true) by decide)] at H; exact H
                      clear H
                      have H := H1
                      clear H1
                      have H' := Aside0.mk H
                      clear H
                      go_wp2
                      repeat (go_quiet (fail); try go_wp2)
                      go_loopg [11, 12] kj57 (fun kq v11 v12 w' => ∃ (x11_4 : Int) (x12_4 : Int), v11 = .int .i64 x11_4 ∧ v12 = .int .i64 x12_4 ∧ Aside0 (tidemarklaw12_ChainEnds.l1 kq l0 a1 a2 x7_1 t246 t248 x11_4 x12_4 = some r) ∧ Aside0 (kq ≤ kj57) ∧ Aside0 (Kd.R (Kd.int .i64) 3 w' w.heap.size (fun k_ => some k_ ≠ (v251 : Value).ownBlock) v249 t246) ∧ Aside0 (Kd.R (Kd.int .i64) 3 w' w.heap.size (fun k_ => some k_ ≠ (v249 : Value).ownBlock) v251 t248) ∧ Aside0 (Below w.heap.size w w'))
                      case atStart => exact ⟨(0), (0), (by first | rfl | (simp; done) | (simp [*]; done)), (by first | rfl | (simp; done) | (simp [*]; done)), H', ⟨Nat.le_refl _⟩, ⟨by (with_reducible repeat (first | apply Kd.R_alloc | apply Kd.R_drewN | apply Kd.R_drew)); exact HO_8.out⟩, ⟨by (with_reducible repeat (first | apply Kd.R_alloc | apply Kd.R_drewN | apply Kd.R_drew)); exact HO_10.out⟩, ⟨by repeat (first | (with_reducible first | exact HB.out | apply below_alloc | apply pw_below_drewN | apply below_drew1) | exact HB.out)⟩⟩
                      case round =>
                        clear H'
                        try clear c1
                        try clear c2
                        try clear p2
                        try clear q2
                        try clear hx2
                        try clear qi2
                        try clear c3
                        try clear c4
                        try clear c5
                        try clear c6
                        try clear c7
                        try clear c7b0
                        try clear c11
                        try clear c11b0
                        try clear c11b1
                        try clear c14
                        try clear c15
                        try clear c15b0
                        try clear c15b1
                        try clear c16
                        try clear c16b0
                        try clear c17
                        try clear c17b0
                        try clear c17b1
                        try clear c17b2
                        try clear c18
                        try clear c18b0
                        try clear c25
                        try clear c25b0
                        try clear p25
                        try clear q25
                        try clear hx25
                        try clear qi25
                        try clear c26
                        try clear c26b0
                        try clear c26b1
                        try clear c26b2
                        try clear c29
                        try clear c29b0
                        try clear c29b1
                        try clear c34
                        try clear c34b0
                        try clear c34b1
                        try clear c34b2
                        try clear c35
                        try clear c35b0
                        try clear c36
                        try clear c36b0
                        try clear c36b1
                        try clear c36b2
                        try clear c37
                        try clear c37b0
                        try clear c44
                        try clear c44b0
                        try clear c45
                        try clear c45b0
                        try clear c45b1
                        try clear c45b2
                        try clear c48
                        try clear c48b0
                        try clear c48b1
                        try clear c57
                        try clear c60
                        try clear c61
                        try clear c61b0
                        try clear c61b1
                        try clear c62
                        try clear c62b0
                        try clear c62b1
                        try clear c63
                        try clear c63b0
                        try clear c63b1
                        try clear c63b2
                        try clear c64
                        try clear c64b0
                        try clear c72
                        try clear c72b0
                        try clear c76
                        try clear hx254_0
                        try clear hx255_0
                        try clear p2
                        try clear p25
                        try clear p254
                        try clear p255
                        try clear q2
                        try clear q25
                        try clear q254
                        try clear q255
                        obtain ⟨x11_4, x12_4, rfl, rfl, HA, HK4, HO_8, HO_10, HB⟩ := hrel
                        cases gk with
                        | zero => exact absurd HA.out (by simp [tidemarklaw12_ChainEnds.l1])
                        | succ k4 =>
                          have H := HA.out
                          clear HA
                          simp only [tidemarklaw12_ChainEnds.l1] at H
                          by_cases c77 : x12_4 < (t246.length : Int)
                          · rw [if_pos c77] at H
                            have c77b0 : decide (x12_4 < (t246.length : Int)) = true := decide_eq_true c77
                            clear c77
                            have H' := Aside0.mk H
                            clear H
                            obtain ⟨Ao78, co78, eo78⟩ := Kd.R_slice HO_8.out
                            subst eo78
                            go_wp2
                            repeat (go_quiet (fail); try go_wp2)
                            go_loopg [11] k4 (fun kq v11 w' => ∃ (x11_5 : Int), v11 = .int .i64 x11_5 ∧ Aside0 (tidemarklaw12_ChainEnds.l2 kq l0 a1 a2 x7_1 t246 t248 x11_5 x12_4 = some r) ∧ Aside0 (kq ≤ k4) ∧ Aside0 (Kd.R (Kd.int .i64) 3 w' w.heap.size (fun k_ => some k_ ≠ (v251 : Value).ownBlock) (.slice Ao78 t246.length co78) t246) ∧ Aside0 (Kd.R (Kd.int .i64) 3 w' w.heap.size (fun k_ => some k_ ≠ ((.slice Ao78 t246.length co78) : Value).ownBlock) v251 t248) ∧ Aside0 (Below w.heap.size w w'))
                            case atStart => exact ⟨(x11_4), (by first | rfl | (simp; done) | (simp [*]; done)), H', ⟨Nat.le_refl _⟩, ⟨by (with_reducible repeat (first | apply Kd.R_alloc | apply Kd.R_drewN | apply Kd.R_drew)); exact HO_8.out⟩, ⟨by (with_reducible repeat (first | apply Kd.R_alloc | apply Kd.R_drewN | apply Kd.R_drew)); exact HO_10.out⟩, ⟨by repeat (first | (with_reducible first | exact HB.out | apply below_alloc | apply pw_below_drewN | apply below_drew1) | exact HB.out)⟩⟩
                            case round =>
                              clear H'
                              try clear c1
                              try clear c2
                              try clear p2
                              try clear q2
                              try clear hx2
                              try clear qi2
                              try clear c3
                              try clear c4
                              try clear c5
                              try clear c6
                              try clear c7
                              try clear c7b0
                              try clear c11
                              try clear c11b0
                              try clear c11b1
                              try clear c14
                              try clear c15
                              try clear c15b0
                              try clear c15b1
                              try clear c16
                              try clear c16b0
                              try clear c17
                              try clear c17b0
                              try clear c17b1
                              try clear c17b2
                              try clear c18
                              try clear c18b0
                              try clear c25
                              try clear c25b0
                              try clear p25
                              try clear q25
                              try clear hx25
                              try clear qi25
                              try clear c26
                              try clear c26b0
                              try clear c26b1
                              try clear c26b2
                              try clear c29
                              try clear c29b0
                              try clear c29b1
                              try clear c34
                              try clear c34b0
                              try clear c34b1
                              try clear c34b2
                              try clear c35
                              try clear c35b0
                              try clear c36
                              try clear c36b0
                              try clear c36b1
                              try clear c36b2
                              try clear c37
                              try clear c37b0
                              try clear c44
                              try clear c44b0
                              try clear c45
                              try clear c45b0
                              try clear c45b1
                              try clear c45b2
                              try clear c48
                              try clear c48b0
                              try clear c48b1
                              try clear c57
                              try clear c60
                              try clear c61
                              try clear c61b0
                              try clear c61b1
                              try clear c62
                              try clear c62b0
                              try clear c62b1
                              try clear c63
                              try clear c63b0
                              try clear c63b1
                              try clear c63b2
                              try clear c64
                              try clear c64b0
                              try clear c72
                              try clear c72b0
                              try clear c76
                              try clear c77
                              try clear c77b0
                              try clear hx254_0
                              try clear hx255_0
                              try clear p2
                              try clear p25
                              try clear p254
                              try clear p255
                              try clear q2
                              try clear q25
                              try clear q254
                              try clear q255
                              obtain ⟨x11_5, rfl, HA, HK5, HO_8, HO_10, HB⟩ := hrel
                              cases gk with
                              | zero => exact absurd HA.out (by simp [tidemarklaw12_ChainEnds.l2])
                              | succ k5 =>
                                have H := HA.out
                                clear HA
                                simp only [tidemarklaw12_ChainEnds.l2] at H
                                by_cases c79 : x11_5 < (t248.length : Int)
                                · rw [if_pos c79] at H
                                  have c79b0 : decide (x11_5 < (t248.length : Int)) = true := decide_eq_true c79
                                  clear c79
                                  by_cases c80 : 0 ≤ x11_5
                                  · rw [if_pos c80] at H
                                    have c80b0 : decide (0 ≤ x11_5) = true := decide_eq_true c80
                                    clear c80
                                    by_cases c81 : 0 ≤ x12_4
                                    · rw [if_pos c81] at H
                                      have c81b0 : decide (0 ≤ x12_4) = true := decide_eq_true c81
                                      clear c81
                                      by_cases c82 : x12_4 < (t246.length : Int)
                                      · rw [if_pos c82] at H
                                        have c82b0 : decide (x12_4 < (t246.length : Int)) = true := decide_eq_true c82
                                        clear c82
                                        by_cases c83 : (rd t248 x11_5) = (rd t246 x12_4)
                                        · rw [if_pos c83] at H
                                          have c83b0 : ((rd t248 x11_5) == (rd t246 x12_4)) = true := beq_iff_eq.mpr c83
                                          have c83b1 : ((rd t248 x11_5) != (rd t246 x12_4)) = false := bne_eq_false_iff_eq.mpr c83
                                          clear c83
                                          by_cases c84 : x11_5 = (t248.length : Int)
                                          · rw [if_pos c84] at H
                                            have c84b0 : (x11_5 == (t248.length : Int)) = true := beq_iff_eq.mpr c84
                                            have c84b1 : (x11_5 != (t248.length : Int)) = false := bne_eq_false_iff_eq.mpr c84
                                            clear c84
                                            exact absurd ((Option.some.inj H).trans HPR.out) (by decide)
                                          · rw [if_neg c84] at H
                                            have c84b0 : (x11_5 == (t248.length : Int)) = false := beq_eq_false_iff_ne.mpr c84
                                            have c84b1 : (x11_5 != (t248.length : Int)) = true := bne_iff_ne.mpr c84
                                            have H' := Aside0.mk H
                                            clear H
                                            obtain ⟨Ao85, co85, eo85⟩ := Kd.R_slice HO_10.out
                                            subst eo85
                                            have p257 : 0 ≤ (x11_5 : Int) := of_decide_eq_true (by first | (with_reducible assumption) | assumption)
                                            have q257 : x11_5 < (t248.length : Int) := of_decide_eq_true (by first | (with_reducible assumption) | assumption)
                                            obtain ⟨ad257, e257, hx257_0⟩ := Kd.at_int (Kd.R_reads' HO_10.out).2.2 x11_5 p257 q257
                                            cases e257
                                            replace p257 := eq_true p257
                                            replace q257 := eq_true q257
                                            have p258 : 0 ≤ (x12_4 : Int) := of_decide_eq_true (by first | (with_reducible assumption) | assumption)
                                            have q258 : x12_4 < (t246.length : Int) := of_decide_eq_true (by first | (with_reducible assumption) | assumption)
                                            obtain ⟨ad258, e258, hx258_0⟩ := Kd.at_int (Kd.R_reads' HO_8.out).2.2 x12_4 p258 q258
                                            cases e258
                                            replace p258 := eq_true p258
                                            replace q258 := eq_true q258
                                            go_wp2
                                            repeat (go_quiet (fail); try go_wp2)
                                            go_roundg k5
                                            case measure => have := HK1.out; have := HJ8.out; have := HJ57.out; have := HK4.out; have := HK5.out; omega
                                            case rel => exact ⟨(x11_5), (wrap64 (x12_4 + 1)), (by first | rfl | (simp; done) | (simp [*]; done)), (by first | rfl | (simp; done) | (simp [*]; done)), H', ⟨by have := HK1.out; have := HJ8.out; have := HJ57.out; have := HK4.out; have := HK5.out; omega⟩, ⟨by (with_reducible repeat (first | apply Kd.R_alloc | apply Kd.R_drewN | apply Kd.R_drew)); exact HO_8.out⟩, ⟨by (with_reducible repeat (first | apply Kd.R_alloc | apply Kd.R_drewN | apply Kd.R_drew)); exact HO_10.out⟩, ⟨by repeat (first | (with_reducible first | exact HB.out | apply below_alloc | apply pw_below_drewN | apply below_drew1) | exact HB.out)⟩⟩
                                        · rw [if_neg c83] at H
                                          have c83b0 : ((rd t248 x11_5) == (rd t246 x12_4)) = false := beq_eq_false_iff_ne.mpr c83
                                          have c83b1 : ((rd t248 x11_5) != (rd t246 x12_4)) = true := bne_iff_ne.mpr c83
                                          have H' := Aside0.mk H
                                          clear H
                                          obtain ⟨Ao86, co86, eo86⟩ := Kd.R_slice HO_10.out
                                          subst eo86
                                          have p257 : 0 ≤ (x11_5 : Int) := of_decide_eq_true (by first | (with_reducible assumption) | assumption)
                                          have q257 : x11_5 < (t248.length : Int) := of_decide_eq_true (by first | (with_reducible assumption) | assumption)
                                          obtain ⟨ad257, e257, hx257_0⟩ := Kd.at_int (Kd.R_reads' HO_10.out).2.2 x11_5 p257 q257
                                          cases e257
                                          replace p257 := eq_true p257
                                          replace q257 := eq_true q257
                                          have p258 : 0 ≤ (x12_4 : Int) := of_decide_eq_true (by first | (with_reducible assumption) | assumption)
                                          have q258 : x12_4 < (t246.length : Int) := of_decide_eq_true (by first | (with_reducible assumption) | assumption)
                                          obtain ⟨ad258, e258, hx258_0⟩ := Kd.at_int (Kd.R_reads' HO_8.out).2.2 x12_4 p258 q258
                                          cases e258
                                          replace p258 := eq_true p258
                                          replace q258 := eq_true q258
                                          go_wp2
                                          repeat (go_quiet (fail); try go_wp2)
                                          go_roundg k5
                                          case measure => have := HK1.out; have := HJ8.out; have := HJ57.out; have := HK4.out; have := HK5.out; omega
                                          case rel => exact ⟨(wrap64 (x11_5 + 1)), (by first | rfl | (simp; done) | (simp [*]; done)), H', ⟨by have := HK1.out; have := HJ8.out; have := HJ57.out; have := HK4.out; have := HK5.out; omega⟩, ⟨by (with_reducible repeat (first | apply Kd.R_alloc | apply Kd.R_drewN | apply Kd.R_drew)); exact HO_8.out⟩, ⟨by (with_reducible repeat (first | apply Kd.R_alloc | apply Kd.R_drewN | apply Kd.R_drew)); exact HO_10.out⟩, ⟨by repeat (first | (with_reducible first | exact HB.out | apply below_alloc | apply pw_below_drewN | apply below_drew1) | exact HB.out)⟩⟩
                                      · rw [if_neg c82] at H
                                        exact absurd H (by simp)
                                    · rw [if_neg c81] at H
                                      exact absurd H (by simp)
                                  · rw [if_neg c80] at H
                                    exact absurd H (by simp)
                                · rw [if_neg c79] at H
                                  have c79b0 : decide (x11_5 < (t248.length : Int)) = false := decide_eq_false c79
                                  clear c79
                                  by_cases c87 : x11_5 = (t248.length : Int)
                                  · rw [if_pos c87] at H
                                    have c87b0 : (x11_5 == (t248.length : Int)) = true := beq_iff_eq.mpr c87
                                    have c87b1 : (x11_5 != (t248.length : Int)) = false := bne_eq_false_iff_eq.mpr c87
                                    clear c87
                                    exact absurd ((Option.some.inj H).trans HPR.out) (by decide)
                                  · rw [if_neg c87] at H
                                    have c87b0 : (x11_5 == (t248.length : Int)) = false := beq_eq_false_iff_ne.mpr c87
                                    have c87b1 : (x11_5 != (t248.length : Int)) = true := bne_iff_ne.mpr c87
                                    have H' := Aside0.mk H
                                    clear H
                                    obtain ⟨Ao88, co88, eo88⟩ := Kd.R_slice HO_10.out
                                    subst eo88
                                    go_wp2
                                    repeat (go_quiet (fail); try go_wp2)
                                    go_roundg k5
                                    case measure => have := HK1.out; have := HJ8.out; have := HJ57.out; have := HK4.out; have := HK5.out; omega
                                    case rel => exact ⟨(x11_5), (wrap64 (x12_4 + 1)), (by first | rfl | (simp; done) | (simp [*]; done)), (by first | rfl | (simp; done) | (simp [*]; done)), H', ⟨by have := HK1.out; have := HJ8.out; have := HJ57.out; have := HK4.out; have := HK5.out; omega⟩, ⟨by (with_reducible repeat (first | apply Kd.R_alloc | apply Kd.R_drewN | apply Kd.R_drew)); exact HO_8.out⟩, ⟨by (with_reducible repeat (first | apply Kd.R_alloc | apply Kd.R_drewN | apply Kd.R_drew)); exact HO_10.out⟩, ⟨by repeat (first | (with_reducible first | exact HB.out | apply below_alloc | apply pw_below_drewN | apply below_drew1) | exact HB.out)⟩⟩
                          · rw [if_neg c77] at H
                            have c77b0 : decide (x12_4 < (t246.length : Int)) = false := decide_eq_false c77
                            clear c77
                            have H' := Aside0.mk H
                            clear H
                            obtain ⟨Ao89, co89, eo89⟩ := Kd.R_slice HO_8.out
                            subst eo89
                            go_wp2
                            repeat (go_quiet (fail); try go_wp2)
                            go_roundg k4
                            case measure => have := HK1.out; have := HJ8.out; have := HJ57.out; have := HK4.out; omega
                            case rel => exact ⟨(wrap64 (x7_1 + 1)), (by first | rfl | (simp; done) | (simp [*]; done)), H', ⟨by have := HK1.out; have := HJ8.out; have := HJ57.out; have := HK4.out; omega⟩, ⟨by repeat (first | (with_reducible first | exact HB.out | apply below_alloc | apply pw_below_drewN | apply below_drew1) | exact HB.out)⟩⟩
        · rw [if_neg c7] at H
          have c7b0 : decide (x7_1 < 2) = false := decide_eq_false c7
          clear c7
          obtain rfl := Option.some.inj H
          clear HPR
          go_wp2
          repeat (go_quiet (fail); try go_wp2)
          go_ret
          exact ⟨by first | rfl | (simp [errW_none, errW_some] <;> rfl) | (simp [*, errW_none, errW_some] <;> rfl), by repeat (first | (with_reducible first | exact HB.out | apply below_alloc | apply pw_below_drewN | apply below_drew1) | exact HB.out)⟩
  · replace c5 := Bool.eq_false_iff.mpr c5
    subst c5
    have H1 : (some false) = some r := by rw [if_neg (show ¬ (false = true) by decide)] at H; exact H
    clear H
    have H := H1
    clear H1
    exact absurd ((Option.some.inj H).trans HPR.out) (by decide)

end Go.Proofs.Ytijlcahikeeigaa.QA
