-- Laid by a program of this session out of Lean's own print of the program; hand-made contracts are pasted in. Lean checks it.
import Derived.Test.YtijlcahikeeigaaQAx0
import Derived.Test.YtijlcahikeeigaaQAx7
import Derived.Test.YtijlcahikeeigaaQAx10
import Derived.Test.YtijlcahikeeigaaQAx12
import Derived.Test.YtijlcahikeeigaaQAx14
namespace Go.Proofs.Ytijlcahikeeigaa.QA
open Go.RowKit Go.Proofs.YtijlcahikeeigaaW.PrintWords Go.Proofs.YtijlcahikeeigaaW.PrintLast Go.Proofs.YtijlcahikeeigaaW.PrintMore
attribute [local go_sem] max2_int min2_int max_two min_two max_three min_three max_four min_four   -- for this text's walks alone
set_option linter.unusedVariables false
set_option linter.unusedSimpArgs false

/-! ### tidemarklaw12_ChainUndos: function 4 -/
def tidemarklaw12_ChainUndos.f (k : Nat) (l0 : List (S43)) (a1 : Bool) (a2 : Int) : Option (Bool) := (tidemarklaw12_asking.f k l0 a1 true a2).bind fun bt225 => ((tidemarkref12_Undo.f k l0 a1 a2).bind fun bt232 => ((tidemarklaw12_known.f k).bind fun t239 => (if t239 = true then ((tidemarklaw12_same.f k bt225.1 bt232.1).bind fun t240 => (if t240 = true then (if bt225.2.1 = bt232.2.1 then ((tidemarklaw12_same.f k bt225.2.2 bt232.2.2).bind fun t241 => (some t241)) else (some false)) else (some false))) else (some false))))
theorem tidemarklaw12_ChainUndos.mono : ∀ a0 a1 a2 k, LeO (tidemarklaw12_ChainUndos.f k a0 a1 a2) (tidemarklaw12_ChainUndos.f (k + 1) a0 a1 a2) := by
  intro a0 a1 a2 k
  unfold tidemarklaw12_ChainUndos.f
  repeat' first
      | (with_reducible exact tidemarklaw12_asking.mono _ _ _ _ _)
      | (with_reducible exact tidemarklaw12_known.mono _)
      | (with_reducible exact tidemarklaw12_same.mono _ _ _)
      | (with_reducible exact tidemarkref12_Undo.mono _ _ _ _)
      | (with_reducible exact LeO.refl _)
      | (with_reducible exact LeO.none _)
      | (with_reducible refine LeO.ite ?_ ?_)
      | (with_reducible refine LeO.bind ?_ (fun _ => ?_))
      | exact tidemarklaw12_asking.mono _ _ _ _ _
      | exact tidemarklaw12_known.mono _
      | exact tidemarklaw12_same.mono _ _ _
      | exact tidemarkref12_Undo.mono _ _ _ _
      | exact LeO.none _
      | refine LeO.ite ?_ ?_
      | refine LeO.bind ?_ (fun _ => ?_)
set_option maxHeartbeats 8000000 in
set_option maxRecDepth 100000 in
theorem tidemarklaw12_ChainUndos.calls (k : Nat) (A0 : Option Addr) (c0 : Nat) (l0 : List (S43)) (a1 : Bool) (a2 : Int) (r : Bool) (w : World) (hr0 : Kd.C k43 w A0 l0.length l0) (hc0 : l0.length ≤ c0) (h : tidemarklaw12_ChainUndos.f k l0 a1 a2 = some r) (hr_ : r = true) :
    Calls Try.prog 4 #[.slice A0 l0.length c0, .bool a1, .int .i64 a2] w fun e w' => e = .returned (.bool r) ∧ Below w.heap.size w w' := by
  have HPR := Aside0.mk hr_
  clear hr_
  have HR0 := Aside0.mk hr0
  have HC0 := Aside0.mk hc0
  clear hr0 hc0
  have HB := Aside0.mk (Below.refl w.heap.size w)
  have H : ((tidemarklaw12_asking.f k l0 a1 true a2).bind fun bt225 => ((tidemarkref12_Undo.f k l0 a1 a2).bind fun bt232 => ((tidemarklaw12_known.f k).bind fun t239 => (if t239 = true then ((tidemarklaw12_same.f k bt225.1 bt232.1).bind fun t240 => (if t240 = true then (if bt225.2.1 = bt232.2.1 then ((tidemarklaw12_same.f k bt225.2.2 bt232.2.2).bind fun t241 => (some t241)) else (some false)) else (some false))) else (some false))))) = some r := h
  clear h
  replace H := Option.bind_eq_some_iff.mp H
  obtain ⟨⟨t225, t226, t227⟩, A40, H⟩ := H
  replace H : ((tidemarkref12_Undo.f k l0 a1 a2).bind fun bt232 => ((tidemarklaw12_known.f k).bind fun t239 => (if t239 = true then ((tidemarklaw12_same.f k t225 bt232.1).bind fun t240 => (if t240 = true then (if t226 = bt232.2.1 then ((tidemarklaw12_same.f k t227 bt232.2.2).bind fun t241 => (some t241)) else (some false)) else (some false))) else (some false)))) = some r := H
  have A4 := Aside0.mk A40
  clear A40
  replace H := Option.bind_eq_some_iff.mp H
  obtain ⟨⟨t232, t233, t234⟩, A50, H⟩ := H
  replace H : ((tidemarklaw12_known.f k).bind fun t239 => (if t239 = true then ((tidemarklaw12_same.f k t225 t232).bind fun t240 => (if t240 = true then (if t226 = t233 then ((tidemarklaw12_same.f k t227 t234).bind fun t241 => (some t241)) else (some false)) else (some false))) else (some false))) = some r := H
  have A5 := Aside0.mk A50
  clear A50
  replace H := Option.bind_eq_some_iff.mp H
  obtain ⟨t239, A60, H⟩ := H
  replace H : (if t239 = true then ((tidemarklaw12_same.f k t225 t232).bind fun t240 => (if t240 = true then (if t226 = t233 then ((tidemarklaw12_same.f k t227 t234).bind fun t241 => (some t241)) else (some false)) else (some false))) else (some false)) = some r := H
  have A6 := Aside0.mk A60
  clear A60
  by_cases c7 : t239 = true
  · subst c7
    have H1 : ((tidemarklaw12_same.f k t225 t232).bind fun t240 => (if t240 = true then (if t226 = t233 then ((tidemarklaw12_same.f k t227 t234).bind fun t241 => (some t241)) else (some false)) else (some false))) = some r := by rw [if_pos rfl] at H; exact H
    clear H
    have H := H1
    clear H1
    replace H := Option.bind_eq_some_iff.mp H
    obtain ⟨t240, A80, H⟩ := H
    replace H : (if t240 = true then (if t226 = t233 then ((tidemarklaw12_same.f k t227 t234).bind fun t241 => (some t241)) else (some false)) else (some false)) = some r := H
    have A8 := Aside0.mk A80
    clear A80
    by_cases c9 : t240 = true
    · subst c9
      have H1 : (if t226 = t233 then ((tidemarklaw12_same.f k t227 t234).bind fun t241 => (some t241)) else (some false)) = some r := by rw [if_pos rfl] at H; exact H
      clear H
      have H := H1
      clear H1
      by_cases c10 : t226 = t233
      · rw [if_pos c10] at H
        have c10b0 : (t226 == t233) = true := beq_iff_eq.mpr c10
        have c10b1 : (t226 != t233) = false := bne_eq_false_iff_eq.mpr c10
        clear c10
        replace H := Option.bind_eq_some_iff.mp H
        obtain ⟨t241, A110, H⟩ := H
        replace H : (some t241) = some r := H
        have A11 := Aside0.mk A110
        clear A110
        obtain rfl := Option.some.inj H
        clear HPR
        go_enter Try.func4, Try.ntmps4
        go_wp2_with (first | ((with_reducible refine gate_callee (f := 8) rfl ?_); refine goesL_ (some 17) rfl rfl Try.func8 (by kernel_rfl) rfl #[.slice A0 l0.length c0, .bool a1, .bool true, .int .i64 a2] rfl (by (try simp only [List.map_toArray, List.map_cons, List.map_nil]); first | done | rfl | (simp only [List.length_drop, List.length_take]; rfl)) ?_; (with_reducible refine (tidemarklaw12_asking.calls k _ _ l0 a1 true a2 t225 t226 t227 _ ?side1 ?side2 A4.out).mono ?_); (case side1 => repeat (first | exact HR0.out | (with_reducible refine Kd.C_alloc ?_ _) | (with_reducible refine Kd.C_drewN ?_ _) | (with_reducible refine Kd.C_drew ?_))); (case side2 => exact HC0.out); rintro e w12 ⟨v228, v230, rfl, ho0, ho1, hb⟩; refine ⟨_, rfl, ?_⟩; have n0_ := Aside0.mk (Kd.R_lower ho0 (below_size (by repeat (first | (with_reducible first | exact HB.out | apply below_alloc | apply pw_below_drewN | apply below_drew1) | exact HB.out)))); have n1_ := Aside0.mk (Kd.R_lower ho1 (below_size (by repeat (first | (with_reducible first | exact HB.out | apply below_alloc | apply pw_below_drewN | apply below_drew1) | exact HB.out)))); have n2_ := Aside0.mk (below_step (by repeat (first | (with_reducible first | exact HB.out | apply below_alloc | apply pw_below_drewN | apply below_drew1) | exact HB.out)) hb); clear HB; have HO229 := n0_; have HO231 := n1_; have HB := n2_; clear n0_ n1_ n2_; (try clear hb); (try clear hb2); (try clear hk); (try clear hi); (try clear ho0); (try clear ho1)) | ((with_reducible refine gate_callee (f := 12) rfl ?_); refine goesL_ (some 25) rfl rfl Try.func12 (by kernel_rfl) rfl #[.slice A0 l0.length c0, .bool a1, .int .i64 a2] rfl (by (try simp only [List.map_toArray, List.map_cons, List.map_nil]); first | done | rfl | (simp only [List.length_drop, List.length_take]; rfl)) ?_; (with_reducible refine (tidemarkref12_Undo.calls k _ _ l0 a1 a2 t232 t233 t234 _ ?side1 ?side2 A5.out).mono ?_); (case side1 => repeat (first | exact (Kd.C_below HR0.out HB.out) | (with_reducible refine Kd.C_alloc ?_ _) | (with_reducible refine Kd.C_drewN ?_ _) | (with_reducible refine Kd.C_drew ?_))); (case side2 => exact HC0.out); rintro e w13 ⟨v235, v237, rfl, ho0, ho1, hb⟩; refine ⟨_, rfl, ?_⟩; have n0_ := Aside0.mk (Kd.R_mono (Kd.R_told (Kd.R_told (Kd.R_old (by (with_reducible repeat (first | apply Kd.R_alloc | apply Kd.R_drewN | apply Kd.R_drew)); exact HO229.out) hb) (Kd.R_base ho0)) (Kd.R_base ho1)) (fun _ h_ => h_.1)); have n1_ := Aside0.mk (Kd.R_mono (Kd.R_told (Kd.R_told (Kd.R_old (by (with_reducible repeat (first | apply Kd.R_alloc | apply Kd.R_drewN | apply Kd.R_drew)); exact HO231.out) hb) (Kd.R_base ho0)) (Kd.R_base ho1)) (fun _ h_ => h_.1)); have n2_ := Aside0.mk (Kd.R_lower (Kd.R_new' (Kd.R_new' ho0 (Kd.R_lt (by (with_reducible repeat (first | apply Kd.R_alloc | apply Kd.R_drewN | apply Kd.R_drew)); exact HO229.out))) (Kd.R_lt (by (with_reducible repeat (first | apply Kd.R_alloc | apply Kd.R_drewN | apply Kd.R_drew)); exact HO231.out))) (below_size (by repeat (first | (with_reducible first | exact HB.out | apply below_alloc | apply pw_below_drewN | apply below_drew1) | exact HB.out)))); have n3_ := Aside0.mk (Kd.R_lower (Kd.R_new' (Kd.R_new' ho1 (Kd.R_lt (by (with_reducible repeat (first | apply Kd.R_alloc | apply Kd.R_drewN | apply Kd.R_drew)); exact HO229.out))) (Kd.R_lt (by (with_reducible repeat (first | apply Kd.R_alloc | apply Kd.R_drewN | apply Kd.R_drew)); exact HO231.out))) (below_size (by repeat (first | (with_reducible first | exact HB.out | apply below_alloc | apply pw_below_drewN | apply below_drew1) | exact HB.out)))); have n4_ := Aside0.mk (below_step (by repeat (first | (with_reducible first | exact HB.out | apply below_alloc | apply pw_below_drewN | apply below_drew1) | exact HB.out)) hb); clear HO229; clear HO231; clear HB; have HO229 := n0_; have HO231 := n1_; have HO236 := n2_; have HO238 := n3_; have HB := n4_; clear n0_ n1_ n2_ n3_ n4_; (try clear hb); (try clear hb2); (try clear hk); (try clear hi); (try clear ho0); (try clear ho1)) | ((with_reducible refine gate_callee (f := 10) rfl ?_); refine goesL_ (some 29) rfl rfl Try.func10 (by kernel_rfl) rfl #[] rfl (by (try simp only [List.map_toArray, List.map_cons, List.map_nil]); first | done | rfl | (simp only [List.length_drop, List.length_take]; rfl)) ?_; (with_reducible refine (tidemarklaw12_known.calls k  true _ A6.out).mono ?_); rintro e w14 ⟨rfl, hb⟩; refine ⟨_, rfl, ?_⟩; have n0_ := Aside0.mk (Kd.R_below (by (with_reducible repeat (first | apply Kd.R_alloc | apply Kd.R_drewN | apply Kd.R_drew)); exact HO229.out) hb); have n1_ := Aside0.mk (Kd.R_below (by (with_reducible repeat (first | apply Kd.R_alloc | apply Kd.R_drewN | apply Kd.R_drew)); exact HO231.out) hb); have n2_ := Aside0.mk (Kd.R_below (by (with_reducible repeat (first | apply Kd.R_alloc | apply Kd.R_drewN | apply Kd.R_drew)); exact HO236.out) hb); have n3_ := Aside0.mk (Kd.R_below (by (with_reducible repeat (first | apply Kd.R_alloc | apply Kd.R_drewN | apply Kd.R_drew)); exact HO238.out) hb); have n4_ := Aside0.mk (below_step (by repeat (first | (with_reducible first | exact HB.out | apply below_alloc | apply pw_below_drewN | apply below_drew1) | exact HB.out)) hb); clear HO229; clear HO231; clear HO236; clear HO238; clear HB; have HO229 := n0_; have HO231 := n1_; have HO236 := n2_; have HO238 := n3_; have HB := n4_; clear n0_ n1_ n2_ n3_ n4_; (try clear hb); (try clear hb2); (try clear hk); (try clear hi); obtain ⟨Ao15, co15, eo15⟩ := Kd.R_slice HO229.out; subst eo15; obtain ⟨Ao16, co16, eo16⟩ := Kd.R_slice HO236.out; subst eo16) | (go_at_call 11; (with_reducible refine (tidemarklaw12_same.calls k _ _ t225 _ _ t232 true _ ?side1 ?side2 ?side3 ?side4 A8.out).mono ?_); (case side1 => repeat (first | exact (Kd.R_reads' HO229.out).2.2 | (with_reducible refine Kd.C_alloc ?_ _) | (with_reducible refine Kd.C_drewN ?_ _) | (with_reducible refine Kd.C_drew ?_))); (case side2 => exact (Kd.R_reads' HO229.out).2.1); (case side3 => repeat (first | exact (Kd.R_reads' HO236.out).2.2 | (with_reducible refine Kd.C_alloc ?_ _) | (with_reducible refine Kd.C_drewN ?_ _) | (with_reducible refine Kd.C_drew ?_))); (case side4 => exact (Kd.R_reads' HO236.out).2.1); rintro e w' ⟨rfl, ⟨nd, rfl⟩⟩; obtain ⟨Ao17, co17, eo17⟩ := Kd.R_slice HO231.out; subst eo17; obtain ⟨Ao18, co18, eo18⟩ := Kd.R_slice HO238.out; subst eo18) | (go_at_call 11; (with_reducible refine (tidemarklaw12_same.calls k _ _ t227 _ _ t234 t241 _ ?side1 ?side2 ?side3 ?side4 A11.out).mono ?_); (case side1 => repeat (first | exact (Kd.R_reads' HO231.out).2.2 | (with_reducible refine Kd.C_alloc ?_ _) | (with_reducible refine Kd.C_drewN ?_ _) | (with_reducible refine Kd.C_drew ?_))); (case side2 => exact (Kd.R_reads' HO231.out).2.1); (case side3 => repeat (first | exact (Kd.R_reads' HO238.out).2.2 | (with_reducible refine Kd.C_alloc ?_ _) | (with_reducible refine Kd.C_drewN ?_ _) | (with_reducible refine Kd.C_drew ?_))); (case side4 => exact (Kd.R_reads' HO238.out).2.1); rintro e w' ⟨rfl, ⟨nd, rfl⟩⟩))
        go_ret
        exact ⟨by first | rfl | (simp [errW_none, errW_some] <;> rfl) | (simp [*, errW_none, errW_some] <;> rfl), by repeat (first | (with_reducible first | exact HB.out | apply below_alloc | apply pw_below_drewN | apply below_drew1) | exact HB.out)⟩
      · rw [if_neg c10] at H
        have c10b0 : (t226 == t233) = false := beq_eq_false_iff_ne.mpr c10
        have c10b1 : (t226 != t233) = true := bne_iff_ne.mpr c10
        exact absurd ((Option.some.inj H).trans HPR.out) (by decide)
    · replace c9 := Bool.eq_false_iff.mpr c9
      subst c9
      have H1 : (some false) = some r := by rw [if_neg (show ¬ (false = true) by decide)] at H; exact H
      clear H
      have H := H1
      clear H1
      exact absurd ((Option.some.inj H).trans HPR.out) (by decide)
  · replace c7 := Bool.eq_false_iff.mpr c7
    subst c7
    have H1 : (some false) = some r := by rw [if_neg (show ¬ (false = true) by decide)] at H; exact H
    clear H
    have H := H1
    clear H1
    exact absurd ((Option.some.inj H).trans HPR.out) (by decide)

end Go.Proofs.Ytijlcahikeeigaa.QA
