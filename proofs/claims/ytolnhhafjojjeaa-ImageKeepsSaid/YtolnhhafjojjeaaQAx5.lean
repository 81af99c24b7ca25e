-- Laid by a program of this session out of Lean's own print of the program; hand-made contracts are pasted in. Lean checks it.
import Derived.Test.YtolnhhafjojjeaaQAx0
namespace Go.Proofs.Ytolnhhafjojjeaa.QA
open Go.RowKit Go.Proofs.YtolnhhafjojjeaaW.PrintWords Go.Proofs.YtolnhhafjojjeaaW.PrintLast Go.Proofs.YtolnhhafjojjeaaW.PrintMore
attribute [local go_sem] max2_int min2_int max_two min_two max_three min_three max_four min_four   -- for this text's walks alone
set_option linter.unusedVariables false
set_option linter.unusedSimpArgs false

/-! ### image_Cut: function 14 -/

def image_Cut.f (l0 : List Int) (a1 : Int) (a2 : Int) : Option (List Int × Int) := if a1 < 0 ∨ a2 < a1 ∨ (l0.length : Int) < a2 then some ([], 30) else if l0.length ≤ 281474976710656 then some ((l0.take a2.toNat).drop a1.toNat, 0) else none
theorem size5 : (Try.prog.info? 5).map (·.size) = some 1 := by kernel_rfl
theorem cut_len {w W : World} {A : Option Addr} {c : Nat} (l0 : List Int) (a1 a2 : Int) (h : Kd.C (Kd.int .u8) w A l0.length l0) (hc : l0.length ≤ c) (hb : Below w.heap.size w W) (h1 : 0 ≤ a1) (h2 : a1 ≤ a2) (h3 : a2 ≤ (l0.length : Int)) :
    Kd.C (Kd.int .u8) W (if c = a1.toNat then A else A.map (fun x => x.add a1.toNat)) (a2.toNat - a1.toNat) ((l0.take a2.toNat).drop a1.toNat) := by
  have e : ((l0.take a2.toNat).drop a1.toNat).length = a2.toNat - a1.toNat := by rw [List.length_drop, List.length_take]; omega
  have := Kd.C_below (Kd.C_mid (k := Kd.int .u8) (lo := a1.toNat) (hi := a2.toNat) h (by omega) (by omega) hc) hb
  rw [e] at this
  have e2 : a1.toNat * (Kd.int .u8).sz = a1.toNat := Nat.mul_one _
  rw [e2] at this
  exact this
theorem cut_whole (l0 : List Int) (a1 a2 : Int) (h1 : 0 ≤ a1) (h2 : a1 ≤ a2) (h3 : a2 ≤ (l0.length : Int)) :
    ((l0.take a2.toNat).drop a1.toNat).take (min (a2.toNat - a1.toNat) (List.replicate (a2 - a1).toNat (0 : Int)).length) ++ (List.replicate (a2 - a1).toNat (0 : Int)).drop (min (a2.toNat - a1.toNat) (List.replicate (a2 - a1).toNat (0 : Int)).length) = (l0.take a2.toNat).drop a1.toNat := by
  have e1 : (List.replicate (a2 - a1).toNat (0 : Int)).drop (min (a2.toNat - a1.toNat) (List.replicate (a2 - a1).toNat (0 : Int)).length) = [] :=
    List.drop_eq_nil_of_le (by rw [List.length_replicate]; omega)
  rw [e1, List.append_nil]
  exact List.take_of_length_le (by rw [List.length_drop, List.length_take, List.length_replicate]; omega)
set_option maxHeartbeats 800000 in
set_option maxRecDepth 100000 in
theorem image_Cut.calls (A0 : Option Addr) (c0 : Nat) (l0 : List Int) (a1 : Int) (a2 : Int) (r1 : List Int) (r2 : Int) (w : World) (hr0 : Kd.C (Kd.int .u8) w A0 l0.length l0) (hc0 : l0.length ≤ c0) (h : image_Cut.f l0 a1 a2 = some (r1, r2)) :
    Calls Try.prog 14 #[.slice A0 l0.length c0, .int .i64 a1, .int .i64 a2] w fun e w' => ∃ v0_ : Value, e = .returned (.tuple #[v0_, .int .i64 r2]) ∧ Kd.R (Kd.int .u8) 5 w' w.heap.size (fun _ => True) v0_ r1 ∧ Below w.heap.size w w' := by
  by_cases hbad : a1 < 0 ∨ a2 < a1 ∨ (l0.length : Int) < a2
  · have hh : some (([] : List Int), (30 : Int)) = some (r1, r2) := by rw [← h]; unfold image_Cut.f; rw [if_pos hbad]
    simp only [Option.some.injEq, Prod.mk.injEq] at hh
    obtain ⟨rfl, rfl⟩ := hh
    clear h
    have hnil := Kd.R_nil (Kd.int .u8) 5 w w.heap.size (fun _ => True)
    have hB := Below.refl w.heap.size w
    by_cases h1 : a1 < 0
    · clear hbad
      go_enter Try.func14, Try.ntmps14
      go_wp2
      go_ret2
      exact ⟨_, rfl, hnil, hB⟩
    · by_cases h2 : a2 < a1
      · clear hbad
        have h1 : 0 ≤ a1 := by omega
        go_enter Try.func14, Try.ntmps14
        go_wp2
        go_ret2
        exact ⟨_, rfl, hnil, hB⟩
      · have h3 : (l0.length : Int) < a2 := by omega
        have h1 : 0 ≤ a1 := by omega
        have h2 : a1 ≤ a2 := by omega
        clear hbad
        go_enter Try.func14, Try.ntmps14
        go_wp2
        go_ret2
        exact ⟨_, rfl, hnil, hB⟩
  · unfold image_Cut.f at h
    rw [if_neg hbad] at h
    by_cases hs : l0.length ≤ 281474976710656
    · rw [if_pos hs] at h
      simp only [Option.some.injEq, Prod.mk.injEq] at h
      obtain ⟨h, rfl⟩ := h
      have Hr := Aside0.mk h
      clear h
      have h1 : 0 ≤ a1 := by omega
      have h2 : a1 ≤ a2 := by omega
      have h3 : a2 ≤ (l0.length : Int) := by omega
      clear hbad
      obtain ⟨i0, hi0, hzz⟩ := Option.map_eq_some_iff.1 info5
      have hsz0 : i0.size = 1 := (Prod.mk.inj (Prod.mk.inj hzz).2).1
      clear hzz
      have hcut := cut_mid (P := Try.prog) 22 5 .i64 .i64 Try.underlying22 hi0 1 hsz0 A0 l0.length c0 a1 a2 h1 h2 h3 hc0
      have HR := Aside0.mk hr0
      clear hr0
      clear hi0 hsz0
      go_enter Try.func14, Try.ntmps14
      have hmk0 : 0 ≤ a2 - a1 := by omega
      have hmk1 : (a2 - a1).toNat * 1 ≤ 281474976710656 := by omega
      go_wp2_with (first
        | ((with_reducible refine gate_dst (N := 25) rfl ?_); refine Kd.R_make (Kd.int .u8) _ 5 rfl (N := 25) rfl 22 _ _ rfl (a2 - a1) rfl rfl Try.underlying22 (.int .u8 0) 1 info5 rfl (by decide) (by omega) 0 (ok := fun _ => True) (okp := fun _ => True) rfl (fun _ hk => hk) trivial hmk0 hmk1 (Below.refl _ _) (Nat.le_refl _) ?_; intro v102 w5 ho6 hb hg_ hnew_; have HO := Aside0.mk ho6; have HB5 := Aside0.mk hb; clear ho6 hb hg_ hnew_ hmk0 hmk1)
        | ((with_reducible refine gate_dst (N := 31) rfl ?_); refine Kd.R_copy (enc := Value.int .u8) (h1 := fun _ => rfl) (0 : Int) w.heap.size rfl (.tmp 26) (.tmp 30) 22 22 5 rfl Try.underlying22 size5 v102 (List.replicate (a2 - a1).toNat 0) ((l0.take a2.toNat).drop a1.toNat) (if c0 = a1.toNat then A0 else A0.map (fun x => x.add a1.toNat)) (a2.toNat - a1.toNat) (c0 - a1.toNat) (fun _ => True) rfl rfl HO.out (cut_len l0 a1 a2 HR.out hc0 HB5.out h1 h2 h3) HB5.out HB5.out.size ?_; intro w6 ho6 hb hg_; have HO6 := Aside0.mk ho6; have HB6 := Aside0.mk hb; clear ho6 hb hg_))
      all_goals
        go_ret2
        refine ⟨_, rfl, ?_, HB6.out⟩
        have h6 := HO6.out
        rw [cut_whole l0 a1 a2 h1 h2 h3, Hr.out] at h6
        exact h6
    · rw [if_neg hs] at h; cases h


end Go.Proofs.Ytolnhhafjojjeaa.QA
