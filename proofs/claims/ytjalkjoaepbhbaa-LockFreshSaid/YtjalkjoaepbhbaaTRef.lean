/- The reference's Locks: sixteen numbers in a block; its calls, walked. -/
import Derived.Test.YtjalkjoaepbhbaaTDrop
import Derived.StillTailTactics
namespace Go.Proofs.Ytjalkjoaepbhbaa.QA
open Go.RowKit Go.Maps Go.Proofs.YtjalkjoaepbhbaaW.PrintWords Go.Proofs.YtjalkjoaepbhbaaW.PrintLast Go.Proofs.YtjalkjoaepbhbaaW.PrintMore
set_option linter.unusedVariables false
set_option linter.unusedSimpArgs false
def cells16 (L : Who) : Array Value := ((List.range 16).map fun (n : Nat) => Value.int .i64 (L (n : Int))).toArray
theorem cells16_size (L : Who) : (cells16 L).size = 16 := by simp [cells16]
theorem cells16_at (L : Who) (n : Nat) (h : n < 16) : (cells16 L)[n]? = some (.int .i64 (L (n : Int))) := by simp [cells16, h]
theorem cells16_set (L : Who) (n : Nat) (h : n < 16) (y : Int) : (cells16 L).setIfInBounds n (.int .i64 y) = cells16 (upd1 L (n : Int) y) := by
  apply Array.ext
  · simp [cells16]
  · intro i h1 h2
    have hi : i < 16 := by rw [cells16_size] at h2; exact h2
    rw [Array.getElem_setIfInBounds (by rw [cells16_size]; exact hi)]
    by_cases e : n = i
    · subst e
      simp [cells16, upd1]
    · have e2 : ¬ ((i : Int) = (n : Int)) := by omega
      simp [cells16, upd1, e, e2]
/-- The reference's Locks: L in a block. -/
def Lr (w : World) (r : Nat) (L : Who) : Prop := w.heap[r]? = some (.cells (cells16 L) 51 (0, 0))
theorem Lr.move {w w1 : World} {r : Nat} {L : Who} {S : Nat → Prop} (h : Lr w r L) (m : Mv w w1 S) (hr : ¬ S r) : Lr w1 r L := m.blk h hr
theorem Lr.below {w w1 : World} {r : Nat} {L : Who} (h : Lr w r L) (hb : Below w.heap.size w w1) : Lr w1 r L := blk_below h hb
theorem Lr.cell {w : World} {r : Nat} {L : Who} (h : Lr w r L) (n : Nat) (hn : n < 16) : w.cell? ⟨r, n, none⟩ = some (.int .i64 (L (n : Int))) := by
  rw [blk_cell h, cells16_at L n hn]
theorem is26_yes (n : Nat) (h : n < 16) (w : World) : Calls Try.prog 26 #[.int .i64 (n : Int)] w fun e w' => e = .returned (.bool true) ∧ w = w' := by
  have d1 : decide (0 ≤ (n : Int)) = true := decide_eq_true (by omega)
  have d2 : decide ((n : Int) < 16) = true := decide_eq_true (by omega)
  go_enter Try.func26, Try.ntmps26
  go_wp2
  go_ret
  exact ⟨rfl, rfl⟩
theorem is26_no (page : Int) (h : page < 0 ∨ 16 ≤ page) (w : World) : Calls Try.prog 26 #[.int .i64 page] w fun e w' => e = .returned (.bool false) ∧ w = w' := by
  by_cases h1 : page < 0
  · have d1 : decide (0 ≤ page) = false := decide_eq_false (by omega)
    clear h
    go_enter Try.func26, Try.ntmps26
    go_wp2
    go_ret
    exact ⟨rfl, rfl⟩
  · have d1 : decide (0 ≤ page) = true := decide_eq_true (by omega)
    have d2 : decide (page < 16) = false := decide_eq_false (by omega)
    clear h h1
    go_enter Try.func26, Try.ntmps26
    go_wp2
    go_ret
    exact ⟨rfl, rfl⟩
theorem new8 {w : World} : Calls Try.prog 8 #[] w fun e w' => ∃ r, e = .returned (.pointer (some ⟨r, 0, none⟩)) ∧ Lr w' r (fun _ => 0) ∧ w.heap.size ≤ r ∧ Below w.heap.size w w' := by
  go_enter Try.func8, Try.ntmps8
  go_wp2
  go_ret
  refine ⟨_, rfl, ?_, Nat.le_refl _, (Below.refl _ _).alloc (Nat.le_refl _) _⟩
  have := heap_alloc_new w (Obj.cells (cells16 fun _ => 0) 51 (0, 0))
  exact this
theorem holder23 {w : World} {r : Nat} {L : Who} (h : Lr w r L) (hL : Births L) (page : Int) : Calls Try.prog 23 #[.pointer (some ⟨r, 0, none⟩), .int .i64 page] w fun e w' => e = .returned (.int .i64 (L page)) ∧ w = w' := by
  by_cases hp : page < 0 ∨ 16 ≤ page
  · have h0 : L page = 0 := by
      by_cases e : L page = 0
      · exact e
      · have := hL.page page e; omega
    rw [h0]
    have HP := Aside0.mk hp
    clear hp h0
    go_enter Try.func23, Try.ntmps23
    go_wp2_with (go_at_call 26; refine (is26_no page HP.out _).mono ?_; rintro e w' ⟨rfl, rfl⟩)
    go_ret
    exact ⟨rfl, rfl⟩
  · obtain ⟨n, rfl⟩ : ∃ n : Nat, page = (n : Int) := ⟨page.toNat, by omega⟩
    have hn : n < 16 := by omega
    have hn1 : (n : Int) < 16 := by omega
    have hc := h.cell n hn
    clear hp
    go_enter Try.func23, Try.ntmps23
    go_wp2_with (go_at_call 26; refine (is26_yes n hn _).mono ?_; rintro e w' ⟨rfl, rfl⟩)
    go_ret
    exact ⟨rfl, rfl⟩
theorem give21 {w : World} {r : Nat} {L : Who} (h : Lr w r L) (hL : Births L) (page : Int) : Calls Try.prog 21 #[.pointer (some ⟨r, 0, none⟩), .int .i64 page] w fun e w' => e = .returned (.bool (gave L page)) ∧ Lr w' r (upd1 L page 0) ∧ Mv w w' (fun k => k = r) := by
  by_cases hp : page < 0 ∨ 16 ≤ page
  · have h0 : L page = 0 := by
      by_cases e : L page = 0
      · exact e
      · have := hL.page page e; omega
    have hu : upd1 L page 0 = L := by
      funext z
      unfold upd1
      by_cases e : z = page
      · rw [if_pos e, e, h0]
      · rw [if_neg e]
    have hg : gave L page = false := by unfold gave; simp [h0]
    rw [hu, hg]
    have HP := Aside0.mk hp
    have H := Aside0.mk h
    clear hp h0 hu hg h
    go_enter Try.func21, Try.ntmps21
    go_wp2_with (go_at_call 26; refine (is26_no page HP.out _).mono ?_; rintro e w' ⟨rfl, rfl⟩)
    go_ret
    exact ⟨rfl, H.out, Mv.refl _ _⟩
  · obtain ⟨n, rfl⟩ : ∃ n : Nat, page = (n : Int) := ⟨page.toNat, by omega⟩
    have hn : n < 16 := by omega
    have hn1 : (n : Int) < 16 := by omega
    have hc := h.cell n hn
    have H := Aside0.mk h
    clear hp h
    by_cases h0 : L (n : Int) = 0
    · have d5 : (L (n : Int) == 0) = true := by rw [h0]; rfl
      have hg : gave L (n : Int) = false := by unfold gave; simp [h0]
      have hu : upd1 L (n : Int) 0 = L := by
        funext z
        unfold upd1
        by_cases e : z = (n : Int)
        · rw [if_pos e, e, h0]
        · rw [if_neg e]
      rw [hu, hg]
      clear h0 hu hg
      go_enter Try.func21, Try.ntmps21
      go_wp2_with (go_at_call 26; refine (is26_yes n hn _).mono ?_; rintro e w' ⟨rfl, rfl⟩)
      go_ret
      exact ⟨rfl, H.out, Mv.refl _ _⟩
    · have d5 : (L (n : Int) == 0) = false := beq_eq_false_iff_ne.mpr h0
      have hg : gave L (n : Int) = true := by unfold gave; simp [h0]
      rw [hg]
      clear h0 hg
      go_enter Try.func21, Try.ntmps21
      go_wp2_with (first
        | (go_at_call 26; refine (is26_yes n hn _).mono ?_; rintro e w' ⟨rfl, rfl⟩)
        | ((with_reducible refine gate_store (t := 3) (p := 21) (v := .const (.int .i64 0)) rfl ?_); refine put_event rfl rfl (g := r) (i := n) (v := .int .i64 0) rfl rfl rfl rfl H.out (by rw [cells16_size]; exact hn) (by kernel_rfl) ?_
           intro w1 hb1 mv1
           rw [cells16_set L n hn] at hb1
           have HB := Aside0.mk hb1
           have HM := Aside0.mk mv1
           clear hb1 mv1))
      go_ret
      exact ⟨rfl, HB.out, HM.out⟩
set_option maxHeartbeats 1000000 in
theorem take20 {w : World} {r : Nat} {L : Who} (h : Lr w r L) (page birth : Int) :
    Calls Try.prog 20 #[.pointer (some ⟨r, 0, none⟩), .int .i64 page, .int .i64 birth] w fun e w' => e = .returned (.int .i64 (takeE L page birth)) ∧ Lr w' r (takeL L page birth) ∧ Mv w w' (fun k => k = r) := by
  have H := Aside0.mk h
  have hno : ∀ n : Int, n ≠ 0 → takeE L page birth = n → (e : Ending) → e = .returned (.int .i64 n) → e = .returned (.int .i64 (takeE L page birth)) ∧ Lr w r (takeL L page birth) ∧ Mv w w (fun k => k = r) := by
    intro n hn he e h1
    refine ⟨by rw [he]; exact h1, ?_, Mv.refl _ _⟩
    unfold takeL
    rw [he, if_neg hn]
    exact h
  have Hno := Aside0.mk hno
  clear hno
  by_cases h1 : page < 0 ∨ 16 ≤ page
  · have HE := Aside0.mk (show takeE L page birth = 61 from by unfold takeE; rw [if_pos h1])
    have HP := Aside0.mk h1
    clear h1 h
    go_enter Try.func20, Try.ntmps20
    go_wp2_with (go_at_call 26; refine (is26_no page HP.out _).mono ?_; rintro e w' ⟨rfl, rfl⟩)
    go_ret
    exact Hno.out 61 (by decide) HE.out _ rfl
  · obtain ⟨n, rfl⟩ : ∃ n : Nat, page = (n : Int) := ⟨page.toNat, by omega⟩
    have hn : n < 16 := by omega
    have hn1 : (n : Int) < 16 := by omega
    have hc := h.cell n hn
    clear h
    by_cases h2 : birth < 1 ∨ 1152921504606846976 < birth
    · have HE := Aside0.mk (show takeE L (n : Int) birth = 30 from by unfold takeE; rw [if_neg h1, if_pos h2])
      clear h1
      rcases h2 with h2 | h2
      · have d3 := decide_eq_true h2
        go_enter Try.func20, Try.ntmps20
        go_wp2_with (go_at_call 26; refine (is26_yes n hn _).mono ?_; rintro e w' ⟨rfl, rfl⟩)
        go_ret
        exact Hno.out 30 (by decide) HE.out _ rfl
      · have d3 : decide (birth < 1) = false := decide_eq_false (by omega)
        have d4 := decide_eq_true h2
        go_enter Try.func20, Try.ntmps20
        go_wp2_with (go_at_call 26; refine (is26_yes n hn _).mono ?_; rintro e w' ⟨rfl, rfl⟩)
        go_ret
        exact Hno.out 30 (by decide) HE.out _ rfl
    · have d3 : decide (birth < 1) = false := decide_eq_false (by omega)
      have d4 : decide (1152921504606846976 < birth) = false := decide_eq_false (by omega)
      by_cases h3 : L (n : Int) ≠ 0 ∧ L (n : Int) ≠ birth
      · have HE := Aside0.mk (show takeE L (n : Int) birth = 150 from by unfold takeE; rw [if_neg h1, if_neg h2, if_pos h3])
        have d5 : (L (n : Int) != 0) = true := bne_iff_ne.mpr h3.1
        have d6 : (L (n : Int) != birth) = true := bne_iff_ne.mpr h3.2
        clear h1 h2 h3
        go_enter Try.func20, Try.ntmps20
        go_wp2_with (go_at_call 26; refine (is26_yes n hn _).mono ?_; rintro e w' ⟨rfl, rfl⟩)
        go_ret
        exact Hno.out 150 (by decide) HE.out _ rfl
      · have HE := Aside0.mk (show takeE L (n : Int) birth = 0 from by unfold takeE; rw [if_neg h1, if_neg h2, if_neg h3])
        have fin : ∀ w1 : World, w1.heap[r]? = some (.cells (cells16 (upd1 L (n : Int) birth)) 51 (0, 0)) → Mv w w1 (fun k => k = r) → (e : Ending) → e = .returned (.int .i64 0) → e = .returned (.int .i64 (takeE L (n : Int) birth)) ∧ Lr w1 r (takeL L (n : Int) birth) ∧ Mv w w1 (fun k => k = r) := by
          intro w1 ho hm e he
          refine ⟨by rw [HE.out]; exact he, ?_, hm⟩
          unfold takeL
          rw [HE.out, if_pos rfl]
          exact ho
        have Fin := Aside0.mk fin
        clear fin
        by_cases h4 : L (n : Int) = 0
        · have d5 : (L (n : Int) != 0) = false := by rw [h4]; rfl
          have d5' : (L (n : Int) == 0) = true := by rw [h4]; rfl
          clear h1 h2 h3 h4
          go_enter Try.func20, Try.ntmps20
          go_wp2_with (first
            | (go_at_call 26; refine (is26_yes n hn _).mono ?_; rintro e w' ⟨rfl, rfl⟩)
            | ((with_reducible refine gate_store (t := 3) (p := 38) (v := .tmp 35) rfl ?_); refine put_event rfl rfl (g := r) (i := n) (v := .int .i64 birth) rfl rfl rfl rfl H.out (by rw [cells16_size]; exact hn) (by kernel_rfl) ?_
               intro w1 hb1 mv1
               rw [cells16_set L n hn] at hb1
               have HB := Aside0.mk hb1
               have HM := Aside0.mk mv1
               clear hb1 mv1))
          go_ret
          exact Fin.out _ HB.out HM.out _ rfl
        · have h5 : L (n : Int) = birth := by
            by_cases h6 : L (n : Int) = birth
            · exact h6
            · exact absurd ⟨h4, h6⟩ h3
          have d5 : (L (n : Int) != 0) = true := bne_iff_ne.mpr h4
          have d6 : (L (n : Int) != birth) = false := by rw [h5]; simp
          have d6' : (L (n : Int) == birth) = true := by rw [h5]; simp
          clear h1 h2 h3 h4 h5
          go_enter Try.func20, Try.ntmps20
          go_wp2_with (first
            | (go_at_call 26; refine (is26_yes n hn _).mono ?_; rintro e w' ⟨rfl, rfl⟩)
            | ((with_reducible refine gate_store (t := 3) (p := 38) (v := .tmp 35) rfl ?_); refine put_event rfl rfl (g := r) (i := n) (v := .int .i64 birth) rfl rfl rfl rfl H.out (by rw [cells16_size]; exact hn) (by kernel_rfl) ?_
               intro w1 hb1 mv1
               rw [cells16_set L n hn] at hb1
               have HB := Aside0.mk hb1
               have HM := Aside0.mk mv1
               clear hb1 mv1))
          go_ret
          exact Fin.out _ HB.out HM.out _ rfl
set_option maxHeartbeats 4000000 in
set_option maxRecDepth 100000 in
theorem held24 {w : World} {r : Nat} {L : Who} (h : Lr w r L) (birth : Int) :
    Calls Try.prog 24 #[.pointer (some ⟨r, 0, none⟩), .int .i64 birth] w fun e w' => ∃ v, e = .returned v ∧ Kd.R (Kd.int .i64) 3 w' w.heap.size (fun _ => True) v (heldL L birth) ∧ Below w.heap.size w w' := by
  have H := Aside0.mk h
  obtain ⟨upto, hup⟩ : ∃ f : Nat → List Int, f = fun j => (pages16.take j).filter fun p => decide (L p = birth ∧ L p ≠ 0) := ⟨_, rfl⟩
  have HU0 := Aside0.mk (show upto 0 = [] from by rw [hup]; rfl)
  have HU16 := Aside0.mk (show upto 16 = heldL L birth from by rw [hup]; rfl)
  have HUy := Aside0.mk (show ∀ j : Nat, j < 16 → L (j : Int) = birth → birth ≠ 0 → upto (j + 1) = upto j ++ [(j : Int)] from fun j hj h1 h2 => by
    rw [hup]
    show List.filter _ (pages16.take (j + 1)) = _
    rw [List.take_succ_eq_append_getElem (by simpa [pages16] using hj), List.filter_append]
    simp [pages16, h1, h2])
  have HUn := Aside0.mk (show ∀ j : Nat, j < 16 → ¬ (L (j : Int) = birth ∧ birth ≠ 0) → upto (j + 1) = upto j from fun j hj h1 => by
    rw [hup]
    show List.filter _ (pages16.take (j + 1)) = _
    rw [List.take_succ_eq_append_getElem (by simpa [pages16] using hj), List.filter_append]
    have : decide (L (j : Int) = birth ∧ L (j : Int) ≠ 0) = false := decide_eq_false (fun h2 => h1 ⟨h2.1, h2.1 ▸ h2.2⟩)
    simp [pages16] at this ⊢
    exact this)
  have HUl := Aside0.mk (show ∀ j : Nat, (upto j).length ≤ 16 from fun j => by
    rw [hup]
    refine Nat.le_trans (List.length_filter_le _ _) ?_
    simp [pages16]
    omega)
  clear hup h
  go_enter Try.func24, Try.ntmps24
  go_wp2_with fail
  go_loopg [5, 6] 16 (fun kq v5 v6 wr => ∃ (j : Nat), v6 = .int .i64 (j : Int) ∧ Aside0 (j + kq = 16) ∧ Aside0 (Kd.R (Kd.int .i64) 3 wr w.heap.size (fun _ => True) v5 (upto j)) ∧ Aside0 (Below w.heap.size w wr))
  case atStart => exact ⟨0, rfl, ⟨rfl⟩, ⟨by rw [HU0.out]; exact Kd.R_nil _ _ _ _ _⟩, ⟨Below.refl _ _⟩⟩
  case round =>
    obtain ⟨j, rfl, hjk, hR, hB⟩ := hrel
    cases gk with
    | zero =>
      obtain rfl : j = 16 := hjk.out
      go_wp2
      go_ret
      exact ⟨_, rfl, by have := hR.out; rwa [HU16.out] at this, hB.out⟩
    | succ k1 =>
      have hj0 : j < 16 := by have := hjk.out; omega
      have hj1 : (j : Int) < 16 := by omega
      have hj2 : decide ((j : Int) < 16) = true := decide_eq_true hj1
      obtain ⟨A5, c5, hv5⟩ := Kd.R_slice hR.out
      subst hv5
      obtain ⟨Ws, hWs, hR⟩ : ∃ W, W = _ ∧ Aside0 (Kd.R (Kd.int .i64) 3 W w.heap.size (fun _ => True) (.slice A5 (upto j).length c5) (upto j)) := ⟨_, rfl, hR⟩
      subst hWs
      have hc := (H.out.below hB.out).cell j hj0
      by_cases h0 : birth = 0
      · have d0 : (birth != 0) = false := by rw [h0]; rfl
        have d0' : (birth == 0) = true := by rw [h0]; rfl
        have HN := Aside0.mk (HUn.out j hj0 (fun h2 => h2.2 h0))
        clear h0
        go_wp2
        go_roundg k1
        case measure => omega
        case rel => exact ⟨j + 1, rfl, ⟨by have := hjk.out; omega⟩, ⟨by rw [HN.out]; exact hR.out⟩, hB⟩
      · have d0 : (birth != 0) = true := bne_iff_ne.mpr h0
        by_cases h1 : L (j : Int) = birth
        · have d1 : (L (j : Int) == birth) = true := beq_iff_eq.mpr h1
          have HY := Aside0.mk (HUy.out j hj0 h1 h0)
          clear h0 h1
          go_wp2_with (first
            | ((with_reducible refine gate_builtin (b := .append) (xs := #[.tmp 23, .tmp 25]) rfl ?_); at_builtin; refine keep_event (base := w.heap.size) (W := Ws) hB.out.size rfl (.tmp 23) (.tmp 25) rfl Try.underlying39 info3 (xs := upto j) (j : Int) rfl rfl hR.out (by have := HUl.out j; omega) ?_
               intro v1 w2 hR2 hm2 hat2 hC2
               have R2 := Aside0.mk hR2
               have M2 := Aside0.mk hm2
               clear hR2 hm2 hat2 hC2))
          go_roundg k1
          case measure => omega
          case rel => exact ⟨j + 1, rfl, ⟨by have := hjk.out; omega⟩, ⟨by rw [HY.out]; exact R2.out⟩, ⟨M2.out.below hB.out hB.out.size (fun k hk => Kd.R_base hR.out k hk.symm)⟩⟩
        · have d1 : (L (j : Int) == birth) = false := beq_eq_false_iff_ne.mpr h1
          have HN := Aside0.mk (HUn.out j hj0 (fun h2 => h1 h2.1))
          clear h0 h1
          go_wp2
          go_roundg k1
          case measure => omega
          case rel => exact ⟨j + 1, rfl, ⟨by have := hjk.out; omega⟩, ⟨by rw [HN.out]; exact hR.out⟩, hB⟩
set_option maxHeartbeats 4000000 in
set_option maxRecDepth 100000 in
theorem drop22 {w : World} {r : Nat} {L : Who} (h : Lr w r L) (hL : Births L) (birth : Int) :
    Calls Try.prog 22 #[.pointer (some ⟨r, 0, none⟩), .int .i64 birth] w fun e w' => ∃ v, e = .returned v ∧ Kd.R (Kd.int .i64) 3 w' w.heap.size (fun _ => True) v (heldL L birth) ∧ Lr w' r (dropL L birth) ∧ Mv w w' (fun k => k = r) := by
  have H := Aside0.mk h
  have hrl := blk_lt h
  have Hheld := Aside0.mk (held24 h birth)
  have hlen := held_length L birth
  have Hin := Aside0.mk (show ∀ x ∈ heldL L birth, 0 ≤ x ∧ x < 16 from fun x hx => hL.page x ((held_mem hL birth x).1 hx).2)
  have Hend := Aside0.mk (delL_held hL birth)
  clear h
  obtain ⟨xs, hxs⟩ : ∃ z, z = heldL L birth := ⟨_, rfl⟩
  rw [← hxs] at Hheld Hin Hend hlen ⊢
  clear hxs
  go_enter Try.func22, Try.ntmps22
  go_wp2_with (first
    | ((with_reducible refine gate_dst (N := 9) rfl ?_); refine goesL_ (some 9) rfl rfl Try.func24 (by kernel_rfl) rfl #[.pointer (some ⟨r, 0, none⟩), .int .i64 birth] rfl (by (try simp only [List.map_toArray, List.map_cons, List.map_nil]); first | done | rfl) ?_
       refine Hheld.out.mono ?_
       rintro e w1 ⟨v, rfl, hr, hb⟩
       refine ⟨_, rfl, ?_⟩
       obtain ⟨A5, c5, rfl⟩ := Kd.R_slice hr
       have R1 := Aside0.mk hr
       have B1 := Aside0.mk hb
       have H1 := Aside0.mk (H.out.below hb)
       clear hr hb))
  go_loopg [6] xs.length (fun kq v6 wr => ∃ (j : Nat), v6 = .int .i64 (j : Int) ∧ Aside0 (j + kq = xs.length) ∧ Aside0 (Lr wr r (delL L (xs.take j))) ∧ Aside0 (Kd.R (Kd.int .i64) 3 wr w.heap.size (fun _ => True) (.slice A5 xs.length c5) xs) ∧ Aside0 (Mv w wr (fun k => k = r)))
  case atStart => exact ⟨0, rfl, ⟨by omega⟩, ⟨by rw [List.take_zero, delL_nil]; exact H1.out⟩, R1, ⟨Mv.of_below B1.out _⟩⟩
  case round =>
    clear H1 R1 B1
    obtain ⟨j, rfl, hjk, hH, hR, hM⟩ := hrel
    cases gk with
    | zero =>
      obtain rfl : j = xs.length := hjk.out
      have hd1 : ¬ ((xs.length : Int) < (xs.length : Int)) := by omega
      have H2 := Aside0.mk hH.out
      rw [List.take_length, Hend.out] at H2
      go_wp2
      go_ret
      exact ⟨_, rfl, hR.out, H2.out, hM.out⟩
    | succ k1 =>
      have hj0 : j < xs.length := by have := hjk.out; omega
      have hj1 : (j : Int) < (xs.length : Int) := by omega
      have hj2 : decide ((j : Int) < (xs.length : Int)) = true := decide_eq_true hj1
      obtain ⟨Ws, hWs, hR⟩ : ∃ W, W = _ ∧ Aside0 (Kd.R (Kd.int .i64) 3 W w.heap.size (fun _ => True) (.slice A5 xs.length c5) xs) := ⟨_, rfl, hR⟩
      subst hWs
      have hxe : xs[j]? = some (rd xs (j : Int)) := by
        unfold rd
        rw [Int.toNat_natCast, List.getD_eq_getElem?_getD, List.getElem?_eq_getElem hj0]
        rfl
      have hmem := Hin.out _ (List.mem_of_getElem? hxe)
      obtain ⟨x, hx⟩ : ∃ x : Nat, (x : Int) = rd xs (j : Int) := ⟨(rd xs (j : Int)).toNat, by omega⟩
      obtain ⟨ad, e, hce⟩ := Kd.at_int (Kd.R_reads' hR.out).2.2 (j : Int) (by omega) hj1
      subst e
      rw [Int.toNat_natCast, ← hx] at hce
      have hx0 : x < 16 := by omega
      have hx1 : (x : Int) < 16 := by omega
      have hxm := Aside0.mk (show xs.take (j + 1) = xs.take j ++ [(x : Int)] from by
        rw [List.take_succ_eq_append_getElem hj0, hx]
        rw [List.getElem?_eq_getElem hj0] at hxe
        injection hxe with hxe
        rw [hxe])
      have HN := Aside0.mk (hH.out.cell x hx0)
      clear hx hxe hmem
      go_upto_region 5 with fail
      go_still_tail 8, (by kernel_rfl)
      change wpList _ _ _ _ _ Ws.drew
      have hd := below_drew (Below.refl Ws.heap.size Ws)
      have HD := Aside0.mk (hH.out.below hd)
      have RD := Aside0.mk (Kd.R_below hR.out hd)
      have MD := Aside0.mk (hM.out.then_ (Mv.of_below hd (fun _ => False)) (fun k hk => hk.elim))
      clear hd hce HN
      generalize Ws.drew = wd at HD RD MD ⊢
      go_wp2_with (first
        | ((with_reducible refine gate_store (t := 3) (p := 23) (v := .const (.int .i64 0)) rfl ?_); refine put_event rfl rfl (g := r) (i := x) (v := .int .i64 0) rfl rfl rfl rfl HD.out (by rw [cells16_size]; exact hx0) (by kernel_rfl) ?_
           intro w2 hb1 mv1
           rw [cells16_set _ x hx0] at hb1
           have HB := Aside0.mk hb1
           have HM := Aside0.mk mv1
           clear hb1 mv1))
      go_roundg k1
      case measure => omega
      case rel =>
        refine ⟨j + 1, rfl, ⟨by have := hjk.out; omega⟩, ⟨by rw [hxm.out, ← delL_step]; exact HB.out⟩, ⟨?_⟩, ⟨MD.out.then_ HM.out (fun k hk => .inl hk)⟩⟩
        exact C_of_block (w2 := w2) RD.out (fun k hk => HM.out.block k (Kd.R_lt RD.out k hk) (fun e => by have := Kd.R_base RD.out k hk; omega))
end Go.Proofs.Ytjalkjoaepbhbaa.QA
