/- Locks: what its map tells; New, Take, Give, Holder walked. -/
import Derived.Test.YtjalkjoaepbhbaaTMap
namespace Go.Proofs.Ytjalkjoaepbhbaa.QA
open Go.RowKit Go.Maps Go.Proofs.YtjalkjoaepbhbaaW.PrintWords Go.Proofs.YtjalkjoaepbhbaaW.PrintLast Go.Proofs.YtjalkjoaepbhbaaW.PrintMore
set_option linter.unusedVariables false
set_option linter.unusedSimpArgs false
/-- Who holds a page: 0 for none. -/
abbrev Who := Int → Int
def opt (L : Who) : Int → Option Int := fun x => if L x = 0 then none else some (L x)
structure Births (L : Who) : Prop where
  page : ∀ x, L x ≠ 0 → 0 ≤ x ∧ x < 16
  birth : ∀ x, L x ≠ 0 → 1 ≤ L x ∧ L x ≤ 1152921504606846976
theorem Births.lo {L : Who} (h : Births L) (x : Int) : 0 ≤ L x := by
  by_cases e : L x = 0
  · omega
  · have := h.birth x e; omega
theorem Births.hi {L : Who} (h : Births L) (x : Int) : L x ≤ 1152921504606846976 := by
  by_cases e : L x = 0
  · omega
  · have := h.birth x e; omega
structure Lk (w : World) (p b : Nat) (L : Who) : Prop where
  cell : w.heap[p]? = some (.cells #[.map (some b)] 49 (0, 0))
  map : ∃ D : DataW Unit, w.ownsMap Try.prog 3 (plainElem Try.prog 3) b 16 D ∧ Tell .i64 D (opt L)
  ok : Births L
theorem law3 : Keyed Try.prog 3 := int_keyed Try.underlying3
theorem zero3 (w : World) : (zeroValue 3).run Try.prog w = .ok (.int .i64 0) w := by kernel_rfl
theorem opt_get (L : Who) (x : Int) : (opt L x).getD 0 = L x := by
  unfold opt
  by_cases e : L x = 0
  · rw [if_pos e, e]; rfl
  · rw [if_neg e]; rfl
def gave (L : Who) (x : Int) : Bool := decide (L x ≠ 0)
theorem opt_some (L : Who) (x : Int) : (opt L x).isSome = gave L x := by
  unfold opt gave
  by_cases e : L x = 0
  · rw [if_pos e]; simp [e]
  · rw [if_neg e]; simp [e]
def upd1 (L : Who) (x y : Int) : Who := fun z => if z = x then y else L z
theorem opt_upd (L : Who) (x y : Int) : opt (upd1 L x y) = updO (opt L) x (if y = 0 then none else some y) := by
  funext z
  unfold opt upd1 updO
  by_cases e : z = x
  · simp [e]
  · simp [e]
/-- The map bounded by its pages. -/
theorem own16 {w : World} {b n : Nat} {D : DataW Unit} {L : Who} (h : w.ownsMap Try.prog 3 (plainElem Try.prog 3) b n D) (t : Tell .i64 D (opt L)) (hL : Births L) : w.ownsMap Try.prog 3 (plainElem Try.prog 3) b 16 D :=
  (own_size h).mono (t.size_le (h.canon law3) 16 (fun x c e => by
    unfold opt at e
    by_cases e0 : L x = 0
    · rw [if_pos e0] at e; cases e
    · exact hL.page x e0))
theorem Lk.ne {w : World} {p b : Nat} {L : Who} (h : Lk w p b L) : p ≠ b := by
  rintro rfl
  obtain ⟨D, ⟨es, clock, hb, _⟩, _⟩ := h.map
  rw [h.cell] at hb
  cases hb
theorem Lk.lt {w : World} {p b : Nat} {L : Who} (h : Lk w p b L) : p < w.heap.size ∧ b < w.heap.size := by
  obtain ⟨D, hD, _⟩ := h.map
  exact ⟨blk_lt h.cell, hD.lt⟩
theorem Lk.move {w w1 : World} {p b : Nat} {L : Who} {S : Nat → Prop} (h : Lk w p b L) (m : Mv w w1 S) (hp : ¬ S p) (hb : ¬ S b) : Lk w1 p b L := by
  obtain ⟨D, hD, ht⟩ := h.map
  exact ⟨m.blk h.cell hp, ⟨D, own_block hD (m.block b h.lt.2 hb), ht⟩, h.ok⟩
theorem Lk.below {w w1 : World} {p b : Nat} {L : Who} (h : Lk w p b L) (hb : Below w.heap.size w w1) : Lk w1 p b L := h.move (Mv.of_below hb (fun _ => False)) (fun h => h) (fun h => h)
theorem Mv.of_turned {w w1 : World} {b : Nat} (h : w.mapTurned w1 b) : Mv w w1 (fun k => k = b) := (Mv.of_grown h.grown).mono (fun k hk => by injection hk)
/-- What a take answers, and leaves. -/
def takeE (L : Who) (page birth : Int) : Int := if page < 0 ∨ 16 ≤ page then 61 else if birth < 1 ∨ 1152921504606846976 < birth then 30 else if L page ≠ 0 ∧ L page ≠ birth then 150 else 0
def takeL (L : Who) (page birth : Int) : Who := if takeE L page birth = 0 then upd1 L page birth else L
theorem take_ok {L : Who} (h : Births L) (page birth : Int) (hp : 0 ≤ page ∧ page < 16) (hb : 1 ≤ birth ∧ birth ≤ 1152921504606846976) : Births (upd1 L page birth) := by
  refine ⟨fun x hx => ?_, fun x hx => ?_⟩
  · unfold upd1 at hx
    by_cases e : x = page
    · subst e; exact hp
    · rw [if_neg e] at hx; exact h.page x hx
  · unfold upd1 at hx ⊢
    by_cases e : x = page
    · rw [if_pos e]; exact hb
    · rw [if_neg e] at hx ⊢; exact h.birth x hx
theorem give_ok {L : Who} (h : Births L) (page : Int) : Births (upd1 L page 0) := by
  refine ⟨fun x hx => ?_, fun x hx => ?_⟩
  · unfold upd1 at hx
    by_cases e : x = page
    · rw [if_pos e] at hx; exact absurd rfl hx
    · rw [if_neg e] at hx; exact h.page x hx
  · unfold upd1 at hx ⊢
    by_cases e : x = page
    · rw [if_pos e] at hx; exact absurd rfl hx
    · rw [if_neg e] at hx ⊢; exact h.birth x hx
theorem wf_i64 {x : Int} (h : -9223372036854775808 ≤ x ∧ x ≤ 9223372036854775807) : (Lit.int .i64 x).wf = true := by
  simp [Lit.wf, IntKind.min, IntKind.max, IntKind.signed, IntKind.bits]
  omega
theorem of_wf_i64 {x : Int} (h : (Lit.int .i64 x).wf = true) : -9223372036854775808 ≤ x ∧ x ≤ 9223372036854775807 := by
  simp [Lit.wf, IntKind.min, IntKind.max, IntKind.signed, IntKind.bits] at h
  omega
set_option maxHeartbeats 1000000 in
theorem holder19 {w : World} {p b : Nat} {L : Who} (h : Lk w p b L) (page : Int) (hw : (Lit.int .i64 page).wf = true) :
    Calls Try.prog 19 #[.pointer (some ⟨p, 0, none⟩), .int .i64 page] w fun e w' => e = .returned (.int .i64 (L page)) ∧ w = w' := by
  obtain ⟨D, hD, ht⟩ := h.map
  have hc : w.cell? ⟨p, 0, none⟩ = some (.map (some b)) := blk_cell h.cell 0
  have HD := Aside0.mk hD
  have HT := Aside0.mk ht
  have HW := Aside0.mk hw
  clear hD ht hw h
  go_enter Try.func19, Try.ntmps19
  go_wp2_with (first
    | (at_lookup; refine wpList_lookup_own_int _ rfl _ _ 47 rfl 3 3 .i64 law3 Try.underlying47 Try.underlying3 (zero3 _) b 16 D rfl HD.out _ _ rfl (keyOf_int_mk Try.underlying3 HW.out) ?_
       intro c hat hwc
       rw [HT.out.atD, opt_get] at hat
       have hc2 : L page = c := by injection hat with h1; injection h1
       subst hc2
       clear hat hwc))
  go_ret
  exact ⟨rfl, rfl⟩
set_option maxHeartbeats 1000000 in
theorem give16 {w : World} {p b : Nat} {L : Who} (h : Lk w p b L) (page : Int) (hw : (Lit.int .i64 page).wf = true) :
    Calls Try.prog 16 #[.pointer (some ⟨p, 0, none⟩), .int .i64 page] w fun e w' => e = .returned (.bool (gave L page)) ∧ Lk w' p b (upd1 L page 0) ∧ Mv w w' (fun k => k = b) := by
  obtain ⟨D, hD, ht⟩ := h.map
  have hc : w.cell? ⟨p, 0, none⟩ = some (.map (some b)) := blk_cell h.cell 0
  have HD := Aside0.mk hD
  have HT := Aside0.mk ht
  have HW := Aside0.mk hw
  have H := Aside0.mk h
  clear hD ht hw h
  go_enter Try.func16, Try.ntmps16
  go_wp2_with (first
    | (at_lookup; refine wpList_lookup_own_ok_int _ rfl _ _ 47 rfl 3 3 .i64 law3 Try.underlying47 Try.underlying3 (zero3 _) b 16 D rfl HD.out _ _ rfl (keyOf_int_mk Try.underlying3 HW.out) ?_
       intro c hat hwc
       rw [HT.out.has_, opt_some]
       clear hat hwc)
    | (at_delete; refine wpList_delete_own _ rfl _ _ 47 3 rfl 3 law3 Try.underlying47 _ b 16 D rfl HD.out _ _ rfl (keyOf_int_mk Try.underlying3 HW.out) ?_
       intro w1 hown1 hturn1
       have HO := Aside0.mk hown1
       have HM := Aside0.mk (Mv.of_turned hturn1)
       clear hown1 hturn1))
  go_ret
  refine ⟨rfl, ⟨HM.out.blk H.out.cell (fun e => H.out.ne e), ⟨_, HO.out, ?_⟩, give_ok H.out.ok page⟩, HM.out⟩
  rw [opt_upd]
  exact HT.out.del page
set_option maxHeartbeats 1000000 in
theorem take14 {w : World} {p b : Nat} {L : Who} (h : Lk w p b L) (page birth : Int) (hw : (Lit.int .i64 page).wf = true) (hwb : (Lit.int .i64 birth).wf = true) :
    Calls Try.prog 14 #[.pointer (some ⟨p, 0, none⟩), .int .i64 page, .int .i64 birth] w fun e w' => e = .returned (.int .i64 (takeE L page birth)) ∧ Lk w' p b (takeL L page birth) ∧ Mv w w' (fun k => k = b) := by
  obtain ⟨D, hD, ht⟩ := h.map
  have hc : w.cell? ⟨p, 0, none⟩ = some (.map (some b)) := blk_cell h.cell 0
  have HD := Aside0.mk hD
  have HT := Aside0.mk ht
  have HW := Aside0.mk hw
  have HWB := Aside0.mk hwb
  have H := Aside0.mk h
  clear hD ht hw hwb h
  have hno : ∀ n : Int, n ≠ 0 → takeE L page birth = n → (e : Ending) → e = .returned (.int .i64 n) → e = .returned (.int .i64 (takeE L page birth)) ∧ Lk w p b (takeL L page birth) ∧ Mv w w (fun k => k = b) := by
    intro n hn he e h1
    refine ⟨by rw [he]; exact h1, ?_, Mv.refl _ _⟩
    unfold takeL
    rw [he, if_neg hn]
    exact H.out
  have Hno := Aside0.mk hno
  clear hno
  by_cases h1 : page < 0 ∨ 16 ≤ page
  · have HE := Aside0.mk (show takeE L page birth = 61 from by unfold takeE; rw [if_pos h1])
    rcases h1 with h1 | h1
    · have d1 := decide_eq_true h1
      go_enter Try.func14, Try.ntmps14
      go_wp2_with (at_lookup; refine wpList_lookup_own_int _ rfl _ _ 47 rfl 3 3 .i64 law3 Try.underlying47 Try.underlying3 (zero3 _) b 16 D rfl HD.out _ _ rfl (keyOf_int_mk Try.underlying3 HW.out) ?_; intro c hat hwc; clear hat hwc)
      go_ret
      exact Hno.out 61 (by decide) HE.out _ rfl
    · have d1 : decide (page < 0) = false := decide_eq_false (by omega)
      have d2 := decide_eq_true h1
      go_enter Try.func14, Try.ntmps14
      go_wp2_with (at_lookup; refine wpList_lookup_own_int _ rfl _ _ 47 rfl 3 3 .i64 law3 Try.underlying47 Try.underlying3 (zero3 _) b 16 D rfl HD.out _ _ rfl (keyOf_int_mk Try.underlying3 HW.out) ?_; intro c hat hwc; clear hat hwc)
      go_ret
      exact Hno.out 61 (by decide) HE.out _ rfl
  · have d1 : decide (page < 0) = false := decide_eq_false (by omega)
    have d2 : decide (16 ≤ page) = false := decide_eq_false (by omega)
    by_cases h2 : birth < 1 ∨ 1152921504606846976 < birth
    · have HE := Aside0.mk (show takeE L page birth = 30 from by unfold takeE; rw [if_neg h1, if_pos h2])
      clear h1
      rcases h2 with h2 | h2
      · have d3 := decide_eq_true h2
        go_enter Try.func14, Try.ntmps14
        go_wp2_with (at_lookup; refine wpList_lookup_own_int _ rfl _ _ 47 rfl 3 3 .i64 law3 Try.underlying47 Try.underlying3 (zero3 _) b 16 D rfl HD.out _ _ rfl (keyOf_int_mk Try.underlying3 HW.out) ?_; intro c hat hwc; clear hat hwc)
        go_ret
        exact Hno.out 30 (by decide) HE.out _ rfl
      · have d3 : decide (birth < 1) = false := decide_eq_false (by omega)
        have d4 := decide_eq_true h2
        go_enter Try.func14, Try.ntmps14
        go_wp2_with (at_lookup; refine wpList_lookup_own_int _ rfl _ _ 47 rfl 3 3 .i64 law3 Try.underlying47 Try.underlying3 (zero3 _) b 16 D rfl HD.out _ _ rfl (keyOf_int_mk Try.underlying3 HW.out) ?_; intro c hat hwc; clear hat hwc)
        go_ret
        exact Hno.out 30 (by decide) HE.out _ rfl
    · have d3 : decide (birth < 1) = false := decide_eq_false (by omega)
      have d4 : decide (1152921504606846976 < birth) = false := decide_eq_false (by omega)
      by_cases h3 : L page ≠ 0 ∧ L page ≠ birth
      · have HE := Aside0.mk (show takeE L page birth = 150 from by unfold takeE; rw [if_neg h1, if_neg h2, if_pos h3])
        have d5 : (L page != 0) = true := bne_iff_ne.mpr h3.1
        have d6 : (L page != birth) = true := bne_iff_ne.mpr h3.2
        clear h1 h2 h3
        go_enter Try.func14, Try.ntmps14
        go_wp2_with (at_lookup; refine wpList_lookup_own_int _ rfl _ _ 47 rfl 3 3 .i64 law3 Try.underlying47 Try.underlying3 (zero3 _) b 16 D rfl HD.out _ _ rfl (keyOf_int_mk Try.underlying3 HW.out) ?_; intro c hat hwc; rw [HT.out.atD, opt_get] at hat; have hc2 : L page = c := (by injection hat with h1; injection h1); subst hc2; clear hat hwc)
        go_ret
        exact Hno.out 150 (by decide) HE.out _ rfl
      · have HE := Aside0.mk (show takeE L page birth = 0 from by unfold takeE; rw [if_neg h1, if_neg h2, if_neg h3])
        have HP := Aside0.mk (show 0 ≤ page ∧ page < 16 from by omega)
        have HB := Aside0.mk (show 1 ≤ birth ∧ birth ≤ 1152921504606846976 from by omega)
        have fin : ∀ w1 : World, w1.ownsMap Try.prog 3 (plainElem Try.prog 3) b 17 (D.put (.int .i64 page) (.lit (.int .i64 birth))) → Mv w w1 (fun k => k = b) → (e : Ending) → e = .returned (.int .i64 0) → e = .returned (.int .i64 (takeE L page birth)) ∧ Lk w1 p b (takeL L page birth) ∧ Mv w w1 (fun k => k = b) := by
          intro w1 ho hm e he
          refine ⟨by rw [HE.out]; exact he, ?_, hm⟩
          unfold takeL
          rw [HE.out, if_pos rfl]
          have ht1 : Tell .i64 (D.put (.int .i64 page) (.lit (.int .i64 birth))) (opt (upd1 L page birth)) := by
            rw [opt_upd, if_neg (by have := HB.out; omega)]
            exact HT.out.put page birth
          have hb1 := take_ok H.out.ok page birth HP.out HB.out
          exact ⟨hm.blk H.out.cell (fun e => H.out.ne e), ⟨_, own16 ho ht1 hb1, ht1⟩, hb1⟩
        have Fin := Aside0.mk fin
        clear fin
        by_cases h4 : L page = 0
        · have d5 : (L page != 0) = false := by rw [h4]; rfl
          have d5' : (L page == 0) = true := by rw [h4]; rfl
          clear h1 h2 h3 h4
          go_enter Try.func14, Try.ntmps14
          go_wp2_with (first
            | (at_lookup; refine wpList_lookup_own_int _ rfl _ _ 47 rfl 3 3 .i64 law3 Try.underlying47 Try.underlying3 (zero3 _) b 16 D rfl HD.out _ _ rfl (keyOf_int_mk Try.underlying3 HW.out) ?_; intro c hat hwc; rw [HT.out.atD, opt_get] at hat; have hc2 : L page = c := (by injection hat with h1; injection h1); subst hc2; clear hat hwc)
            | (at_mapUpdate; refine wpList_mapUpdate_own _ rfl _ _ _ 47 rfl 3 3 law3 Try.underlying47 _ b 16 D rfl HD.out (by decide) _ _ _ rfl rfl (keyOf_int_mk Try.underlying3 HW.out) _ [] (plainElem_int Try.underlying3 HWB.out) ?_; intro w1 hown1 hgrow1; have HO := Aside0.mk hown1; have HM := Aside0.mk ((Mv.of_grown hgrow1).mono (S2 := fun k => k = b) (fun k hk => by injection hk)); clear hown1 hgrow1))
          go_ret
          exact Fin.out _ HO.out HM.out _ rfl
        · have h5 : L page = birth := by
            by_cases h6 : L page = birth
            · exact h6
            · exact absurd ⟨h4, h6⟩ h3
          have d5 : (L page != 0) = true := bne_iff_ne.mpr h4
          have d6 : (L page != birth) = false := by rw [h5]; simp
          have d6' : (L page == birth) = true := by rw [h5]; simp
          clear h1 h2 h3 h4 h5
          go_enter Try.func14, Try.ntmps14
          go_wp2_with (first
            | (at_lookup; refine wpList_lookup_own_int _ rfl _ _ 47 rfl 3 3 .i64 law3 Try.underlying47 Try.underlying3 (zero3 _) b 16 D rfl HD.out _ _ rfl (keyOf_int_mk Try.underlying3 HW.out) ?_; intro c hat hwc; rw [HT.out.atD, opt_get] at hat; have hc2 : L page = c := (by injection hat with h1; injection h1); subst hc2; clear hat hwc)
            | (at_mapUpdate; refine wpList_mapUpdate_own _ rfl _ _ _ 47 rfl 3 3 law3 Try.underlying47 _ b 16 D rfl HD.out (by decide) _ _ _ rfl rfl (keyOf_int_mk Try.underlying3 HW.out) _ [] (plainElem_int Try.underlying3 HWB.out) ?_; intro w1 hown1 hgrow1; have HO := Aside0.mk hown1; have HM := Aside0.mk ((Mv.of_grown hgrow1).mono (S2 := fun k => k = b) (fun k hk => by injection hk)); clear hown1 hgrow1))
          go_ret
          exact Fin.out _ HO.out HM.out _ rfl
set_option maxHeartbeats 1000000 in
theorem new7 {w : World} : Calls Try.prog 7 #[] w fun e w' => ∃ p b, e = .returned (.pointer (some ⟨p, 0, none⟩)) ∧ Lk w' p b (fun _ => 0) ∧ w.heap.size ≤ p ∧ w.heap.size ≤ b ∧ Below w.heap.size w w' := by
  have hmm := @run_makeMap Try.prog
  go_enter Try.func7, Try.ntmps7
  go_wp2
  go_ret
  have h1 := World.ownsMap_made (H := Unit) w Try.prog 3 (plainElem Try.prog 3)
  refine ⟨_, w.heap.size, rfl, ⟨by have h2 := heap_alloc_new (w.alloc (Obj.map #[] 0)) (Obj.cells #[.map (some w.heap.size)] 49 (0, 0)); simpa using h2, ⟨.map [], (h1.alloc _).mono (by decide), ?_⟩, ⟨fun x h => absurd rfl h, fun x h => absurd rfl h⟩⟩, by simp, Nat.le_refl _, ?_⟩
  · have : opt (fun _ => 0) = fun _ => none := by funext x; rfl
    rw [this]
    exact Tell.empty .i64
  · exact ((Below.refl _ _).alloc (Nat.le_refl _) _).alloc (by simp) _
end Go.Proofs.Ytjalkjoaepbhbaa.QA
