/- Held, walked: the map is ranged over, in whatever order; the pages are sorted. -/
import Derived.Test.YtjalkjoaepbhbaaTLk
import Derived.Test.YtjalkjoaepbhbaaTSorted
namespace Go.Proofs.Ytjalkjoaepbhbaa.QA
open Go.RowKit Go.Maps Go.Proofs.YtjalkjoaepbhbaaW.PrintWords Go.Proofs.YtjalkjoaepbhbaaW.PrintLast Go.Proofs.YtjalkjoaepbhbaaW.PrintMore
set_option linter.unusedVariables false
set_option linter.unusedSimpArgs false
def pages16 : List Int := (List.range 16).map fun (n : Nat) => (n : Int)
/-- The pages that a birth holds, rising. -/
def heldL (L : Who) (birth : Int) : List Int := pages16.filter fun p => decide (L p = birth ∧ L p ≠ 0)
theorem pages_rise : pages16.Pairwise (· < ·) := by
  unfold pages16
  rw [List.pairwise_map]
  exact List.pairwise_lt_range.imp (fun h => by omega)
theorem held_rise (L : Who) (birth : Int) : (heldL L birth).Pairwise (· < ·) := pages_rise.filter _
theorem held_mem {L : Who} (h : Births L) (birth x : Int) : x ∈ heldL L birth ↔ L x = birth ∧ L x ≠ 0 := by
  unfold heldL pages16
  rw [List.mem_filter, List.mem_map]
  simp only [List.mem_range, decide_eq_true_eq]
  refine ⟨fun h => h.2, fun h2 => ⟨?_, h2⟩⟩
  have := h.page x h2.2
  exact ⟨x.toNat, by omega, by omega⟩
theorem held_length (L : Who) (birth : Int) : (heldL L birth).length ≤ 16 := by
  unfold heldL
  refine Nat.le_trans (List.length_filter_le _ _) ?_
  simp [pages16]
/-- What has been met. -/
structure Met (L : Who) (birth : Int) (left : Lit → Bool) (xs : List Int) : Prop where
  nodup : xs.Nodup
  mem : ∀ x, x ∈ xs ↔ (L x = birth ∧ L x ≠ 0 ∧ left (.int .i64 x) = false)
theorem Met.start {D : DataW Unit} {L : Who} (t : Tell .i64 D (opt L)) (birth : Int) : Met L birth (Maps.has D) [] := by
  refine ⟨List.nodup_nil, fun x => ⟨fun h => by simp at h, fun h => ?_⟩⟩
  have h3 := h.2.2
  rw [t.has_, opt_some] at h3
  unfold gave at h3
  exact absurd (decide_eq_false_iff_not.1 h3) (fun h4 => h4 h.2.1)
theorem same_int (x y : Int) : (Lit.int .i64 y).sameKey (.int .i64 x) = decide (y = x) := by
  by_cases e : y = x
  · subst e; simp [Lit.sameKey]
  · simp [Lit.sameKey, e]
theorem Met.hit {L : Who} {birth : Int} {left : Lit → Bool} {xs : List Int} (h : Met L birth left xs) (x : Int) (hl : left (.int .i64 x) = true) (hb : L x = birth) (hn : L x ≠ 0) :
    Met L birth (fun z => left z && !z.sameKey (.int .i64 x)) (xs ++ [x]) := by
  have hx : x ∉ xs := fun hx => by
    have := ((h.mem x).1 hx).2.2
    rw [hl] at this; cases this
  refine ⟨?_, fun y => ?_⟩
  · rw [List.nodup_append]
    refine ⟨h.nodup, by simp, fun a ha b hb e => ?_⟩
    rw [List.mem_singleton] at hb
    subst hb
    subst e
    exact hx ha
  · rw [List.mem_append, List.mem_singleton, h.mem, same_int]
    by_cases e : y = x
    · subst e
      simp [hl, hb, hn]
      exact hb ▸ hn
    · simp [e]
theorem Met.miss {L : Who} {birth : Int} {left : Lit → Bool} {xs : List Int} (h : Met L birth left xs) (x : Int) (hb : L x ≠ birth) :
    Met L birth (fun z => left z && !z.sameKey (.int .i64 x)) xs := by
  refine ⟨h.nodup, fun y => ?_⟩
  rw [h.mem, same_int]
  by_cases e : y = x
  · subst e
    simp [hb]
  · simp [e]
theorem Met.end_ {L : Who} {birth : Int} {left : Lit → Bool} {xs : List Int} (h : Met L birth left xs) (hL : Births L) (hl : ∀ k, left k = false) : sorted xs = heldL L birth := by
  refine sorted_is _ _ h.nodup (held_rise _ _) (fun x => ?_)
  rw [h.mem, held_mem hL]
  simp [hl]
theorem Met.length {L : Who} {birth : Int} {left : Lit → Bool} {xs : List Int} (h : Met L birth left xs) (hL : Births L) : xs.length ≤ 16 :=
  pig 16 xs h.nodup (fun x hx => hL.page x ((h.mem x).1 hx).2.1)
theorem ranges_block {P : Program} {k : TypeId} {R : Value → Option (DataW Unit × List MemPlace)} {w w1 : World} {b r n : Nat} {D : DataW Unit} {left : Lit → Bool} {cnt : Nat} (h : w.ranges P k R b r n D left cnt)
    (hb : w1.heap[b]? = w.heap[b]?) (hr : w1.heap[r]? = w.heap[r]?) : w1.ranges P k R b r n D left cnt := by
  obtain ⟨es, clock, since, seen, c0, h1, h2, h3, h4, h5, h6⟩ := h
  exact ⟨es, clock, since, seen, c0, hb.trans h1, h2, h3, h4, hr.trans h5, h6⟩
theorem info3 : (Try.prog.info? 3).map (fun i => (i.zero, i.size, i.bytes)) = some (some (.int .i64 0), 1, 8) := by kernel_rfl
set_option maxHeartbeats 4000000 in
set_option maxRecDepth 100000 in
theorem held15 {w : World} {p b : Nat} {L : Who} (h : Lk w p b L) (birth : Int) :
    Calls Try.prog 15 #[.pointer (some ⟨p, 0, none⟩), .int .i64 birth] w fun e w' => ∃ v, e = .returned v ∧ Kd.R (Kd.int .i64) 3 w' w.heap.size (fun _ => True) v (heldL L birth) ∧ Below w.heap.size w w' := by
  obtain ⟨D, hD, ht⟩ := h.map
  have hc : w.cell? ⟨p, 0, none⟩ = some (.map (some b)) := blk_cell h.cell 0
  have HD := Aside0.mk hD
  have HT := Aside0.mk ht
  have H := Aside0.mk h
  have hbl := h.lt.2
  clear hD ht h
  go_enter Try.func15, Try.ntmps15
  go_wp2_with (first
    | (at_range; refine wpList_range_own _ rfl _ 47 rfl 3 3 law3 Try.underlying47 _ b 16 D rfl HD.out ?_
       intro w0 hrg0 hg0 hs0
       have HR0 := Aside0.mk hrg0
       have M0 := Aside0.mk (Mv.of_grown hg0)
       have HS0 := Aside0.mk hs0
       clear hrg0 hg0 hs0))
  go_frame
  obtain ⟨r, hr⟩ : ∃ r, r = w.heap.size := ⟨_, rfl⟩
  have HRr := Aside0.mk hr
  have hbr : b < r := by omega
  rw [← hr] at HR0
  have e1 : (⟨w.heap.size, 0, none⟩ : Addr) = ⟨r, 0, none⟩ := by rw [hr]
  rw [e1]
  have HS1 := Aside0.mk (show w0.heap.size = r + 1 from by rw [hr]; exact HS0.out)
  clear e1 hr hc
  go_loopg [5] (Maps.size D) (fun kq v5 wr => ∃ (left : Lit → Bool) (cnt : Nat) (xs : List Int), Aside0 (cnt ≤ kq) ∧ Aside0 (wr.ranges Try.prog 3 (plainElem Try.prog 3) b r 16 D left cnt) ∧ Aside0 (Met L birth left xs) ∧ Aside0 (Kd.R (Kd.int .i64) 3 wr (r + 1) (fun _ => True) v5 xs) ∧ Aside0 (Mv w wr (fun _ => False)) ∧ Aside0 (r + 1 ≤ wr.heap.size))
  case atStart => exact ⟨_, _, [], ⟨Nat.le_refl _⟩, HR0, ⟨Met.start HT.out birth⟩, ⟨Kd.R_nil _ _ _ _ _⟩, ⟨M0.out.mono (fun k hk => by cases hk)⟩, ⟨by rw [HS1.out]; exact Nat.le_refl _⟩⟩
  case round =>
    clear HR0 M0 HS0 HS1
    obtain ⟨left, cnt, xs, hcnt, hR, hM, hX, hMv, hsz⟩ := hrel
    obtain ⟨A5, c5, hv5⟩ := Kd.R_slice hX.out
    subst hv5
    obtain ⟨Ws, hWs, hR⟩ : ∃ W, W = _ ∧ Aside0 (World.ranges W Try.prog 3 (plainElem Try.prog 3) b r 16 D left cnt) := ⟨_, rfl, hR⟩
    subst hWs
    go_wp2_with (first
      | (at_next; refine wpList_next_ranges_ii _ rfl _ rfl 3 3 .i64 .i64 law3 Try.underlying3 Try.underlying3 b r 16 D left cnt rfl hR.out ?_ ?_))
    · intro _ hl0
      have HL := Aside0.mk hl0
      clear hl0
      have hs := Aside0.mk (hM.out.end_ H.out.ok HL.out)
      have hxl := hM.out.length H.out.ok
      have hxl2 : xs.length < 4611686018427387904 := by omega
      go_wp2_with (first
        | ((with_reducible refine gate_dst (N := 26) rfl ?_); refine goesL_ (some 26) rfl rfl Try.func25 (by kernel_rfl) rfl #[.slice A5 xs.length c5] rfl (by (try simp only [List.map_toArray, List.map_cons, List.map_nil]); first | done | rfl) ?_
           refine (sort25 hX.out hxl2).mono ?_
           rintro e w2 ⟨rfl, hr2, hm2⟩
           refine ⟨_, rfl, ?_⟩
           have R2 := Aside0.mk hr2
           have M2 := Aside0.mk hm2
           clear hr2 hm2))
      go_ret
      refine ⟨_, rfl, ?_, ?_⟩
      · have h1 := R2.out
        rw [hs.out] at h1
        exact Kd.R_lower h1 (by have := HRr.out; omega)
      · have hB := hMv.out.below (Below.refl w.heap.size w) (Nat.le_refl _) (fun k hk => hk.elim)
        exact M2.out.below hB hB.size (fun k hk => by have := Kd.R_base hX.out k hk.symm; have := HRr.out; omega)
    · intro x c w1 cnt1 hwx hwc hlx hat hrg1 hlt hg1 hs1 hen
      have HX := Aside0.mk hat
      have hcL : L x = c := by
        have h1 := hat (.lit (.int .i64 0))
        rw [HT.out.atD, opt_get] at h1
        injection h1 with h1
        injection h1
      have hn0 := Aside0.mk (show L x ≠ 0 from fun e => by
        have h1 := hat (.lit (.int .i64 7))
        rw [HT.out.atD] at h1
        unfold opt at h1
        rw [if_pos e] at h1
        injection h1 with h1
        injection h1 with h1 h2
        rw [← h2] at hcL
        rw [hcL] at e
        cases e)
      subst hcL
      have HW1 := Aside0.mk hrg1
      have HLX := Aside0.mk hlx
      have hlt' := Aside0.mk hlt
      have M1 := Aside0.mk (Mv.of_grown hg1)
      have S1 := Aside0.mk hs1
      have X1 := Aside0.mk (show Kd.R (Kd.int .i64) 3 w1 (r + 1) (fun _ => True) (.slice A5 xs.length c5) xs from
        C_of_block (w2 := w1) hX.out (fun k hk => M1.out.block k (Kd.R_lt hX.out k hk) (fun h2 => by have := Kd.R_base hX.out k hk; injection h2 with h2; omega)))
      clear hrg1 hlt hg1 hs1 hat hwc hwx hlx
      by_cases hb : L x = birth
      · have hb1 : (L x == birth) = true := beq_iff_eq.mpr hb
        have Hb := Aside0.mk hb
        clear hb
        go_wp2_with (first
          | ((with_reducible refine gate_builtin (b := .append) (xs := #[.tmp 21, .tmp 23]) rfl ?_); at_builtin; refine keep_event (base := r + 1) (W := w1) (by rw [S1.out]; exact hsz.out) rfl (.tmp 21) (.tmp 23) rfl Try.underlying39 info3 (xs := xs) x rfl rfl X1.out (by have := hM.out.length H.out.ok; omega) ?_
             intro v1 w2 hR2 hm2 hat2 hC2
             have R2 := Aside0.mk hR2
             have M2 := Aside0.mk hm2
             clear hR2 hm2 hat2 hC2))
        go_roundg (gk - 1)
        case measure => have := hlt'.out; have := hcnt.out; omega
        case rel =>
          have hlo : ∀ k, some k = (Value.slice A5 xs.length c5).ownBlock → r + 1 ≤ k := fun k hk => Kd.R_base hX.out k hk.symm
          exact ⟨_, cnt1, _, ⟨by have := hlt'.out; have := hcnt.out; omega⟩, ⟨ranges_block HW1.out (M2.out.block b (by have := hbr; have := M1.out.size; have := hsz.out; omega) (fun h2 => by have := hlo b h2; omega)) (M2.out.block r (by have := M1.out.size; have := hsz.out; omega) (fun h2 => by have := hlo r h2; omega))⟩,
            ⟨hM.out.hit x HLX.out Hb.out hn0.out⟩, R2, ⟨(hMv.out.then_ M1.out (fun k hk => .inr (by injection hk with hk; have := HRr.out; omega))).then_ M2.out (fun k hk => .inr (by have := hlo k hk; have := HRr.out; omega))⟩, ⟨by have := M1.out.size; have := M2.out.size; have := hsz.out; omega⟩⟩
      · have hb1 : (L x == birth) = false := beq_eq_false_iff_ne.mpr hb
        have Hb := Aside0.mk hb
        clear hb
        go_wp2
        go_roundg (gk - 1)
        case measure => have := hlt'.out; have := hcnt.out; omega
        case rel => exact ⟨_, cnt1, xs, ⟨by have := hlt'.out; have := hcnt.out; omega⟩, HW1, ⟨hM.out.miss x Hb.out⟩, X1, ⟨hMv.out.then_ M1.out (fun k hk => .inr (by injection hk with hk; have := HRr.out; omega))⟩, ⟨by have := M1.out.size; have := hsz.out; omega⟩⟩
end Go.Proofs.Ytjalkjoaepbhbaa.QA
