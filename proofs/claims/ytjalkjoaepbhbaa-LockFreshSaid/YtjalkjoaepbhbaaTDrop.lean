/- Drop, walked. -/
import Derived.Test.YtjalkjoaepbhbaaTHeld
namespace Go.Proofs.Ytjalkjoaepbhbaa.QA
open Go.RowKit Go.Maps Go.Proofs.YtjalkjoaepbhbaaW.PrintWords Go.Proofs.YtjalkjoaepbhbaaW.PrintLast Go.Proofs.YtjalkjoaepbhbaaW.PrintMore
set_option linter.unusedVariables false
set_option linter.unusedSimpArgs false
/-- What is held when ys are let go. -/
def delL (L : Who) (ys : List Int) : Who := fun x => if x ∈ ys then 0 else L x
def dropL (L : Who) (birth : Int) : Who := fun x => if L x = birth then 0 else L x
theorem delL_nil (L : Who) : delL L [] = L := by funext x; simp [delL]
theorem delL_step (L : Who) (ys : List Int) (x : Int) : upd1 (delL L ys) x 0 = delL L (ys ++ [x]) := by
  funext z
  unfold upd1 delL
  by_cases e : z = x
  · simp [e]
  · simp [e]
theorem delL_held {L : Who} (h : Births L) (birth : Int) : delL L (heldL L birth) = dropL L birth := by
  funext x
  unfold delL dropL
  by_cases e : L x = birth
  · by_cases e0 : L x = 0
    · rw [if_pos e]
      split
      · rfl
      · exact e0
    · rw [if_pos ((held_mem h birth x).2 ⟨e, e0⟩), if_pos e]
  · rw [if_neg (fun hx => e ((held_mem h birth x).1 hx).1), if_neg e]
/-- A page is struck from the map. -/
theorem Lk.struck {w w1 : World} {p b n : Nat} {L : Who} {D : DataW Unit} (h : Lk w p b L) (ht : Tell .i64 D (opt L)) (page : Int) (ho : w1.ownsMap Try.prog 3 (plainElem Try.prog 3) b n (D.del (.int .i64 page))) (m : Mv w w1 (fun k => k = b)) : Lk w1 p b (upd1 L page 0) := by
  have ht1 : Tell .i64 (D.del (.int .i64 page)) (opt (upd1 L page 0)) := by
    rw [opt_upd]
    exact ht.del page
  exact ⟨m.blk h.cell (fun e => h.ne e), ⟨_, own16 ho ht1 (give_ok h.ok page), ht1⟩, give_ok h.ok page⟩
set_option maxHeartbeats 4000000 in
set_option maxRecDepth 100000 in
theorem drop17 {w : World} {p b : Nat} {L : Who} (h : Lk w p b L) (birth : Int) :
    Calls Try.prog 17 #[.pointer (some ⟨p, 0, none⟩), .int .i64 birth] w fun e w' => ∃ v, e = .returned v ∧ Kd.R (Kd.int .i64) 3 w' w.heap.size (fun _ => True) v (heldL L birth) ∧ Lk w' p b (dropL L birth) ∧ Mv w w' (fun k => k = b) := by
  have H := Aside0.mk h
  have hbl := h.lt
  have Hheld := Aside0.mk (held15 h birth)
  have hlen := held_length L birth
  have Hwf := Aside0.mk (show ∀ x ∈ heldL L birth, (Lit.int .i64 x).wf = true from fun x hx => by
    have := h.ok.page x ((held_mem h.ok birth x).1 hx).2
    exact wf_i64 (by omega))
  have Hend := Aside0.mk (delL_held h.ok birth)
  clear h
  obtain ⟨xs, hxs⟩ : ∃ z, z = heldL L birth := ⟨_, rfl⟩
  rw [← hxs] at Hheld Hwf Hend hlen ⊢
  clear hxs
  go_enter Try.func17, Try.ntmps17
  go_wp2_with (first
    | ((with_reducible refine gate_dst (N := 10) rfl ?_); refine goesL_ (some 10) rfl rfl Try.func15 (by kernel_rfl) rfl #[.pointer (some ⟨p, 0, none⟩), .int .i64 birth] rfl (by (try simp only [List.map_toArray, List.map_cons, List.map_nil]); first | done | rfl) ?_
       refine Hheld.out.mono ?_
       rintro e w1 ⟨v, rfl, hr, hb⟩
       refine ⟨_, rfl, ?_⟩
       obtain ⟨A5, c5, rfl⟩ := Kd.R_slice hr
       have R1 := Aside0.mk hr
       have B1 := Aside0.mk hb
       have H1 := Aside0.mk (H.out.below hb)
       clear hr hb))
  go_loopg [13] xs.length (fun kq v13 wr => ∃ (j : Nat), v13 = .int .i64 (j : Int) ∧ Aside0 (j + kq = xs.length) ∧ Aside0 (Lk wr p b (delL L (xs.take j))) ∧ Aside0 (Kd.R (Kd.int .i64) 3 wr w.heap.size (fun _ => True) (.slice A5 xs.length c5) xs) ∧ Aside0 (Mv w wr (fun k => k = b)))
  case atStart => exact ⟨0, rfl, ⟨by omega⟩, ⟨by rw [List.take_zero, delL_nil]; exact H1.out⟩, R1, ⟨Mv.of_below B1.out _⟩⟩
  case round =>
    clear H1 R1 B1
    obtain ⟨j, rfl, hjk, hH, hR, hM⟩ := hrel
    cases gk with
    | zero =>
      obtain rfl : j = xs.length := hjk.out
      have hd1 : ¬ ((xs.length : Int) < (xs.length : Int)) := by omega
      have H2 := Aside0.mk hH.out
      rw [List.take_length, Hend.out] at H2
      go_wp2
      go_ret
      exact ⟨_, rfl, hR.out, H2.out, hM.out⟩
    | succ k1 =>
      have hj0 : j < xs.length := by have := hjk.out; omega
      have hj1 : (j : Int) < (xs.length : Int) := by omega
      have hj2 : decide ((j : Int) < (xs.length : Int)) = true := decide_eq_true hj1
      obtain ⟨Ws, hWs, hR⟩ : ∃ W, W = _ ∧ Aside0 (Kd.R (Kd.int .i64) 3 W w.heap.size (fun _ => True) (.slice A5 xs.length c5) xs) := ⟨_, rfl, hR⟩
      subst hWs
      obtain ⟨x, hx⟩ : ∃ x, x = rd xs (j : Int) := ⟨_, rfl⟩
      obtain ⟨ad, e, hce⟩ := Kd.at_int (Kd.R_reads' hR.out).2.2 (j : Int) (by omega) hj1
      subst e
      rw [Int.toNat_natCast, ← hx] at hce
      have Hx := Aside0.mk hx
      have hxm := Aside0.mk (show xs.take (j + 1) = xs.take j ++ [x] from by
        rw [List.take_succ_eq_append_getElem hj0, hx]
        unfold rd
        rw [Int.toNat_natCast, List.getD_eq_getElem?_getD, List.getElem?_eq_getElem hj0]
        rfl)
      have hxw := Aside0.mk (Hwf.out x (by
        rw [hx]
        unfold rd
        rw [Int.toNat_natCast, List.getD_eq_getElem?_getD, List.getElem?_eq_getElem hj0]
        exact List.getElem_mem _))
      clear hx
      have hc : Ws.cell? ⟨p, 0, none⟩ = some (.map (some b)) := blk_cell hH.out.cell 0
      obtain ⟨D, hD, ht⟩ := hH.out.map
      have HD := Aside0.mk hD
      have HT := Aside0.mk ht
      clear hD ht
      go_wp2_with (first
        | (at_delete; refine wpList_delete_own _ rfl _ _ 47 3 rfl 3 law3 Try.underlying47 _ b 16 D rfl HD.out _ _ rfl (keyOf_int_mk Try.underlying3 hxw.out) ?_
           intro w2 hown1 hturn1
           have M2 := Aside0.mk (Mv.of_turned hturn1)
           have H2 := Aside0.mk (hH.out.struck HT.out x hown1 M2.out)
           clear hown1 hturn1))
      go_roundg k1
      case measure => omega
      case rel =>
        refine ⟨j + 1, rfl, ⟨by have := hjk.out; omega⟩, ⟨by rw [hxm.out, ← delL_step]; exact H2.out⟩, ⟨?_⟩, ⟨hM.out.then_ M2.out (fun k hk => .inl hk)⟩⟩
        exact C_of_block (w2 := w2) hR.out (fun k hk => M2.out.block k (Kd.R_lt hR.out k hk) (fun e => by have := Kd.R_base hR.out k hk; omega))
end Go.Proofs.Ytjalkjoaepbhbaa.QA
