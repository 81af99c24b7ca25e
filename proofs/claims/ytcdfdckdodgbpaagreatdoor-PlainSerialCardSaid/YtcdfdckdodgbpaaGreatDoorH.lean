/- PlainSerial walked: it answers true. -/
import Derived.Test.YtcdfdckdodgbpaaGreatDoorG
/-! WalkSer -/
namespace Go.Proofs.YtcdfdckdodgbpaaGreatDoor.QA
open Go.RowKit Go.Maps Go.Proofs.YtcdfdckdodgbpaaGreatDoorW.PrintWords Go.Proofs.YtcdfdckdodgbpaaGreatDoorW.PrintLast Go.Proofs.YtcdfdckdodgbpaaGreatDoorW.PrintMore
set_option linter.unusedVariables false
set_option linter.unusedSimpArgs false
set_option maxHeartbeats 8000000 in
set_option maxRecDepth 100000 in
theorem serial3 {w : World} (hg : Glob w) (a0 a1 a2 a3 a4 a5 : Int) {A : Option Addr} {cap : Nat} {l : List Stp} (hC : Kd.C kStp w A l.length l) (hcap : l.length ≤ cap) (hl : l.length < 4000000000000) (ho : ∀ o ∈ l, OkStp o) :
    Calls Tryz.prog 3 #[.agg #[.int .i64 a0, .int .i64 a1, .int .i64 a2, .int .i64 a3, .int .i64 a4, .int .i64 a5], .slice A l.length cap] w fun e w' => e = .returned (.bool true) ∧ Below w.heap.size w w' := by
  obtain ⟨c0, c1, c2, c3, c4, c5, hmay, q0, q1, q2, q3, q4, q5⟩ := may_some a0 a1 a2 a3 a4 a5
  obtain ⟨m, hm⟩ : ∃ m, m = (newM c0 c1 c2 c3 c4 c5).run l := ⟨_, rfl⟩
  have ok0 := newM_ok (c3 := c3) q0 q1 q2 q4 q5
  have OKM := Aside0.mk (show Ok m from by rw [hm]; exact ok0.run l ho)
  have SER := Aside0.mk (show Ser m from by rw [hm]; exact (newM_ser c0 c1 c2 c3 c4 c5).run ok0 l ho)
  have ROWS := Aside0.mk (show ∀ t ∈ m.done, t.length ≤ 2000 from by rw [hm]; exact run_rows ok0 (fun t ht => by cases ht) l ho)
  have DL := Aside0.mk (show m.done.length < 4000000000000 from by have h1 := done_run (newM c0 c1 c2 c3 c4 c5) l; rw [← hm] at h1; have h2 : (newM c0 c1 c2 c3 c4 c5).done.length = 0 := rfl; omega)
  have HM := Aside0.mk hm
  have HMAY := Aside0.mk hmay
  have HQ := Aside0.mk (show (1 ≤ c0 ∧ c0 ≤ 16) ∧ (1 ≤ c1 ∧ c1 ≤ 8) ∧ (1024 ≤ c2 ∧ c2 ≤ 65536) ∧ (2 ≤ c3 ∧ c3 ≤ 16) ∧ (1 ≤ c4 ∧ c4 ≤ 8) ∧ (1 ≤ c5 ∧ c5 ≤ 1048576) from ⟨q0, q1, q2, q3, q4, q5⟩)
  have HC := Aside0.mk hC
  have HCAP := Aside0.mk hcap
  have HLL := Aside0.mk hl
  have HO := Aside0.mk ho
  have G := Aside0.mk hg
  have BX := Aside0.mk (below_alloc (Below.refl w.heap.size w) (.cells #[.int .i64 a0, .int .i64 a1, .int .i64 a2, .int .i64 a3, .int .i64 a4, .int .i64 a5] 25))
  obtain ⟨xs, hxs⟩ : ∃ xs, xs = m.ids := ⟨_, rfl⟩
  have HXS := Aside0.mk hxs
  clear hmay q0 q1 q2 q3 q4 q5 hC hcap hl ho hg hm ok0 hxs
  go_enter Tryz.func3, Tryz.ntmps3
  go_wp2_with (first
    | (go_at_call 7; refine (tidemarklaw18_may.calls a0 a1 a2 a3 a4 a5 c0 c1 c2 c3 c4 c5 _ HMAY.out).mono ?_; rintro e w1 ⟨rfl, hb⟩
       have B1 := Aside0.mk (BX.out.trans (hb.mono BX.out.size))
       clear hb)
    | (go_at_call 6; refine (played12 (G.out.below B1.out) c0 c1 c2 c3 c4 c5 HQ.out.1 HQ.out.2.1 HQ.out.2.2.1 HQ.out.2.2.2.1 HQ.out.2.2.2.2.1 HQ.out.2.2.2.2.2 (Kd.C_below HC.out B1.out) HCAP.out HLL.out HO.out).mono ?_; rintro e w3 ⟨p, rfl, hb, L, hlp, hs, hr⟩
       have S3 := Aside0.mk (show St w3 L none2 m from by rw [HM.out]; exact hs)
       have B3 := Aside0.mk (B1.out.trans (hb.mono B1.out.size))
       have RR := Aside0.mk (show ∀ k, 0 < k → k < w.heap.size → L.role k = .out from fun k hk hk2 => hr k hk (Nat.lt_of_lt_of_le hk2 B1.out.size))
       have R0 := Aside0.mk (show L.role 0 = .glob from hs.c.elim fun _ c => c.r0)
       have HLP := Aside0.mk hlp
       clear hb hs hr hlp)
    | ((with_reducible refine gate_dst (N := 17) rfl ?_); refine gate_guard rfl ?_; refine goesL_ (some 17) rfl rfl Tryz.func8 (by kernel_rfl) rfl #[] rfl (by (try simp only [List.map_toArray, List.map_cons, List.map_nil]); first | done | rfl) ?_
       refine (alive7 (S3.out.c.elim fun _ c => c.g0)).mono ?_; rintro e w4 ⟨rfl, hb⟩
       have S4 := Aside0.mk (S3.out.below hb)
       have G4 := Aside0.mk (Goes.of_below (L := L) hb)
       clear hb
       refine ⟨_, rfl, ?_⟩)
    | (go_at_call 9; have C14 := ids14 S4.out OKM.out; rw [G4.out.p.trans HLP.out] at C14; refine C14.mono ?_; clear C14; rintro e w5 ⟨v, rfl, hr, hb⟩
       rw [← HXS.out] at hr
       have HROW := Aside0.mk (ids_row hr)
       obtain ⟨A5, q5, hv⟩ := Kd.R_slice hr
       subst hv
       have S5 := Aside0.mk (S4.out.below hb)
       have G5 := Aside0.mk (G4.out.trans (Goes.of_below (L := L) hb))
       have FR := Aside0.mk (show ∀ k, w4.heap.size ≤ k → L.role k = .out from S4.out.c.elim fun _ c => c.fresh)
       clear hb hr))
  have HBW := Aside0.mk (show ∀ (V : World) (LV : Lay), Goes w3 L V LV → Below w.heap.size w V from fun V LV h => below_goes B3.out h RR.out R0.out)
  clear B1 B3 BX RR R0 S3 HMAY G S4 G4
  go_loopg [7] xs.length (fun kq v7 wr => ∃ (i : Nat) (Lr : Lay), v7 = .int .i64 (i : Int) ∧ Aside0 (i + kq = xs.length) ∧ Aside0 (St wr Lr none2 (m.abortAll (xs.take i))) ∧ Aside0 (Goes w3 L wr Lr) ∧ Aside0 (Goes w5 L wr Lr))
  case atStart => exact ⟨0, L, rfl, ⟨by omega⟩, S5, G5, ⟨Goes.refl _ _⟩⟩
  case round =>
    obtain ⟨i, Lr, rfl, hik, hS, hG, hG5⟩ := hrel
    clear S5 G5
    obtain ⟨Ws, hWs, hS⟩ : ∃ W, W = _ ∧ Aside0 (St W Lr none2 (m.abortAll (xs.take i))) := ⟨_, rfl, hS⟩
    subst hWs
    cases gk with
    | zero =>
      obtain rfl : i = xs.length := hik.out
      have hd1 : ¬ ((xs.length : Int) < (xs.length : Int)) := by omega
      have hab := aborted OKM.out m.opn.length (Nat.le_refl _)
      rw [← ids_len, List.take_length] at hab
      rw [List.take_length, HXS.out] at hS
      obtain ⟨mf, hmf⟩ : ∃ mf, mf = m.abortAll m.ids := ⟨_, rfl⟩
      rw [← hmf] at hab hS
      have OKF := Aside0.mk hab.ok
      have HOP := Aside0.mk (show mf.opn = [] from by rw [hab.opn, ids_len, List.drop_length])
      have HDN := Aside0.mk hab.done
      have HALL := Aside0.mk (show foldC mf.done = mf.all from by rw [hab.done, all_eq, hab.left, ← all_eq]; exact (SER.out.all OKM.out).symm)
      have HAL := Aside0.mk (show mf.all.length ≤ 128 from by have h1 := allOf_length hab.ok mf.left.length; rw [List.take_length] at h1; have h2 := hab.ok.left; have h3 := hab.ok.pages; exact Nat.le_trans h1 (by omega))
      obtain ⟨es, hes⟩ : ∃ es, es = ents mf.all := ⟨_, rfl⟩
      have HES := Aside0.mk hes
      obtain ⟨k3, hk3⟩ := entries_self es (by rw [hes, ents_length]; have := HAL.out; exact Nat.lt_of_le_of_lt this (by omega))
      have HK3 := Aside0.mk hk3
      have HKW := Aside0.mk (show ∀ t ∈ mf.done, ∀ x ∈ t, (Lit.int .i64 x.f0).wf = true from fun t ht x hx => by
        rw [hab.done] at ht
        have h1 := SER.out.keys t ht x hx
        have h2 := OKM.out.keys
        exact wf64 (by omega))
      have HDL := Aside0.mk (show mf.done.length < 4000000000000 from by rw [hab.done]; exact DL.out)
      have HRW := Aside0.mk (show ∀ t ∈ mf.done, t.length ≤ 2000 from by rw [hab.done]; exact ROWS.out)
      have HID := Aside0.mk (show mf.ids = [] from by unfold PSt.ids; rw [HOP.out]; rfl)
      clear hab hmf hes hk3
      go_wp2_with (first
        | (go_at_call 12; have C12 := entries12 hS.out OKF.out HOP.out; rw [hG.out.p.trans HLP.out] at C12; refine C12.mono ?_; clear C12; rintro e w6 ⟨v, rfl, hr, hb⟩
           rw [← HES.out] at hr
           obtain ⟨A6, q6, hv, hl6, hc6⟩ := Kd.R_reads hr
           subst hv
           have C6 := Aside0.mk hc6
           have L6 := Aside0.mk hl6
           have S6 := Aside0.mk (hS.out.below hb)
           have G6 := Aside0.mk (hG.out.trans (Goes.of_below (L := Lr) hb))
           clear hr hb hc6 hl6)
        | (go_at_call 10; refine (num19 _ _).mono ?_; rintro e w7 ⟨rfl, rfl⟩)
        | ((with_reducible refine gate_dst (N := 63) rfl ?_); refine gate_guard rfl ?_; refine goesL_ (some 63) rfl rfl Tryz.func15 (by kernel_rfl) rfl #[.pointer (some ⟨p, 0, none⟩)] rfl (by (try simp only [List.map_toArray, List.map_cons, List.map_nil]); first | done | rfl) ?_
           have C15 := done15 S6.out (by have := HDL.out; omega) (fun t ht => by have := HRW.out t ht; omega); rw [G6.out.p.trans HLP.out] at C15; refine C15.mono ?_; clear C15; rintro e w8 ⟨A8, q8, rfl, hl8, hc8, hb⟩
           have C8 := Aside0.mk hc8
           have L8 := Aside0.mk hl8
           have S8 := Aside0.mk (S6.out.below hb)
           have G8 := Aside0.mk (G6.out.trans (Goes.of_below (L := Lr) hb))
           have C68 := Aside0.mk (Kd.C_below C6.out hb)
           clear hc8 hl8 hb
           refine ⟨_, rfl, ?_⟩)
        | ((with_reducible refine gate_dst (N := 64) rfl ?_); refine gate_guard rfl ?_; refine goesL_ (some 64) rfl rfl Tryz.func14 (by kernel_rfl) rfl #[.slice A8 mf.done.length q8] rfl (by (try simp only [List.map_toArray, List.map_cons, List.map_nil]); first | done | rfl) ?_
           refine (Fold6g C8.out L8.out (by have := HDL.out; omega) (by have h1 := cnt_le mf.done HRW.out; have := HDL.out; omega) (by rw [HALL.out]; have := HAL.out; exact Nat.lt_of_le_of_lt this (by omega)) HKW.out).mono ?_; rintro e w9 ⟨v, rfl, hr, hb⟩
           rw [HALL.out, ← HES.out] at hr
           obtain ⟨A9, q9, hv, hl9, hc9⟩ := Kd.R_reads hr
           subst hv
           have C9 := Aside0.mk hc9
           have L9 := Aside0.mk hl9
           have S9 := Aside0.mk (S8.out.below hb)
           have G9 := Aside0.mk (G8.out.trans (Goes.of_below (L := Lr) hb))
           have C69 := Aside0.mk (Kd.C_below C68.out hb)
           clear hr hb hc9 hl9
           refine ⟨_, rfl, ?_⟩)
        | ((with_reducible refine gate_dst (N := 65) rfl ?_); refine gate_guard rfl ?_; refine goesL_ (some 65) rfl rfl Tryz.func13 (by kernel_rfl) rfl #[.slice A6 es.length q6, .slice A9 es.length q9] rfl (by (try simp only [List.map_toArray, List.map_cons, List.map_nil]); first | done | rfl) ?_
           refine (tidemarklaw18_entries.calls k3 A6 q6 es A9 q9 es true _ C69.out L6.out C9.out L9.out HK3.out).mono ?_; rintro e w10 ⟨rfl, hd⟩
           have S10 := Aside0.mk (S9.out.below hd.below)
           have G10 := Aside0.mk (G9.out.trans (Goes.of_below (L := Lr) hd.below))
           clear hd
           refine ⟨_, rfl, ?_⟩)
        | ((with_reducible refine gate_dst (N := 69) rfl ?_); refine gate_guard rfl ?_; refine goesL_ (some 69) rfl rfl Tryz.func9 (by kernel_rfl) rfl #[.pointer (some ⟨p, 0, none⟩)] rfl (by (try simp only [List.map_toArray, List.map_cons, List.map_nil]); first | done | rfl) ?_
           have C14 := ids14 S10.out OKF.out; rw [G10.out.p.trans HLP.out, HID.out] at C14; refine C14.mono ?_; clear C14; rintro e w11 ⟨v, rfl, hr, hb⟩
           obtain ⟨A11, q11, hv⟩ := Kd.R_slice hr
           rw [List.length_nil] at hv
           subst hv
           have G11 := Aside0.mk (G10.out.trans (Goes.of_below (L := Lr) hb))
           clear hr hb
           refine ⟨_, rfl, ?_⟩))
      go_ret
      exact ⟨rfl, HBW.out _ _ G11.out⟩
    | succ kr =>
      have hi0 : i < m.ids.length := by rw [← HXS.out]; have := hik.out; omega
      have hi1 : (i : Int) < (xs.length : Int) := by have := hik.out; omega
      have hi2 : (0 : Int) ≤ (i : Int) := by omega
      have hz := abort_zero OKM.out i hi0
      have hab := aborted OKM.out i (by rw [← ids_len]; omega)
      have hwf := ids_wf OKM.out i hi0
      have hrs := fun (j : Nat) (h : j + 1 < m.ids.length) => ids_rise OKM.out j h
      rw [HXS.out] at hS
      obtain ⟨mi, hmi⟩ : ∃ mi, mi = m.abortAll (m.ids.take i) := ⟨_, rfl⟩
      rw [← hmi] at hS hz hab
      have HS2 := Aside0.mk (show m.abortAll (xs.take (i + 1)) = mi.abort m.ids[i] from by rw [HXS.out]; exact hz.2)
      have HZ := Aside0.mk hz.1
      have OKI := Aside0.mk hab.ok
      have HWF := Aside0.mk hwf
      have hw2 : IntKind.i64.wrap ((i : Int) + 1) = ((i + 1 : Nat) : Int) := wrp (by omega) (by have h1 := OKM.out.size; have h2 := OKM.out.table; have h3 := ids_len m; omega)
      rcases HROW.out with ⟨h1, h2⟩ | ⟨gi, capi, cur, h1, h2, h3, h4⟩
      · rw [← HXS.out, h2] at hi0
        exact absurd hi0 (by simp)
      · injection h1 with e1 e2 e3
        clear e2 e3
        subst e1
        have HRG := Aside0.mk (FR.out gi h2)
        have HRG2 := Aside0.mk (hG5.out.out gi (blk_lt h3) HRG.out)
        have hblk := hG5.out.mv.blk h3 (fun h => h.1 HRG.out)
        have HBLK := Aside0.mk hblk
        have hcell : ∀ j (hj : j < m.ids.length), cur[j]? = some (.int .i64 m.ids[j]) := fun j hj => by
          have h5 := h4 j (by rw [HXS.out]; exact hj)
          rw [h5]
          congr 2
          simp [HXS.out]
        have y1 : Ws.cell? ⟨gi, i, none⟩ = some (.int .i64 m.ids[i]) := (blk_cell hblk i).trans (hcell i hi0)
        have Y1 := Aside0.mk (hcell i hi0)
        obtain ⟨id, hid⟩ : ∃ id, id = m.ids[i] := ⟨_, rfl⟩
        rw [← hid] at y1 Y1 HZ HS2 HWF
        have SD := Aside0.mk hS.out.drew
        have GD := Aside0.mk (hG.out.trans (Goes.of_below (L := Lr) (below_drew (Below.refl Ws.heap.size Ws))))
        have GD5 := Aside0.mk (hG5.out.trans (Goes.of_below (L := Lr) (below_drew (Below.refl Ws.heap.size Ws))))
        rcases Nat.eq_zero_or_pos i with hj | hj
        · subst hj
          clear hz hab hwf hrs hmi h2 h3 h4 hblk hcell hid
          go_upto_region 8 with fail
          refine wp_region_held_drew (S := fun w' => w'.cell? ⟨gi, 0, none⟩ = some (.int .i64 id)) (by kernel_rfl) ?_ (fun hHeld => ?_)
          · go_keep
          refine wpAnyH_take (i := 0) (oi := ?oi1) (v := ?v1) ?hi1 (by kernel_rfl) (by kernel_rfl) (by kernel_rfl) ?hQ1 ?hy1 (by assumption) ?more1 
          case hi1 => (simp only [List.getElem?_toArray, List.getElem?_cons_zero, List.getElem?_cons_succ]; rfl)
          case hQ1 => exact fun _ _ _ h => h
          case hy1 => (refine Or.inl ⟨by rfl, ?_⟩; intro w hSw; (try dsimp only at hSw); go_simp; (try with_reducible rfl))
          try simp only [Act.put, List.setIfInBounds_toArray, List.set_cons_zero, List.set_cons_succ]
          refine wpAnyH_take (i := 1) (oi := ?oi2) (v := ?v2) ?hi2 (by kernel_rfl) (by kernel_rfl) (by kernel_rfl) ?hQ2 ?hy2 (by assumption) ?more2 
          case hi2 => (simp only [List.getElem?_toArray, List.getElem?_cons_zero, List.getElem?_cons_succ]; rfl)
          case hQ2 => exact fun _ _ _ h => h
          case hy2 => (refine Or.inl ⟨by rfl, ?_⟩; intro w hSw; (try dsimp only at hSw); go_simp; (try with_reducible rfl))
          try simp only [Act.put, List.setIfInBounds_toArray, List.set_cons_zero, List.set_cons_succ]
          refine wpAnyH_take (i := 2) (oi := ?oi3) (v := ?v3) ?hi3 (by kernel_rfl) (by kernel_rfl) (by kernel_rfl) ?hQ3 ?hy3 (by assumption) ?more3 
          case hi3 => (simp only [List.getElem?_toArray, List.getElem?_cons_zero, List.getElem?_cons_succ]; rfl)
          case hQ3 => exact fun _ _ _ h => h
          case hy3 => (refine Or.inl ⟨by rfl, ?_⟩; intro w hSw; (try dsimp only at hSw); go_simp; (try with_reducible rfl))
          try simp only [Act.put, List.setIfInBounds_toArray, List.set_cons_zero, List.set_cons_succ]
          refine wpAnyH_take (i := 3) (oi := ?oi4) (v := ?v4) ?hi4 (by kernel_rfl) (by kernel_rfl) (by kernel_rfl) ?hQ4 ?hy4 (by assumption) ?more4 
          case hi4 => (simp only [List.getElem?_toArray, List.getElem?_cons_zero, List.getElem?_cons_succ]; rfl)
          case hQ4 => exact fun _ _ _ h => h
          case hy4 => (refine Or.inl ⟨by rfl, ?_⟩; intro w hSw; (try dsimp only at hSw); go_simp; (try with_reducible rfl))
          try simp only [Act.put, List.setIfInBounds_toArray, List.set_cons_zero, List.set_cons_succ]
          refine wpAnyH_take (i := 4) (oi := ?oi5) (v := ?v5) ?hi5 (by kernel_rfl) (by kernel_rfl) (by kernel_rfl) ?hQ5 ?hy5 (by assumption) ?more5 
          case hi5 => (simp only [List.getElem?_toArray, List.getElem?_cons_zero, List.getElem?_cons_succ]; rfl)
          case hQ5 => exact fun _ _ _ h => h
          case hy5 => (refine Or.inl ⟨by rfl, ?_⟩; intro w hSw; (try dsimp only at hSw); go_simp; (try with_reducible rfl))
          try simp only [Act.put, List.setIfInBounds_toArray, List.set_cons_zero, List.set_cons_succ]
          refine wpAnyH_ready (rs := [5]) (by kernel_rfl) (by simp) ?_
          refine AllReadyH.cons (o := ?oi6) ?hi6 (fun K hK => ?more6) AllReadyH.nil
          case hi6 => (simp only [List.getElem?_toArray, List.getElem?_cons_zero, List.getElem?_cons_succ]; rfl)
          go_simp
          (go_at_call 11; have C28 := abort28 SD.out OKI.out id HWF.out; rw [GD.out.p.trans HLP.out] at C28; refine C28.mono ?_; clear C28; rintro e w6 ⟨rfl, L6, hs, hg⟩; rw [HZ.out]
           have S6 := Aside0.mk hs
           have G6 := Aside0.mk (GD.out.trans hg)
           have G56 := Aside0.mk (GD5.out.trans hg)
           have n1 : w6.cell? ⟨gi, 0, none⟩ = some (.int .i64 id) := (blk_cell (hg.mv.blk (show Ws.drew.heap[gi]? = _ from HBLK.out) (fun h => h.1 HRG2.out)) 0).trans Y1.out
           clear hs hg)
          refine hK.out _ _ ?_ (fun hHeld => ?_)
          · go_keep
          clear hK K
          try simp only [Act.put, List.setIfInBounds_toArray, List.set_cons_zero, List.set_cons_succ]
          refine wpAnyH_ready (rs := [6]) (by kernel_rfl) (by simp) ?_
          refine AllReadyH.cons (o := ?oi7) ?hi7 (fun K hK => ?more7) AllReadyH.nil
          case hi7 => (simp only [List.getElem?_toArray, List.getElem?_cons_zero, List.getElem?_cons_succ]; rfl)
          go_simp
          (go_at_call 10; refine (num19 _ _).mono ?_; rintro e w7 ⟨rfl, rfl⟩)
          refine hK.out _ _ ?_ (fun hHeld => ?_)
          · go_keep
          clear hK K
          try simp only [Act.put, List.setIfInBounds_toArray, List.set_cons_zero, List.set_cons_succ]
          refine wpAnyH_take (i := 7) (oi := ?oi8) (v := ?v8) ?hi8 (by kernel_rfl) (by kernel_rfl) (by kernel_rfl) ?hQ8 ?hy8 (by assumption) ?more8 
          case hi8 => (simp only [List.getElem?_toArray, List.getElem?_cons_zero, List.getElem?_cons_succ]; rfl)
          case hQ8 => exact fun _ _ _ h => h
          case hy8 => (refine Or.inl ⟨by rfl, ?_⟩; intro w hSw; (try dsimp only at hSw); go_simp; (try with_reducible rfl))
          try simp only [Act.put, List.setIfInBounds_toArray, List.set_cons_zero, List.set_cons_succ]
          refine wpAnyH_take (i := 8) (oi := ?oi9) (v := ?v9) ?hi9 (by kernel_rfl) (by kernel_rfl) (by kernel_rfl) ?hQ9 ?hy9 (by assumption) ?more9 
          case hi9 => (simp only [List.getElem?_toArray, List.getElem?_cons_zero, List.getElem?_cons_succ]; rfl)
          case hQ9 => exact fun _ _ _ h => h
          case hy9 => (refine Or.inl ⟨by rfl, ?_⟩; intro w hSw; (try dsimp only at hSw); go_simp; (try with_reducible rfl))
          try simp only [Act.put, List.setIfInBounds_toArray, List.set_cons_zero, List.set_cons_succ]
          refine wpAnyH_take (i := 9) (oi := ?oi10) (v := ?v10) ?hi10 (by kernel_rfl) (by kernel_rfl) (by kernel_rfl) ?hQ10 ?hy10 (by assumption) ?more10 
          case hi10 => (simp only [List.getElem?_toArray, List.getElem?_cons_zero, List.getElem?_cons_succ]; rfl)
          case hQ10 => exact fun _ _ _ h => h
          case hy10 => (refine Or.inl ⟨by rfl, ?_⟩; intro w hSw; (try dsimp only at hSw); go_simp; (try with_reducible rfl))
          try simp only [Act.put, List.setIfInBounds_toArray, List.set_cons_zero, List.set_cons_succ]
          refine wpAnyH_take (i := 10) (oi := ?oi11) (v := ?v11) ?hi11 (by kernel_rfl) (by kernel_rfl) (by kernel_rfl) ?hQ11 ?hy11 (by assumption) ?more11 
          case hi11 => (simp only [List.getElem?_toArray, List.getElem?_cons_zero, List.getElem?_cons_succ]; rfl)
          case hQ11 => exact fun _ _ _ h => h
          case hy11 => (refine Or.inl ⟨by rfl, ?_⟩; intro w hSw; (try dsimp only at hSw); go_simp; (try with_reducible rfl))
          try simp only [Act.put, List.setIfInBounds_toArray, List.set_cons_zero, List.set_cons_succ]
          refine wpAnyH_take (i := 11) (oi := ?oi12) (v := ?v12) ?hi12 (by kernel_rfl) (by kernel_rfl) (by kernel_rfl) ?hQ12 ?hy12 (by assumption) ?more12 
          case hi12 => (simp only [List.getElem?_toArray, List.getElem?_cons_zero, List.getElem?_cons_succ]; rfl)
          case hQ12 => exact fun _ _ _ h => h
          case hy12 => (refine Or.inl ⟨by rfl, ?_⟩; intro w hSw; (try dsimp only at hSw); go_simp; (try with_reducible rfl))
          try simp only [Act.put, List.setIfInBounds_toArray, List.set_cons_zero, List.set_cons_succ]
          refine wpAnyH_take (i := 12) (oi := ?oi13) (v := undef) ?hi13 (by kernel_rfl) (by kernel_rfl) (by kernel_rfl) ?hQ13 ?hy13 (by assumption) ?more13 
          case hi13 => (simp only [List.getElem?_toArray, List.getElem?_cons_zero, List.getElem?_cons_succ]; rfl)
          case hQ13 => exact fun _ _ _ h => h
          case hy13 => exact Or.inr ⟨by rfl, rfl⟩
          try simp only [Act.put, List.setIfInBounds_toArray, List.set_cons_zero, List.set_cons_succ]
          refine wpAnyH_take (i := 13) (oi := ?oi14) (v := undef) ?hi14 (by kernel_rfl) (by kernel_rfl) (by kernel_rfl) ?hQ14 ?hy14 (by assumption) ?more14 
          case hi14 => (simp only [List.getElem?_toArray, List.getElem?_cons_zero, List.getElem?_cons_succ]; rfl)
          case hQ14 => exact fun _ _ _ h => h
          case hy14 => exact Or.inr ⟨by rfl, rfl⟩
          try simp only [Act.put, List.setIfInBounds_toArray, List.set_cons_zero, List.set_cons_succ]
          refine wpAnyH_take (i := 14) (oi := ?oi15) (v := undef) ?hi15 (by kernel_rfl) (by kernel_rfl) (by kernel_rfl) ?hQ15 ?hy15 (by assumption) ?more15 
          case hi15 => (simp only [List.getElem?_toArray, List.getElem?_cons_zero, List.getElem?_cons_succ]; rfl)
          case hQ15 => exact fun _ _ _ h => h
          case hy15 => exact Or.inr ⟨by rfl, rfl⟩
          try simp only [Act.put, List.setIfInBounds_toArray, List.set_cons_zero, List.set_cons_succ]
          refine wpAnyH_take (i := 15) (oi := ?oi16) (v := undef) ?hi16 (by kernel_rfl) (by kernel_rfl) (by kernel_rfl) ?hQ16 ?hy16 (by assumption) ?more16 
          case hi16 => (simp only [List.getElem?_toArray, List.getElem?_cons_zero, List.getElem?_cons_succ]; rfl)
          case hQ16 => exact fun _ _ _ h => h
          case hy16 => exact Or.inr ⟨by rfl, rfl⟩
          try simp only [Act.put, List.setIfInBounds_toArray, List.set_cons_zero, List.set_cons_succ]
          refine wpAnyH_take (i := 16) (oi := ?oi17) (v := undef) ?hi17 (by kernel_rfl) (by kernel_rfl) (by kernel_rfl) ?hQ17 ?hy17 (by assumption) ?more17 
          case hi17 => (simp only [List.getElem?_toArray, List.getElem?_cons_zero, List.getElem?_cons_succ]; rfl)
          case hQ17 => exact fun _ _ _ h => h
          case hy17 => exact Or.inr ⟨by rfl, rfl⟩
          try simp only [Act.put, List.setIfInBounds_toArray, List.set_cons_zero, List.set_cons_succ]
          refine wpAnyH_take (i := 17) (oi := ?oi18) (v := undef) ?hi18 (by kernel_rfl) (by kernel_rfl) (by kernel_rfl) ?hQ18 ?hy18 (by assumption) ?more18 
          case hi18 => (simp only [List.getElem?_toArray, List.getElem?_cons_zero, List.getElem?_cons_succ]; rfl)
          case hQ18 => exact fun _ _ _ h => h
          case hy18 => exact Or.inr ⟨by rfl, rfl⟩
          try simp only [Act.put, List.setIfInBounds_toArray, List.set_cons_zero, List.set_cons_succ]
          refine wpAnyH_take (i := 18) (oi := ?oi19) (v := undef) ?hi19 (by kernel_rfl) (by kernel_rfl) (by kernel_rfl) ?hQ19 ?hy19 (by assumption) ?more19 
          case hi19 => (simp only [List.getElem?_toArray, List.getElem?_cons_zero, List.getElem?_cons_succ]; rfl)
          case hQ19 => exact fun _ _ _ h => h
          case hy19 => exact Or.inr ⟨by rfl, rfl⟩
          try simp only [Act.put, List.setIfInBounds_toArray, List.set_cons_zero, List.set_cons_succ]
          refine wpAnyH_take (i := 19) (oi := ?oi20) (v := undef) ?hi20 (by kernel_rfl) (by kernel_rfl) (by kernel_rfl) ?hQ20 ?hy20 (by assumption) ?more20 
          case hi20 => (simp only [List.getElem?_toArray, List.getElem?_cons_zero, List.getElem?_cons_succ]; rfl)
          case hQ20 => exact fun _ _ _ h => h
          case hy20 => exact Or.inr ⟨by rfl, rfl⟩
          try simp only [Act.put, List.setIfInBounds_toArray, List.set_cons_zero, List.set_cons_succ]
          refine wpAnyH_take (i := 20) (oi := ?oi21) (v := undef) ?hi21 (by kernel_rfl) (by kernel_rfl) (by kernel_rfl) ?hQ21 ?hy21 (by assumption) ?more21 
          case hi21 => (simp only [List.getElem?_toArray, List.getElem?_cons_zero, List.getElem?_cons_succ]; rfl)
          case hQ21 => exact fun _ _ _ h => h
          case hy21 => exact Or.inr ⟨by rfl, rfl⟩
          try simp only [Act.put, List.setIfInBounds_toArray, List.set_cons_zero, List.set_cons_succ]
          refine wpAnyH_take (i := 21) (oi := ?oi22) (v := undef) ?hi22 (by kernel_rfl) (by kernel_rfl) (by kernel_rfl) ?hQ22 ?hy22 (by assumption) ?more22 
          case hi22 => (simp only [List.getElem?_toArray, List.getElem?_cons_zero, List.getElem?_cons_succ]; rfl)
          case hQ22 => exact fun _ _ _ h => h
          case hy22 => exact Or.inr ⟨by rfl, rfl⟩
          try simp only [Act.put, List.setIfInBounds_toArray, List.set_cons_zero, List.set_cons_succ]
          refine wpAnyH_take (i := 22) (oi := ?oi23) (v := ?v23) ?hi23 (by kernel_rfl) (by kernel_rfl) (by kernel_rfl) ?hQ23 ?hy23 (by assumption) ?more23 
          case hi23 => (simp only [List.getElem?_toArray, List.getElem?_cons_zero, List.getElem?_cons_succ]; rfl)
          case hQ23 => exact fun _ _ _ h => h
          case hy23 => (refine Or.inl ⟨by rfl, ?_⟩; intro w hSw; (try dsimp only at hSw); go_simp; (try with_reducible rfl))
          try simp only [Act.put, List.setIfInBounds_toArray, List.set_cons_zero, List.set_cons_succ]
          refine wpAnyH_take (i := 23) (oi := ?oi24) (v := ?v24) ?hi24 (by kernel_rfl) (by kernel_rfl) (by kernel_rfl) ?hQ24 ?hy24 (by assumption) ?more24 
          case hi24 => (simp only [List.getElem?_toArray, List.getElem?_cons_zero, List.getElem?_cons_succ]; rfl)
          case hQ24 => exact fun _ _ _ h => h
          case hy24 => (refine Or.inl ⟨by rfl, ?_⟩; intro w hSw; (try dsimp only at hSw); go_simp; (try with_reducible rfl))
          try simp only [Act.put, List.setIfInBounds_toArray, List.set_cons_zero, List.set_cons_succ]
          refine wpAnyH_done (by kernel_rfl) ?_ _
          clear SD GD GD5
          go_wp2
          go_roundg kr
          case measure => omega
          case rel => exact ⟨1, L6, rfl, ⟨by have := hik.out; omega⟩, by have h := HS2.out; rw [Nat.zero_add] at h; rw [h]; exact S6, G6, G56⟩
        · obtain ⟨j, hj⟩ : ∃ j, i = j + 1 := ⟨i - 1, by omega⟩
          have hj0 : j < m.ids.length := by omega
          have y2 : Ws.cell? ⟨gi, j, none⟩ = some (.int .i64 m.ids[j]) := (blk_cell hblk j).trans (hcell j hj0)
          have Y2 := Aside0.mk (hcell j hj0)
          have hlt := hrs j (by omega)
          have hlt2 : m.ids[j] < id := by rw [hid]; subst hj; exact hlt
          obtain ⟨idp, hidp⟩ : ∃ id, id = m.ids[j] := ⟨_, rfl⟩
          rw [← hidp] at y2 Y2 hlt2
          have hle : ¬ (id ≤ idp) := by omega
          have hj1 : (j : Int) < (xs.length : Int) := by omega
          have hj2 : (0 : Int) ≤ (j : Int) := by omega
          have hi3 : (0 : Int) < (i : Int) := by omega
          have hw3 : IntKind.i64.wrap ((i : Int) - 1) = (j : Int) := by rw [show (i : Int) - 1 = (j : Int) from by omega]; exact wrp (by omega) (by have h1 := OKM.out.size; have h2 := OKM.out.table; have h3 := ids_len m; omega)
          clear hj hlt hz hab hwf hrs hmi h2 h3 h4 hblk hcell hid hidp hlt2
          go_upto_region 8 with fail
          refine wp_region_held_drew (S := fun w' => w'.cell? ⟨gi, i, none⟩ = some (.int .i64 id) ∧ w'.cell? ⟨gi, j, none⟩ = some (.int .i64 idp)) (by kernel_rfl) ?_ (fun hHeld => ?_)
          · go_keep
          refine wpAnyH_take (i := 0) (oi := ?oi25) (v := ?v25) ?hi25 (by kernel_rfl) (by kernel_rfl) (by kernel_rfl) ?hQ25 ?hy25 (by assumption) ?more25 
          case hi25 => (simp only [List.getElem?_toArray, List.getElem?_cons_zero, List.getElem?_cons_succ]; rfl)
          case hQ25 => exact fun _ _ _ h => h
          case hy25 => (refine Or.inl ⟨by rfl, ?_⟩; intro w hSw; (try dsimp only at hSw); go_simp; (try with_reducible rfl))
          try simp only [Act.put, List.setIfInBounds_toArray, List.set_cons_zero, List.set_cons_succ]
          refine wpAnyH_take (i := 1) (oi := ?oi26) (v := ?v26) ?hi26 (by kernel_rfl) (by kernel_rfl) (by kernel_rfl) ?hQ26 ?hy26 (by assumption) ?more26 
          case hi26 => (simp only [List.getElem?_toArray, List.getElem?_cons_zero, List.getElem?_cons_succ]; rfl)
          case hQ26 => exact fun _ _ _ h => h
          case hy26 => (refine Or.inl ⟨by rfl, ?_⟩; intro w hSw; (try dsimp only at hSw); go_simp; (try with_reducible rfl))
          try simp only [Act.put, List.setIfInBounds_toArray, List.set_cons_zero, List.set_cons_succ]
          refine wpAnyH_take (i := 2) (oi := ?oi27) (v := ?v27) ?hi27 (by kernel_rfl) (by kernel_rfl) (by kernel_rfl) ?hQ27 ?hy27 (by assumption) ?more27 
          case hi27 => (simp only [List.getElem?_toArray, List.getElem?_cons_zero, List.getElem?_cons_succ]; rfl)
          case hQ27 => exact fun _ _ _ h => h
          case hy27 => (refine Or.inl ⟨by rfl, ?_⟩; intro w hSw; (try dsimp only at hSw); go_simp; (try with_reducible rfl))
          try simp only [Act.put, List.setIfInBounds_toArray, List.set_cons_zero, List.set_cons_succ]
          refine wpAnyH_take (i := 3) (oi := ?oi28) (v := ?v28) ?hi28 (by kernel_rfl) (by kernel_rfl) (by kernel_rfl) ?hQ28 ?hy28 (by assumption) ?more28 
          case hi28 => (simp only [List.getElem?_toArray, List.getElem?_cons_zero, List.getElem?_cons_succ]; rfl)
          case hQ28 => exact fun _ _ _ h => h
          case hy28 => (refine Or.inl ⟨by rfl, ?_⟩; intro w hSw; (try dsimp only at hSw); go_simp; (try with_reducible rfl))
          try simp only [Act.put, List.setIfInBounds_toArray, List.set_cons_zero, List.set_cons_succ]
          refine wpAnyH_take (i := 4) (oi := ?oi29) (v := ?v29) ?hi29 (by kernel_rfl) (by kernel_rfl) (by kernel_rfl) ?hQ29 ?hy29 (by assumption) ?more29 
          case hi29 => (simp only [List.getElem?_toArray, List.getElem?_cons_zero, List.getElem?_cons_succ]; rfl)
          case hQ29 => exact fun _ _ _ h => h
          case hy29 => (refine Or.inl ⟨by rfl, ?_⟩; intro w hSw; (try dsimp only at hSw); go_simp; (try with_reducible rfl))
          try simp only [Act.put, List.setIfInBounds_toArray, List.set_cons_zero, List.set_cons_succ]
          refine wpAnyH_ready (rs := [5]) (by kernel_rfl) (by simp) ?_
          refine AllReadyH.cons (o := ?oi30) ?hi30 (fun K hK => ?more30) AllReadyH.nil
          case hi30 => (simp only [List.getElem?_toArray, List.getElem?_cons_zero, List.getElem?_cons_succ]; rfl)
          go_simp
          (go_at_call 11; have C28 := abort28 SD.out OKI.out id HWF.out; rw [GD.out.p.trans HLP.out] at C28; refine C28.mono ?_; clear C28; rintro e w6 ⟨rfl, L6, hs, hg⟩; rw [HZ.out]
           have S6 := Aside0.mk hs
           have G6 := Aside0.mk (GD.out.trans hg)
           have G56 := Aside0.mk (GD5.out.trans hg)
           have n1 : w6.cell? ⟨gi, i, none⟩ = some (.int .i64 id) := (blk_cell (hg.mv.blk (show Ws.drew.heap[gi]? = _ from HBLK.out) (fun h => h.1 HRG2.out)) i).trans Y1.out
           have n2 : w6.cell? ⟨gi, j, none⟩ = some (.int .i64 idp) := (blk_cell (hg.mv.blk (show Ws.drew.heap[gi]? = _ from HBLK.out) (fun h => h.1 HRG2.out)) j).trans Y2.out
           clear hs hg)
          refine hK.out _ _ ?_ (fun hHeld => ?_)
          · go_keep
          clear hK K
          try simp only [Act.put, List.setIfInBounds_toArray, List.set_cons_zero, List.set_cons_succ]
          refine wpAnyH_ready (rs := [6]) (by kernel_rfl) (by simp) ?_
          refine AllReadyH.cons (o := ?oi31) ?hi31 (fun K hK => ?more31) AllReadyH.nil
          case hi31 => (simp only [List.getElem?_toArray, List.getElem?_cons_zero, List.getElem?_cons_succ]; rfl)
          go_simp
          (go_at_call 10; refine (num19 _ _).mono ?_; rintro e w7 ⟨rfl, rfl⟩)
          refine hK.out _ _ ?_ (fun hHeld => ?_)
          · go_keep
          clear hK K
          try simp only [Act.put, List.setIfInBounds_toArray, List.set_cons_zero, List.set_cons_succ]
          refine wpAnyH_take (i := 7) (oi := ?oi32) (v := ?v32) ?hi32 (by kernel_rfl) (by kernel_rfl) (by kernel_rfl) ?hQ32 ?hy32 (by assumption) ?more32 
          case hi32 => (simp only [List.getElem?_toArray, List.getElem?_cons_zero, List.getElem?_cons_succ]; rfl)
          case hQ32 => exact fun _ _ _ h => h
          case hy32 => (refine Or.inl ⟨by rfl, ?_⟩; intro w hSw; (try dsimp only at hSw); go_simp; (try with_reducible rfl))
          try simp only [Act.put, List.setIfInBounds_toArray, List.set_cons_zero, List.set_cons_succ]
          refine wpAnyH_take (i := 8) (oi := ?oi33) (v := ?v33) ?hi33 (by kernel_rfl) (by kernel_rfl) (by kernel_rfl) ?hQ33 ?hy33 (by assumption) ?more33 
          case hi33 => (simp only [List.getElem?_toArray, List.getElem?_cons_zero, List.getElem?_cons_succ]; rfl)
          case hQ33 => exact fun _ _ _ h => h
          case hy33 => (refine Or.inl ⟨by rfl, ?_⟩; intro w hSw; (try dsimp only at hSw); go_simp; (try with_reducible rfl))
          try simp only [Act.put, List.setIfInBounds_toArray, List.set_cons_zero, List.set_cons_succ]
          refine wpAnyH_take (i := 9) (oi := ?oi34) (v := ?v34) ?hi34 (by kernel_rfl) (by kernel_rfl) (by kernel_rfl) ?hQ34 ?hy34 (by assumption) ?more34 
          case hi34 => (simp only [List.getElem?_toArray, List.getElem?_cons_zero, List.getElem?_cons_succ]; rfl)
          case hQ34 => exact fun _ _ _ h => h
          case hy34 => (refine Or.inl ⟨by rfl, ?_⟩; intro w hSw; (try dsimp only at hSw); go_simp; (try with_reducible rfl))
          try simp only [Act.put, List.setIfInBounds_toArray, List.set_cons_zero, List.set_cons_succ]
          refine wpAnyH_take (i := 10) (oi := ?oi35) (v := ?v35) ?hi35 (by kernel_rfl) (by kernel_rfl) (by kernel_rfl) ?hQ35 ?hy35 (by assumption) ?more35 
          case hi35 => (simp only [List.getElem?_toArray, List.getElem?_cons_zero, List.getElem?_cons_succ]; rfl)
          case hQ35 => exact fun _ _ _ h => h
          case hy35 => (refine Or.inl ⟨by rfl, ?_⟩; intro w hSw; (try dsimp only at hSw); go_simp; (try with_reducible rfl))
          try simp only [Act.put, List.setIfInBounds_toArray, List.set_cons_zero, List.set_cons_succ]
          refine wpAnyH_take (i := 11) (oi := ?oi36) (v := ?v36) ?hi36 (by kernel_rfl) (by kernel_rfl) (by kernel_rfl) ?hQ36 ?hy36 (by assumption) ?more36 
          case hi36 => (simp only [List.getElem?_toArray, List.getElem?_cons_zero, List.getElem?_cons_succ]; rfl)
          case hQ36 => exact fun _ _ _ h => h
          case hy36 => (refine Or.inl ⟨by rfl, ?_⟩; intro w hSw; (try dsimp only at hSw); go_simp; (try with_reducible rfl))
          try simp only [Act.put, List.setIfInBounds_toArray, List.set_cons_zero, List.set_cons_succ]
          refine wpAnyH_take (i := 12) (oi := ?oi37) (v := ?v37) ?hi37 (by kernel_rfl) (by kernel_rfl) (by kernel_rfl) ?hQ37 ?hy37 (by assumption) ?more37 
          case hi37 => (simp only [List.getElem?_toArray, List.getElem?_cons_zero, List.getElem?_cons_succ]; rfl)
          case hQ37 => exact fun _ _ _ h => h
          case hy37 => (refine Or.inl ⟨by rfl, ?_⟩; intro w hSw; (try dsimp only at hSw); go_simp; (try with_reducible rfl))
          try simp only [Act.put, List.setIfInBounds_toArray, List.set_cons_zero, List.set_cons_succ]
          refine wpAnyH_take (i := 13) (oi := ?oi38) (v := ?v38) ?hi38 (by kernel_rfl) (by kernel_rfl) (by kernel_rfl) ?hQ38 ?hy38 (by assumption) ?more38 
          case hi38 => (simp only [List.getElem?_toArray, List.getElem?_cons_zero, List.getElem?_cons_succ]; rfl)
          case hQ38 => exact fun _ _ _ h => h
          case hy38 => (refine Or.inl ⟨by rfl, ?_⟩; intro w hSw; (try dsimp only at hSw); go_simp; (try with_reducible rfl))
          try simp only [Act.put, List.setIfInBounds_toArray, List.set_cons_zero, List.set_cons_succ]
          refine wpAnyH_take (i := 14) (oi := ?oi39) (v := ?v39) ?hi39 (by kernel_rfl) (by kernel_rfl) (by kernel_rfl) ?hQ39 ?hy39 (by assumption) ?more39 
          case hi39 => (simp only [List.getElem?_toArray, List.getElem?_cons_zero, List.getElem?_cons_succ]; rfl)
          case hQ39 => exact fun _ _ _ h => h
          case hy39 => (refine Or.inl ⟨by rfl, ?_⟩; intro w hSw; (try dsimp only at hSw); go_simp; (try with_reducible rfl))
          try simp only [Act.put, List.setIfInBounds_toArray, List.set_cons_zero, List.set_cons_succ]
          refine wpAnyH_take (i := 15) (oi := ?oi40) (v := ?v40) ?hi40 (by kernel_rfl) (by kernel_rfl) (by kernel_rfl) ?hQ40 ?hy40 (by assumption) ?more40 
          case hi40 => (simp only [List.getElem?_toArray, List.getElem?_cons_zero, List.getElem?_cons_succ]; rfl)
          case hQ40 => exact fun _ _ _ h => h
          case hy40 => (refine Or.inl ⟨by rfl, ?_⟩; intro w hSw; (try dsimp only at hSw); go_simp; (try with_reducible rfl))
          try simp only [Act.put, List.setIfInBounds_toArray, List.set_cons_zero, List.set_cons_succ]
          refine wpAnyH_take (i := 16) (oi := ?oi41) (v := ?v41) ?hi41 (by kernel_rfl) (by kernel_rfl) (by kernel_rfl) ?hQ41 ?hy41 (by assumption) ?more41 
          case hi41 => (simp only [List.getElem?_toArray, List.getElem?_cons_zero, List.getElem?_cons_succ]; rfl)
          case hQ41 => exact fun _ _ _ h => h
          case hy41 => (refine Or.inl ⟨by rfl, ?_⟩; intro w hSw; (try dsimp only at hSw); go_simp; (try with_reducible rfl))
          try simp only [Act.put, List.setIfInBounds_toArray, List.set_cons_zero, List.set_cons_succ]
          refine wpAnyH_take (i := 17) (oi := ?oi42) (v := ?v42) ?hi42 (by kernel_rfl) (by kernel_rfl) (by kernel_rfl) ?hQ42 ?hy42 (by assumption) ?more42 
          case hi42 => (simp only [List.getElem?_toArray, List.getElem?_cons_zero, List.getElem?_cons_succ]; rfl)
          case hQ42 => exact fun _ _ _ h => h
          case hy42 => (refine Or.inl ⟨by rfl, ?_⟩; intro w hSw; (try dsimp only at hSw); go_simp; (try with_reducible rfl))
          try simp only [Act.put, List.setIfInBounds_toArray, List.set_cons_zero, List.set_cons_succ]
          refine wpAnyH_take (i := 18) (oi := ?oi43) (v := ?v43) ?hi43 (by kernel_rfl) (by kernel_rfl) (by kernel_rfl) ?hQ43 ?hy43 (by assumption) ?more43 
          case hi43 => (simp only [List.getElem?_toArray, List.getElem?_cons_zero, List.getElem?_cons_succ]; rfl)
          case hQ43 => exact fun _ _ _ h => h
          case hy43 => (refine Or.inl ⟨by rfl, ?_⟩; intro w hSw; (try dsimp only at hSw); go_simp; (try with_reducible rfl))
          try simp only [Act.put, List.setIfInBounds_toArray, List.set_cons_zero, List.set_cons_succ]
          refine wpAnyH_take (i := 19) (oi := ?oi44) (v := ?v44) ?hi44 (by kernel_rfl) (by kernel_rfl) (by kernel_rfl) ?hQ44 ?hy44 (by assumption) ?more44 
          case hi44 => (simp only [List.getElem?_toArray, List.getElem?_cons_zero, List.getElem?_cons_succ]; rfl)
          case hQ44 => exact fun _ _ _ h => h
          case hy44 => (refine Or.inl ⟨by rfl, ?_⟩; intro w hSw; (try dsimp only at hSw); go_simp; (try with_reducible rfl))
          try simp only [Act.put, List.setIfInBounds_toArray, List.set_cons_zero, List.set_cons_succ]
          refine wpAnyH_take (i := 20) (oi := ?oi45) (v := ?v45) ?hi45 (by kernel_rfl) (by kernel_rfl) (by kernel_rfl) ?hQ45 ?hy45 (by assumption) ?more45 
          case hi45 => (simp only [List.getElem?_toArray, List.getElem?_cons_zero, List.getElem?_cons_succ]; rfl)
          case hQ45 => exact fun _ _ _ h => h
          case hy45 => (refine Or.inl ⟨by rfl, ?_⟩; intro w hSw; (try dsimp only at hSw); go_simp; (try with_reducible rfl))
          try simp only [Act.put, List.setIfInBounds_toArray, List.set_cons_zero, List.set_cons_succ]
          refine wpAnyH_take (i := 21) (oi := ?oi46) (v := ?v46) ?hi46 (by kernel_rfl) (by kernel_rfl) (by kernel_rfl) ?hQ46 ?hy46 (by assumption) ?more46 
          case hi46 => (simp only [List.getElem?_toArray, List.getElem?_cons_zero, List.getElem?_cons_succ]; rfl)
          case hQ46 => exact fun _ _ _ h => h
          case hy46 => (refine Or.inl ⟨by rfl, ?_⟩; intro w hSw; (try dsimp only at hSw); go_simp; (try with_reducible rfl))
          try simp only [Act.put, List.setIfInBounds_toArray, List.set_cons_zero, List.set_cons_succ]
          refine wpAnyH_take (i := 22) (oi := ?oi47) (v := ?v47) ?hi47 (by kernel_rfl) (by kernel_rfl) (by kernel_rfl) ?hQ47 ?hy47 (by assumption) ?more47 
          case hi47 => (simp only [List.getElem?_toArray, List.getElem?_cons_zero, List.getElem?_cons_succ]; rfl)
          case hQ47 => exact fun _ _ _ h => h
          case hy47 => (refine Or.inl ⟨by rfl, ?_⟩; intro w hSw; (try dsimp only at hSw); go_simp; (try with_reducible rfl))
          try simp only [Act.put, List.setIfInBounds_toArray, List.set_cons_zero, List.set_cons_succ]
          refine wpAnyH_take (i := 23) (oi := ?oi48) (v := ?v48) ?hi48 (by kernel_rfl) (by kernel_rfl) (by kernel_rfl) ?hQ48 ?hy48 (by assumption) ?more48 
          case hi48 => (simp only [List.getElem?_toArray, List.getElem?_cons_zero, List.getElem?_cons_succ]; rfl)
          case hQ48 => exact fun _ _ _ h => h
          case hy48 => (refine Or.inl ⟨by rfl, ?_⟩; intro w hSw; (try dsimp only at hSw); go_simp; (try with_reducible rfl))
          try simp only [Act.put, List.setIfInBounds_toArray, List.set_cons_zero, List.set_cons_succ]
          refine wpAnyH_done (by kernel_rfl) ?_ _
          clear SD GD GD5
          go_wp2
          go_roundg kr
          case measure => omega
          case rel => exact ⟨i + 1, L6, rfl, ⟨by have := hik.out; omega⟩, by rw [HS2.out]; exact S6, G6, G56⟩
end Go.Proofs.YtcdfdckdodgbpaaGreatDoor.QA
