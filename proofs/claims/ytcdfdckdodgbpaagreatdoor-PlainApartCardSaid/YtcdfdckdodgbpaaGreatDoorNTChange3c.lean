/- changed walked: a change is taken, or refused for the log's sake: way c. -/
import Derived.Test.YtcdfdckdodgbpaaGreatDoorC
import Derived.Deep.RegionLaw
namespace Go.Proofs.YtcdfdckdodgbpaaGreatDoor.QA
open Go.RowKit Go.Maps Go.Proofs.YtcdfdckdodgbpaaGreatDoorW.PrintWords Go.Proofs.YtcdfdckdodgbpaaGreatDoorW.PrintLast Go.Proofs.YtcdfdckdodgbpaaGreatDoorW.PrintMore
set_option linter.unusedVariables false
set_option linter.unusedSimpArgs false
attribute [local go_sem] max2_int min2_int max_two min_two
theorem infoIc : (Tryz.prog.info? 3).map (fun i => (i.zero, i.size, i.bytes)) = some (some (.int .i64 0), 1, 8) := by kernel_rfl
theorem infoCc : (Tryz.prog.info? 52).map (fun i => (i.zero, i.size, i.bytes)) = some (some (.agg #[.int .i64 0, .int .u64 0, .bool false]), 3, 24) := by kernel_rfl
set_option maxHeartbeats 8000000 in
set_option maxRecDepth 100000 in
theorem changed_c {w : World} {L : Lay} {m : PSt} (h : St w L none2 m) (hk : Ok m) (id : Int) (x : Chg) (hid : (Lit.int .i64 id).wf = true) (hky : (Lit.int .i64 x.f0).wf = true) (hE : m.askedE id x.f0 = 0) (hF : m.full id x = false) (hg : x.f2 = false) (ht : (look (m.con id (x.f0.tmod m.pages)) x.f0).isSome = false) :
    Calls Tryz.prog 37 #[.pointer (some ⟨L.p, 0, none⟩), .int .i64 id, .agg #[.int .i64 x.f0, .int .u64 x.f1, .bool x.f2]] w fun e w' => ((m.changedE id x = 0 ∧ e = .returned .nilIface) ∨ (∃ v n, m.changedE id x = 170 ∧ e = .returned v ∧ Err w' 170 n v)) ∧ ∃ L', St w' L' none2 (m.changed id x) ∧ Goes w L w' L' := by
  have BX := Aside0.mk (xagg_below w x)
  have HX := Aside0.mk (show Xb (w.alloc (.cells #[.int .i64 x.f0, .int .u64 x.f1, .bool x.f2] 52)) w.heap.size x from ⟨heap_alloc_new w _⟩)
  have HFR := Aside0.mk (show L.role w.heap.size = .out from h.c.elim fun _ c => c.fresh _ (Nat.le_refl _))
  have HC := Aside0.mk (asked_ok (h.below BX.out) hk id x.f0 hid hky hE)
  obtain ⟨c, hc⟩ : ∃ c, c = m.con id (x.f0.tmod m.pages) := ⟨_, rfl⟩
  rw [full_eq hc.symm] at hF
  rw [← hc] at HC
  rw [← hc] at ht
  obtain ⟨pg, hpg⟩ : ∃ pg, pg = x.f0.tmod m.pages := ⟨_, rfl⟩
  rw [← hpg] at HC
  have HI := Aside0.mk hid
  have HY := Aside0.mk hky
  have HK := Aside0.mk hk
  have HC0 := Aside0.mk hc
  have HPG := Aside0.mk hpg
  have HE := Aside0.mk hE
  have HF := Aside0.mk hF
  have HTH := Aside0.mk ht.symm
  have hln : ((c.length : Int) == m.slots) = false := by
    rw [hg, ht] at hF
    simpa using hF
  clear ht
  obtain ⟨od, hod⟩ : ∃ od, od = (look c x.f0).getD 0 := ⟨_, rfl⟩
  have HOD := Aside0.mk hod
  clear h hk hid hky hE hF hc hpg hod
  obtain ⟨k, v, gn⟩ := x
  dsimp only at hg HC HX BX HY HTH HOD HF HPG HE ⊢
  subst hg
  go_enter Tryz.func37, Tryz.ntmps37
  go_upto_region 1 with fail
  obtain ⟨g, hg⟩ : ∃ g, g = w.heap.size := ⟨_, rfl⟩
  have HG := Aside0.mk hg
  rw [← hg] at HX HFR
  have e1 : (⟨w.heap.size, 0, none⟩ : Addr) = ⟨g, 0, none⟩ := by rw [hg]
  rw [e1]
  clear e1 hg
  generalize w.alloc (Obj.cells #[.int .i64 k, .int .u64 v, .bool false] 52) = w0 at BX HX HC ⊢
  obtain ⟨x0, x1, x2⟩ := HX.out.cells
  dsimp only at x0 x1 x2
  go_upto_if 52 with (first
    | (go_at_call 35; refine HC.out.mono ?_; rintro e w1 ⟨L1, rfl, hs, hg, hr, ho⟩
       have S1 := Aside0.mk hs
       have G1 := Aside0.mk ((Goes.of_below (L := L) BX.out).trans hg)
       have X1 := Aside0.mk (HX.out.goes hg HFR.out)
       have y0 : w1.cell? ⟨g, 0, none⟩ = some (.int .i64 k) := X1.out.1.cells.1
       have R1 := Aside0.mk hr
       have O1 := Aside0.mk ho
       clear hs hg hr ho)
    | (at_lookup; refine om_look_ok rfl _ _ 75 rfl 47 Tryz.underlying75 (zero49 _) rfl O1.out rfl HY.out (v := .int .u64 od) (by rw [HOD.out]; cases look c k <;> rfl) HTH.out.symm ?_))
  have SD := Aside0.mk S1.out.drew
  have OD := Aside0.mk (O1.out.move (Mv.of_below (below_drew (Below.refl _ _)) (fun _ => False)) (fun h => h))
  have XD := Aside0.mk (show Xb w1.drew g ⟨k, v, false⟩ from ⟨X1.out.1.cell⟩)
  have RG := Aside0.mk X1.out.2
  have GD := Aside0.mk (G1.out.trans (Goes.of_below (L := L1) (below_drew (Below.refl w1.heap.size w1))))
  clear y0 x0 x1 x2
  have hlen := fun ty => OD.out.own.len Tryz.underlying75 ty
  rw [dat_size] at hlen
  obtain ⟨d0, d1, d2, d4, d5, d6, d7, d8⟩ := SD.out.cells
  rw [G1.out.p] at d1
  have dy2 : w1.drew.cell? ⟨g, 2, none⟩ = some (.bool false) := XD.out.cells.2.2
  clear d0 d2 d4 d5 d6 d7 d8
  go_upto_region 5 with fail
  go_still (by kernel_rfl)
  change Exit.then _ _ _ _ w1.drew
  clear hlen d1 dy2 S1 O1 X1 G1
  clear hln
  generalize w1.drew = wd at SD OD XD GD ⊢
  obtain ⟨⟨t, hl⟩, hkr, hho⟩ := askedE_ok HE.out
  try dsimp only at hkr hho
  have HL := Aside0.mk hl
  have HKR := Aside0.mk hkr
  have hpr := page_range HK.out hkr.1
  have HPW := Aside0.mk (show (Lit.int .i64 pg).wf = true from by have h1 := HK.out.pages; rw [HPG.out]; exact wf64 (by omega))
  have hpn : m.pages ≠ 0 := by have h1 := HK.out.pages; omega
  have hpe : k.tmod m.pages = pg := HPG.out.symm
  have HPL := Aside0.mk (pages_le HK.out hl)
  have HCL := Aside0.mk (show c.length < maxLen from by
    have h1 := (con_ok HK.out HE.out hl).len
    have h2 := HK.out.slots
    rw [← HC0.out] at h1
    unfold maxLen
    omega)
  have HTL := Aside0.mk (show t.lengths.length ≤ 2000 ∧ t.changes.length ≤ 2000 from by
    have h1 := (HK.out.txn id t hl).len
    have h2 := sumU_nonneg (fun n hn => (h1 n hn).1)
    have h3 := HK.out.sumU_le hl
    have h4 := (HK.out.txn id t hl).same
    omega)
  obtain ⟨sA, hsA⟩ : ∃ sA, sA = slotB k od false := ⟨_, rfl⟩
  obtain ⟨sB, hsB⟩ : ∃ sB, sB = slotB k v true := ⟨_, rfl⟩
  have HA := Aside0.mk (show plain_slot.f 20 k od false = some sA from by rw [hsA, slot_some, slotB_eq])
  have HB := Aside0.mk (show plain_slot.f 20 k v true = some sB from by rw [hsB, slot_some, slotB_eq])
  obtain ⟨n, hn⟩ : ∃ n, n = lenB sA sB := ⟨_, rfl⟩
  have hlk := lenB_ok sA sB (by rw [hsA]; exact slotB_length _ _ _) (by rw [hsB]; exact slotB_length _ _ _)
  rw [← hn] at hlk
  have HN := Aside0.mk hlk
  have HNC := Aside0.mk (show m.lenC id ⟨k, v, false⟩ = n from by
    unfold PSt.lenC
    dsimp only
    rw [hn, hsA, hsB, HOD.out, ← HC0.out, ← HTH.out]
    rfl)
  have HFU := Aside0.mk (show m.full id ⟨k, v, false⟩ = false from by rw [full_eq (by show m.con id (k.tmod m.pages) = c; rw [HC0.out])]; exact HF.out)
  clear hl hkr hho hpr hsA hsB hn hlk
  obtain ⟨z0, z1, z2⟩ := XD.out.cells
  dsimp only at z0 z1 z2
  go_upto_region 7 with fail
  go_region_held3 (fun w' => w'.cell? ⟨g, 0, none⟩ = some (.int .i64 k) ∧ w'.cell? ⟨g, 1, none⟩ = some (.int .u64 v) ∧ w'.cell? ⟨g, 2, none⟩ = some (.bool false)) (go_keep)
    (first
      | (go_at_call 52; with_reducible refine (plain_slot.calls 20 k od false sA _ HA.out).mono ?_; rintro e w2 ⟨v2, rfl, hr, hb⟩
         obtain ⟨A2, q2, hv, hl2, hc2⟩ := Kd.R_reads hr
         subst hv
         have RA := Aside0.mk hc2
         have QA := Aside0.mk hl2
         have B2 := Aside0.mk ((below_drew (Below.refl wd.heap.size wd)).trans hb)
         have X2 := Aside0.mk (XD.out.below B2.out)
         obtain ⟨a0, a1, a2⟩ := X2.out.cells
         dsimp only at a0 a1 a2
         clear hr hb hc2 hl2)
      | (go_at_call 52; with_reducible refine (plain_slot.calls 20 k v true sB _ HB.out).mono ?_; rintro e w3 ⟨v3, rfl, hr, hb⟩
         obtain ⟨A3, q3, hv, hl3, hc3⟩ := Kd.R_reads hr
         subst hv
         have RB := Aside0.mk hc3
         have QB := Aside0.mk hl3
         have RA3 := Aside0.mk (Kd.C_below RA.out hb)
         have B3 := Aside0.mk (B2.out.trans (hb.mono B2.out.size))
         have X3 := Aside0.mk (XD.out.below B3.out)
         obtain ⟨b0, b1, b2⟩ := X3.out.cells
         dsimp only at b0 b1 b2
         clear hr hb hc3 hl3)
      | (go_at_call 51; refine (plain_length.calls 20 A2 q2 sA A3 q3 sB n _ RA3.out QA.out RB.out QB.out HN.out.1).mono ?_; rintro e w4 ⟨rfl, hb⟩
         have B4 := Aside0.mk (B3.out.trans (hb.mono B3.out.size))
         have X4 := Aside0.mk (XD.out.below B4.out)
         obtain ⟨f0, f1, f2⟩ := X4.out.cells
         dsimp only at f0 f1 f2
         clear hb))
  have S4 := Aside0.mk (SD.out.below B4.out)
  have G4 := Aside0.mk (GD.out.trans (Goes.of_below B4.out))
  have O4 := Aside0.mk (OD.out.move (Mv.of_below B4.out (fun _ => False)) (fun h => h))
  clear z0 z1 z2 a0 a1 a2 b0 b1 b2 f0 f1 f2 RA RB RA3 QA QB B2 B3 X2 X3 SD OD XD GD HA HB
  clear B4
  by_cases hn0 : n = 0
  · have hgt : ¬ (0 < n) := by omega
    have hgt2 : decide (n > 0) = false := decide_eq_false (by omega)
    have HCE := Aside0.mk (show m.changedE id ⟨k, v, false⟩ = 0 from by
      unfold PSt.changedE
      rw [if_neg (by simp [HE.out]), HFU.out, if_neg (by simp), HNC.out, if_neg (by omega)])
    have HCM := Aside0.mk (show m.changed id ⟨k, v, false⟩ = m.setT id (t.hold pg c) from by
      unfold PSt.changed
      rw [if_neg (by simp [HE.out]), HFU.out, if_neg (by simp), HNC.out, if_neg (by omega), Ok.txn_look HL.out]
      show m.setT id (t.hold (k.tmod m.pages) (m.con id (k.tmod m.pages))) = _
      rw [← HC0.out, ← HPG.out])
    have SN := Aside0.mk (show Near w w4 L L1 m id pg ⟨k, v, false⟩ from ⟨w4, m, t, c, L1, S4.out, G4.out, HL.out, HK.out.up, HPL.out, rfl, rfl, rfl, G4.out.p, R1.out, Mv.refl _ _, O4.out, HCM.out⟩)
    clear hn0
    obtain ⟨wb, m', t', c', L', h1, h2, h3, h4, h5, h6, h7, h8, h9, h10, h11, h12, h13⟩ := (SN.out.below (below_drew (Below.refl w4.heap.size w4))).ex
    obtain ⟨vl', vc', hTC⟩ := h1.tx_get h3
    have hne1 : ¬ (L'.tb id = L'.cb id pg) := fun e => by have e2 := hTC.rt; rw [e, h10] at e2; injection e2 with _ e3; cases e3
    have hne2 : ¬ (L'.pb id = L'.cb id pg) := fun e => by have e2 := hTC.rp; rw [e, h10] at e2; injection e2 with _ e3; cases e3
    have hne3 : ¬ (L'.p = L'.cb id pg) := fun e => by have e2 := h1.c.elim fun _ c => c.rp; rw [e, h10] at e2; cases e2
    have ct0 : w4.drew.cell? ⟨L1.tb id, 0, none⟩ = some (.map (some (L'.pb id))) := by rw [← h7]; exact blk_cell (h11.blk hTC.cell hne1) 0
    have e0 : w4.drew.cell? ⟨L.p, 0, none⟩ = some (.int .i64 m.pages) := by
      obtain ⟨vd', hC'⟩ := h1.c
      have e1 := blk_cell (h11.blk hC'.cell hne3) 0
      rw [h9] at e1
      rw [← h6]
      exact e1
    have xx0 : w4.drew.cell? ⟨g, 0, none⟩ = some (.int .i64 k) := (show Aside0 (Xb w4.drew g ⟨k, v, false⟩) from ⟨X4.out.below (below_drew (Below.refl _ _))⟩).out.cells.1
    have PM := Aside0.mk (show OM Tryz.prog mapS w4.drew (L'.pb id) (t'.pages.map fun q => (q.1, L'.cb id q.1)) from hTC.pages.move h11 hne2)
    have FN := fun (w9 : World) ho hm => Near.finish (L1 := L1) (w1 := w9) h1 h2 h3 h4 h10 h11 h12 h13 ho hm
    have HFN := Aside0.mk FN
    have HPLN := Aside0.mk h5
    have HCB := Aside0.mk (show L1.cb id pg = L'.cb id pg from by rw [h8])
    clear h1 h2 h3 h4 h5 h6 h7 h8 h9 h10 h11 h12 h13 hTC hne1 hne2 hne3 FN
    go_upto_region 18 with fail
    go_still_tail 14, (by kernel_rfl)
    change wpList _ _ _ _ _ w4.drew
    clear ct0 e0 xx0
    generalize w4.drew = wq at PM HFN ⊢
    go_wp2_with (first
      | (at_mapUpdate; refine om_put rfl _ _ _ 80 rfl 75 Tryz.underlying80 rfl PM.out (by have := HPLN.out; rw [List.length_map]; unfold maxLen; omega) rfl HPW.out (L1.cb id pg) rfl ?_
         intro w9 ho hm
         rw [HCB.out] at ho
         have FN9 := Aside0.mk (HFN.out w9 ho hm)
         clear ho hm))
    go_ret
    exact ⟨.inl ⟨HCE.out, rfl⟩, L', FN9.out⟩
  · have hgt : 0 < n := by have := HN.out.2.1; omega
    have hgt2 : decide (n > 0) = true := decide_eq_true hgt
    have HUN := Aside0.mk (show (0 ≤ updated n ∧ updated n ≤ 1000000) ∧ (0 ≤ undone n ∧ undone n ≤ 1000000) ∧ (0 ≤ n ∧ n ≤ 1000000) from by have := HN.out.2.2.1; unfold updated undone; omega)
    clear hn0
    cases hft : m.fits (updated n) (undone n) with
    | false =>
      have HCE := Aside0.mk (show m.changedE id ⟨k, v, false⟩ = 170 from by
        unfold PSt.changedE
        rw [if_neg (by simp [HE.out]), HFU.out, if_neg (by simp), HNC.out, if_pos ⟨hgt, hft⟩])
      have HCM := Aside0.mk (show m.changed id ⟨k, v, false⟩ = m.over id true from by
        unfold PSt.changed
        rw [if_neg (by simp [HE.out]), HFU.out, if_neg (by simp), HNC.out, if_pos hgt, hft, if_neg (by simp)])
      go_wp2_with (first
        | (go_at_call 53; refine (updated47 n HUN.out.2.2 _).mono ?_; rintro e w5 ⟨rfl, rfl⟩)
        | (go_at_call 43; refine (undone48 n HUN.out.2.2 _).mono ?_; rintro e w5 ⟨rfl, rfl⟩)
        | (go_at_call 34; have C34 := fits34 S4.out HK.out _ _ HUN.out.1 HUN.out.2.1; rw [G4.out.p] at C34; refine C34.mono ?_; clear C34; rintro e w5 ⟨rfl, hb⟩; rw [hft]
           have S5 := Aside0.mk (S4.out.below hb)
           have G5 := Aside0.mk (G4.out.trans (Goes.of_below (L := L1) hb))
           clear hb)
        | (go_at_call 30; have C38 := over_undo S5.out HK.out id HI.out HL.out; rw [G5.out.p] at C38; refine C38.mono ?_; clear C38; rintro e w6 ⟨rfl, L6, hs, hg⟩
           have S6 := Aside0.mk hs
           have G6 := Aside0.mk (G5.out.trans hg)
           clear hs hg)
        | (go_at_call 46; refine (refused44 170 _).mono ?_; rintro e w7 ⟨v7, rfl, he, hb⟩
           have E7 := Aside0.mk he
           have S7 := Aside0.mk (S6.out.below hb)
           have G7 := Aside0.mk (G6.out.trans (Goes.of_below (L := L6) hb))
           clear he hb))
      go_ret
      exact ⟨.inr ⟨v7, 0, HCE.out, rfl, E7.out⟩, L6, by rw [HCM.out]; exact S7.out, G7.out⟩
    | true =>
      have HCE := Aside0.mk (show m.changedE id ⟨k, v, false⟩ = 0 from by
        unfold PSt.changedE
        rw [if_neg (by simp [HE.out]), HFU.out, if_neg (by simp), HNC.out, if_neg (by rw [hft]; simp)])
      obtain ⟨u1, hu1⟩ : ∃ u1, u1 = m.used + updated n := ⟨_, rfl⟩
      have HCM := Aside0.mk (show m.changed id ⟨k, v, false⟩ = { (m.setT id ({ pages := put t.pages pg (app c ⟨k, v, false⟩), lengths := t.lengths ++ [n], changes := t.changes ++ [⟨k, v, false⟩] } : Txn)) with used := u1 } from by
        unfold PSt.changed
        rw [if_neg (by simp [HE.out]), HFU.out, if_neg (by simp), HNC.out, if_pos hgt, hft, if_pos rfl, Ok.txn_look HL.out, ← hu1]
        dsimp only
        rw [← HC0.out, ← HPG.out])
      have hw1 : IntKind.i64.wrap (m.used + updated n) = u1 := wrp hu1.symm (by have h1 := HK.out.used; have h2 := HK.out.room; have h3 := HK.out.log; have h4 := kept_nonneg HK.out; have h5 := HUN.out; omega)
      clear hu1
      go_upto_region 12 with (first
        | (go_at_call 53; refine (updated47 n HUN.out.2.2 _).mono ?_; rintro e w5 ⟨rfl, rfl⟩)
        | (go_at_call 43; refine (undone48 n HUN.out.2.2 _).mono ?_; rintro e w5 ⟨rfl, rfl⟩)
        | (go_at_call 34; have C34 := fits34 S4.out HK.out _ _ HUN.out.1 HUN.out.2.1; rw [G4.out.p] at C34; refine C34.mono ?_; clear C34; rintro e w5 ⟨rfl, hb⟩; rw [hft]
           have S5 := Aside0.mk (S4.out.below hb)
           have G5 := Aside0.mk (G4.out.trans (Goes.of_below (L := L1) hb))
           have O5 := Aside0.mk (O4.out.move (Mv.of_below hb (fun _ => False)) (fun h => h))
           have X5 := Aside0.mk (X4.out.below hb)
           clear hb))
      have SD := Aside0.mk S5.out.drew
      have GD := Aside0.mk (G5.out.trans (Goes.of_below (L := L1) (below_drew (Below.refl w5.heap.size w5))))
      have OD := Aside0.mk (O5.out.move (Mv.of_below (below_drew (Below.refl _ _)) (fun _ => False)) (fun h => h))
      have XD := Aside0.mk (show Xb w5.drew g ⟨k, v, false⟩ from X5.out.below (below_drew (Below.refl _ _)))
      have d8 : w5.drew.cell? ⟨L.p, 8, none⟩ = some (.int .i64 m.used) := by rw [← G5.out.p]; exact SD.out.cells.2.2.2.2.2.2.2
      refine wp_region_still_tail 9 (by kernel_rfl) (by kernel_rfl) ?_
      simp only [List.take_succ_cons, List.take_zero, List.drop_succ_cons, List.drop_zero]
      repeat still_step
      still_call ((updated47 n HUN.out.2.2 w5.drew).mono (fun _ _ h => ⟨h.1, h.2.symm⟩))
      repeat still_step
      refine wpStill_nil ?_
      change wpList _ _ _ _ _ w5.drew
      clear d8 S4 G4 O4 X4 S5 G5 O5 X5
      generalize w5.drew = wq at SD GD OD XD ⊢
      go_upto_region 13 with (first
        | ((with_reducible refine gate_store (t := 3) (p := 89) (v := .tmp 87) rfl ?_); refine used_event (L := L1) (m := m) rfl rfl u1 (by rw [GD.out.p]; rfl) rfl SD.out ?_
           intro w7 hs hg hm
           have S7 := Aside0.mk hs
           have G7 := Aside0.mk (GD.out.trans hg)
           have O7 := Aside0.mk (OD.out.move hm (fun h => by have h1 := R1.out; rw [h, SD.out.c.elim fun _ c => c.rp] at h1; cases h1))
           have X7 := Aside0.mk (XD.out.goes hg RG.out).1
           clear hs hg hm))
      clear hw1 SD GD OD XD
      obtain ⟨vl, vc, hTC⟩ := S7.out.tx_get (m := { m with used := u1 }) HL.out
      obtain ⟨Al, ql, hvl⟩ := Kd.R_slice hTC.lens
      subst hvl
      have ct1 : w7.cell? ⟨L1.tb id, 1, none⟩ = some (.slice Al t.lengths.length ql) := blk_cell hTC.cell 1
      have RL := Aside0.mk (show Kd.R (Kd.int .i64) 3 w7 0 (fun k => L1.role k = .t id .lens ∨ w7.heap.size ≤ k) (.slice Al t.lengths.length ql) t.lengths from Kd.R_mono hTC.lens (fun k hk => .inl hk))
      have HTB := Aside0.mk (show ∀ w8 : World, Mv w7 w8 (fun k => some k = (Value.slice Al t.lengths.length ql).ownBlock) → w8.heap[L1.tb id]? = some (.cells #[.map (some (L1.pb id)), .slice Al t.lengths.length ql, vc] 82 (0, 0)) from fun w8 hm => hm.blk hTC.cell (fun h => by have h2 : L1.role (L1.tb id) = .t id .lens := hTC.lens.1 _ h.symm; rw [hTC.rt] at h2; injection h2 with _ h3; cases h3))
      have OM8 := Aside0.mk (show ∀ w8 : World, Mv w7 w8 (fun k => some k = (Value.slice Al t.lengths.length ql).ownBlock) → OM Tryz.prog u64S w8 (L1.cb id pg) c from fun w8 hm => O7.out.move hm (fun h => by have h2 : L1.role (L1.cb id pg) = .t id .lens := hTC.lens.1 _ h.symm; rw [R1.out] at h2; injection h2 with _ h3; cases h3))
      have HNE := Aside0.mk (show ¬ (L1.cb id pg = L1.tb id) from fun e => by have h1 := R1.out; rw [e, hTC.rt] at h1; injection h1 with _ h3; cases h3)
      have CT7 := Aside0.mk hTC
      clear hTC
      go_upto_region 14 with (first
        | ((with_reducible refine gate_builtin (b := .append) rfl ?_); at_builtin
           refine Kd.R_append (Kd.int .i64) (w0 := w7) 0 rfl (.tmp 94) (.tmp 96) 31 3 (.int .i64 0) 8 rfl Tryz.underlying31 infoIc rfl (by decide) (by omega) _ t.lengths n [.int .i64 n] (fun k => L1.role k = .t id .lens ∨ w7.heap.size ≤ k) (fun _ => False) rfl rfl rfl (fun _ hk => hk.elim) (fun k hk => .inr hk) RL.out (Below.refl 0 w7) (Nat.zero_le _) (by have := HTL.out; omega) ?_
           intro v8 w8 ho hb hg hat
           obtain ⟨A8, q8, hv8⟩ := Kd.R_slice ho
           rw [List.length_append, List.length_singleton] at hv8
           subst hv8
           have R8 := Aside0.mk ho
           have M8 := Aside0.mk (Mv.of_grown hg)
           clear ho hb hg hat)
        | ((with_reducible refine gate_store (t := 31) (p := 99) (v := .tmp 97) rfl ?_); refine put_event rfl rfl (g := L1.tb id) (i := 1) rfl rfl rfl rfl (HTB.out w8 M8.out) (show 1 < 3 from by omega) (by kernel_rfl) ?_
           intro w9 hc hm
           have X9 := Aside0.mk (S7.out.addLen (m := { m with used := u1 }) HK.out.up HL.out CT7.out R8.out M8.out hc hm)
           have O9 := Aside0.mk ((OM8.out w8 M8.out).move hm (fun h => HNE.out h))
           clear hc hm))
      clear ct1 RL HTB OM8
      have HUP9 := Aside0.mk (show Up ((m.setT id { t with lengths := t.lengths ++ [n] }).opn) from HK.out.up.put id _)
      have HL9 := Aside0.mk (show look (PSt.setT { m with used := u1 } id { t with lengths := t.lengths ++ [n] }).opn id = some { t with lengths := t.lengths ++ [n] } from by show look (put m.opn id _) id = _; rw [look_put HK.out.up, if_pos rfl])
      obtain ⟨L9, hL9⟩ : ∃ L9, L9 = L1.more w7.heap.size w8.heap.size (.t id .lens) := ⟨_, rfl⟩
      have HCB7 := Aside0.mk O7.out.lt
      rw [← hL9] at X9
      have LE := Aside0.mk (show L9.tb = L1.tb ∧ L9.cb = L1.cb ∧ L9.pb = L1.pb ∧ L9.p = L1.p ∧ L9.role (L1.cb id pg) = .t id (.page pg) from by rw [hL9]; exact ⟨rfl, rfl, rfl, rfl, (more_old HCB7.out).trans R1.out⟩)
      clear hL9
      have SD := Aside0.mk X9.out.1.drew
      have GD := Aside0.mk ((G7.out.trans X9.out.2.1).trans (Goes.of_below (L := L9) (below_drew (Below.refl w9.heap.size w9))))
      have X9g := (X7.out.goes X9.out.2.1 RG.out)
      have XD := Aside0.mk (show Xb w9.drew g ⟨k, v, false⟩ from X9g.1.below (below_drew (Below.refl _ _)))
      have RG9 := Aside0.mk X9g.2
      have OD := Aside0.mk (O9.out.move (Mv.of_below (below_drew (Below.refl _ _)) (fun _ => False)) (fun h => h))
      clear X9g
      obtain ⟨vl9, vc9, hTC⟩ := SD.out.tx_get HL9.out
      obtain ⟨Ac, qc, hvc⟩ := Kd.R_slice hTC.chgs
      subst hvc
      have ct2 : w9.drew.cell? ⟨L1.tb id, 2, none⟩ = some (.slice Ac t.changes.length qc) := by rw [← LE.out.1]; exact blk_cell hTC.cell 2
      have RC := Aside0.mk (show Kd.R kChg 52 w9.drew 0 (fun k => L9.role k = .t id .chgs ∨ w9.drew.heap.size ≤ k) (.slice Ac t.changes.length qc) t.changes from Kd.R_mono hTC.chgs (fun k hk => .inl hk))
      have HTB := Aside0.mk (show ∀ w8 : World, Mv w9.drew w8 (fun k => some k = (Value.slice Ac t.changes.length qc).ownBlock) → w8.heap[L1.tb id]? = some (.cells #[.map (some (L9.pb id)), vl9, .slice Ac t.changes.length qc] 82 (0, 0)) from fun w8 hm => by
        rw [← LE.out.1]
        exact hm.blk hTC.cell (fun h => by have h2 : L9.role (L9.tb id) = .t id .chgs := hTC.chgs.1 _ h.symm; rw [hTC.rt] at h2; injection h2 with _ h3; cases h3))
      have OM8 := Aside0.mk (show ∀ w8 : World, Mv w9.drew w8 (fun k => some k = (Value.slice Ac t.changes.length qc).ownBlock) → OM Tryz.prog u64S w8 (L1.cb id pg) c from fun w8 hm => OD.out.move hm (fun h => by have h2 : L9.role (L1.cb id pg) = .t id .chgs := hTC.chgs.1 _ h.symm; rw [LE.out.2.2.2.2] at h2; injection h2 with _ h3; cases h3))
      have CT9 := Aside0.mk hTC
      clear hTC
      have ct2a : (w9.alloc (Obj.cells #[.int .i64 k, .int .u64 v, .bool false] 52)).cell? ⟨L1.tb id, 2, none⟩ = some (.slice Ac t.changes.length qc) := pw_cell_below (below_alloc (Below.refl w9.heap.size w9) _) (show w9.cell? _ = _ from ct2)
      obtain ⟨b0, b1, b2⟩ := XD.out.cells
      dsimp only at b0 b1 b2
      clear G7 O7 X7 O9
      go_region_law (refine Kd.R_append_step kChg (w0 := w9.drew) (W := w9.drew) 0 rfl (.tmp 104) (.tmp 106) 45 52 (.agg #[.int .i64 0, .int .u64 0, .bool false]) 24 rfl Tryz.underlying45 infoCc rfl (by decide) (by decide) _ t.changes (⟨k, v, false⟩ : Chg) [.int .i64 k, .int .u64 v, .bool false] _ (fun _ => False) rfl rfl (k52_mkM _ _ _ (⟨k, v, false⟩ : Chg)) (fun k hk => hk.elim) (fun k hk => .inr hk) RC.out (Below.refl _ _) (Nat.zero_le _) (by have := HTL.out; omega) ?_
                     intro v10 w10 hR1 hB1 hG1 hat1
                     have hw2 : w10.cell? ⟨L1.tb id, 2, none⟩ = some (.slice Ac t.changes.length qc) := blk_cell (HTB.out w10 (Mv.of_grown hG1)) 2
                     have hf2 : w10.frozen? ⟨L1.tb id, 2, none⟩ = false := blk_frozen (HTB.out w10 (Mv.of_grown hG1)) 2
                     obtain ⟨A10, q10, hv10⟩ := Kd.R_slice hR1
                     rw [List.length_append, List.length_singleton] at hv10
                     subst hv10
                     have R10 := Aside0.mk hR1
                     have M10 := Aside0.mk (Mv.of_grown hG1)
                     clear hR1 hB1 hG1 hat1)
      all_goals
        have hcf := blk_set (HTB.out w10 M10.out) 2 (.slice A10 (t.changes.length + 1) q10)
        have hmf := Mv.setCell w10 ⟨L1.tb id, 2, none⟩ (.slice A10 (t.changes.length + 1) q10)
        have O11 := Aside0.mk ((OM8.out w10 M10.out).move hmf (fun h => HNE.out h))
        have Y11 := Aside0.mk (SD.out.addChg (x := ⟨k, v, false⟩) HUP9.out HL9.out CT9.out R10.out M10.out (by rw [LE.out.1]; exact hcf) (by rw [LE.out.1]; exact hmf))
        clear hcf hmf ct2 ct2a b0 b1 b2 hw2 hf2 HTB OM8 RC
        generalize w10.setCell ⟨L1.tb id, 2, none⟩ (.slice A10 (t.changes.length + 1) q10) = w11 at O11 Y11 ⊢
        have X11 := Aside0.mk (XD.out.goes Y11.out.2.1 RG9.out).1
        obtain ⟨b0, b1, b2⟩ := X11.out.cells
        dsimp only at b0 b1 b2
        go_upto_region 18 with (first
          | (at_delete; refine om_del rfl _ _ 75 rfl 47 Tryz.underlying75 rfl O11.out rfl HY.out ?_
             intro w12 ho hm
             have O12 := Aside0.mk (show OM Tryz.prog u64S w12 (L1.cb id pg) (app c ⟨k, v, false⟩) from ho)
             have M12 := Aside0.mk hm
             have X12 := Aside0.mk (show Xb w12 g ⟨k, v, false⟩ from ⟨hm.blk X11.out.cell (fun h => by have h1 := RG.out; rw [h, R1.out] at h1; cases h1)⟩)
             clear ho hm)
          | (at_mapUpdate; refine om_put rfl _ _ _ 75 rfl 47 Tryz.underlying75 rfl O11.out HCL.out rfl HY.out v rfl ?_
             intro w12 ho hm
             have O12 := Aside0.mk (show OM Tryz.prog u64S w12 (L1.cb id pg) (app c ⟨k, v, false⟩) from ho)
             have M12 := Aside0.mk hm
             have X12 := Aside0.mk (show Xb w12 g ⟨k, v, false⟩ from ⟨hm.blk X11.out.cell (fun h => by have h1 := RG.out; rw [h, R1.out] at h1; cases h1)⟩)
             clear ho hm))
        have SN := Aside0.mk (show Near w w12 L L1 m id pg ⟨k, v, false⟩ from ⟨w11, _, (⟨t.pages, t.lengths ++ [n], t.changes ++ [⟨k, v, false⟩]⟩ : Txn), app c ⟨k, v, false⟩, _, Y11.out.1, GD.out.trans Y11.out.2.1,
          (by show look (put (put m.opn id _) id _) id = some _; rw [look_put (HK.out.up.put id _), if_pos rfl]), (HK.out.up.put id _).put id _, HPL.out, rfl, LE.out.1, LE.out.2.1, GD.out.p,
          (by show (L9.more _ _ _).role (L9.cb id pg) = _; rw [LE.out.2.1]; exact (more_old OD.out.lt).trans LE.out.2.2.2.2),
          (by show Mv w11 w12 (fun k => k = L9.cb id pg); rw [LE.out.2.1]; exact M12.out), (by show OM Tryz.prog u64S w12 (L9.cb id pg) _; rw [LE.out.2.1]; exact O12.out),
          (by rw [HCM.out]; show _ = PSt.setT (PSt.setT (PSt.setT { m with used := u1 } id _) id _) id _; unfold PSt.setT Txn.hold; dsimp only; rw [put_put (HK.out.up.put id _), put_put HK.out.up])⟩)
        clear b0 b1 b2
        obtain ⟨wb, m', t', c', L', h1, h2, h3, h4, h5, h6, h7, h8, h9, h10, h11, h12, h13⟩ := (SN.out.below (below_drew (Below.refl w12.heap.size w12))).ex
        obtain ⟨vl', vc', hTC⟩ := h1.tx_get h3
        have hne1 : ¬ (L'.tb id = L'.cb id pg) := fun e => by have e2 := hTC.rt; rw [e, h10] at e2; injection e2 with _ e3; cases e3
        have hne2 : ¬ (L'.pb id = L'.cb id pg) := fun e => by have e2 := hTC.rp; rw [e, h10] at e2; injection e2 with _ e3; cases e3
        have hne3 : ¬ (L'.p = L'.cb id pg) := fun e => by have e2 := h1.c.elim fun _ c => c.rp; rw [e, h10] at e2; cases e2
        have ct0 : w12.drew.cell? ⟨L1.tb id, 0, none⟩ = some (.map (some (L'.pb id))) := by rw [← h7]; exact blk_cell (h11.blk hTC.cell hne1) 0
        have e0 : w12.drew.cell? ⟨L.p, 0, none⟩ = some (.int .i64 m.pages) := by
          obtain ⟨vd', hC'⟩ := h1.c
          have e1 := blk_cell (h11.blk hC'.cell hne3) 0
          rw [h9] at e1
          rw [← h6]
          exact e1
        have xx0 : w12.drew.cell? ⟨g, 0, none⟩ = some (.int .i64 k) := (show Aside0 (Xb w12.drew g ⟨k, v, false⟩) from ⟨X12.out.below (below_drew (Below.refl _ _))⟩).out.cells.1
        have PM := Aside0.mk (show OM Tryz.prog mapS w12.drew (L'.pb id) (t'.pages.map fun q => (q.1, L'.cb id q.1)) from hTC.pages.move h11 hne2)
        have FN := fun (w9 : World) ho hm => Near.finish (L1 := L1) (w1 := w9) h1 h2 h3 h4 h10 h11 h12 h13 ho hm
        have HFN := Aside0.mk FN
        have HPLN := Aside0.mk h5
        have HCB := Aside0.mk (show L1.cb id pg = L'.cb id pg from by rw [h8])
        clear h1 h2 h3 h4 h5 h6 h7 h8 h9 h10 h11 h12 h13 hTC hne1 hne2 hne3 FN
        go_still_tail 14, (by kernel_rfl)
        change wpList _ _ _ _ _ w12.drew
        clear ct0 e0 xx0
        generalize w12.drew = wq at PM HFN ⊢
        go_wp2_with (first
          | (at_mapUpdate; refine om_put rfl _ _ _ 80 rfl 75 Tryz.underlying80 rfl PM.out (by have := HPLN.out; rw [List.length_map]; unfold maxLen; omega) rfl HPW.out (L1.cb id pg) rfl ?_
             intro w9 ho hm
             rw [HCB.out] at ho
             have FN9 := Aside0.mk (HFN.out w9 ho hm)
             clear ho hm))
        go_ret
        exact ⟨.inl ⟨HCE.out, rfl⟩, L', FN9.out⟩
end Go.Proofs.YtcdfdckdodgbpaaGreatDoor.QA
