/- PlainSums walked: it answers true. -/
import Derived.Test.YtcdfdckdodgbpaaDoorF
import Derived.Test.YtcdfdckdodgbpaaDoorQAx3
namespace Go.Proofs.YtcdfdckdodgbpaaDoor.QA
open Go.RowKit Go.Maps Go.Proofs.YtcdfdckdodgbpaaDoorW.PrintWords Go.Proofs.YtcdfdckdodgbpaaDoorW.PrintLast Go.Proofs.YtcdfdckdodgbpaaDoorW.PrintMore
set_option linter.unusedVariables false
set_option linter.unusedSimpArgs false
theorem rest_some (n m : Int) (h : 0 < m ∧ m ≤ 2097152) : ∃ r, tidemarklaw18_rest.f n m = some r ∧ 0 ≤ r ∧ r < m := by
  unfold tidemarklaw18_rest.f
  rw [if_neg (by omega)]
  have h1 := Int.tmod_lt_of_pos n h.1
  have h2 := Int.lt_tmod_of_pos n h.1
  by_cases hn : Int.tmod n m < 0
  · rw [if_pos hn]
    have hw : wrap64 (Int.tmod n m + m) = Int.tmod n m + m := w64s (by omega)
    rw [hw]
    exact ⟨_, rfl, by omega, by omega⟩
  · rw [if_neg hn]
    exact ⟨_, rfl, by omega, by omega⟩
theorem may_some (a0 a1 a2 a3 a4 a5 : Int) : ∃ c0 c1 c2 c3 c4 c5, tidemarklaw18_may.f a0 a1 a2 a3 a4 a5 = some (c0, c1, c2, c3, c4, c5) ∧ (1 ≤ c0 ∧ c0 ≤ 16) ∧ (1 ≤ c1 ∧ c1 ≤ 8) ∧ (1024 ≤ c2 ∧ c2 ≤ 65536) ∧ (2 ≤ c3 ∧ c3 ≤ 16) ∧ (1 ≤ c4 ∧ c4 ≤ 8) ∧ (1 ≤ c5 ∧ c5 ≤ 1048576) := by
  obtain ⟨r0, e0, h0⟩ := rest_some a0 16 (by omega)
  obtain ⟨r1, e1, h1⟩ := rest_some a1 8 (by omega)
  obtain ⟨r2, e2, h2⟩ := rest_some a2 64513 (by omega)
  obtain ⟨r3, e3, h3⟩ := rest_some a3 15 (by omega)
  obtain ⟨r4, e4, h4⟩ := rest_some a4 8 (by omega)
  obtain ⟨r5, e5, h5⟩ := rest_some a5 1048576 (by omega)
  refine ⟨1 + r0, 1 + r1, 1024 + r2, 2 + r3, 1 + r4, 1 + r5, ?_, by omega, by omega, by omega, by omega, by omega, by omega⟩
  unfold tidemarklaw18_may.f
  rw [e0, e1, e2, e3, e4, e5]
  simp only [Option.bind_some]
  rw [w64s (n := 1 + r0) (by omega), w64s (n := 1 + r1) (by omega), w64s (n := 1024 + r2) (by omega), w64s (n := 2 + r3) (by omega), w64s (n := 1 + r4) (by omega), w64s (n := 1 + r5) (by omega)]
theorem run_log (m : PSt) : ∀ l : List Stp, (m.run l).log = m.log ∧ (m.run l).table = m.table := by
  intro l
  induction l generalizing m with
  | nil => exact ⟨rfl, rfl⟩
  | cons a r ih => exact ⟨(ih (m.step a)).1.trans (step_log m a).1, (ih (m.step a)).2.trans (step_log m a).2⟩
theorem ids_len (m : PSt) : m.ids.length = m.opn.length := by unfold PSt.ids; rw [List.length_map]
set_option maxHeartbeats 8000000 in
set_option maxRecDepth 100000 in
theorem sums4 {w : World} (hg : Glob w) (a0 a1 a2 a3 a4 a5 : Int) {A : Option Addr} {cap : Nat} {l : List Stp} (hC : Kd.C kStp w A l.length l) (hcap : l.length ≤ cap) (hl : l.length < 4000000000000) (ho : ∀ o ∈ l, OkStp o) :
    Calls Tryd.prog 4 #[.agg #[.int .i64 a0, .int .i64 a1, .int .i64 a2, .int .i64 a3, .int .i64 a4, .int .i64 a5], .slice A l.length cap] w fun e w' => e = .returned (.bool true) ∧ Below w.heap.size w w' := by
  obtain ⟨c0, c1, c2, c3, c4, c5, hmay, q0, q1, q2, q3, q4, q5⟩ := may_some a0 a1 a2 a3 a4 a5
  have HMAY := Aside0.mk hmay
  have HQ := Aside0.mk (show (1 ≤ c0 ∧ c0 ≤ 16) ∧ (1 ≤ c1 ∧ c1 ≤ 8) ∧ (1024 ≤ c2 ∧ c2 ≤ 65536) ∧ (2 ≤ c3 ∧ c3 ≤ 16) ∧ (1 ≤ c4 ∧ c4 ≤ 8) ∧ (1 ≤ c5 ∧ c5 ≤ 1048576) from ⟨q0, q1, q2, q3, q4, q5⟩)
  have HC := Aside0.mk hC
  have HLL := Aside0.mk hl
  have HO := Aside0.mk ho
  have G := Aside0.mk hg
  clear hmay q0 q1 q2 q3 q4 q5 hC hcap hl ho hg
  go_enter Tryd.func4, Tryd.ntmps4
  go_upto_region 2 with (first
    | (go_at_call 11; refine (tidemarklaw18_may.calls a0 a1 a2 a3 a4 a5 c0 c1 c2 c3 c4 c5 _ HMAY.out).mono ?_; rintro e w1 ⟨rfl, hb⟩
       have B1 := Aside0.mk ((below_alloc (Below.refl w.heap.size w) (.cells #[.int .i64 a0, .int .i64 a1, .int .i64 a2, .int .i64 a3, .int .i64 a4, .int .i64 a5] 39)).trans (hb.mono (below_alloc (Below.refl w.heap.size w) _).size))
       clear hb))
  obtain ⟨g, hg⟩ : ∃ g, g = w1.heap.size := ⟨_, rfl⟩
  have B2 := Aside0.mk (show Below w.heap.size w (w1.alloc (Obj.cells #[.int .i64 c0, .int .i64 c1, .int .i64 c2, .int .i64 c3, .int .i64 c4, .int .i64 c5] 39)) from B1.out.trans ((below_alloc (Below.refl w1.heap.size w1) _).mono B1.out.size))
  have HX := Aside0.mk (show (w1.alloc (Obj.cells #[.int .i64 c0, .int .i64 c1, .int .i64 c2, .int .i64 c3, .int .i64 c4, .int .i64 c5] 39)).heap[g]? = some (.cells #[.int .i64 c0, .int .i64 c1, .int .i64 c2, .int .i64 c3, .int .i64 c4, .int .i64 c5] 39 (0, 0)) from by rw [hg]; exact heap_alloc_new w1 _)
  have HG0 := Aside0.mk (show 0 < g from by rw [hg]; have h1 := G.out.lt; have h2 := B1.out.size; omega)
  have e1 : (⟨w1.heap.size, 0, none⟩ : Addr) = ⟨g, 0, none⟩ := by rw [hg]
  rw [e1]
  clear e1 hg
  generalize w1.alloc (Obj.cells #[.int .i64 c0, .int .i64 c1, .int .i64 c2, .int .i64 c3, .int .i64 c4, .int .i64 c5] 39) = w2 at B2 HX ⊢
  have z0 : w2.cell? ⟨g, 0, none⟩ = some (.int .i64 c0) := blk_cell HX.out 0
  have z1 : w2.cell? ⟨g, 1, none⟩ = some (.int .i64 c1) := blk_cell HX.out 1
  have z2 : w2.cell? ⟨g, 2, none⟩ = some (.int .i64 c2) := blk_cell HX.out 2
  have z3 : w2.cell? ⟨g, 3, none⟩ = some (.int .i64 c3) := blk_cell HX.out 3
  have z4 : w2.cell? ⟨g, 4, none⟩ = some (.int .i64 c4) := blk_cell HX.out 4
  have z5 : w2.cell? ⟨g, 5, none⟩ = some (.int .i64 c5) := blk_cell HX.out 5
  obtain ⟨m0, hm0⟩ : ∃ m0, m0 = newM c0 c1 c2 c3 c4 c5 := ⟨_, rfl⟩
  have HM0 := Aside0.mk hm0
  have OK0 := Aside0.mk (show Ok m0 from by rw [hm0]; exact newM_ok HQ.out.1 HQ.out.2.1 HQ.out.2.2.1 HQ.out.2.2.2.2.1 HQ.out.2.2.2.2.2)
  have HD0 := Aside0.mk (show m0.done.length = 0 ∧ m0.log = c2 ∧ m0.table = c4 from by rw [hm0]; exact ⟨rfl, rfl, rfl⟩)
  clear hm0
  go_wp2_with (first
    | (go_at_call 12; refine (played12 (G.out.below B2.out) c0 c1 c2 c3 c4 c5 HQ.out.1 HQ.out.2.1 HQ.out.2.2.1 HQ.out.2.2.2.1 HQ.out.2.2.2.2.1 HQ.out.2.2.2.2.2 (A := none) (cap := 0) (l := []) (Kd.C_nil _ _) (Nat.le_refl _) (by simp) (fun o ho => by cases ho)).mono ?_; rintro e w3 ⟨p, rfl, hb, L, hlp, hs, hr⟩
       have S3 := Aside0.mk (show St w3 L none2 m0 from by rw [HM0.out]; exact hs)
       have B3 := Aside0.mk (B2.out.trans (hb.mono B2.out.size))
       have HX3 := Aside0.mk ((hb.block g (blk_lt HX.out)).trans HX.out)
       have RG := Aside0.mk (hr g HG0.out (blk_lt HX.out))
       have RR := Aside0.mk (show ∀ k, 0 < k → k < w.heap.size → L.role k = .out from fun k hk hk2 => hr k hk (Nat.lt_of_lt_of_le hk2 B2.out.size))
       have R0 := Aside0.mk (show L.role 0 = .glob from hs.c.elim fun _ c => c.r0)
       have HLP := Aside0.mk hlp
       clear hb hs hr hlp z0 z1 z2 z3 z4 z5)
    | ((with_reducible refine gate_dst (N := 22) rfl ?_); refine gate_guard rfl ?_; refine goesL_ (some 22) rfl rfl Tryd.func7 (by kernel_rfl) rfl #[] rfl (by (try simp only [List.map_toArray, List.map_cons, List.map_nil]); first | done | rfl) ?_
       refine (alive7 (S3.out.c.elim fun _ c => c.g0)).mono ?_; rintro e w4 ⟨rfl, hb⟩
       have S4 := Aside0.mk (S3.out.below hb)
       have G4 := Aside0.mk (Goes.of_below (L := L) hb)
       clear hb
       refine ⟨_, rfl, ?_⟩))
  have HBW := Aside0.mk (show ∀ (V : World) (LV : Lay), Goes w3 L V LV → Below w.heap.size w V from fun V LV h => below_goes B3.out h RR.out R0.out)
  have HGX := Aside0.mk (show ∀ (V : World) (LV : Lay), Goes w3 L V LV → V.heap[g]? = some (.cells #[.int .i64 c0, .int .i64 c1, .int .i64 c2, .int .i64 c3, .int .i64 c4, .int .i64 c5] 39 (0, 0)) from fun V LV h => h.mv.blk HX3.out (fun h2 => h2.1 RG.out))
  clear B1 B2 B3 HX HX3 RG RR R0 S3 HG0 HM0 HMAY G
  go_loopg [7] l.length (fun kq v7 wr => ∃ (i : Nat) (Lr : Lay), v7 = .int .i64 (i : Int) ∧ Aside0 (i + kq = l.length) ∧ Aside0 (St wr Lr none2 (m0.run (l.take i))) ∧ Aside0 (Goes w3 L wr Lr))
  case atStart => exact ⟨0, L, rfl, ⟨by omega⟩, S4, G4⟩
  case round =>
    obtain ⟨i, Lr, rfl, hik, hS, hG⟩ := hrel
    clear S4 G4
    obtain ⟨Ws, hWs, hS⟩ : ∃ W, W = _ ∧ Aside0 (St W Lr none2 (m0.run (l.take i))) := ⟨_, rfl, hS⟩
    subst hWs
    cases gk with
    | zero =>
      obtain rfl : i = l.length := hik.out
      have hd1 : ¬ ((l.length : Int) < (l.length : Int)) := by omega
      go_wp2
      go_ret
      exact ⟨rfl, HBW.out _ _ hG.out⟩
    | succ kr =>
      have hi0 : i < l.length := by have := hik.out; omega
      have hi1 : (i : Int) < (l.length : Int) := by omega
      have hi2 : (0 : Int) ≤ (i : Int) := by omega
      obtain ⟨ad, e0, y0, y1, y2, y3, y4⟩ := at_Stp HC.out (i : Int) (by omega) hi1
      subst e0
      obtain ⟨o, hoe⟩ : ∃ o, o = l[i] := ⟨_, rfl⟩
      have hrd : rdStp l (i : Int) = o := by rw [hoe]; unfold rdStp; simp [hi0]
      rw [Int.toNat_natCast, hrd] at y0 y1 y2 y3 y4
      have hst : m0.run (l.take (i + 1)) = (m0.run (l.take i)).step o := by rw [hoe]; exact run_snoc m0 l i hi0
      have HOS := Aside0.mk (show OkStp o from by rw [hoe]; exact HO.out _ (List.getElem_mem hi0))
      have OKI := Aside0.mk (OK0.out.run (l.take i) (fun o ho => HO.out o (List.mem_of_mem_take ho)))
      have HDL := Aside0.mk (show (m0.run (l.take i)).done.length < 5000000000000 from by have h1 := done_run m0 (l.take i); rw [HD0.out.1, List.length_take] at h1; have := HLL.out; omega)
      have hlg := run_log m0 (l.take i)
      rw [HD0.out.2.1, HD0.out.2.2] at hlg
      have hw2 : IntKind.i64.wrap ((i : Int) + 1) = ((i + 1 : Nat) : Int) := wrp (by omega) (by have := HLL.out; omega)
      obtain ⟨mi, hmi⟩ : ∃ mi, mi = m0.run (l.take i) := ⟨_, rfl⟩
      rw [← hmi] at hst OKI HDL hS hlg
      obtain ⟨m2, hm2⟩ : ∃ m2, m2 = mi.step o := ⟨_, rfl⟩
      have OK2 := Aside0.mk (show Ok m2 from by rw [hm2]; exact OKI.out.step o HOS.out)
      have hss := step_sums OKI.out o
      have hlg2 := step_log mi o
      rw [← hm2] at hss hlg2
      have hos := ok_sums OK2.out
      rw [hlg2.1, hlg2.2, hlg.1, hlg.2] at hos
      have HRUN := Aside0.mk (show m0.run (l.take (i + 1)) = m2 from by rw [hst, hm2])
      have HM2 := Aside0.mk hm2
      obtain ⟨e, he⟩ : ∃ e, e = mi.stepE o := ⟨_, rfl⟩
      obtain ⟨u0, hu0⟩ : ∃ u0, u0 = mi.used := ⟨_, rfl⟩
      obtain ⟨k0, hk0⟩ : ∃ k0, k0 = mi.kept := ⟨_, rfl⟩
      obtain ⟨n0, hn0⟩ : ∃ n0, n0 = mi.ids.length := ⟨_, rfl⟩
      obtain ⟨u1, hu1⟩ : ∃ u1, u1 = m2.used := ⟨_, rfl⟩
      obtain ⟨k1, hk1⟩ : ∃ k1, k1 = m2.kept := ⟨_, rfl⟩
      obtain ⟨n1, hn1⟩ : ∃ n1, n1 = m2.ids.length := ⟨_, rfl⟩
      have hl0 : n0 = mi.opn.length := by rw [hn0, ids_len]
      have hl1 : n1 = m2.opn.length := by rw [hn1, ids_len]
      rw [← hu1, ← hk1, ← hl1] at hos
      have hcs : e = 0 ∨ (e ≠ 0 ∧ e ≠ 170 ∧ u1 = u0 ∧ k1 = k0 ∧ n1 = n0) ∨ (e = 170 ∧ o.kind ≠ 3 ∧ o.kind ≠ 4 ∧ u1 = u0 ∧ k1 = k0 ∧ n1 = n0) ∨ (e = 170 ∧ o.kind = 3 ∧ (n1 : Int) = (n0 : Int) - 1 ∧ u0 < u1 ∧ k1 < k0) ∨ (e = 170 ∧ o.kind = 4 ∧ (n1 : Int) = (n0 : Int) - 1 ∧ u0 < u1 ∧ k1 < k0) := by
        rw [← he] at hss
        by_cases h1 : e = 0
        · exact .inl h1
        · by_cases h2 : e = 170
          · by_cases h3 : o.kind = 3
            · have h4 := hss.over h2 (.inl h3)
              exact .inr (.inr (.inr (.inl ⟨h2, h3, by rw [hl1, hl0]; exact h4.1, by rw [hu0, hu1]; exact h4.2.1, by rw [hk0, hk1]; exact h4.2.2⟩)))
            · by_cases h5 : o.kind = 4
              · have h4 := hss.over h2 (.inr h5)
                exact .inr (.inr (.inr (.inr ⟨h2, h5, by rw [hl1, hl0]; exact h4.1, by rw [hu0, hu1]; exact h4.2.1, by rw [hk0, hk1]; exact h4.2.2⟩)))
              · have h4 := hss.log h2 h3 h5
                exact .inr (.inr (.inl ⟨h2, h3, h5, by rw [hu0, hu1]; exact h4.used, by rw [hk0, hk1]; exact h4.kept, by rw [hl0, hl1]; exact h4.len⟩))
          · have h4 := hss.other h1 h2
            exact .inr (.inl ⟨h1, h2, by rw [hu0, hu1]; exact h4.used, by rw [hk0, hk1]; exact h4.kept, by rw [hl0, hl1]; exact h4.len⟩)
      have HE := Aside0.mk he
      have HU0 := Aside0.mk hu0
      have HK0 := Aside0.mk hk0
      have HN0 := Aside0.mk hn0
      have HU1 := Aside0.mk hu1
      have HK1 := Aside0.mk hk1
      have HN1 := Aside0.mk hn1
      have hq2 := HQ.out.2.2.1
      have hq4 := HQ.out.2.2.2.2.1
      obtain ⟨s1, hs1⟩ : ∃ s1, s1 = u1 + k1 := ⟨_, rfl⟩
      obtain ⟨q1, hq1⟩ : ∃ q1, q1 = 99 * (n1 : Int) := ⟨_, rfl⟩
      have hw3 : IntKind.i64.wrap (u1 + k1) = s1 := wrp hs1.symm (by omega)
      have hw4 : IntKind.i64.wrap (99 * (n1 : Int)) = q1 := wrp hq1.symm (by omega)
      have f1 : decide (s1 > c2) = false := decide_eq_false (by omega)
      have f2 : decide (u1 < 0) = false := decide_eq_false (by omega)
      have f3 : decide (k1 < q1) = false := decide_eq_false (by omega)
      have f4 : decide ((n1 : Int) > c4) = false := decide_eq_false (by omega)
      have f1' : ¬ (c2 < s1) := by omega
      have f2' : ¬ (u1 < 0) := by omega
      have f3' : ¬ (k1 < q1) := by omega
      have f4' : ¬ (c4 < (n1 : Int)) := by omega
      have hzz : (((n1 : Int) = 0 ∧ k1 = 0) ∨ (¬ ((n1 : Int) = 0) ∧ ¬ (k1 = 0))) := by omega
      have hb0 : n0 ≤ 8 := by have h1 := OKI.out.size; have h2 := OKI.out.table; omega
      have Y0 := Aside0.mk y0
      have Y1 := Aside0.mk y1
      have Y2 := Aside0.mk y2
      have Y3 := Aside0.mk y3
      have Y4 := Aside0.mk y4
      clear hoe hrd hmi hst hlg hss hlg2 hm2 he hu0 hk0 hn0 hu1 hk1 hn1 hl0 hl1 hos hq2 hq4 hs1 hq1 y0 y1 y2 y3 y4
      obtain ⟨ok, oi, oy, ov, on⟩ := o
      dsimp only at Y0 Y1 Y2 Y3 Y4 hcs
      rcases hcs with r1 | ⟨r1, r2, r3, r4, r5⟩ | ⟨r1, r2, r2', r3, r4, r5⟩ | ⟨r1, r2, r3, r4, r5⟩ | ⟨r1, r2, r3, r4, r5⟩
      case' inl => subst r1
      case' inr.inl =>
        have b1 : (e == 0) = false := beq_eq_false_iff_ne.mpr r1
        have b2 : (e == 170) = false := beq_eq_false_iff_ne.mpr r2
        subst r3 r4 r5
      case' inr.inr.inl =>
        subst r1
        have b3 : (ok == 3) = false := beq_eq_false_iff_ne.mpr r2
        have b4 : (ok == 4) = false := beq_eq_false_iff_ne.mpr r2'
        subst r3 r4 r5
      case' inr.inr.inr.inl =>
        subst r1 r2
        have g1 : IntKind.i64.wrap ((n0 : Int) - 1) = (n1 : Int) := wrp r3.symm (by omega)
        have g2 : decide (u1 ≤ u0) = false := decide_eq_false (by omega)
        have g3 : decide (k1 ≥ k0) = false := decide_eq_false (by omega)
        have g2' : ¬ (u1 ≤ u0) := by omega
        have g3' : ¬ (k0 ≤ k1) := by omega
        clear r3 r4 r5
      case' inr.inr.inr.inr =>
        subst r1 r2
        have g1 : IntKind.i64.wrap ((n0 : Int) - 1) = (n1 : Int) := wrp r3.symm (by omega)
        have g2 : decide (u1 ≤ u0) = false := decide_eq_false (by omega)
        have g3 : decide (k1 ≥ k0) = false := decide_eq_false (by omega)
        have g2' : ¬ (u1 ≤ u0) := by omega
        have g3' : ¬ (k0 ≤ k1) := by omega
        clear r3 r4 r5
      all_goals
        rcases hzz with ⟨t1, t2⟩ | ⟨t1, t2⟩
        case' inl =>
          have t3 : ((n1 : Int) == 0) = true := beq_iff_eq.mpr t1
          have t4 : (k1 == 0) = true := beq_iff_eq.mpr t2
          clear t1 t2
        case' inr =>
          have t3 : ((n1 : Int) == 0) = false := beq_eq_false_iff_ne.mpr t1
          have t4 : (k1 == 0) = false := beq_eq_false_iff_ne.mpr t2
        all_goals
          go_wp2_with (first
            | (go_at_call 13; have C13 := used13 S15.out OK2.out; rw [G15.out.p.trans HLP.out] at C13; refine C13.mono ?_; clear C13; rintro ee w8 ⟨rfl, hb⟩
               rw [← HU1.out, ← HK1.out]
               have S8 := Aside0.mk (S15.out.below hb)
               have G8 := Aside0.mk (G15.out.trans (Goes.of_below (L := L15) hb))
               clear hb)
            | (go_at_call 13; have C13 := used13 hS.out OKI.out; rw [hG.out.p.trans HLP.out] at C13; refine C13.mono ?_; clear C13; rintro ee w5 ⟨rfl, hb⟩
               rw [← HU0.out, ← HK0.out]
               have S5 := Aside0.mk (hS.out.below hb)
               have G5 := Aside0.mk (hG.out.trans (Goes.of_below (L := Lr) hb))
               clear hb)
            | (go_at_call 14; have C14 := ids14 S8.out OK2.out; rw [G8.out.p.trans HLP.out] at C14; refine C14.mono ?_; clear C14; rintro ee w9 ⟨v, rfl, hr, hb⟩
               obtain ⟨A9, q9, hv⟩ := Kd.R_slice hr
               rw [← HN1.out] at hv
               subst hv
               have S9 := Aside0.mk (S8.out.below hb)
               have G9 := Aside0.mk (G8.out.trans (Goes.of_below (L := L15) hb))
               have x2 : w9.cell? ⟨g, 2, none⟩ = some (.int .i64 c2) := blk_cell (HGX.out _ _ G9.out) 2
               have x4 : w9.cell? ⟨g, 4, none⟩ = some (.int .i64 c4) := blk_cell (HGX.out _ _ G9.out) 4
               have x5 := pw_cell_below (HBW.out _ _ G9.out) Y0.out
               clear hb hr)
            | (go_at_call 14; have C14 := ids14 S5.out OKI.out; rw [G5.out.p.trans HLP.out] at C14; refine C14.mono ?_; clear C14; rintro ee w6 ⟨v, rfl, hr, hb⟩
               obtain ⟨A6, q6, hv⟩ := Kd.R_slice hr
               rw [← HN0.out] at hv
               subst hv
               have S6 := Aside0.mk (S5.out.below hb)
               have G6 := Aside0.mk (G5.out.trans (Goes.of_below (L := Lr) hb))
               have y0 := pw_cell_below (HBW.out _ _ G6.out) Y0.out
               have y1 := pw_cell_below (HBW.out _ _ G6.out) Y1.out
               have y2 := pw_cell_below (HBW.out _ _ G6.out) Y2.out
               have y3 := pw_cell_below (HBW.out _ _ G6.out) Y3.out
               have y4 := pw_cell_below (HBW.out _ _ G6.out) Y4.out
               clear hb hr)
            | (go_at_call 15; have C15 := does15 S6.out OKI.out ⟨_, oi, oy, ov, on⟩ HOS.out HDL.out; rw [G6.out.p.trans HLP.out, ← HE.out, ← HM2.out] at C15; refine C15.mono ?_; clear C15; rintro ee w7 ⟨rfl, L15, hs, hg⟩
               have S15 := Aside0.mk hs
               have G15 := Aside0.mk (G6.out.trans hg)
               clear hs hg y0 y1 y2 y3 y4))
          go_roundg kr
          case measure => omega
          case rel => exact ⟨i + 1, L15, rfl, ⟨by have := hik.out; omega⟩, ⟨by rw [HRUN.out]; exact S9.out⟩, G9⟩
end Go.Proofs.YtcdfdckdodgbpaaDoor.QA
