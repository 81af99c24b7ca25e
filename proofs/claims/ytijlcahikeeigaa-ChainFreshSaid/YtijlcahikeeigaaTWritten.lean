/- written: the log of a plan, walked. -/
import Derived.Test.YtijlcahikeeigaaTMid
import Derived.StillTailTactics
import Derived.Scope
namespace Go.Proofs.Ytijlcahikeeigaa.QA
open Go.RowKit Go.Proofs.YtijlcahikeeigaaW.PrintWords Go.Proofs.YtijlcahikeeigaaW.PrintLast Go.Proofs.YtijlcahikeeigaaW.PrintMore
set_option linter.unusedVariables false
set_option linter.unusedSimpArgs false
def Post13 (W0 : World) (s : Log.Log) (e : Ending) (w' : World) : Prop :=
  ∃ (t : Nat → Tri) (vl vw : Value), e = .returned (.tuple #[vl, vw, .agg (cells12 t)]) ∧ Below W0.heap.size W0 w' ∧
    (∀ k, k < 4 → Ro w' W0.heap.size (t k).1 (s.runs.getD k Log.noRun).all ∧ Ro w' W0.heap.size (t k).2.1 (s.runs.getD k Log.noRun).left ∧ (t k).2.2 = (s.runs.getD k Log.noRun).back) ∧
    Kd.R k43 43 w' W0.heap.size (fun _ => True) vl s.lines ∧ Kd.R (Kd.slice 3 (Kd.int .i64)) 23 w' W0.heap.size (fun _ => True) vw s.ways
set_option maxHeartbeats 8000000 in
set_option maxRecDepth 100000 in
theorem written13 {W0 : World} {A0 : Option Addr} {c0 : Nat} (plan : List (Int × Int × Int)) (hn : plan.length ≤ 9223372036854775807) (h0 : Kd.C k58 W0 A0 plan.length plan) :
    Calls Try.prog 13 #[.slice A0 plan.length c0] W0 (Post13 W0 (Log.written plan)) := by
  go_enter Try.func13, Try.ntmps13
  go_wp2_with (first
    | ((with_reducible refine gate_dst (N := 4) rfl ?_); refine box_event ?hg (N := 4) ?hd (cs := cells12 fun _ => (.slice none 0 0, .slice none 0 0, false)) (t := 34) ?hr ?_; (case hd => rfl); (case hg => rfl); (case hr => first | (go_simp; done) | (go_simp; rfl)); intro g4 hg4 w1 hb4 hbel4
       have B4 := Aside0.mk hb4
       have L4 := Aside0.mk hbel4
       have n4 := Aside0.mk (show W0.heap.size ≤ g4 by omega)
       clear hb4 hbel4 hg4)
    | ((with_reducible refine gate_dst (N := 7) rfl ?_); refine box_event ?hg (N := 7) ?hd (cs := cells12 fun _ => (.slice none 0 0, .slice none 0 0, false)) (t := 34) ?hr ?_; (case hd => rfl); (case hg => rfl); (case hr => first | (go_simp; done) | (go_simp; rfl)); intro g7 hg7 w2 hb7 hbel7
       have B7 := Aside0.mk hb7
       have L7 := Aside0.mk hbel7
       have n7 := Aside0.mk (show w1.heap.size ≤ g7 by omega)
       clear hb7 hbel7 hg7))
  have hw2 := Aside0.mk (show Wr13 W0 w2 g4 g7 (fun _ => (.slice none 0 0, .slice none 0 0, false)) (.slice none 0 0) (.slice none 0 0) (Log.upto plan 0) from by
    rw [Log.upto_zero]
    refine ⟨(Mv.of_below L7.out (fun _ => False)).below L4.out L4.out.size (fun _ h => h.elim), blk_below B4.out L7.out, B7.out, n4.out, Nat.le_trans L4.out.size n7.out, by have := blk_lt B4.out; have := n7.out; omega, fun k hk => ?_, Kd.R_nil _ _ _ _ _, Kd.R_nil _ _ _ _ _⟩
    have : k = 0 ∨ k = 1 ∨ k = 2 ∨ k = 3 := by omega
    rcases this with rfl | rfl | rfl | rfl <;> exact ⟨Ro.nil _ _, Ro.nil _ _, rfl⟩)
  clear B4 L4 n4 B7 L7 n7
  have H0 := Aside0.mk h0
  clear h0
  go_loopg [5, 6, 8, 9] (min plan.length 300) (fun kq v5 v6 v8 v9 w' => ∃ (i : Nat) (t : Nat → Tri) (lsn : Int), v9 = .int .i64 (i : Int) ∧ v8 = .int .i64 lsn ∧ Aside0 (lsn = (Log.upto plan i).lsn) ∧ Aside0 (i + kq = min plan.length 300) ∧ Aside0 (Wr13 W0 w' g4 g7 t v5 v6 (Log.upto plan i)))
  case atStart => exact ⟨0, _, 0, rfl, rfl, ⟨by rw [Log.upto_zero]; rfl⟩, ⟨by omega⟩, hw2⟩
  case round =>
    clear hw2
    obtain ⟨i, t, lsn, rfl, rfl, hls, hik, hwr⟩ := hrel
    cases gk with
    | zero =>
      have hfin := Aside0.mk (Log.written_upto plan i (by have := hik.out; omega))
      have hone := Aside0.mk (show (cells12 t).all (·.oneCell') = true from by
        obtain ⟨⟨_, _, a0, _⟩, ⟨_, _, b0, _⟩, _⟩ := hwr.out.runs 0 (by decide)
        obtain ⟨⟨_, _, a1, _⟩, ⟨_, _, b1, _⟩, _⟩ := hwr.out.runs 1 (by decide)
        obtain ⟨⟨_, _, a2, _⟩, ⟨_, _, b2, _⟩, _⟩ := hwr.out.runs 2 (by decide)
        obtain ⟨⟨_, _, a3, _⟩, ⟨_, _, b3, _⟩, _⟩ := hwr.out.runs 3 (by decide)
        unfold cells12
        rw [a0, b0, a1, b1, a2, b2, a3, b3]
        simp [Value.oneCell'])
      by_cases hlt : i < plan.length
      · have hd1 : (i : Int) < (plan.length : Int) := by omega
        have hd2 : decide ((i : Int) < (plan.length : Int)) = true := decide_eq_true hd1
        have hd3 : ¬ ((i : Int) < 300) := by have := hik.out; omega
        have hd4 : ¬ (i < 300) := by have := hik.out; omega
        have hd5 : decide ((i : Int) < 300) = false := decide_eq_false hd3
        have hd6 : decide (i < 300) = false := decide_eq_false hd4
        go_upto_region 39 with fail
        go_still_tail 5, (by kernel_rfl)
        refine still_load rfl rfl rfl (show wr.heap[g7]? = _ from hwr.out.h7) Try.underlying34 rfl (by kernel_rfl) ?_
        repeat still_step
        refine wpStill_nil ?_
        change wpList _ _ _ _ _ wr.drew
        have hwd := Aside0.mk (hwr.out.below (below_drew (Below.refl _ _)))
        generalize wr.drew = wd at hwd ⊢
        go_wp2_with (first
          | ((with_reducible refine gate_store (t := 34) (p := 4) (v := .tmp 177) rfl ?_); refine store_event rfl rfl (g := g4) rfl rfl hwd.out.h4 (by kernel_rfl) rfl hone.out ?_
             intro w3 hb3 mv3
             have hpost := Aside0.mk (hwd.out.post mv3)
             have B3 := Aside0.mk hb3
             clear hb3 mv3))
        refine bodyPost_ret (results_list (rs := [.tmp 2, .tmp 3, .cell 4 34]) rfl (by simp) (.tmp (.tmp (.cell g4 34 _ (0, 0) _ rfl B3.out Try.underlying34 rfl (by kernel_rfl) .nil)))) rfl ?_
        rw [hfin.out]
        exact ⟨t, _, _, rfl, hpost.out⟩
      · have hd1 : ¬ ((i : Int) < (plan.length : Int)) := by omega
        have hd2 : decide ((i : Int) < (plan.length : Int)) = false := decide_eq_false hd1
        have hd3 : decide (i < plan.length) = false := decide_eq_false hlt
        go_upto_region 39 with fail
        go_still_tail 5, (by kernel_rfl)
        refine still_load rfl rfl rfl (show wr.heap[g7]? = _ from hwr.out.h7) Try.underlying34 rfl (by kernel_rfl) ?_
        repeat still_step
        refine wpStill_nil ?_
        change wpList _ _ _ _ _ wr.drew
        have hwd := Aside0.mk (hwr.out.below (below_drew (Below.refl _ _)))
        generalize wr.drew = wd at hwd ⊢
        go_wp2_with (first
          | ((with_reducible refine gate_store (t := 34) (p := 4) (v := .tmp 177) rfl ?_); refine store_event rfl rfl (g := g4) rfl rfl hwd.out.h4 (by kernel_rfl) rfl hone.out ?_
             intro w3 hb3 mv3
             have hpost := Aside0.mk (hwd.out.post mv3)
             have B3 := Aside0.mk hb3
             clear hb3 mv3))
        refine bodyPost_ret (results_list (rs := [.tmp 2, .tmp 3, .cell 4 34]) rfl (by simp) (.tmp (.tmp (.cell g4 34 _ (0, 0) _ rfl B3.out Try.underlying34 rfl (by kernel_rfl) .nil)))) rfl ?_
        rw [hfin.out]
        exact ⟨t, _, _, rfl, hpost.out⟩
    | succ k1 =>
      have hsm := Aside0.mk (Log.upto_small plan i (by have := hik.out; omega))
      have hup := Aside0.mk (Log.upto_succ plan i (by have := hik.out; omega))
      have hi1 : decide ((i : Int) < (plan.length : Int)) = true := decide_eq_true (by have := hik.out; omega)
      have hi3 : decide ((i : Int) < 300) = true := decide_eq_true (by have := hik.out; omega)
      have hi4 : (i : Int) < (plan.length : Int) := by have := hik.out; omega
      have hread := Aside0.mk (fun (W : World) (hW : Below W0.heap.size W0 W) => at_T58 (Kd.C_below H0.out hW) (i : Int) (by omega) hi4)
      obtain ⟨ad, rfl, q0, q1, q2⟩ := hread.out _ hwr.out.bel
      rw [Int.toNat_natCast] at q0 q1 q2
      generalize Log.upto plan i = s at hls hwr hsm hup
      generalize hact : plan.getD i (0, 0, 0) = act at q0 q1 q2 hup
      obtain ⟨by_, what, gap⟩ := act
      clear q1
      dsimp only at q0 q2 hup
      have hinto := Aside0.mk (fun (n top : Int) (h : top = 4 ∨ top = 50) (W : World) => into15 n top h W)
      obtain ⟨k, hk⟩ : ∃ k : Int, k = Log.into by_ 4 := ⟨_, rfl⟩
      obtain ⟨gp, hgp⟩ : ∃ k : Int, k = Log.into gap 50 := ⟨_, rfl⟩
      have Hk := Aside0.mk hk
      have Hgp := Aside0.mk hgp
      have hk04 : 0 ≤ k ∧ k < 4 := by rw [hk]; exact Log.into_range by_ 4 (by decide)
      have hgp0 : 0 ≤ gp ∧ gp < 50 := by rw [hgp]; exact Log.into_range gap 50 (by decide)
      have hlb : 0 ≤ lsn ∧ lsn ≤ 15000 := by have := hsm.out.lsn0; have := hsm.out.lsn1; have := hls.out; have := hik.out; omega
      have hwhat := Aside0.mk (fun (W : World) (hW : Below W0.heap.size W0 W) => (show W.cell? ⟨(ad.add (i * 3)).block, (ad.add (i * 3)).off + 1, none⟩ = some (.int .i64 what) from by
        obtain ⟨ad', e, _, q, _⟩ := hread.out W hW
        injection e with e
        subst e
        rw [Int.toNat_natCast, hact] at q
        exact q))
      clear hk hgp hact
      go_upto_region 10 with (first
        | ((with_reducible refine gate_dst (N := 32) rfl ?_); refine goesL_ (some 32) rfl rfl Try.func15 (by kernel_rfl) rfl #[.int .i64 by_, .int .i64 4] rfl (by (try simp only [List.map_toArray, List.map_cons, List.map_nil]); first | done | rfl) ?_; refine (hinto.out by_ 4 (.inl rfl) _).mono ?_; rintro e w3 ⟨rfl, rfl⟩; refine ⟨_, rfl, ?_⟩; rw [← Hk.out])
        | ((with_reducible refine gate_dst (N := 40) rfl ?_); refine goesL_ (some 40) rfl rfl Try.func15 (by kernel_rfl) rfl #[.int .i64 gap, .int .i64 50] rfl (by (try simp only [List.map_toArray, List.map_cons, List.map_nil]); first | done | rfl) ?_; refine (hinto.out gap 50 (.inr rfl) _).mono ?_; rintro e w3 ⟨rfl, rfl⟩; refine ⟨_, rfl, ?_⟩; rw [← Hgp.out]))
      obtain ⟨ls2, hls2⟩ : ∃ x : Int, x = lsn + 1 + gp := ⟨_, rfl⟩
      rw [← hls2]
      have Hls2 := Aside0.mk hls2
      have hlb2 : 0 ≤ ls2 ∧ ls2 ≤ 15100 := by omega
      clear hls2 q0 q2
      obtain ⟨kn, rfl, hkn⟩ : ∃ kn : Nat, k = (kn : Int) ∧ kn < 4 := ⟨k.toNat, by omega, by omega⟩
      have hkn4 : (kn : Int) < 4 := by omega
      obtain ⟨ra, rl, rb⟩ := hwr.out.runs kn hkn
      obtain ⟨va, vlf, bk, htk⟩ : ∃ a b c, t kn = (a, b, c) := ⟨_, _, _, rfl⟩
      obtain ⟨⟨al, lf, bk⟩, hx⟩ : ∃ x, x = s.runs.getD kn Log.noRun := ⟨_, rfl⟩
      rw [htk, ← hx] at ra rl rb
      dsimp only at ra rl rb
      subst rb
      obtain ⟨Aa, ca, rfl, hca, hcma, hCa⟩ := ra.slice
      obtain ⟨Al, cl, rfl, hcl, hcml, hCl⟩ := rl.slice
      have hxs := Aside0.mk (show al.length ≤ 300 ∧ lf.length ≤ 300 from by have := hsm.out.each kn hkn; rw [← hx] at this; dsimp only at this; have := hik.out; omega)
      have Hx := Aside0.mk hx
      have Hra := Aside0.mk ra
      have Hrl := Aside0.mk rl
      have hrange := Aside0.mk (range12 hwr.out.h7 kn hkn)
      rw [htk] at hrange
      have Htk := Aside0.mk htk
      clear ra rl htk hk04 hgp0 hlb hx hCa hCl hca hcl hcma hcml
      dsimp only at hrange
      go_upto_region 12 with (first
        | ((with_reducible refine gate_dst (N := 44) rfl ?_); refine wpList_load_mid rfl 33 (.tmp 43) rfl g7 (kn * 3) ?hx [.slice Aa al.length ca, .slice Al lf.length cl, .bool bk] _ hrange.out Try.underlying33 rfl (by kernel_rfl) ?_; (case hx => go_simp; done))
        | ((with_reducible refine gate_dst (N := 11) rfl ?_); refine box_event ?hg (N := 11) ?hd (cs := #[.slice none 0 0, .slice none 0 0, .bool false]) (t := 33) ?hr ?_; (case hd => rfl); (case hg => rfl); (case hr => first | (go_simp; done) | (go_simp; rfl)); intro g11 hg11 w3 hb11 hbel3
           have B11 := Aside0.mk hb11
           have L3 := Aside0.mk hbel3
           have n11 := Aside0.mk (show wr.heap.size ≤ g11 by omega)
           clear hb11 hbel3 hg11)
        | ((with_reducible refine gate_store (t := 33) (p := 11) (v := .tmp 44) rfl ?_); refine store_event rfl rfl (g := g11) rfl rfl B11.out (by kernel_rfl) rfl (by simp [Value.oneCell']) ?_
           intro w4 hb4 mv4
           have B114 := Aside0.mk hb4
           have M4 := Aside0.mk mv4
           clear hb4 mv4)
        | ((with_reducible refine gate_dst (N := 12) rfl ?_); refine box_event ?hg (N := 12) ?hd (cs := #[.int .i64 0, .int .i64 0, .int .i64 0, .int .i64 0, .int .i64 0, .int .i64 0, .slice none 0 0, .slice none 0 0, .int .i64 0, .slice none 0 0, .slice none 0 0]) (t := 41) ?hr ?_; (case hd => rfl); (case hg => rfl); (case hr => first | (go_simp; done) | (go_simp; rfl)); intro g12 hg12 w5 hb12 hbel5
           have B12 := Aside0.mk hb12
           have L5 := Aside0.mk hbel5
           have n12 := Aside0.mk (show w4.heap.size ≤ g12 by omega)
           clear hb12 hbel5 hg12)
        | ((with_reducible refine gate_store (t := 41) (p := 12) (v := .tmp 47) rfl ?_); refine store_event rfl rfl (g := g12) rfl rfl B12.out (by kernel_rfl) rfl (by simp [Value.oneCell']) ?_
           intro w6 hb6 mv6
           have B126 := Aside0.mk hb6
           have M6 := Aside0.mk mv6
           clear hb6 mv6))
      have hmid := Aside0.mk (show Mid13 W0 w6 g4 g7 g11 g12 t u5 u6 s (.slice Aa al.length ca) (.slice Al lf.length cl) ⟨al, lf, bk⟩ (Log.blank 1 0 0 (kn + 1)) from by
        have h3 := hwr.out.below L3.out
        have n3 := hwr.out.size
        have h4 := h3.move M4.out (fun k hk => ⟨by rw [hk]; have := n11.out; omega, fun q hq => .inl ((hk ▸ hq : Ty w3 g11 q).eq B11.out)⟩)
        have h5 := h4.below L5.out
        have h6 := h5.move M6.out (fun k hk => ⟨by rw [hk]; have := n12.out; have := h4.size; omega, fun q hq => .inr ((hk ▸ hq : Ty w5 g12 q).eq B12.out)⟩)
        have hne : g11 ≠ g12 := by have := blk_lt B114.out; have := n12.out; omega
        have ro : ∀ v xs, Ro wr W0.heap.size v xs → Ro w6 W0.heap.size v xs := fun v xs h => (((h.below L3.out).move M4.out (fun k hk _ hq => absurd ((hk ▸ hq : Ty w3 g11 3).eq B11.out) (by decide))).below L5.out).move M6.out (fun k hk _ hq => absurd ((hk ▸ hq : Ty w5 g12 3).eq B12.out) (by decide))
        exact ⟨h6, M6.out.blk (blk_below B114.out L5.out) hne, B126.out, by have := n11.out; omega, by have := n12.out; have := h4.size; omega, ro _ _ Hra.out, ro _ _ Hrl.out⟩)
      clear M4 L3 L5 M6 B11 B114 B12 B126 n11 n12 Hra Hrl hrange
      have hl0 := hxs.out.1
      have hq0 : w6.cell? ⟨g11, 0, none⟩ = some (.slice Aa al.length ca) := (blk_cell hmid.out.h11 0).trans rfl
      have hq1 : w6.cell? ⟨g11, 1, none⟩ = some (.slice Al lf.length cl) := (blk_cell hmid.out.h11 1).trans rfl
      have hq2 : w6.cell? ⟨g11, 2, none⟩ = some (.bool bk) := (blk_cell hmid.out.h11 2).trans rfl
      go_upto_if 51 with fail
      go_cut [] (fun wc => ∃ (x' : Log.Run) (r' : S41) (A' : Option Addr) (c' : Nat), Aside0 (Log.record ⟨al, lf, bk⟩ kn what ls2 = (r', x')) ∧ Aside0 (Mid13 W0 wc g4 g7 g11 g12 t u5 u6 s (.slice Aa al.length ca) (.slice A' x'.left.length c') x' r'))
      case first =>
        by_cases hall : al = []
        · have hl : al.length = 0 := by rw [hall]; rfl
          have hd1 : ¬ (0 < al.length) := by omega
          have hd2 : decide (0 < (al.length : Int)) = false := decide_eq_false (by omega)
          have hd3 : decide (0 < al.length) = false := decide_eq_false (by omega)
          have Hall := Aside0.mk hall
          clear hall hl
          go_wp2
          go_meet
          case rel => exact ⟨⟨al, lf, bk⟩, Log.blank 1 0 0 (kn + 1), Al, cl, ⟨by rw [Hall.out]; rfl⟩, hmid⟩
        · obtain ⟨b, rest, hbr⟩ := List.exists_cons_of_ne_nil hall
          have hl : 0 < al.length := by rw [hbr]; simp
          have hd : decide ((al.length : Int) > 0) = true := decide_eq_true (by omega)
          obtain ⟨_, _, e1, _, _, hC⟩ := hmid.out.ra.slice
          injection e1 with e1 e2 e3
          subst e1 e3
          obtain ⟨ad1, rfl, hc1⟩ := Kd.at_int hC 0 (by omega) (by omega)
          obtain ⟨ad2, e4, hc2⟩ := Kd.at_int hC ((al.length : Int) - 1) (by omega) (by omega)
          injection e4 with e4
          subst e4
          clear e2 hC
          have hb : rd al 0 = b := by rw [hbr]; rfl
          rw [hb, show ad1.add (Int.toNat 0) = ad1 from Addr.add_zero' ad1] at hc1
          have hlast : rd al ((al.length : Int) - 1) = al.getLastD 0 := by
            rw [hbr]; simp [rd, List.getLastD_eq_getLast?, List.getLast?_eq_getElem?]
          rw [hlast] at hc2
          obtain ⟨lst, hlst⟩ : ∃ z, al.getLastD 0 = z := ⟨_, rfl⟩
          rw [hlst] at hc2
          have Hbr := Aside0.mk hbr
          have Hlst := Aside0.mk hlst
          clear hall hbr hlst hb hlast
          go_upto_region 14 with fail
          have hb1 : (0 : Int) ≤ (al.length : Int) - 1 := by omega
          have hb2 : (al.length : Int) - 1 < (al.length : Int) := by omega
          have hb4 : (1 : Int) ≤ (al.length : Int) := by omega
          have hc3 : w6.cell? (ad1.add (al.length - 1)) = some (.int .i64 lst) := by
            have := hc2
            rwa [show ((al.length : Int) - 1).toNat = al.length - 1 from by omega] at this
          have hb3 : (0 : Int) < (al.length : Int) := by omega
          have hw : IntKind.i64.wrap ((al.length : Int) - 1) = (al.length : Int) - 1 := by rw [IntKind.wrap_i64]; omega
          go_still_tail 13, (by kernel_rfl)
          change wpList _ _ _ _ _ w6.drew
          have hmid7 := Aside0.mk (hmid.out.below (below_drew (Below.refl _ _)))
          generalize w6.drew = w7 at hmid7 ⊢
          clear hq0 hq1 hq2 hc1 hc2 hc3 hw
          have hm04 := Log.into_range what 4 (by decide)
          obtain ⟨m, hm⟩ : ∃ m : Int, m = Log.into what 4 := ⟨_, rfl⟩
          rw [← hm] at hm04
          have Hm := Aside0.mk hm
          clear hm
          obtain ⟨_, _, e1, hcl, _, hCl⟩ := hmid7.out.rl.slice
          injection e1 with e1 e2 e3
          subst e1 e3
          clear e2 hCl
          have hcll := Aside0.mk hcl
          clear hcl
          go_upto_block 2 with (first
            | ((with_reducible refine gate_store (t := 41) (p := 12) (v := .tmp 64) rfl ?_); refine store_event rfl rfl (g := g12) rfl rfl hmid7.out.h12 (by kernel_rfl) rfl (by simp [Value.oneCell']) ?_
               intro w8 hb8 mv8
               have hmid8 := Aside0.mk (hmid7.out.set12 (r' := Log.blank 2 b lst 0) mv8 hb8)
               have hr0 : w8.cell? ⟨g11, 0, none⟩ = some (.slice (some ad1) al.length ca) := (blk_cell hmid8.out.h11 0).trans rfl
               have hr1 : w8.cell? ⟨g11, 1, none⟩ = some (.slice Al lf.length cl) := (blk_cell hmid8.out.h11 1).trans rfl
               have hr2 : w8.cell? ⟨g11, 2, none⟩ = some (.bool bk) := (blk_cell hmid8.out.h11 2).trans rfl
               have hrw := hwhat.out w8 hmid8.out.wr.bel
               clear hb8 mv8)
            | ((with_reducible refine gate_dst (N := 73) rfl ?_); refine goesL_ (some 73) rfl rfl Try.func15 (by kernel_rfl) rfl #[.int .i64 what, .int .i64 4] rfl (by (try simp only [List.map_toArray, List.map_cons, List.map_nil]); first | done | rfl) ?_; refine (hinto.out what 4 (.inl rfl) _).mono ?_; rintro e w3 ⟨rfl, rfl⟩; refine ⟨_, rfl, ?_⟩; rw [← Hm.out]))
          have hm4 : m = 0 ∨ m = 1 ∨ m = 2 ∨ m = 3 := by omega
          clear hm04
          have hClf := Aside0.mk (show (Kd.int .i64).C w8 Al lf.length lf from by
            obtain ⟨_, _, e1, _, _, hC⟩ := hmid8.out.rl.slice
            injection e1 with e1
            rw [e1]; exact hC)
          rcases hm4 with rfl | rfl | rfl | rfl
          · cases bk with
            | true => 
              go_wp2_with (first
                | ((with_reducible refine gate_store (t := 3) (p := 126) (v := .const (.int .i64 6)) rfl ?_); refine put_event rfl rfl (g := g12) (i := 0) (v := .int .i64 6) rfl rfl rfl rfl hmid8.out.h12 (show 0 < 11 by decide) (by kernel_rfl) ?_
                   intro w9 hb9 mv9
                   have hmid9 := Aside0.mk (hmid8.out.set12 (r' := { Log.blank 2 b lst 0 with f0 := 6 }) mv9 hb9)
                   have hs1 : w9.cell? ⟨g11, 1, none⟩ = some (.slice Al lf.length cl) := (blk_cell hmid9.out.h11 1).trans rfl
                   clear hb9 mv9))
              go_meet
              case rel => exact ⟨⟨al, lf, true⟩, { Log.blank 2 b lst 0 with f0 := 6 }, Al, cl, ⟨(Log.record_c _ _ _ _ _ _ _ _ _ _ Hbr.out Hm.out Hlst.out).trans (by simp)⟩, hmid9⟩
            | false =>
              go_wp2_with (first
                | ((with_reducible refine gate_dst (N := 78) rfl ?_); refine cut_event rfl rfl (A := Al) (n := lf.length) (c := cl) (m := lf.length) (by omega) rfl rfl rfl hcll.out Try.underlying23 (sz := 1) (by kernel_rfl) ?_)
                | ((with_reducible refine gate_builtin (b := .append) (xs := #[.tmp 78, .tmp 80]) rfl ?_); at_builtin; refine grow_event rfl (.tmp 78) (.tmp 80) rfl Try.underlying23 info3 ls2 (n := lf.length) (xs := lf) rfl rfl rfl hClf.out (by have := hxs.out.2; omega) ?_
                   intro v1 w9 hR hb9
                   have hmid9 := Aside0.mk (hmid8.out.below hb9)
                   have hl9 := Aside0.mk (Ro.of_R (Kd.R_lower hR hmid8.out.wr.size))
                   obtain ⟨A1, c1, rfl, _⟩ := hl9.out.slice
                   have e9 := Aside0.mk (show (lf ++ [ls2]).length = lf.length + 1 from by simp)
                   rw [e9.out] at hl9 ⊢
                   clear hR hb9)
                | ((with_reducible refine gate_store (t := 23) (p := 82) (v := .tmp 81) rfl ?_); refine put_event rfl rfl (g := g11) (i := 1) (v := .slice A1 (lf.length + 1) c1) rfl rfl rfl rfl hmid9.out.h11 (show 1 < 3 by decide) (by kernel_rfl) ?_
                   intro w10 hb10 mv10
                   have hmid10 := Aside0.mk (hmid9.out.setLeft mv10 hl9.out hb10)
                   clear hb10 mv10))
              go_meet
              case rel => exact ⟨⟨al, lf ++ [ls2], false⟩, Log.blank 2 b lst 0, A1, c1, ⟨(Log.record_c _ _ _ _ _ _ _ _ _ _ Hbr.out Hm.out Hlst.out).trans (by simp)⟩, ⟨by have := hmid10.out; rw [e9.out]; exact this⟩⟩
          · cases bk with
            | true =>
              go_wp2_with (first
                | ((with_reducible refine gate_store (t := 3) (p := 126) (v := .const (.int .i64 6)) rfl ?_); refine put_event rfl rfl (g := g12) (i := 0) (v := .int .i64 6) rfl rfl rfl rfl hmid8.out.h12 (show 0 < 11 by decide) (by kernel_rfl) ?_
                   intro w9 hb9 mv9
                   have hmid9 := Aside0.mk (hmid8.out.set12 (r' := { Log.blank 2 b lst 0 with f0 := 6 }) mv9 hb9)
                   have hs1 : w9.cell? ⟨g11, 1, none⟩ = some (.slice Al lf.length cl) := (blk_cell hmid9.out.h11 1).trans rfl
                   clear hb9 mv9))
              go_meet
              case rel => exact ⟨⟨al, lf, true⟩, { Log.blank 2 b lst 0 with f0 := 6 }, Al, cl, ⟨(Log.record_c _ _ _ _ _ _ _ _ _ _ Hbr.out Hm.out Hlst.out).trans (by simp)⟩, hmid9⟩
            | false =>
              go_wp2_with (first
                | ((with_reducible refine gate_store (t := 3) (p := 91) (v := .const (.int .i64 5)) rfl ?_); refine put_event rfl rfl (g := g12) (i := 0) (v := .int .i64 5) rfl rfl rfl rfl hmid8.out.h12 (show 0 < 11 by decide) (by kernel_rfl) ?_
                   intro w9 hb9 mv9
                   have hmid9 := Aside0.mk (hmid8.out.set12 (r' := { Log.blank 2 b lst 0 with f0 := 5 }) mv9 hb9)
                   have hs1 : w9.cell? ⟨g11, 1, none⟩ = some (.slice Al lf.length cl) := (blk_cell hmid9.out.h11 1).trans rfl
                   clear hb9 mv9)
                | ((with_reducible refine gate_store (t := 4) (p := 92) (v := .const (.bool true)) rfl ?_); refine put_event rfl rfl (g := g11) (i := 2) (v := .bool true) rfl rfl rfl rfl hmid9.out.h11 (show 2 < 3 by decide) (by kernel_rfl) ?_
                   intro w10 hb10 mv10
                   have hmid10 := Aside0.mk (hmid9.out.setBack (b := true) mv10 hb10)
                   have hs2 : w10.cell? ⟨g11, 1, none⟩ = some (.slice Al lf.length cl) := (blk_cell hmid10.out.h11 1).trans rfl
                   clear hb10 mv10))
              go_meet
              case rel => exact ⟨⟨al, lf, true⟩, { Log.blank 2 b lst 0 with f0 := 5 }, Al, cl, ⟨(Log.record_c _ _ _ _ _ _ _ _ _ _ Hbr.out Hm.out Hlst.out).trans (by simp)⟩, hmid10⟩
          · by_cases hn : 0 < lf.length
            · have hn0 : 0 < lf.length := hn
              have hnd : decide ((lf.length : Int) > 0) = true := decide_eq_true (by omega)
              have hw1 : IntKind.i64.wrap ((lf.length : Int) - 1) = (lf.length : Int) - 1 := by have := hxs.out.2; rw [IntKind.wrap_i64]; omega
              have hw2 : IntKind.i64.wrap ((lf.length : Int) - 2) = (lf.length : Int) - 2 := by have := hxs.out.2; rw [IntKind.wrap_i64]; omega
              have hlt : (lf.take (lf.length - 1)).length = lf.length - 1 := by rw [List.length_take]; omega
              have Hlt := Aside0.mk hlt
              clear hlt
              go_upto_region 24 with (first
            | ((with_reducible refine gate_store (t := 3) (p := 100) (v := .const (.int .i64 3)) rfl ?_); refine put_event rfl rfl (g := g12) (i := 0) (v := .int .i64 3) rfl rfl rfl rfl hmid8.out.h12 (show 0 < 11 by decide) (by kernel_rfl) ?_
               intro w9 hb9 mv9
               have hmid9 := Aside0.mk (hmid8.out.set12 (r' := { Log.blank 2 b lst 0 with f0 := 3 }) mv9 hb9)
               have hs1 : w9.cell? ⟨g11, 1, none⟩ = some (.slice Al lf.length cl) := (blk_cell hmid9.out.h11 1).trans rfl
               clear hb9 mv9)
            | ((with_reducible refine gate_store (t := 4) (p := 101) (v := .const (.bool true)) rfl ?_); refine put_event rfl rfl (g := g11) (i := 2) (v := .bool true) rfl rfl rfl rfl hmid9.out.h11 (show 2 < 3 by decide) (by kernel_rfl) ?_
               intro w10 hb10 mv10
               have hmid10 := Aside0.mk (hmid9.out.setBack (b := true) mv10 hb10)
               have hs2 : w10.cell? ⟨g11, 1, none⟩ = some (.slice Al lf.length cl) := (blk_cell hmid10.out.h11 1).trans rfl
               clear hb10 mv10)
            | ((with_reducible refine gate_dst (N := 108) rfl ?_); refine cut_event rfl rfl (A := Al) (n := lf.length) (c := cl) (m := lf.length - 1) (by omega) rfl rfl rfl (Nat.le_trans (Nat.sub_le _ _) hcll.out) Try.underlying23 (sz := 1) (by kernel_rfl) ?_)
            | ((with_reducible refine gate_store (t := 23) (p := 109) (v := .tmp 108) rfl ?_); refine put_event rfl rfl (g := g11) (i := 1) (v := .slice Al (lf.length - 1) (lf.length - 1)) rfl rfl rfl rfl hmid10.out.h11 (show 1 < 3 by decide) (by kernel_rfl) ?_
               intro w11 hb11 mv11
               have hmid11 := Aside0.mk (hmid10.out.setLeft mv11 (hmid10.out.rl.take (lf.length - 1) (by omega) Al rfl) hb11)
               have hu1 : w11.cell? ⟨g11, 1, none⟩ = some (.slice Al (lf.length - 1) (lf.length - 1)) := (blk_cell hmid11.out.h11 1).trans rfl
               clear hb11 mv11))

              by_cases hn1 : 1 < lf.length
              · have hnd2 : decide ((lf.length : Int) > 1) = true := decide_eq_true (by omega)
                obtain ⟨A3, c3, e3, _, _, hC3⟩ := hmid11.out.rl.slice
                injection e3 with e3 e4 e5
                subst e3
                obtain ⟨ad3, rfl, hc3⟩ := Kd.at_int hC3 ((lf.length : Int) - 2) (by omega) (by rw [Hlt.out]; omega)
                have hrd : rd (lf.take (lf.length - 1)) ((lf.length : Int) - 2) = lf.getD (lf.length - 2) 0 := by
                  unfold rd
                  rw [show ((lf.length : Int) - 2).toNat = lf.length - 2 from by omega]
                  simp only [List.getD_eq_getElem?_getD]
                  rw [List.getElem?_take_of_lt (by omega)]
                rw [hrd, show ((lf.length : Int) - 2).toNat = lf.length - 2 from by omega] at hc3
                obtain ⟨nx, hnx⟩ : ∃ nx, lf.getD (lf.length - 2) 0 = nx := ⟨_, rfl⟩
                rw [hnx] at hc3
                have Hnx := Aside0.mk hnx
                clear hnx
                clear e4 e5 hC3 hrd
                have hi1 : (2 : Int) ≤ (lf.length : Int) := by omega
                have hi2 : (lf.length : Int) - 2 < ((lf.length - 1 : Nat) : Int) := by omega
                go_wp2_with (first
                  | ((with_reducible refine gate_store (t := 3) (p := 118) (v := .tmp 117) rfl ?_); refine put_event rfl rfl (g := g12) (i := 8) (v := .int .i64 nx) rfl rfl rfl rfl hmid11.out.h12 (show 8 < 11 by decide) (by kernel_rfl) ?_
                     intro w12 hb12 mv12
                     have hmid12 := Aside0.mk (hmid11.out.set12 (r' := ⟨3, b, lst, 0, 0, 0, [], [], nx, [], []⟩) mv12 hb12)
                     clear hb12 mv12))
                go_meet
                case rel => exact ⟨⟨al, lf.take (lf.length - 1), true⟩, ⟨3, b, lst, 0, 0, 0, [], [], nx, [], []⟩, _, lf.length - 1, ⟨(Log.record_c _ _ _ _ _ _ _ _ _ _ Hbr.out Hm.out Hlst.out).trans (by rw [if_neg (by simp), if_pos ⟨rfl, hn0⟩, if_pos hn1, Hnx.out]; rfl)⟩, ⟨by have := hmid12.out; rw [Hlt.out]; exact this⟩⟩
              · have hnd2 : decide ((lf.length : Int) > 1) = false := decide_eq_false (by omega)
                go_wp2
                go_meet
                case rel => exact ⟨⟨al, lf.take (lf.length - 1), true⟩, { Log.blank 2 b lst 0 with f0 := 3 }, Al, lf.length - 1, ⟨(Log.record_c _ _ _ _ _ _ _ _ _ _ Hbr.out Hm.out Hlst.out).trans (by rw [if_neg (by simp), if_pos ⟨rfl, hn0⟩, if_neg hn1]; rfl)⟩, ⟨by have := hmid11.out; rw [Hlt.out]; exact this⟩⟩
            · have hnd : decide ((lf.length : Int) > 0) = false := decide_eq_false (by omega)
              have hnd1 : decide (0 < (lf.length : Int)) = false := decide_eq_false (by omega)
              have hnd2 : decide (0 < lf.length) = false := decide_eq_false (by omega)
              cases bk with
              | true =>
                go_wp2_with (first
                  | ((with_reducible refine gate_store (t := 3) (p := 126) (v := .const (.int .i64 6)) rfl ?_); refine put_event rfl rfl (g := g12) (i := 0) (v := .int .i64 6) rfl rfl rfl rfl hmid8.out.h12 (show 0 < 11 by decide) (by kernel_rfl) ?_
                     intro w9 hb9 mv9
                     have hmid9 := Aside0.mk (hmid8.out.set12 (r' := { Log.blank 2 b lst 0 with f0 := 6 }) mv9 hb9)
                     have hs1 : w9.cell? ⟨g11, 1, none⟩ = some (.slice Al lf.length cl) := (blk_cell hmid9.out.h11 1).trans rfl
                     clear hb9 mv9))
                go_meet
                case rel => exact ⟨⟨al, lf, true⟩, { Log.blank 2 b lst 0 with f0 := 6 }, Al, cl, ⟨(Log.record_c _ _ _ _ _ _ _ _ _ _ Hbr.out Hm.out Hlst.out).trans (by simp [hn])⟩, hmid9⟩
              | false =>
                go_wp2_with (first
                  | ((with_reducible refine gate_dst (N := 78) rfl ?_); refine cut_event rfl rfl (A := Al) (n := lf.length) (c := cl) (m := lf.length) (by omega) rfl rfl rfl hcll.out Try.underlying23 (sz := 1) (by kernel_rfl) ?_)
                  | ((with_reducible refine gate_builtin (b := .append) (xs := #[.tmp 78, .tmp 80]) rfl ?_); at_builtin; refine grow_event rfl (.tmp 78) (.tmp 80) rfl Try.underlying23 info3 ls2 (n := lf.length) (xs := lf) rfl rfl rfl hClf.out (by have := hxs.out.2; omega) ?_
                     intro v1 w9 hR hb9
                     have hmid9 := Aside0.mk (hmid8.out.below hb9)
                     have hl9 := Aside0.mk (Ro.of_R (Kd.R_lower hR hmid8.out.wr.size))
                     obtain ⟨A1, c1, rfl, _⟩ := hl9.out.slice
                     have e9 := Aside0.mk (show (lf ++ [ls2]).length = lf.length + 1 from by simp)
                     rw [e9.out] at hl9 ⊢
                     clear hR hb9)
                  | ((with_reducible refine gate_store (t := 23) (p := 82) (v := .tmp 81) rfl ?_); refine put_event rfl rfl (g := g11) (i := 1) (v := .slice A1 (lf.length + 1) c1) rfl rfl rfl rfl hmid9.out.h11 (show 1 < 3 by decide) (by kernel_rfl) ?_
                     intro w10 hb10 mv10
                     have hmid10 := Aside0.mk (hmid9.out.setLeft mv10 hl9.out hb10)
                     clear hb10 mv10))
                go_meet
                case rel => exact ⟨⟨al, lf ++ [ls2], false⟩, Log.blank 2 b lst 0, A1, c1, ⟨(Log.record_c _ _ _ _ _ _ _ _ _ _ Hbr.out Hm.out Hlst.out).trans (by simp [hn])⟩, ⟨by have := hmid10.out; rw [e9.out]; exact this⟩⟩
          · 
            go_wp2_with (first
              | ((with_reducible refine gate_store (t := 3) (p := 126) (v := .const (.int .i64 6)) rfl ?_); refine put_event rfl rfl (g := g12) (i := 0) (v := .int .i64 6) rfl rfl rfl rfl hmid8.out.h12 (show 0 < 11 by decide) (by kernel_rfl) ?_
                 intro w9 hb9 mv9
                 have hmid9 := Aside0.mk (hmid8.out.set12 (r' := { Log.blank 2 b lst 0 with f0 := 6 }) mv9 hb9)
                 have hs1 : w9.cell? ⟨g11, 1, none⟩ = some (.slice Al lf.length cl) := (blk_cell hmid9.out.h11 1).trans rfl
                 clear hb9 mv9))
            go_meet
            case rel => exact ⟨⟨al, lf, bk⟩, { Log.blank 2 b lst 0 with f0 := 6 }, Al, cl, ⟨(Log.record_c _ _ _ _ _ _ _ _ _ _ Hbr.out Hm.out Hlst.out).trans (by simp)⟩, hmid9⟩
      case rest =>
        clear hq0 hq1 hq2 hmid
        obtain ⟨⟨al2, lf2, bk2⟩, r2, A2, c2, hrec, hmid⟩ := hcut
        have hal2 := Aside0.mk (show al2 = al from by
          have := (Log.record_all_len ⟨al, lf, bk⟩ kn what ls2).1
          rw [hrec.out] at this
          exact this)
        obtain ⟨Wc, hWc⟩ : ∃ W, W = wc := ⟨_, rfl⟩
        subst hWc
        have hq0 : Wc.cell? ⟨g11, 0, none⟩ = some (.slice Aa al.length ca) := (blk_cell hmid.out.h11 0).trans rfl
        have hca : al.length ≤ ca := by
          obtain ⟨_, _, e1, hc, _⟩ := hmid.out.ra.slice
          injection e1 with e1 e2 e3
          subst e3
          have := hal2.out
          subst this
          exact hc
        have hCal := Aside0.mk (show (Kd.int .i64).C Wc Aa al.length al from by
          obtain ⟨_, _, e1, _, _, hC⟩ := hmid.out.ra.slice
          have := hal2.out
          subst this
          injection e1 with e1
          rw [e1]; exact hC)
        have hcal := Aside0.mk hca
        clear hca
        go_upto_block 3 with (first
          | ((with_reducible refine gate_dst (N := 135) rfl ?_); refine cut_event rfl rfl (A := Aa) (n := al.length) (c := ca) (m := al.length) (by omega) rfl rfl rfl hcal.out Try.underlying23 (sz := 1) (by kernel_rfl) ?_)
          | ((with_reducible refine gate_builtin (b := .append) (xs := #[.tmp 135, .tmp 137]) rfl ?_); at_builtin; refine grow_event rfl (.tmp 135) (.tmp 137) rfl Try.underlying23 info3 ls2 (n := al.length) (xs := al) rfl rfl rfl hCal.out (by have := hxs.out.1; omega) ?_
             intro v1 w9 hR hb9
             have hmid9 := Aside0.mk (hmid.out.below hb9)
             have hl9 := Aside0.mk (Ro.of_R (Kd.R_lower hR hmid.out.wr.size))
             obtain ⟨A1, c1, rfl, _⟩ := hl9.out.slice
             have e9 := Aside0.mk (show (al ++ [ls2]).length = al.length + 1 from by simp)
             rw [e9.out] at hl9 ⊢
             clear hR hb9)
          | ((with_reducible refine gate_store (t := 23) (p := 139) (v := .tmp 138) rfl ?_); refine put_event rfl rfl (g := g11) (i := 0) (v := .slice A1 (al.length + 1) c1) rfl rfl rfl rfl hmid9.out.h11 (show 0 < 3 by decide) (by kernel_rfl) ?_
             intro w10 hb10 mv10
             have hmid10 := Aside0.mk (hmid9.out.setAll mv10 hl9.out hb10)
             have hs0 : w10.cell? ⟨g11, 0, none⟩ = some (.slice A1 (al.length + 1) c1) := (blk_cell hmid10.out.h11 0).trans rfl
             clear hb10 mv10))
        clear hs0
        go_cut [15] (fun v15 wc2 => Aside0 (Below w10.heap.size w10 wc2) ∧ Aside0 (Kd.R (Kd.int .i64) 3 wc2 w10.heap.size (fun _ => True) v15 (al ++ [ls2]).reverse))
        case first =>
          go_wp2_with fail
          go_loopg [15, 16] (al.length + 1) (fun kq v15 v16 wq => ∃ z : Int, v16 = .int .i64 z ∧ Aside0 (z = (kq : Int) - 1) ∧ Aside0 (kq ≤ al.length + 1) ∧ Aside0 (Below w10.heap.size w10 wq) ∧ Aside0 (Kd.R (Kd.int .i64) 3 wq w10.heap.size (fun _ => True) v15 ((al ++ [ls2]).reverse.take (al.length + 1 - kq))))
          case atStart => exact ⟨(al.length : Int), rfl, ⟨by omega⟩, ⟨Nat.le_refl _⟩, ⟨Below.refl _ _⟩, ⟨by rw [Nat.sub_self]; exact Kd.R_nil _ _ _ _ _⟩⟩
          case round =>
            obtain ⟨z, rfl, hz, hkq, hbq, hRq⟩ := hrel
            cases gk with
            | zero =>
              obtain rfl : z = -1 := by have := hz.out; omega
              go_wp2
              go_meet
              case rel => exact ⟨hbq, ⟨by have := hRq.out; rwa [List.take_of_length_le (by simp)] at this⟩⟩
            | succ k1 =>
              obtain rfl : z = (k1 : Int) := by have := hz.out; omega
              have hmq := Aside0.mk (hmid10.out.below hbq.out)
              have hs0 : World.cell? _ ⟨g11, 0, none⟩ = some (.slice A1 (al.length + 1) c1) := (blk_cell hmq.out.h11 0).trans rfl
              obtain ⟨_, _, e1, _, _, hC⟩ := hmq.out.ra.slice
              injection e1 with e1 e2 e3
              subst e1
              obtain ⟨ad4, rfl, hc4⟩ := Kd.at_int hC (k1 : Int) (by omega) (by rw [e9.out]; have := hkq.out; omega)
              rw [Int.toNat_natCast] at hc4
              obtain ⟨px, hpx⟩ : ∃ px, rd (al ++ [ls2]) (k1 : Int) = px := ⟨_, rfl⟩
              rw [hpx] at hc4
              have hnext := Aside0.mk (show (al ++ [ls2]).reverse.take (al.length + 1 - (k1 + 1)) ++ [px] = (al ++ [ls2]).reverse.take (al.length + 1 - k1) from by
                have hk := hkq.out
                rw [show al.length + 1 - k1 = (al.length + 1 - (k1 + 1)) + 1 from by omega, List.take_add_one]
                congr 1
                rw [List.getElem?_reverse (by simp; omega), ← hpx]
                have : (al ++ [ls2]).length - 1 - (al.length + 1 - (k1 + 1)) = k1 := by simp; omega
                rw [this]
                simp only [rd, Int.toNat_natCast, List.getD_eq_getElem?_getD]
                rw [List.getElem?_eq_getElem (by simp; omega)]
                rfl)
              clear e2 e3 hC hpx
              have hb1 : (k1 : Int) < ((al.length + 1 : Nat) : Int) := by have := hkq.out; omega
              have hb2 : k1 < al.length + 1 := by have := hkq.out; omega
              go_wp2_with (first
                | ((with_reducible refine gate_builtin (b := .append) (xs := #[.tmp 148, .tmp 154]) rfl ?_); at_builtin; refine Kd.R_append (Kd.int .i64) (w0 := w10) w10.heap.size rfl (.tmp 148) (.tmp 154) 23 3 (.int .i64 0) 8 rfl Try.underlying23 info3 rfl (by decide) (by omega) _ _ px [.int .i64 px] (fun _ => True) (fun _ => False) rfl rfl ?aP (fun _ hk => hk.elim) (fun _ _ => trivial) hRq.out hbq.out hbq.out.size ?aL ?_
                   (case aP => exact rfl)
                   (case aL => rw [List.length_take]; have := hxs.out.1; simp; omega)
                   intro vo1 w11 ho hbB hgr hat
                   rw [hnext.out] at ho
                   have h11R := Aside0.mk ho
                   have h11B := Aside0.mk hbB
                   clear ho hbB hgr hat))
              go_roundg k1
              case measure => omega
              case rel => exact ⟨(k1 : Int) - 1, rfl, ⟨rfl⟩, ⟨by omega⟩, h11B, h11R⟩
        case rest =>
          obtain ⟨hbw, hRw⟩ := hcut
          have hmw := Aside0.mk (hmid10.out.below hbw.out)
          have hRw2 := Aside0.mk (Kd.R_lower hRw.out hmid10.out.wr.size)
          clear hRw hmid10 hmid9 hmid hCal hcal hbw
          obtain ⟨Ww, hWw⟩ : ∃ W, W = wc := ⟨_, rfl⟩
          subst hWw
          have hk0 : Ww.cell? ⟨g12, 0, none⟩ = some (.int .i64 r2.f0) := (blk_cell hmw.out.h12 0).trans rfl
          go_upto_if 161 with (first
            | ((with_reducible refine gate_dst (N := 157) rfl ?_); refine wpList_load_row rfl 33 (.tmp 11) rfl g11 rfl 33 _ (0, 0) _ hmw.out.h11 Try.underlying33 rfl (by kernel_rfl) ?_)
            | ((with_reducible refine gate_store (t := 33) (p := 158) (v := .tmp 157) rfl ?_); refine store3_event rfl rfl (g := g7) (k := kn) hkn (new := (.slice A1 (al.length + 1) c1, .slice A2 lf2.length c2, bk2)) rfl rfl hmw.out.wr.h7 (by kernel_rfl) rfl rfl ?_
               intro w12 hb12 mv12
               have hwr12 := Aside0.mk (hmw.out.wr.setRun mv12 hkn hsm.out.runs hb12 (x := ⟨al ++ [ls2], lf2, bk2⟩) hmw.out.ra hmw.out.rl rfl)
               have h12 := Aside0.mk (mv12.blk hmw.out.h12 (fun e => absurd ((e ▸ ⟨_, hmw.out.h12⟩ : Ty Ww g7 41).eq hmw.out.wr.h7) (by decide)))
               have hR12 := Aside0.mk (R_tm hRw2.out mv12 (fun k q hs _ hq ht => absurd ((hs ▸ ht : Ty Ww g7 q).eq hmw.out.wr.h7) (by rw [e3int q hq]; decide)))
               have hk0 : w12.cell? ⟨g12, 0, none⟩ = some (.int .i64 r2.f0) := (blk_cell h12.out 0).trans rfl
               clear hb12 mv12))
          clear hRw2
          go_cut [161] (fun v161 wd => ∃ (t2 : Nat → Tri) (s2 : Log.Log) (wy : List Int), Aside0 (s2 = { s with runs := s.runs.set kn (if r2.f0 = 6 then Log.noRun else ⟨al ++ [ls2], lf2, bk2⟩) }) ∧ Aside0 (wy = (al ++ [ls2]).reverse) ∧ Aside0 (Wr13 W0 wd g4 g7 t2 u5 u6 s2) ∧ Aside0 (wd.heap[g12]? = some (.cells (rec41 r2) 41 (0, 0))) ∧ Aside0 (Kd.R (Kd.int .i64) 3 wd W0.heap.size (fun _ => True) u15 wy))
          case first =>
            by_cases c6 : r2.f0 = 6
            · have d6 : (r2.f0 == 6) = true := beq_iff_eq.mpr c6
              have C6 := Aside0.mk c6
              clear c6
              go_wp2_with (first
                | ((with_reducible refine gate_store (t := 33) (p := 164) (v := .tmp 163) rfl ?_); refine store3_event rfl rfl (g := g7) (k := kn) hkn (new := (.slice none 0 0, .slice none 0 0, false)) rfl rfl hwr12.out.h7 (by kernel_rfl) rfl rfl ?_
                   intro w13 hb13 mv13
                   have hwr13 := Aside0.mk (hwr12.out.setRun mv13 hkn (by rw [List.length_set]; exact hsm.out.runs) hb13 (x := Log.noRun) (Ro.nil _ _) (Ro.nil _ _) rfl)
                   have h13 := Aside0.mk (mv13.blk h12.out (fun e => absurd ((e ▸ ⟨_, h12.out⟩ : Ty w12 g7 41).eq hwr12.out.h7) (by decide)))
                   have hR13 := Aside0.mk (R_tm hR12.out mv13 (fun k q hs _ hq ht => absurd ((hs ▸ ht : Ty w12 g7 q).eq hwr12.out.h7) (by rw [e3int q hq]; decide)))
                   clear hb13 mv13))
              go_meet
              case rel => exact ⟨_, _, _, ⟨rfl⟩, ⟨rfl⟩, ⟨by have := hwr13.out; rw [if_pos C6.out]; rw [List.set_set] at this; exact this⟩, h13, hR13⟩
            · have d6 : (r2.f0 == 6) = false := beq_eq_false_iff_ne.mpr c6
              have C6 := Aside0.mk c6
              clear c6
              go_wp2
              go_meet
              case rel => exact ⟨_, _, _, ⟨rfl⟩, ⟨rfl⟩, ⟨by have := hwr12.out; rw [if_neg C6.out]; exact this⟩, h12, hR12⟩
          case rest =>
            obtain ⟨t2, s2, wy, Hs2, Hwy, hwd, h12d, hRd⟩ := hcut
            clear hwr12 h12 hR12 hmw hk0
            obtain ⟨Wd, hWd⟩ : ∃ W, W = wc := ⟨_, rfl⟩
            subst hWd
            obtain ⟨Al5, cl5, rfl⟩ := Kd.R_slice hwd.out.lines
            obtain ⟨Aw6, cw6, rfl⟩ := Kd.R_slice hwd.out.ways
            obtain ⟨Ay, cy, rfl⟩ := Kd.R_slice hRd.out
            have hnil := Aside0.mk (show r2.f6 = [] ∧ r2.f7 = [] ∧ r2.f9 = [] ∧ r2.f10 = [] from by
              have := Log.record_nil ⟨al, lf, bk⟩ kn what ls2
              rw [hrec.out] at this
              exact this)
            have hlens := Aside0.mk (show s2.lines.length ≤ 300 ∧ s2.ways.length ≤ 300 from by rw [Hs2.out]; dsimp only; have := hsm.out.lines; have := hsm.out.ways; have := hik.out; omega)
            obtain ⟨q0, q1, q2, q3, q4, q5, q6, q7, q8, q9, q10⟩ := r2
            obtain ⟨e6, e7, e9', e10⟩ := hnil.out
            dsimp only at e6 e7 e9' e10
            subst e6 e7 e9' e10
            go_wp2_with (first
              | ((with_reducible refine gate_dst (N := 167) rfl ?_); refine wpList_load_row rfl 41 (.tmp 12) rfl g12 rfl 41 _ (0, 0) _ h12d.out Try.underlying41 rfl (by kernel_rfl) ?_)
              | ((with_reducible refine gate_dst (N := 168) rfl ?_); refine build_event rfl rfl rfl rfl (build43 _ ls2 q0 q1 q2 q3 q4 q5 q8) ?_)
              | ((with_reducible refine gate_dst (N := 169) rfl ?_); refine lit_event rfl rfl rfl (lit22 _ ls2 q0 q1 q2 q3 q4 q5 q8) ?_)
              | ((with_reducible refine gate_builtin (b := .append) (xs := #[.tmp 165, .tmp 169]) rfl ?_); at_builtin; refine Kd.R_append k43 (w0 := W0) W0.heap.size rfl (.tmp 165) (.tmp 169) 22 43 _ 160 rfl Try.underlying22 info43 rfl (by decide) (by omega) _ s2.lines (⟨ls2, ⟨q0, q1, q2, q3, q4, q5, [], [], q8, [], []⟩⟩ : S43) [.int .i64 ls2, .int .i64 q0, .int .i64 q1, .int .i64 q2, .int .i64 q3, .int .i64 q4, .int .i64 q5, .slice none 0 0, .slice none 0 0, .int .i64 q8, .slice none 0 0, .slice none 0 0] (fun _ => True) (fun _ => False) rfl rfl ?aP (fun _ hk => hk.elim) (fun _ _ => trivial) hwd.out.lines hwd.out.bel hwd.out.size ?aL ?_
                 (case aP => exact k43_mkM _ _ _ _ (Kd.R_nil _ _ _ _ _) (Kd.R_nil _ _ _ _ _) (Kd.R_nil _ _ _ _ _) (Kd.R_nil _ _ _ _ _))
                 (case aL => have := hlens.out.1; omega)
                 intro vo1 w14 ho hbB hgr hat
                 have hwe := Aside0.mk (hwd.out.growLines hgr hbB ho)
                 have hRe := Aside0.mk (R_tm hRd.out (Mv.of_grown hgr) (fun k q hs _ hq ht => absurd (ht.uniq (R_own_ty hwd.out.lines hs)) (by rw [e3int q hq]; decide)))
                 have hle := Aside0.mk ho
                 clear ho hbB hgr hat)
              | ((with_reducible refine gate_builtin (b := .append) (xs := #[.tmp 171, .tmp 173]) rfl ?_); at_builtin; refine Kd.R_append (Kd.slice 3 (Kd.int .i64)) (w0 := W0) W0.heap.size rfl (.tmp 171) (.tmp 173) 31 23 _ 24 rfl Try.underlying31 info23 rfl (by decide) (by omega) _ s2.ways wy [.slice Ay wy.length cy] (fun _ => True) (fun k => True ∧ some k ≠ (Value.slice Aw6 s2.ways.length cw6).ownBlock) rfl rfl ?aP (fun _ hk => hk) (fun _ _ => trivial) hwe.out.ways hwe.out.bel hwe.out.size ?aL ?_
                 (case aP => exact ⟨_, rfl, Kd.R_apart' hRe.out (fun k hk => R_own_ty hwe.out.ways hk.symm) (fun q hq => by rw [e3int q hq]; decide)⟩)
                 (case aL => have := hlens.out.2; omega)
                 intro vo2 w15 ho hbB hgr hat
                 have hwf := Aside0.mk (hwe.out.growWays hgr hbB ho)
                 clear ho hbB hgr hat))
            have hstep := Aside0.mk (show Log.upto plan (i + 1) = { lines := s2.lines ++ [⟨ls2, ⟨q0, q1, q2, q3, q4, q5, [], [], q8, [], []⟩⟩], ways := s2.ways ++ [wy], runs := s2.runs, lsn := ls2 } from by
              have h1 := hrec.out
              have h2 := hal2.out
              have h3 := Hx.out
              rw [hup.out]
              unfold Log.step
              dsimp only
              rw [← Hk.out, ← Hgp.out, ← hls.out, ← Hls2.out, Int.toNat_natCast, ← h3, h1, Hs2.out, Hwy.out, h2])
            have hfin := Aside0.mk (hwf.out.lsn ls2)
            go_roundg k1
            case measure => omega
            case rel => exact ⟨i + 1, t2, ls2, rfl, rfl, ⟨by rw [hstep.out]⟩, ⟨by have := hik.out; omega⟩, ⟨by have := hfin.out; rw [hstep.out]; exact this⟩⟩
end Go.Proofs.Ytijlcahikeeigaa.QA
