/- ChainWhole, walked. -/
import Derived.Test.YtijlcahikeeigaaTWritten
import Derived.Test.YtijlcahikeeigaaPureWhole
import Derived.Test.YtijlcahikeeigaaPureChain
namespace Go.Proofs.Ytijlcahikeeigaa.QA
open Go.RowKit Go.Proofs.YtijlcahikeeigaaW.PrintWords Go.Proofs.YtijlcahikeeigaaW.PrintLast Go.Proofs.YtijlcahikeeigaaW.PrintMore
set_option linter.unusedVariables false
set_option linter.unusedSimpArgs false
/-- What stands in a world behind 'written' and the store of its third result. -/
structure Wh (W0 w : World) (g5 : Nat) (t : Nat → Tri) (vl vw : Value) (s : Log.Log) : Prop where
  bel : Below W0.heap.size W0 w
  h5 : w.heap[g5]? = some (.cells (cells12 t) 34 (0, 0))
  runs : ∀ k, k < 4 → Ro w W0.heap.size (t k).1 (s.runs.getD k Log.noRun).all ∧ Ro w W0.heap.size (t k).2.1 (s.runs.getD k Log.noRun).left ∧ (t k).2.2 = (s.runs.getD k Log.noRun).back
  lines : Kd.R k43 43 w W0.heap.size (fun _ => True) vl s.lines
  ways : Kd.R (Kd.slice 3 (Kd.int .i64)) 23 w W0.heap.size (fun _ => True) vw s.ways
theorem Wh.below {W0 w w1 : World} {g5 : Nat} {t : Nat → Tri} {vl vw : Value} {s : Log.Log} (h : Wh W0 w g5 t vl vw s) (hb : Below w.heap.size w w1) : Wh W0 w1 g5 t vl vw s :=
  ⟨(Mv.of_below hb (fun _ => False)).below h.bel h.bel.size (fun _ hk => hk.elim), blk_below h.h5 hb, fun k hk => ⟨(h.runs k hk).1.below hb, (h.runs k hk).2.1.below hb, (h.runs k hk).2.2⟩, Kd.R_below h.lines hb, Kd.R_below h.ways hb⟩
theorem at_L31 {w : World} {A : Option Addr} {n : Nat} {xs : List (List Int)} (h : Kd.C (Kd.slice 3 (Kd.int .i64)) w A n xs) (i : Int) (h0 : 0 ≤ i) (h1 : i < n) : ∃ ad A0 c0, A = some ad ∧ w.cell? (ad.add i.toNat) = some (.slice A0 (xs.getD i.toNat []).length c0) ∧ (xs.getD i.toNat []).length ≤ c0 ∧ Kd.C (Kd.int .i64) w A0 (xs.getD i.toNat []).length (xs.getD i.toNat []) := by
  obtain ⟨ad, c, e, _, hK, hc0⟩ := Kd.C_get h ([] : List Int) i h0 h1
  have hc : ∀ j u, c[j]? = some u → w.cell? (ad.add (i.toNat * 1 + j)) = some u := hc0
  obtain ⟨A0, c0, rfl, l0, g0⟩ := hK
  exact ⟨ad, A0, c0, e, by have hq := hc 0 _ rfl; rwa [Nat.mul_one, Nat.add_zero] at hq, l0, g0⟩
theorem drawn0_below {w w' : World} (h : Drawn0 w w') : Below w.heap.size w w' := by
  obtain ⟨nd, rfl⟩ := h
  exact pw_below_drewN (Below.refl _ _) nd
theorem w64 (n : Int) (h : -9223372036854775808 ≤ n ∧ n ≤ 9223372036854775807) : wrap64 n = n := by unfold wrap64; omega
theorem known5000 : tidemarklaw12_known.f 5000 = some true := Pure.known_is 4980
set_option maxHeartbeats 4000000 in
set_option maxRecDepth 100000 in
theorem whole5 {W0 : World} {A0 : Option Addr} {c0 : Nat} (plan : List (Int × Int × Int)) (hn : plan.length ≤ 9223372036854775807) (h0 : Kd.C k58 W0 A0 plan.length plan) :
    Calls Try.prog 5 #[.slice A0 plan.length c0] W0 fun e w' => e = .returned (.bool true) ∧ Below W0.heap.size W0 w' := by
  have Hw := Aside0.mk (written13 (c0 := c0) plan hn h0)
  have Hback := Aside0.mk (Log.whole_back plan)
  have Hundo := Aside0.mk (Log.whole_undo plan)
  have Hlen := Aside0.mk (show (Log.written plan).lines.length ≤ 300 ∧ (Log.written plan).ways.length = (Log.written plan).lines.length from by
    rw [Log.written_upto plan _ rfl]
    have h := Log.upto_small plan (min plan.length 300) (Nat.min_le_left _ _)
    rw [h.lines, h.ways]
    exact ⟨Nat.min_le_right _ _, rfl⟩)
  generalize Log.written plan = s at Hw Hback Hundo Hlen
  clear h0
  go_enter Try.func5, Try.ntmps5
  go_upto_if 24 with (first
    | ((with_reducible refine gate_callee (f := 13) rfl ?_); refine goesL_ (some 19) rfl rfl Try.func13 (by kernel_rfl) rfl #[.slice A0 plan.length c0] rfl (by (try simp only [List.map_toArray, List.map_cons, List.map_nil]); first | done | rfl) ?_
       refine Hw.out.mono ?_
       rintro e w1 ⟨t, vl, vw, rfl, hb1, hruns, hlines, hways⟩
       refine ⟨_, rfl, ?_⟩
       obtain ⟨Al, cl, rfl⟩ := Kd.R_slice hlines
       obtain ⟨Aw, cw, rfl⟩ := Kd.R_slice hways
       have B1 := Aside0.mk hb1
       have R1 := Aside0.mk hruns
       have L1 := Aside0.mk hlines
       have Y1 := Aside0.mk hways
       have hone := Aside0.mk (show (cells12 t).all (·.oneCell') = true from by
         obtain ⟨⟨_, _, a0, _⟩, ⟨_, _, b0, _⟩, _⟩ := hruns 0 (by decide)
         obtain ⟨⟨_, _, a1, _⟩, ⟨_, _, b1, _⟩, _⟩ := hruns 1 (by decide)
         obtain ⟨⟨_, _, a2, _⟩, ⟨_, _, b2, _⟩, _⟩ := hruns 2 (by decide)
         obtain ⟨⟨_, _, a3, _⟩, ⟨_, _, b3, _⟩, _⟩ := hruns 3 (by decide)
         unfold cells12
         rw [a0, b0, a1, b1, a2, b2, a3, b3]
         simp [Value.oneCell'])
       clear hb1 hruns hlines hways)
    | ((with_reducible refine gate_dst (N := 5) rfl ?_); refine box_event ?hg (N := 5) ?hd (cs := cells12 fun _ => (.slice none 0 0, .slice none 0 0, false)) (t := 34) ?hr ?_; (case hd => rfl); (case hg => rfl); (case hr => first | (go_simp; done) | (go_simp; rfl)); intro g5 hg5 w2 hb2 hbel2
       have B5 := Aside0.mk hb2
       have L2 := Aside0.mk hbel2
       have n5 := Aside0.mk (show w1.heap.size ≤ g5 by omega)
       clear hb2 hbel2 hg5)
    | ((with_reducible refine gate_store (t := 34) (p := 5) (v := .tmp 22) rfl ?_); refine store_event rfl rfl (g := g5) rfl rfl B5.out (by kernel_rfl) rfl hone.out ?_
       intro w3 hb3 mv3
       have hlo := Nat.le_trans B1.out.size n5.out
       have hB2 := (Mv.of_below L2.out (fun _ => False)).below B1.out B1.out.size (fun _ hk => hk.elim)
       have hno : ∀ k q, k = g5 → q ≠ 34 → ¬ Ty w2 k q := fun k q hk hq ht => hq ((hk ▸ ht : Ty w2 g5 q).eq B5.out)
       have H3 := Aside0.mk (show Wh W0 w3 g5 t (.slice Al s.lines.length cl) (.slice Aw s.ways.length cw) s from
         ⟨mv3.below hB2 hB2.size (fun k hk => hk ▸ hlo), hb3, fun k hk => ⟨((R1.out k hk).1.below L2.out).move mv3 (fun k hs _ => hno k 3 hs (by decide)), ((R1.out k hk).2.1.below L2.out).move mv3 (fun k hs _ => hno k 3 hs (by decide)), (R1.out k hk).2.2⟩,
           R_tm (Kd.R_below L1.out L2.out) mv3 (fun k q hs _ hq => hno k q hs (e43 q hq).2.2.1), R_tm (Kd.R_below Y1.out L2.out) mv3 (fun k q hs _ hq => hno k q hs (e23 q hq).2.2.1)⟩)
       clear hlo hB2 hno hb3 mv3 R1 L1 Y1 B5 L2 n5)
    | ((with_reducible refine gate_callee (f := 10) rfl ?_); refine goesL_ (some 23) rfl rfl Try.func10 (by kernel_rfl) rfl #[] rfl (by (try simp only [List.map_toArray, List.map_cons, List.map_nil]); first | done | rfl) ?_
       refine (tidemarklaw12_known.calls 5000 true _ known5000).mono ?_
       rintro e w4 ⟨rfl, hb4⟩
       refine ⟨_, rfl, ?_⟩
       have H4 := Aside0.mk (H3.out.below hb4)
       clear hb4))
  go_wp2
  go_loopg [6] s.lines.length (fun kq v6 w' => ∃ i : Nat, v6 = .int .i64 (i : Int) ∧ Aside0 (i + kq = s.lines.length) ∧ Aside0 (Wh W0 w' g5 t (.slice Al s.lines.length cl) (.slice Aw s.ways.length cw) s))
  case atStart => exact ⟨0, rfl, ⟨by omega⟩, H4⟩
  case round =>
    obtain ⟨i, rfl, hik, H5⟩ := hrel
    clear H4
    cases gk with
    | zero =>
      have hi1 : ¬ ((i : Int) < (s.lines.length : Int)) := by have := hik.out; omega
      have hi2 : decide ((i : Int) < (s.lines.length : Int)) = false := decide_eq_false hi1
      have hi3 : decide (i < s.lines.length) = false := decide_eq_false (by omega)
      go_wp2
      go_loopg [10] 4 (fun kq v10 w' => ∃ k : Nat, v10 = .int .i64 (k : Int) ∧ Aside0 (k + kq = 4) ∧ Aside0 (Wh W0 w' g5 t (.slice Al s.lines.length cl) (.slice Aw s.ways.length cw) s))
      case atStart => exact ⟨0, rfl, ⟨rfl⟩, H5⟩
      case round =>
        clear H5
        obtain ⟨k, rfl, hk, H6⟩ := hrel
        cases gk with
        | zero =>
          obtain rfl : k = 4 := hk.out
          go_wp2
          go_ret
          exact ⟨rfl, H6.out.bel⟩
        | succ k1 =>
          have hk4 : k < 4 := by have := hk.out; omega
          have hk5 : (k : Int) < 4 := by omega
          have hk6 : decide ((k : Int) < 4) = true := decide_eq_true hk5
          obtain ⟨wb, hwb, H7⟩ : ∃ wb, wb = _ ∧ Aside0 (Wh W0 wb g5 t (.slice Al s.lines.length cl) (.slice Aw s.ways.length cw) s) := ⟨_, rfl, H6⟩
          subst hwb
          clear H6
          obtain ⟨p, hask, hll⟩ := Hundo.out k hk4
          obtain ⟨_, hrl, _⟩ := H7.out.runs k hk4
          obtain ⟨lf, hlf⟩ : ∃ z, (s.runs.getD k Log.noRun).left = z := ⟨_, rfl⟩
          rw [hlf] at hask hll hrl
          obtain ⟨wy, hwy⟩ : ∃ z, lf.reverse = z := ⟨_, rfl⟩
          rw [hwy] at hask
          obtain ⟨nx, hnx⟩ : ∃ z, wy.headD 0 = z := ⟨_, rfl⟩
          rw [hnx] at hask
          have hlw : wy.length = lf.length := by rw [← hwy, List.length_reverse]
          have Hll := Aside0.mk hll
          have Hask := Aside0.mk hask
          have Hwy := Aside0.mk hwy
          have Hnx := Aside0.mk hnx
          have Hlw := Aside0.mk hlw
          obtain ⟨Alf, clf, hv, hclf, _, _⟩ := hrl.slice
          have Hv := Aside0.mk hv
          have Hlf := Aside0.mk hlf
          have Hcell := Aside0.mk (fun (w : World) (hw : Wh W0 w g5 t (.slice Al s.lines.length cl) (.slice Aw s.ways.length cw) s) => (show w.cell? ⟨g5, k * 3 + 1, none⟩ = some (.slice Alf lf.length clf) from by
            rw [← Hv.out]
            exact range12 hw.h5 k hk4 1 _ rfl))
          have hc7 := Hcell.out _ H7.out
          clear hll hask hwy hnx hlw hrl hv hlf hclf
          go_upto_block 4 with fail
          go_cut [11] (fun v11 wc => Aside0 (Below wb.heap.size wb wc) ∧ Aside0 (Kd.R (Kd.int .i64) 3 wc wb.heap.size (fun _ => True) v11 wy))
          case first =>
            clear hc7
            go_wp2_with fail
            go_loopg [11, 12] lf.length (fun kq v11 v12 wq => ∃ z : Int, v12 = .int .i64 z ∧ Aside0 (z = (kq : Int) - 1) ∧ Aside0 (kq ≤ lf.length) ∧ Aside0 (Below wb.heap.size wb wq) ∧ Aside0 (Kd.R (Kd.int .i64) 3 wq wb.heap.size (fun _ => True) v11 (wy.take (lf.length - kq))))
            case atStart => exact ⟨(lf.length : Int) - 1, by rw [w64 _ (by have := Hll.out; omega)], ⟨rfl⟩, ⟨Nat.le_refl _⟩, ⟨Below.refl _ _⟩, ⟨by rw [Nat.sub_self]; exact Kd.R_nil _ _ _ _ _⟩⟩
            case round =>
              obtain ⟨z, rfl, hz, hkq, hbq, hRq⟩ := hrel
              cases gk with
              | zero =>
                obtain rfl : z = -1 := by have := hz.out; omega
                go_wp2
                go_meet
                case rel => exact ⟨hbq, ⟨by have := hRq.out; rwa [List.take_of_length_le (by rw [Hlw.out]; omega)] at this⟩⟩
              | succ k2 =>
                obtain rfl : z = (k2 : Int) := by have := hz.out; omega
                have hmq := Aside0.mk (H7.out.below hbq.out)
                have hs0 := Hcell.out _ hmq.out
                obtain ⟨_, hrl, _⟩ := hmq.out.runs k hk4
                rw [Hlf.out, Hv.out] at hrl
                obtain ⟨_, _, e1, _, _, hC⟩ := hrl.slice
                injection e1 with e1 e2 e3
                subst e1
                obtain ⟨ad4, rfl, hc4⟩ := Kd.at_int hC (k2 : Int) (by omega) (by have := hkq.out; omega)
                rw [Int.toNat_natCast] at hc4
                obtain ⟨px, hpx⟩ : ∃ px, rd lf (k2 : Int) = px := ⟨_, rfl⟩
                rw [hpx] at hc4
                have hnext := Aside0.mk (show wy.take (lf.length - (k2 + 1)) ++ [px] = wy.take (lf.length - k2) from by
                  have hk := hkq.out
                  rw [← Hwy.out, show lf.length - k2 = (lf.length - (k2 + 1)) + 1 from by omega, List.take_add_one]
                  congr 1
                  rw [List.getElem?_reverse (by omega), ← hpx]
                  have : lf.length - 1 - (lf.length - (k2 + 1)) = k2 := by omega
                  rw [this]
                  simp only [rd, Int.toNat_natCast, List.getD_eq_getElem?_getD]
                  rw [List.getElem?_eq_getElem (by omega)]
                  rfl)
                clear e2 e3 hC hpx hrl
                have hb1 : (k2 : Int) < ((lf.length : Nat) : Int) := by have := hkq.out; omega
                have hb2 : k2 < lf.length := by have := hkq.out; omega
                go_wp2_with (first
                  | ((with_reducible refine gate_builtin (b := .append) (xs := #[.tmp 73, .tmp 81]) rfl ?_); at_builtin; refine Kd.R_append (Kd.int .i64) (w0 := wb) wb.heap.size rfl (.tmp 73) (.tmp 81) 23 3 (.int .i64 0) 8 rfl Try.underlying23 info3 rfl (by decide) (by omega) _ _ px [.int .i64 px] (fun _ => True) (fun _ => False) rfl rfl ?aP (fun _ hk => hk.elim) (fun _ _ => trivial) hRq.out hbq.out hbq.out.size ?aL ?_
                     (case aP => exact rfl)
                     (case aL => rw [List.length_take]; have := Hll.out; omega)
                     intro vo1 w11 ho hbB hgr hat
                     rw [hnext.out] at ho
                     have h11R := Aside0.mk ho
                     have h11B := Aside0.mk hbB
                     clear ho hbB hgr hat))
                go_roundg k2
                case measure => omega
                case rel => exact ⟨(k2 : Int) - 1, by rw [w64 _ (by have := hkq.out; have := Hll.out; omega)], ⟨rfl⟩, ⟨by omega⟩, h11B, h11R⟩
          case rest =>
            obtain ⟨hbw, hRw⟩ := hcut
            have H8 := Aside0.mk (H7.out.below hbw.out)
            obtain ⟨Ao, co, rfl, hco, hCo⟩ := Kd.R_reads hRw.out
            have HCo := Aside0.mk hCo
            have Hco := Aside0.mk hco
            clear hRw hbw hCo hco hc7
            obtain ⟨wd, hwd, H9⟩ : ∃ wd, wd = _ ∧ Aside0 (Wh W0 wd g5 t (.slice Al s.lines.length cl) (.slice Aw s.ways.length cw) s) := ⟨_, rfl, H8⟩
            subst hwd
            clear H8
            go_upto_if 85 with fail
            go_cut [13, 85] (fun v13 v85 wc => v13 = .int .i64 nx ∧ wc = wd)
            case first =>
              by_cases hw0 : wy = []
              · have hd1 : ¬ (0 < wy.length) := by rw [hw0]; simp
                have hd2 : decide (0 < (wy.length : Int)) = false := decide_eq_false (by omega)
                have hd3 : decide (0 < wy.length) = false := decide_eq_false hd1
                have hn0 : nx = 0 := by have := Hnx.out; rw [hw0] at this; exact this.symm
                subst hn0
                clear hw0
                go_wp2
                go_meet
                case rel => exact ⟨rfl, rfl⟩
              · have hl0 : 0 < wy.length := List.length_pos_iff.2 hw0
                have hd0 : (0 : Int) < (wy.length : Int) := by omega
                have hd1 : decide ((wy.length : Int) > 0) = true := decide_eq_true hd0
                obtain ⟨ad5, rfl, hc5⟩ := Kd.at_int HCo.out 0 (by omega) (by omega)
                rw [show ad5.add (Int.toNat 0) = ad5 from Addr.add_zero' ad5, show rd wy 0 = nx from by
                  have := Hnx.out
                  cases hh : wy with
                  | nil => exact absurd hh hw0
                  | cons y ys => rw [hh] at this; exact this] at hc5
                clear hw0
                go_wp2
                go_meet
                case rel => exact ⟨rfl, rfl⟩
            case rest =>
              obtain ⟨rfl, rfl⟩ := hcut
              obtain ⟨wd, hwd, H10⟩ : ∃ wd, wd = _ ∧ Aside0 (Wh W0 wd g5 t (.slice Al s.lines.length cl) (.slice Aw s.ways.length cw) s) := ⟨_, rfl, H9⟩
              subst hwd
              clear H9
              go_upto_if 103 with (first
                | ((with_reducible refine gate_callee (f := 8) rfl ?_); refine goesL_ (some 92) rfl rfl Try.func8 (by kernel_rfl) rfl #[.slice Al s.lines.length cl, .bool false, .bool true, .int .i64 nx] rfl (by (try simp only [List.map_toArray, List.map_cons, List.map_nil]); first | done | rfl) ?_
                   refine (tidemarklaw12_asking.calls 5000 _ _ s.lines false true nx wy 0 p _ (Kd.R_reads' H10.out.lines).2.2 (Kd.R_reads' H10.out.lines).2.1 Hask.out).mono ?_
                   rintro e w6 ⟨v0, v2, rfl, ho0, ho2, hb6⟩
                   refine ⟨_, rfl, ?_⟩
                   have H11 := Aside0.mk (H10.out.below hb6)
                   have W6 := Aside0.mk (Kd.C_below HCo.out hb6)
                   obtain ⟨Ap, cp, rfl, hcp, hCp⟩ := Kd.R_reads ho0
                   have P6 := Aside0.mk (And.intro hcp hCp)
                   clear ho0 ho2 hb6 hcp hCp)
                | ((with_reducible refine gate_dst (N := 101) rfl ?_); refine gate_guard rfl ?_; refine goesL_ (some 101) rfl rfl Try.func11 (by kernel_rfl) rfl #[.slice Ap wy.length cp, .slice Ao wy.length co] rfl (by (try simp only [List.map_toArray, List.map_cons, List.map_nil]); first | done | rfl) ?_; refine (tidemarklaw12_same.calls 5000 Ap cp wy Ao co wy true _ P6.out.2 P6.out.1 W6.out Hco.out (Pure.same_is wy (by have := Hll.out; have := Hlw.out; omega) 5000 (by have := Hll.out; have := Hlw.out; omega))).mono ?_
                   rintro e w7 ⟨rfl, hd7⟩
                   refine ⟨_, rfl, ?_⟩
                   have H12 := Aside0.mk (H11.out.below (Drawn0.below hd7))
                   clear hd7))
              go_wp2
              go_roundg k1
              case measure => omega
              case rel => exact ⟨k + 1, rfl, ⟨by have := hk.out; omega⟩, H12⟩
    | succ k1 =>
      have hi0 : i < s.lines.length := by have := hik.out; omega
      have hi1 : (i : Int) < (s.lines.length : Int) := by omega
      have hi2 : decide ((i : Int) < (s.lines.length : Int)) = true := decide_eq_true hi1
      have hi4 : (i : Int) < (s.ways.length : Int) := by have := Hlen.out; omega
      have hask := Hback.out i hi0
      obtain ⟨ls, hls⟩ : ∃ z, (s.lines.getD i z43).f0 = z := ⟨_, rfl⟩
      obtain ⟨way, hway⟩ : ∃ z, s.ways.getD i [] = z := ⟨_, rfl⟩
      rw [hls, hway] at hask
      have Hask := Aside0.mk hask
      have hread := Aside0.mk (fun (w : World) (hw : Wh W0 w g5 t (.slice Al s.lines.length cl) (.slice Aw s.ways.length cw) s) => at_T43 (Kd.R_reads' hw.lines).2.2 (i : Int) (by omega) hi1)
      have hread2 := Aside0.mk (fun (w : World) (hw : Wh W0 w g5 t (.slice Al s.lines.length cl) (.slice Aw s.ways.length cw) s) => at_L31 (Kd.R_reads' hw.ways).2.2 (i : Int) (by omega) hi4)
      obtain ⟨ad, _, _, _, _, _, _, _, _, rfl, q0, _⟩ := hread.out _ H5.out
      rw [Int.toNat_natCast] at q0
      unfold rd_T43 at q0
      rw [Int.toNat_natCast, hls] at q0
      have Hls := Aside0.mk hls
      have Hway := Aside0.mk hway
      clear hask hls hway
      go_upto_if 58 with (first
        | ((with_reducible refine gate_callee (f := 8) rfl ?_); refine goesL_ (some 38) rfl rfl Try.func8 (by kernel_rfl) rfl #[.slice (some ad) s.lines.length cl, .bool false, .bool false, .int .i64 ls] rfl (by (try simp only [List.map_toArray, List.map_cons, List.map_nil]); first | done | rfl) ?_
           refine (tidemarklaw12_asking.calls 5000 _ _ s.lines false false ls way 0 way _ (Kd.R_reads' H5.out.lines).2.2 (Kd.R_reads' H5.out.lines).2.1 Hask.out.1).mono ?_
           rintro e w6 ⟨v0, v2, rfl, ho0, ho2, hb6⟩
           refine ⟨_, rfl, ?_⟩
           have H6 := Aside0.mk (H5.out.below hb6)
           obtain ⟨Ap, cp, rfl, hcp, hCp⟩ := Kd.R_reads ho0
           obtain ⟨Aq, cq, rfl, hcq, hCq⟩ := Kd.R_reads ho2
           have P6 := Aside0.mk (And.intro hcp hCp)
           have Q6 := Aside0.mk (And.intro hcq hCq)
           obtain ⟨adw, Ay, cy, ey, qy, lcy, hCy⟩ := hread2.out w6 H6.out
           subst ey
           rw [Int.toNat_natCast, Hway.out] at qy lcy hCy
           have Y6 := Aside0.mk (And.intro lcy hCy)
           clear ho0 ho2 hb6 hcp hCp hcq hCq lcy hCy)
        | ((with_reducible refine gate_dst (N := 50) rfl ?_); refine gate_guard rfl ?_; refine goesL_ (some 50) rfl rfl Try.func11 (by kernel_rfl) rfl #[.slice Ap way.length cp, .slice Ay way.length cy] rfl (by (try simp only [List.map_toArray, List.map_cons, List.map_nil]); first | done | rfl) ?_; refine (tidemarklaw12_same.calls 5000 Ap cp way Ay cy way true _ P6.out.2 P6.out.1 Y6.out.2 Y6.out.1 (Pure.same_is way (by have := Hask.out.2; omega) 5000 (by have := Hask.out.2; omega))).mono ?_
           rintro e w7 ⟨rfl, hd7⟩
           refine ⟨_, rfl, ?_⟩
           have hb7 := Drawn0.below hd7
           have H7 := Aside0.mk (H6.out.below hb7)
           have P7 := Aside0.mk (And.intro P6.out.1 (Kd.C_below P6.out.2 hb7))
           have Q7 := Aside0.mk (And.intro Q6.out.1 (Kd.C_below Q6.out.2 hb7))
           clear hd7 hb7)
        | ((with_reducible refine gate_dst (N := 56) rfl ?_); refine gate_guard rfl ?_; refine goesL_ (some 56) rfl rfl Try.func11 (by kernel_rfl) rfl #[.slice Aq way.length cq, .slice Ap way.length cp] rfl (by (try simp only [List.map_toArray, List.map_cons, List.map_nil]); first | done | rfl) ?_; refine (tidemarklaw12_same.calls 5000 Aq cq way Ap cp way true _ Q7.out.2 Q7.out.1 P7.out.2 P7.out.1 (Pure.same_is way (by have := Hask.out.2; omega) 5000 (by have := Hask.out.2; omega))).mono ?_
           rintro e w8 ⟨rfl, hd8⟩
           refine ⟨_, rfl, ?_⟩
           have H8 := Aside0.mk (H7.out.below (Drawn0.below hd8))
           clear hd8))
      go_wp2
      go_roundg k1
      case measure => omega
      case rel => exact ⟨i + 1, by rw [w64 _ (by have := Hlen.out; omega)]; rfl, ⟨by have := hik.out; omega⟩, H8⟩
end Go.Proofs.Ytijlcahikeeigaa.QA
