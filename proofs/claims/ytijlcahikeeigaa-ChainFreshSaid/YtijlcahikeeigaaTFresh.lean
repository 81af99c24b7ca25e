/- ChainFresh, walked. -/
import Derived.Test.YtijlcahikeeigaaTWhole
import Derived.Test.YtijlcahikeeigaaTFam
import Derived.Test.YtijlcahikeeigaaOpens58
namespace Go.Proofs.Ytijlcahikeeigaa.QA
open Go.RowKit Go.Proofs.YtijlcahikeeigaaW.PrintWords Go.Proofs.YtijlcahikeeigaaW.PrintLast Go.Proofs.YtijlcahikeeigaaW.PrintMore
set_option linter.unusedVariables false
set_option linter.unusedSimpArgs false
theorem into15g (n top : Int) (ht : 1 ≤ top ∧ top ≤ 1000) (w : World) : Calls Try.prog 15 #[.int .i64 n, .int .i64 top] w fun e w' => e = .returned (.int .i64 (Log.into n top)) ∧ w = w' := by
  have h0 : (top == 0) = false := beq_eq_false_iff_ne.mpr (by omega)
  have hm1 := Int.lt_tmod_of_pos n (show (0 : Int) < top by omega)
  have hm2 := Int.tmod_lt_of_pos n (show (0 : Int) < top by omega)
  unfold Log.into
  generalize hg : Int.tmod n top = m at hm1 hm2 ⊢
  by_cases h : m < 0
  · have hd := decide_eq_true h
    rw [if_pos h]
    go_enter Try.func15, Try.ntmps15
    go_wp2
    go_ret
    exact ⟨rfl, rfl⟩
  · have hd := decide_eq_false h
    rw [if_neg h]
    go_enter Try.func15, Try.ntmps15
    go_wp2
    go_ret
    exact ⟨rfl, rfl⟩
theorem rd_mark (m n j : Nat) (h : j < n) : rd (mark m n) (j : Int) = -1 - (m : Int) := by
  unfold rd mark
  rw [Int.toNat_natCast, List.getD_eq_getElem?_getD, List.getElem?_replicate, if_pos h]
  rfl
set_option maxHeartbeats 8000000 in
set_option maxRecDepth 100000 in
theorem fresh7 {W0 : World} {A0 : Option Addr} {c0 : Nat} (plan : List (Int × Int × Int)) (at_ : Int) (hn : plan.length ≤ 9223372036854775807) (h0 : Kd.C k58 W0 A0 plan.length plan) :
    Calls Try.prog 7 #[.slice A0 plan.length c0, .int .i64 at_] W0 fun e w' => e = .returned (.bool true) ∧ Below W0.heap.size W0 w' := by
  have Hw := Aside0.mk (written13 (c0 := c0) plan hn h0)
  have Hback := Aside0.mk (Log.whole_back plan)
  have Hbreak := Aside0.mk (Log.fresh_break plan)
  have Hbook := Aside0.mk Log.book_undo
  have Hbk := Aside0.mk Log.book_is
  have Hlen := Aside0.mk (show (Log.written plan).lines.length ≤ 300 ∧ (Log.written plan).ways.length = (Log.written plan).lines.length from by
    rw [Log.written_upto plan _ rfl]
    have h := Log.upto_small plan (min plan.length 300) (Nat.min_le_left _ _)
    rw [h.lines, h.ways]
    exact ⟨Nat.min_le_right _ _, rfl⟩)
  generalize Log.written plan = s at Hw Hback Hbreak Hlen
  clear h0
  go_enter Try.func7, Try.ntmps7
  go_upto_region 2 with (first
    | ((with_reducible refine gate_callee (f := 13) rfl ?_); refine goesL_ (some 35) rfl rfl Try.func13 (by kernel_rfl) rfl #[.slice A0 plan.length c0] rfl (by (try simp only [List.map_toArray, List.map_cons, List.map_nil]); first | done | rfl) ?_
       refine Hw.out.mono ?_
       rintro e w1 ⟨t, vl, vw, rfl, hb1, hruns, hlines, hways⟩
       refine ⟨_, rfl, ?_⟩
       obtain ⟨Al, cl, rfl⟩ := Kd.R_slice hlines
       obtain ⟨Aw, cw, rfl⟩ := Kd.R_slice hways
       have B1 := Aside0.mk hb1
       have R1 := Aside0.mk hruns
       have L1 := Aside0.mk hlines
       have Y1 := Aside0.mk hways
       have hone := Aside0.mk (show (cells12 t).all (·.oneCell') = true from by
         obtain ⟨⟨_, _, a0, _⟩, ⟨_, _, b0, _⟩, _⟩ := hruns 0 (by decide)
         obtain ⟨⟨_, _, a1, _⟩, ⟨_, _, b1, _⟩, _⟩ := hruns 1 (by decide)
         obtain ⟨⟨_, _, a2, _⟩, ⟨_, _, b2, _⟩, _⟩ := hruns 2 (by decide)
         obtain ⟨⟨_, _, a3, _⟩, ⟨_, _, b3, _⟩, _⟩ := hruns 3 (by decide)
         unfold cells12
         rw [a0, b0, a1, b1, a2, b2, a3, b3]
         simp [Value.oneCell'])
       clear hb1 hruns hlines hways)
    | ((with_reducible refine gate_dst (N := 7) rfl ?_); refine box_event ?hg (N := 7) ?hd (cs := cells12 fun _ => (.slice none 0 0, .slice none 0 0, false)) (t := 34) ?hr ?_; (case hd => rfl); (case hg => rfl); (case hr => first | (go_simp; done) | (go_simp; rfl)); intro g5 hg5 w2 hb2 hbel2
       have B5 := Aside0.mk hb2
       have L2 := Aside0.mk hbel2
       have n5 := Aside0.mk (show w1.heap.size ≤ g5 by omega)
       clear hb2 hbel2 hg5)
    | ((with_reducible refine gate_store (t := 34) (p := 7) (v := .tmp 38) rfl ?_); refine store_event rfl rfl (g := g5) rfl rfl B5.out (by kernel_rfl) rfl hone.out ?_
       intro w3 hb3 mv3
       have hlo := Nat.le_trans B1.out.size n5.out
       have hB2 := (Mv.of_below L2.out (fun _ => False)).below B1.out B1.out.size (fun _ hk => hk.elim)
       have hno : ∀ k q, k = g5 → q ≠ 34 → ¬ Ty w2 k q := fun k q hk hq ht => hq ((hk ▸ ht : Ty w2 g5 q).eq B5.out)
       have H3 := Aside0.mk (show Wh W0 w3 g5 t (.slice Al s.lines.length cl) (.slice Aw s.ways.length cw) s from
         ⟨mv3.below hB2 hB2.size (fun k hk => hk ▸ hlo), hb3, fun k hk => ⟨((R1.out k hk).1.below L2.out).move mv3 (fun k hs _ => hno k 3 hs (by decide)), ((R1.out k hk).2.1.below L2.out).move mv3 (fun k hs _ => hno k 3 hs (by decide)), (R1.out k hk).2.2⟩,
           R_tm (Kd.R_below L1.out L2.out) mv3 (fun k q hs _ hq => hno k q hs (e43 q hq).2.2.1), R_tm (Kd.R_below Y1.out L2.out) mv3 (fun k q hs _ hq => hno k q hs (e23 q hq).2.2.1)⟩)
       clear hlo hB2 hno hb3 mv3 R1 L1 Y1 B5 L2 n5))
  have hlenk : s.lines.length ≤ 300 := Hlen.out.1
  have HW := Aside0.mk H3.out
  by_cases hz : s.lines.length = 0
  · have hz1 : ((s.lines.length : Int) == 0) = true := by rw [hz]; rfl
    have hz2 : (s.lines.length == 0) = true := by rw [hz]; rfl
    have hz' := Aside0.mk hz
    clear hz
    go_wp2_with (first
      | ((with_reducible refine gate_dst (N := 39) rfl ?_); refine goesL_ (some 39) rfl rfl Try.func10 (by kernel_rfl) rfl #[] rfl (by (try simp only [List.map_toArray, List.map_cons, List.map_nil]); first | done | rfl) ?_
         refine (tidemarklaw12_known.calls 5000 true _ known5000).mono ?_
         rintro e w4 ⟨rfl, hb4⟩
         refine ⟨_, rfl, ?_⟩
         have H4 := Aside0.mk (H3.out.below hb4)
         clear hb4)
      | ((with_reducible refine gate_dst (N := 46) rfl ?_); refine goesL_ (some 46) rfl rfl Try.func10 (by kernel_rfl) rfl #[] rfl (by (try simp only [List.map_toArray, List.map_cons, List.map_nil]); first | done | rfl) ?_
         refine (tidemarklaw12_known.calls 5000 true _ known5000).mono ?_
         rintro e w5 ⟨rfl, hb5⟩
         refine ⟨_, rfl, ?_⟩
         have H5 := Aside0.mk (H4.out.below hb5)
         clear hb5))
    go_ret
    exact ⟨rfl, H5.out.bel⟩
  · have hz1 : ((s.lines.length : Int) == 0) = false := beq_eq_false_iff_ne.mpr (by omega)
    have hz2 : (s.lines.length == 0) = false := beq_eq_false_iff_ne.mpr hz
    obtain ⟨kn, hkn⟩ : ∃ kn : Nat, Log.into at_ (s.lines.length : Int) = (kn : Int) ∧ kn < s.lines.length := by
      have := Log.into_range at_ (s.lines.length : Int) (by omega)
      exact ⟨(Log.into at_ (s.lines.length : Int)).toNat, by omega, by omega⟩
    have Hkn := Aside0.mk hkn.1
    have hknl := hkn.2
    have hk1 : (kn : Int) < (s.lines.length : Int) := by omega
    have hkl1 := hk1
    have hk4 : (kn : Int) < (s.ways.length : Int) := by have := Hlen.out; omega
    obtain ⟨ls, hls⟩ : ∃ z, (s.lines.getD kn z43).f0 = z := ⟨_, rfl⟩
    obtain ⟨way, hway⟩ : ∃ z, s.ways.getD kn [] = z := ⟨_, rfl⟩
    have hask := Hback.out kn hknl
    rw [hls, hway] at hask
    have Hask := Aside0.mk hask
    have Hls := Aside0.mk hls
    have Hway := Aside0.mk hway
    obtain ⟨pb, hpb⟩ := Hbook.out
    have Hpb := Aside0.mk hpb
    have hread := Aside0.mk (fun (w : World) (hw : Wh W0 w g5 t (.slice Al s.lines.length cl) (.slice Aw s.ways.length cw) s) => at_T43 (Kd.R_reads' hw.lines).2.2 (kn : Int) (by omega) hk1)
    have hread2 := Aside0.mk (fun (w : World) (hw : Wh W0 w g5 t (.slice Al s.lines.length cl) (.slice Aw s.ways.length cw) s) => at_L31 (Kd.R_reads' hw.ways).2.2 (kn : Int) (by omega) hk4)
    obtain ⟨adl, _, _, _, _, _, _, _, _, rfl, q0, _⟩ := hread.out _ H3.out
    have hls' := Aside0.mk (fun (w : World) (hw : Wh W0 w g5 t (.slice (some adl) s.lines.length cl) (.slice Aw s.ways.length cw) s) => (show w.cell? (adl.add (kn * 12)) = some (.int .i64 ls) from by
      obtain ⟨ad, _, _, _, _, _, _, _, _, e, q, _⟩ := hread.out w hw
      injection e with e
      subst e
      rw [Int.toNat_natCast] at q
      unfold rd_T43 at q
      rw [Int.toNat_natCast, Hls.out] at q
      exact q))
    clear hkn hask hls hway hpb q0
    go_upto_region 5 with (first
      | ((with_reducible refine gate_dst (N := 39) rfl ?_); refine goesL_ (some 39) rfl rfl Try.func10 (by kernel_rfl) rfl #[] rfl (by (try simp only [List.map_toArray, List.map_cons, List.map_nil]); first | done | rfl) ?_
         refine (tidemarklaw12_known.calls 5000 true _ known5000).mono ?_
         rintro e w4 ⟨rfl, hb4⟩
         refine ⟨_, rfl, ?_⟩
         have H4 := Aside0.mk (H3.out.below hb4)
         clear hb4)
      | ((with_reducible refine gate_dst (N := 50) rfl ?_); refine goesL_ (some 50) rfl rfl Try.func15 (by kernel_rfl) rfl #[.int .i64 at_, .int .i64 (s.lines.length : Int)] rfl (by (try simp only [List.map_toArray, List.map_cons, List.map_nil]); first | done | rfl) ?_; refine (into15g at_ (s.lines.length : Int) (by omega) _).mono ?_; rintro e w5 ⟨rfl, rfl⟩; refine ⟨_, rfl, ?_⟩; rw [Hkn.out]))
    obtain ⟨Wb, hWb, HB⟩ : ∃ W, W = _ ∧ Aside0 (Wh W0 W g5 t (.slice (some adl) s.lines.length cl) (.slice Aw s.ways.length cw) s) := ⟨_, rfl, H4⟩
    subst hWb
    have q4 := hls'.out _ HB.out
    clear H4 H3
    obtain ⟨n, hn_⟩ : ∃ n : Nat → Nat, n = fun m => if m = 0 then way.length else if m = 1 then way.length else 2 := ⟨_, rfl⟩
    have Hn := Aside0.mk hn_
    clear hn_
    go_upto_region 10 with (first
      | ((with_reducible refine gate_dst (N := 58) rfl ?_); refine goesL_ (some 58) rfl rfl Try.func8 (by kernel_rfl) rfl #[.slice (some adl) s.lines.length cl, .bool false, .bool false, .int .i64 ls] rfl (by (try simp only [List.map_toArray, List.map_cons, List.map_nil]); first | done | rfl) ?_
         refine (tidemarklaw12_asking.calls 5000 _ _ s.lines false false ls way 0 way _ (Kd.R_reads' HB.out.lines).2.2 (Kd.R_reads' HB.out.lines).2.1 Hask.out.1).mono ?_
         rintro e w6 ⟨v0, v2, rfl, ho0, ho2, hb_⟩
         refine ⟨_, rfl, ?_⟩
         obtain ⟨Aa, ca, rfl, _, _⟩ := Kd.R_reads ho0
         obtain ⟨_, _, rfl, _, _⟩ := Kd.R_reads ho2
         have Ra := Aside0.mk ho0
         have L6 := Aside0.mk hb_
         have H6 := Aside0.mk (HB.out.below hb_)
         have q6 := hls'.out _ H6.out
         clear ho0 ho2 hb_)
      | ((with_reducible refine gate_dst (N := 69) rfl ?_); refine goesL_ (some 69) rfl rfl Try.func8 (by kernel_rfl) rfl #[.slice (some adl) s.lines.length cl, .bool false, .bool false, .int .i64 ls] rfl (by (try simp only [List.map_toArray, List.map_cons, List.map_nil]); first | done | rfl) ?_
         refine (tidemarklaw12_asking.calls 5000 _ _ s.lines false false ls way 0 way _ (Kd.R_reads' H6.out.lines).2.2 (Kd.R_reads' H6.out.lines).2.1 Hask.out.1).mono ?_
         rintro e w7 ⟨v0, v2, rfl, ho0, ho2, hb_⟩
         refine ⟨_, rfl, ?_⟩
         obtain ⟨Ab, cb, rfl, _, _⟩ := Kd.R_reads ho0
         obtain ⟨_, _, rfl, _, _⟩ := Kd.R_reads ho2
         have Rb := Aside0.mk ho0
         have L7 := Aside0.mk hb_
         have H7 := Aside0.mk (H6.out.below hb_)
         have q7 := hls'.out _ H7.out
         clear ho0 ho2 hb_)
      | ((with_reducible refine gate_dst (N := 74) rfl ?_); refine goesL_ (some 74) rfl rfl Try.func16 (by kernel_rfl) rfl #[] rfl (by (try simp only [List.map_toArray, List.map_cons, List.map_nil]); first | done | rfl) ?_
         refine (tidemarklaw12_book.calls Log.bk _ Hbk.out).mono ?_
         rintro e w8 ⟨v0, rfl, hs0, hb_⟩
         refine ⟨_, rfl, ?_⟩
         obtain ⟨Ak1, ck1, rfl, hck, hCk⟩ := Kd.R_reads (Kd.S_R hs0)
         have K1 := Aside0.mk (And.intro hck hCk)
         have L8 := Aside0.mk hb_
         have H8 := Aside0.mk (H7.out.below hb_)
         clear hs0 hb_ hck hCk)
      | ((with_reducible refine gate_dst (N := 75) rfl ?_); refine goesL_ (some 75) rfl rfl Try.func8 (by kernel_rfl) rfl #[.slice Ak1 Log.bk.length ck1, .bool false, .bool true, .int .i64 109] rfl (by (try simp only [List.map_toArray, List.map_cons, List.map_nil]); first | done | rfl) ?_
         refine (tidemarklaw12_asking.calls 5000 _ _ Log.bk false true 109 [109, 35] 0 pb _ K1.out.2 K1.out.1 Hpb.out).mono ?_
         rintro e w9 ⟨v0, v2, rfl, ho0, ho2, hb_⟩
         refine ⟨_, rfl, ?_⟩
         obtain ⟨Ac, cc, rfl, _, _⟩ := Kd.R_reads ho0
         obtain ⟨_, _, rfl, _, _⟩ := Kd.R_reads ho2
         have Rc := Aside0.mk ho0
         have L9 := Aside0.mk hb_
         have H9 := Aside0.mk (H8.out.below hb_)
         clear ho0 ho2 hb_)
      | ((with_reducible refine gate_dst (N := 80) rfl ?_); refine goesL_ (some 80) rfl rfl Try.func16 (by kernel_rfl) rfl #[] rfl (by (try simp only [List.map_toArray, List.map_cons, List.map_nil]); first | done | rfl) ?_
         refine (tidemarklaw12_book.calls Log.bk _ Hbk.out).mono ?_
         rintro e w10 ⟨v0, rfl, hs0, hb_⟩
         refine ⟨_, rfl, ?_⟩
         obtain ⟨Ak2, ck2, rfl, hck, hCk⟩ := Kd.R_reads (Kd.S_R hs0)
         have K2 := Aside0.mk (And.intro hck hCk)
         have L10 := Aside0.mk hb_
         have H10 := Aside0.mk (H9.out.below hb_)
         clear hs0 hb_ hck hCk)
      | ((with_reducible refine gate_dst (N := 81) rfl ?_); refine goesL_ (some 81) rfl rfl Try.func8 (by kernel_rfl) rfl #[.slice Ak2 Log.bk.length ck2, .bool false, .bool true, .int .i64 109] rfl (by (try simp only [List.map_toArray, List.map_cons, List.map_nil]); first | done | rfl) ?_
         refine (tidemarklaw12_asking.calls 5000 _ _ Log.bk false true 109 [109, 35] 0 pb _ K2.out.2 K2.out.1 Hpb.out).mono ?_
         rintro e w11 ⟨v0, v2, rfl, ho0, ho2, hb_⟩
         refine ⟨_, rfl, ?_⟩
         obtain ⟨Ad, cd, rfl, _, _⟩ := Kd.R_reads ho0
         obtain ⟨_, _, rfl, _, _⟩ := Kd.R_reads ho2
         have Rd := Aside0.mk ho0
         have L11 := Aside0.mk hb_
         have H11 := Aside0.mk (H10.out.below hb_)
         clear ho0 ho2 hb_)
      | ((with_reducible refine gate_dst (N := 89) rfl ?_); refine lit4_event rfl (four (.slice Aa way.length ca) (.slice Ab way.length cb) (.slice Ac ([109, 35] : List Int).length cc) (.slice Ad ([109, 35] : List Int).length cd)) rfl rfl rfl rfl rfl (lit31 _ Aa Ab Ac Ad way.length way.length 2 2 ca cb cc cd) ?_
         intro gA w12 hgA hA hbA
         have F12 := Aside0.mk (show ∃ (v : Nat → Value) (xs : Nat → List Int), Fr Wb w12 gA v xs ∧ (∀ m, m < 4 → (xs m).length = n m) from by
           refine ⟨_, _, Fr.make Ra.out Rb.out (Kd.R_lower Rc.out L8.out.size) (Kd.R_lower Rd.out L10.out.size) L6.out L7.out ((Mv.of_below L9.out (fun _ => False)).below L8.out L8.out.size (fun _ h => h.elim)) ((Mv.of_below L11.out (fun _ => False)).below L10.out L10.out.size (fun _ h => h.elim)) hbA hgA hA, fun m hm => ?_⟩
           rw [Hn.out]
           have : m = 0 ∨ m = 1 ∨ m = 2 ∨ m = 3 := by omega
           rcases this with rfl | rfl | rfl | rfl <;> rfl)
         clear hgA hA hbA))
    obtain ⟨v, xs0, hF0, hl0⟩ := F12.out
    have HF := Aside0.mk hF0
    have HL := Aside0.mk hl0
    clear hF0 hl0 F12 q4 q6 q7
    obtain ⟨Wx, hWx, HF⟩ : ∃ W, W = _ ∧ Aside0 (Fr Wb W gA v xs0) := ⟨_, rfl, HF⟩
    subst hWx
    have hform := Aside0.mk (show ∀ m, m < 4 → ∃ A c, v m = .slice A (n m) c from fun m hm => by
      obtain ⟨A, c, e⟩ := Kd.R_slice (HF.out.rows m hm)
      rw [HL.out m hm] at e
      exact ⟨A, c, e⟩)
    have hnb := Aside0.mk (show ∀ m, m < 4 → n m ≤ 300 from fun m hm => by
      have hw := Hask.out.2
      rw [Hn.out]
      have : m = 0 ∨ m = 1 ∨ m = 2 ∨ m = 3 := by omega
      rcases this with rfl | rfl | rfl | rfl
      · exact hw
      · exact hw
      · exact (show 2 ≤ 300 by decide)
      · exact (show 2 ≤ 300 by decide))
    go_upto_block 0 with fail
    go_cut [] (fun wc => ∃ ys : Nat → List Int, Aside0 (Fr Wb wc gA v ys) ∧ Aside0 (∀ m, m < 4 → ys m = mark m (n m)))
    case first =>
      go_wp2_with fail
      go_loopg [23] 4 (fun kq v23 w' => ∃ (i : Nat) (xs : Nat → List Int), v23 = .int .i64 (i : Int) ∧ Aside0 (i + kq = 4) ∧ Aside0 (Fr Wb w' gA v xs) ∧ Aside0 (∀ m, m < 4 → (xs m).length = n m) ∧ Aside0 (∀ m, m < i → xs m = mark m (n m)))
      case atStart => exact ⟨0, xs0, rfl, ⟨rfl⟩, HF, HL, ⟨fun m hm => by omega⟩⟩
      case round =>
        clear HF
        obtain ⟨i, xs, rfl, hik, hF, hL, hM⟩ := hrel
        cases gk with
        | zero =>
          obtain rfl : i = 4 := hik.out
          go_wp2
          go_meet
          case rel => exact ⟨xs, hF, ⟨fun m hm => hM.out m (by omega)⟩⟩
        | succ k1 =>
          have hi4 : i < 4 := by have := hik.out; omega
          have hi5 : (i : Int) < 4 := by omega
          have hi6 : decide ((i : Int) < 4) = true := decide_eq_true hi5
          obtain ⟨Ai, ci, hvi⟩ := hform.out i hi4
          have Hvi := Aside0.mk hvi
          have hcA := Aside0.mk (fun (w : World) (ys : Nat → List Int) (h : Fr Wb w gA v ys) => (show w.cell? ⟨gA, i, none⟩ = some (.slice Ai (n i) ci) from by
            rw [blk_cell h.hA, arr4_at v i hi4, hvi]))
          clear hvi
          go_wp2
          go_loopg [24] (n i) (fun kq v24 w' => ∃ (j : Nat) (xs : Nat → List Int), v24 = .int .i64 (j : Int) ∧ Aside0 (j + kq = n i) ∧ Aside0 (Fr Wb w' gA v xs) ∧ Aside0 (∀ m, m < 4 → (xs m).length = n m) ∧ Aside0 (∀ m, m < i → xs m = mark m (n m)) ∧ Aside0 ((xs i).take j = mark i j))
          case atStart => exact ⟨0, xs, rfl, ⟨by omega⟩, hF, hL, hM, ⟨rfl⟩⟩
          case round =>
            clear hF hL hM
            obtain ⟨j, xs, rfl, hjk, hF, hL, hM, hT⟩ := hrel
            have hc := hcA.out _ _ hF.out
            have hni : n i ≤ 300 := hnb.out i hi4
            cases gk with
            | zero =>
              obtain rfl : j = n i := hjk.out
              have hd1 : ¬ ((n i : Int) < (n i : Int)) := by omega
              go_wp2
              go_roundg k1
              case measure => omega
              case rel => exact ⟨i + 1, xs, rfl, ⟨by have := hik.out; omega⟩, hF, hL, ⟨fun m hm => by
                by_cases e : m = i
                · subst e
                  have := hT.out
                  rwa [List.take_of_length_le (by rw [hL.out m hi4]; exact Nat.le_refl _)] at this
                · exact hM.out m (by omega)⟩⟩
            | succ k2 =>
              have hj0 : j < n i := by have := hjk.out; omega
              have hj1 : (j : Int) < (n i : Int) := by omega
              have hj2 : decide ((j : Int) < (n i : Int)) = true := decide_eq_true hj1
              obtain ⟨g, cap, cur, he, hg, hjc, hput⟩ := row_open (hF.out.rows i hi4) j (by rw [hL.out i hi4]; exact hj0)
              rw [Hvi.out, hL.out i hi4] at he
              injection he with e1 e2 e3
              subst e1 e3
              have Hg := Aside0.mk hg
              have Hput := Aside0.mk hput
              clear hg hput e2
              go_wp2_with (first
                | ((with_reducible refine gate_store (t := 3) (p := 110) (v := .tmp 109) rfl ?_); refine put_event rfl rfl (g := g) (i := j) (v := .int .i64 (-1 - (i : Int))) rfl rfl rfl rfl Hg.out hjc (by kernel_rfl) ?_
                   intro w13 hb13 mv13
                   have F13 := Aside0.mk (hF.out.put hi4 (g := g) (by rw [Hvi.out]; rfl) mv13 (Hput.out w13 _ hb13))
                   clear hb13 mv13))
              go_roundg k2
              case measure => omega
              case rel => exact ⟨j + 1, _, rfl, ⟨by have := hjk.out; omega⟩, F13, ⟨fun m hm => by
                unfold updL
                split
                · rename_i e; subst e; rw [List.length_set]; exact hL.out m hm
                · exact hL.out m hm⟩, ⟨fun m hm => by
                unfold updL
                rw [if_neg (by omega)]
                exact hM.out m hm⟩, ⟨by
                unfold updL
                rw [if_pos rfl, set_take _ _ _ (by rw [hL.out i hi4]; exact hj0), hT.out, mark_add]⟩⟩
    case rest =>
      obtain ⟨ys, hFy, hMy⟩ := hcut
      clear HF HL
      have hFm := Aside0.mk (show ∃ Wc, Wc = wc ∧ Fr Wb Wc gA v (fun m => mark m (n m)) from ⟨_, rfl, hFy.out.bel, hFy.out.hA, hFy.out.bA, fun m hm => by
        have := hFy.out.rows m hm
        rw [hMy.out m hm] at this
        exact this, hFy.out.apart⟩)
      obtain ⟨Wc, hWc, hFm2⟩ := hFm.out
      have hFl := Aside0.mk (Fl.start hFm2)
      subst hWc
      clear hFm hFm2 hFy hMy
      go_upto_block 4 with fail
      go_cut [22] (fun v22 w' => Aside0 (Fl Wb Wc w' gA v n 4 v22))
      case first =>
        go_wp2_with fail
        go_loopg [22, 25] 4 (fun kq v22 v25 w' => ∃ (i : Nat), v25 = .int .i64 (i : Int) ∧ Aside0 (i + kq = 4) ∧ Aside0 (Fl Wb Wc w' gA v n i v22))
        case atStart => exact ⟨0, rfl, ⟨rfl⟩, hFl⟩
        case round =>
          clear hFl
          obtain ⟨i, rfl, hik, hF⟩ := hrel
          cases gk with
          | zero =>
            obtain rfl : i = 4 := hik.out
            go_wp2
            go_meet
            case rel => exact hF
          | succ k1 =>
            have hi4 : i < 4 := by have := hik.out; omega
            have hi5 : (i : Int) < 4 := by omega
            have hi6 : decide ((i : Int) < 4) = true := decide_eq_true hi5
            obtain ⟨Ai, ci, hvi⟩ := hform.out i hi4
            have Hvi := Aside0.mk hvi
            obtain ⟨Ws, hWs, hF⟩ : ∃ W, W = _ ∧ Aside0 (Fl Wb Wc W gA v n i _) := ⟨_, rfl, hF⟩
            subst hWs
            have hcA : Ws.cell? ⟨gA, i, none⟩ = some (.slice Ai (n i) ci) := by
              rw [blk_cell hF.out.hA, arr4_at v i hi4, hvi]
            have hni := Aside0.mk (hnb.out i hi4)
            have hFi := Aside0.mk (Fi.start hF.out hi4)
            rw [hvi] at hFi
            clear hvi
            go_wp2
            go_loopg [26, 27] 40 (fun kq v26 v27 wq => ∃ (j : Nat), v27 = .int .i64 (j : Int) ∧ Aside0 (j + kq = 40) ∧ Aside0 (Fi Wb Ws wq v n i j v26))
            case atStart => exact ⟨0, rfl, ⟨rfl⟩, hFi⟩
            case round =>
              clear hFi hcA
              obtain ⟨j, rfl, hjk, hFi⟩ := hrel
              obtain ⟨Am, cm, rfl⟩ := Kd.R_slice hFi.out.row
              cases gk with
              | zero =>
                obtain rfl : j = 40 := hjk.out
                obtain ⟨i1, i2, i3, i4, i5, i6⟩ := hF.out.inner hi4 hFi.out
                have I1 := Aside0.mk i1
                have I6 := Aside0.mk i6
                clear i1 i2 i3 i4 i5 i6
                go_wp2_with (first
                  | ((with_reducible refine gate_builtin (b := .append) (xs := #[.tmp 128, .tmp 130]) rfl ?_); at_builtin; refine Kd.R_append (Kd.slice 3 (Kd.int .i64)) (w0 := Wb) Wb.heap.size rfl (.tmp 128) (.tmp 130) 31 23 _ 24 rfl Try.underlying31 info23 rfl (by decide) (by omega) _ _ (mark i (n i + 40)) [.slice Am (mark i (n i + 40)).length cm] (fun k => (∃ m, m < i + 1 ∧ (v m).ownBlock = some k) ∨ Wc.heap.size ≤ k) (fun k => (Value.slice Am (mark i (n i + 40)).length cm).ownBlock = some k) rfl rfl ?aP ?aK ?aF (Kd.R_mono I6.out (fun k hk => hk.elim (fun ⟨m, hm, h⟩ => .inl ⟨m, by omega, h⟩) .inr)) I1.out I1.out.size ?aL ?_
                     (case aP => exact ⟨_, rfl, Kd.R_mono (Kd.R_tight2 rfl hFi.out.row) (fun k hk => hk.1.symm)⟩)
                     (case aK =>
                       intro k hk
                       rcases hFi.out.at_ with h1 | ⟨b, hb, hle⟩
                       · rw [h1] at hk
                         exact ⟨.inl ⟨i, by omega, hk⟩, fun he => by have := hF.out.lblk k he.symm; have := hF.out.old i k hi4 hk; omega⟩
                       · rw [hb] at hk
                         injection hk with hk
                         subst hk
                         exact ⟨.inr (Nat.le_trans hF.out.sz hle), fun he => by have := Kd.R_lt hF.out.long b he.symm; omega⟩)
                     (case aF => exact fun k hk => .inr (Nat.le_trans (Nat.le_trans hF.out.sz hFi.out.mv.size) hk))
                     (case aL => simp; omega)
                     intro vo2 w15 ho hbB hgr hat
                     have F15 := Aside0.mk (hF.out.step hi4 hFi.out hbB hgr hat ho)
                     clear ho hbB hgr hat))
                go_roundg k1
                case measure => omega
                case rel => exact ⟨i + 1, rfl, ⟨by have := hik.out; omega⟩, F15⟩
              | succ k2 =>
                have hj1 : (j : Int) < 40 := by have := hjk.out; omega
                have hj2 : decide ((j : Int) < 40) = true := decide_eq_true hj1
                go_wp2_with (first
                  | ((with_reducible refine gate_builtin (b := .append) (xs := #[.tmp 123, .tmp 126]) rfl ?_); at_builtin; refine keep_event (base := Wb.heap.size) (Nat.le_trans (Nat.le_trans hF.out.bc hF.out.sz) hFi.out.mv.size) rfl (.tmp 123) (.tmp 126) rfl Try.underlying23 info3 (xs := mark i (n i + j)) (-1 - (i : Int)) rfl rfl hFi.out.row (by rw [mark_len]; have := hni.out; omega) ?_
                     intro v1 w16 hR hm hat hC
                     have F16 := Aside0.mk (hFi.out.step hR hm hat hC)
                     clear hR hm hat hC))
                go_roundg k2
                case measure => omega
                case rel => exact ⟨j + 1, rfl, ⟨by have := hjk.out; omega⟩, F16⟩
      case rest =>
        clear hFl
        obtain ⟨Wd, hWd, hF⟩ : ∃ W, W = _ ∧ Aside0 (Fl Wb Wc W gA v n 4 _) := ⟨_, rfl, hcut⟩
        subst hWd
        clear hcut
        obtain ⟨Ag, cg, hlong⟩ := Kd.R_slice hF.out.long
        rw [show ((List.range 4).map fun m => mark m (n m + 40)).length = 4 from by simp] at hlong
        subst hlong
        have hlr := Aside0.mk (Kd.R_reads' hF.out.long).2.2
        rw [show ((List.range 4).map fun m => mark m (n m + 40)).length = 4 from by simp] at hlr
        go_upto_block 8 with fail
        go_cut [] (fun w' => w' = Wd)
        case first =>
          go_wp2_with fail
          go_loopg [28] 4 (fun kq v28 w' => ∃ (i : Nat), v28 = .int .i64 (i : Int) ∧ w' = Wd ∧ Aside0 (i + kq = 4))
          case atStart => exact ⟨0, rfl, rfl, ⟨rfl⟩⟩
          case round =>
            obtain ⟨i, rfl, rfl, hik⟩ := hrel
            cases gk with
            | zero =>
              obtain rfl : i = 4 := hik.out
              go_wp2
              go_meet
              case rel => rfl
            | succ k1 =>
              have hi4 : i < 4 := by have := hik.out; omega
              have hi5 : (i : Int) < 4 := by omega
              have hi6 : decide ((i : Int) < 4) = true := decide_eq_true hi5
              obtain ⟨Wd, hWd, hF⟩ : ∃ W, W = _ ∧ Aside0 (Fl Wb Wc W gA v n 4 _) := ⟨_, rfl, hF⟩
              subst hWd
              obtain ⟨Ai, ci, hvi, hci, hCi⟩ := (hF.out.reads i hi4).slice
              have hcA : Wd.cell? ⟨gA, i, none⟩ = some (.slice Ai (n i) ci) := by
                rw [blk_cell hF.out.hA, arr4_at v i hi4, hvi]
              obtain ⟨adg, A1, c1, rfl, hcg, hc1, hC1⟩ := at_L31 hlr.out (i : Int) (by omega) (by omega)
              have hgi : ((List.range 4).map fun m => mark m (n m + 40)).getD (i : Int).toNat [] = mark i (n i + 40) := by
                simp [hi4]
              rw [hgi, mark_len] at hcg hc1 hC1
              rw [Int.toNat_natCast] at hcg
              have HCi := Aside0.mk hCi
              have HC1 := Aside0.mk hC1
              have hni := hnb.out i hi4
              clear hCi hC1 hgi hvi hci hc1
              go_wp2
              go_loopg [29] (n i + 40) (fun kq v29 w' => ∃ (j : Nat), v29 = .int .i64 (j : Int) ∧ w' = Wd ∧ Aside0 (j + kq = n i + 40))
              case atStart => exact ⟨0, rfl, rfl, ⟨by omega⟩⟩
              case round =>
                obtain ⟨j, rfl, rfl, hjk⟩ := hrel
                cases gk with
                | zero =>
                  obtain rfl : j = n i + 40 := hjk.out
                  have hd1 : ¬ (((n i + 40 : Nat) : Int) < ((n i + 40 : Nat) : Int)) := by omega
                  go_wp2
                  go_roundg k1
                  case measure => omega
                  case rel => exact ⟨i + 1, rfl, rfl, ⟨by have := hik.out; omega⟩⟩
                | succ k2 =>
                  have hj0 : j < n i + 40 := by have := hjk.out; omega
                  have hj1 : (j : Int) < ((n i + 40 : Nat) : Int) := by omega
                  have hj1' : (j : Int) < (n i : Int) + 40 := by omega
                  have hj2 : decide ((j : Int) < ((n i + 40 : Nat) : Int)) = true := decide_eq_true hj1
                  obtain ⟨ad1, e1, hx1⟩ := Kd.at_int HC1.out (j : Int) (by omega) hj1
                  subst e1
                  rw [Int.toNat_natCast, rd_mark _ _ _ hj0] at hx1
                  by_cases hjn : j < n i
                  · have hk1 : (j : Int) < (n i : Int) := by omega
                    have hk2 : decide ((j : Int) < (n i : Int)) = true := decide_eq_true hk1
                    obtain ⟨ad2, e2, hx2⟩ := Kd.at_int HCi.out (j : Int) (by omega) hk1
                    subst e2
                    rw [Int.toNat_natCast, rd_mark _ _ _ hjn] at hx2
                    go_wp2
                    go_roundg k2
                    case measure => omega
                    case rel => exact ⟨j + 1, rfl, rfl, ⟨by have := hjk.out; omega⟩⟩
                  · have hk1 : ¬ ((j : Int) < (n i : Int)) := by omega
                    have hk2 : decide ((j : Int) < (n i : Int)) = false := decide_eq_false hk1
                    have hk3 : decide (j < n i) = false := decide_eq_false hjn
                    go_wp2
                    go_roundg k2
                    case measure => omega
                    case rel => exact ⟨j + 1, rfl, rfl, ⟨by have := hjk.out; omega⟩⟩
        case rest =>
          subst hcut
          obtain ⟨Wd, hWd, hF⟩ : ∃ W, W = _ ∧ Aside0 (Fl Wb Wc W gA v n 4 _) := ⟨_, rfl, hF⟩
          subst hWd
          have HD := Aside0.mk (HB.out.below hF.out.bel)
          have q4 := hls'.out _ HD.out
          have hkind := Aside0.mk (fun (w : World) (hw : Wh W0 w g5 t (.slice (some adl) s.lines.length cl) (.slice Aw s.ways.length cw) s) => (show w.cell? ⟨(adl.add (kn * 12)).block, (adl.add (kn * 12)).off + 1, none⟩ = some (.int .i64 (s.lines.getD kn z43).f1.f0) from by
            obtain ⟨ad, _, _, _, _, _, _, _, _, e, _, q, _⟩ := hread.out w hw
            injection e with e
            subst e
            rw [Int.toNat_natCast] at q
            unfold rd_T43 at q
            rw [Int.toNat_natCast] at q
            exact q))
          obtain ⟨kd, hkd⟩ : ∃ z, (s.lines.getD kn z43).f1.f0 = z := ⟨_, rfl⟩
          rw [hkd] at hkind
          have Hkd := Aside0.mk hkd
          clear hkd hlr hform
          go_upto_if 221 with (first
            | ((with_reducible refine gate_dst (N := 183) rfl ?_); refine goesL_ (some 183) rfl rfl Try.func8 (by kernel_rfl) rfl #[.slice (some adl) s.lines.length cl, .bool false, .bool false, .int .i64 ls] rfl (by (try simp only [List.map_toArray, List.map_cons, List.map_nil]); first | done | rfl) ?_
               refine (tidemarklaw12_asking.calls 5000 _ _ s.lines false false ls way 0 way _ (Kd.R_reads' HD.out.lines).2.2 (Kd.R_reads' HD.out.lines).2.1 Hask.out.1).mono ?_
               rintro e w20 ⟨v0, v2, rfl, ho0, ho2, hb_⟩
               refine ⟨_, rfl, ?_⟩
               obtain ⟨Ae, ce, rfl, _, _⟩ := Kd.R_reads ho0
               obtain ⟨_, _, rfl, _, _⟩ := Kd.R_reads ho2
               have Re := Aside0.mk (Kd.R_reads ho0)
               have L20 := Aside0.mk hb_
               have H20 := Aside0.mk (HD.out.below hb_)
               have q20 := hls'.out _ H20.out
               have P20 := Aside0.mk (show way.length ≤ ce ∧ Kd.C (Kd.int .i64) w20 Ae way.length way from by
                 obtain ⟨_, _, e, h1, h2⟩ := Re.out
                 injection e with e1 e2 e3
                 subst e1 e3
                 exact ⟨h1, h2⟩)
               obtain ⟨adw, Ay, cy, ey, qy, lcy, hCy⟩ := hread2.out w20 H20.out
               subst ey
               rw [Int.toNat_natCast, Hway.out] at qy lcy hCy
               have Y20 := Aside0.mk (And.intro lcy hCy)
               clear lcy hCy
               clear ho0 ho2 hb_)
            | ((with_reducible refine gate_dst (N := 195) rfl ?_); refine gate_guard rfl ?_; refine goesL_ (some 195) rfl rfl Try.func11 (by kernel_rfl) rfl #[.slice Ae way.length ce, .slice Ay way.length cy] rfl (by (try simp only [List.map_toArray, List.map_cons, List.map_nil]); first | done | rfl) ?_; refine (tidemarklaw12_same.calls 5000 Ae ce way Ay cy way true _ P20.out.2 P20.out.1 Y20.out.2 Y20.out.1 (Pure.same_is way (by have := Hask.out.2; omega) 5000 (by have := Hask.out.2; omega))).mono ?_
               rintro e w21 ⟨rfl, hd21⟩
               refine ⟨_, rfl, ?_⟩
               have H21 := Aside0.mk (H20.out.below (Drawn0.below hd21))
               clear hd21))
          have q21 := hkind.out _ H21.out
          have r21 := hls'.out _ H21.out
          by_cases hk1 : kd = 1
          · have dk : (kd == 1) = true := beq_iff_eq.mpr hk1
            clear hk1
            go_wp2
            go_ret
            exact ⟨rfl, H21.out.bel⟩
          · have dk : (kd == 1) = false := beq_eq_false_iff_ne.mpr hk1
            have Hk1 := Aside0.mk hk1
            clear hk1
            go_upto_region 40 with fail
            obtain ⟨gl, e⟩ := Kd.R_head H21.out.lines
            subst e
            rw [Addr.add_mid, Nat.zero_add] at r21
            clear q21
            obtain ⟨c, hcl, hM, hcc, _⟩ := Kd.R_elem H21.out.lines z43 (kn : Int) (by omega) hkl1
            obtain ⟨v7, v8, v10, v11, rfl, g7, g8, g10, g11⟩ := k43_openM hM
            have Hcc := Aside0.mk hcc
            have Hcl := Aside0.mk hcl
            obtain ⟨pz, hpz⟩ := Hbreak.out kn hknl (by rw [Hkd.out]; exact Hk1.out)
            rw [Hls.out] at hpz
            have Hpz := Aside0.mk hpz
            have HM := Aside0.mk (k43_mkM w21 W0.heap.size (fun k => True ∧ k ≠ gl) (Log.turned (s.lines.getD (kn : Int).toNat z43)) (v7 := v7) g7 (v8 := v8) g8 (v10 := v10) g10 (v11 := v11) g11)
            clear hcc hcl hM hpz g7 g8 g10 g11
            have hcall := Aside0.mk (fun (A : Option Addr) (w : World) (hC : Kd.C k43 w A (s.lines.set kn (Log.turned (s.lines.getD kn z43))).length (s.lines.set kn (Log.turned (s.lines.getD kn z43)))) (hc : (s.lines.set kn (Log.turned (s.lines.getD kn z43))).length ≤ cl) => tidemarklaw12_asking.calls 5000 A cl (s.lines.set kn (Log.turned (s.lines.getD kn z43))) false false ls [] 120 pz w hC hc Hpz.out)
            rw [List.length_set] at hcall
            go_upto_region 41 with (first
              | ((with_reducible refine gate_store (t := 3) (p := 238) (v := .tmp 235) rfl ?_); refine Kd.R_store k43 (w0 := W0) W0.heap.size rfl rfl 3 (.tmp 238) (.tmp 235) rfl 43 (g := gl) (n := s.lines.length) (cap := cl) (o' := kn * 12 + 1 + 2) (kn : Int) 3 s.lines (Log.turned (s.lines.getD (kn : Int).toNat z43)) (.int .i64 ls) [.int .i64 ls] _ (fun _ => True) (fun k => True ∧ k ≠ gl) rfl ?ho rfl rfl (by kernel_rfl) (by simp [Value.oneCell']) H21.out.lines (by omega) hkl1 Hcl.out Hcc.out (show 4 ≤ 12 by decide) ?hM (fun k hk => hk) H21.out.bel ?_
                 (case ho => rw [Int.toNat_natCast]; rfl)
                 (case hM =>
                   have h1 := HM.out
                   have h2 : (s.lines.getD (kn : Int).toNat z43).f0 = ls := by rw [Int.toNat_natCast]; exact Hls.out
                   rw [show (Log.turned (s.lines.getD (kn : Int).toNat z43)).f1.f2 = ls from h2] at h1
                   exact h1)
                 intro w22 hR22 hB22 hg22
                 rw [Int.toNat_natCast] at hR22
                 have R22 := Aside0.mk (Kd.R_reads' hR22)
                 have B22 := Aside0.mk hB22
                 have s22 := (show w22.cell? ⟨gl, kn * 12, none⟩ = some (.int .i64 ls) from by
                   obtain ⟨ad, _, _, _, _, _, _, _, _, e, q, _⟩ := at_T43 (Kd.R_reads' hR22).2.2 (kn : Int) (by omega) (by rw [List.length_set]; exact hkl1)
                   injection e with e
                   subst e
                   rw [Int.toNat_natCast, Addr.add_mid, Nat.zero_add] at q
                   unfold rd_T43 at q
                   rw [Int.toNat_natCast, List.getD_eq_getElem?_getD, List.getElem?_set_self hknl] at q
                   exact q.trans (by rw [show (Option.getD (some (Log.turned (s.lines.getD kn z43))) z43).f0 = ls from Hls.out]))
                 clear hR22 hB22 hg22))
            go_wp2_with (first
              | ((with_reducible refine gate_dst (N := 246) rfl ?_); refine goesL_ (some 246) rfl rfl Try.func8 (by kernel_rfl) rfl #[.slice (some ⟨gl, 0, none⟩) s.lines.length cl, .bool false, .bool false, .int .i64 ls] rfl (by (try simp only [List.map_toArray, List.map_cons, List.map_nil]); first | done | rfl) ?_
                 refine (hcall.out _ _ (by have := R22.out.2.2; rw [List.length_set] at this; exact this) R22.out.2.1).mono ?_
                 rintro e w23 ⟨v0, v2, rfl, ho0, ho2, hb_⟩
                 refine ⟨_, rfl, ?_⟩
                 have B23 := Aside0.mk ((Mv.of_below hb_ (fun _ => False)).below B22.out B22.out.size (fun _ h => h.elim))
                 clear ho0 ho2 hb_))
            go_ret
            exact ⟨rfl, B23.out⟩
end Go.Proofs.Ytijlcahikeeigaa.QA
namespace Go.Proofs.Ytijlcahikeeigaa.Walks
open Go.RowKit Go.Proofs.Ytijlcahikeeigaa.QA Go.Proofs.YtijlcahikeeigaaW.PrintWords Go.Proofs.YtijlcahikeeigaaW.PrintLast
theorem chainFresh {W : World} (A0 : Option Addr) (c0 : Nat) (l0 : List (Int × Int × Int)) (hr : Kd.C k58 W A0 l0.length l0) (_hc : l0.length ≤ c0) (a2 : Int) (_w2 : (Lit.int .i64 a2).wf = true) :
    Calls Try.prog 7 #[.slice A0 l0.length c0, .int .i64 a2] W fun e W' => e = .returned (.bool true) ∧ Below W.heap.size W W' :=
  fresh7 l0 a2 (Kd.C_max hr) hr
end Go.Proofs.Ytijlcahikeeigaa.Walks
