/- apart, walked: five rows of one's own. -/
import Derived.Test.YtolnhhafjojjeaaTGrown
import Derived.StillTailTactics
namespace Go.Proofs.Ytolnhhafjojjeaa.QA
open Go.RowKit Go.Proofs.YtolnhhafjojjeaaW.PrintWords Go.Proofs.YtolnhhafjojjeaaW.PrintLast Go.Proofs.YtolnhhafjojjeaaW.PrintMore
set_option linter.unusedVariables false
set_option linter.unusedSimpArgs false
theorem info22 : (Try.prog.info? 22).map (fun i => (i.zero, i.size, i.bytes)) = some (some (.slice none 0 0), 1, 24) := by kernel_rfl
def str5 (xs : Nat → List Int) : Array Value := #[.string (strOfNums (xs 0)), .string (strOfNums (xs 1)), .string (strOfNums (xs 2)), .string (strOfNums (xs 3)), .string (strOfNums (xs 4))]
theorem str5_at (xs : Nat → List Int) (m : Nat) (h : m < 5) : (str5 xs)[m]? = some (.string (strOfNums (xs m))) := by
  have : m = 0 ∨ m = 1 ∨ m = 2 ∨ m = 3 ∨ m = 4 := by omega
  rcases this with rfl | rfl | rfl | rfl | rfl <;> rfl
theorem at_L31 {w : World} {A : Option Addr} {n : Nat} {xs : List (List Int)} (h : Kd.C (Kd.slice 5 (Kd.int .u8)) w A n xs) (i : Int) (h0 : 0 ≤ i) (h1 : i < n) : ∃ ad A0 c0, A = some ad ∧ w.cell? (ad.add i.toNat) = some (.slice A0 (xs.getD i.toNat []).length c0) ∧ (xs.getD i.toNat []).length ≤ c0 ∧ Kd.C (Kd.int .u8) w A0 (xs.getD i.toNat []).length (xs.getD i.toNat []) := by
  obtain ⟨ad, c, e, _, hK, hc0⟩ := Kd.C_get h ([] : List Int) i h0 h1
  have hc : ∀ j u, c[j]? = some u → w.cell? (ad.add (i.toNat * 1 + j)) = some u := hc0
  obtain ⟨A0, c0, rfl, l0, g0⟩ := hK
  exact ⟨ad, A0, c0, e, by have hq := hc 0 _ rfl; rwa [Nat.mul_one, Nat.add_zero] at hq, l0, g0⟩
set_option maxHeartbeats 8000000 in
set_option maxRecDepth 100000 in
theorem apart18 {Wb W : World} {gA gW : Nat} {v : Nat → Value} {xs0 : Nat → List Int} {n : Nat → Nat} (hF0 : Fr Wb W gA v xs0) (hl0 : ∀ m, m < 5 → (xs0 m).length = n m) (hn0 : ∀ m, m < 5 → n m + 100 ≤ 140737488355000)
    (hs0 : W.heap[gW]? = some (.cells (str5 xs0) 9 (0, 0))) : Calls Try.prog 18 #[.slice (some ⟨gA, 0, none⟩) 5 5, .slice (some ⟨gW, 0, none⟩) 5 5] W fun e w' => e = .returned (.bool true) ∧ Below Wb.heap.size Wb w' := by
  have HF := Aside0.mk hF0
  have HL := Aside0.mk hl0
  have hnb := Aside0.mk hn0
  have HS := Aside0.mk hs0
  have hform := Aside0.mk (show ∀ m, m < 5 → ∃ A c, v m = .slice A (n m) c from fun m hm => by
    obtain ⟨A, c, e⟩ := Kd.R_slice (hF0.rows m hm)
    rw [hl0 m hm] at e
    exact ⟨A, c, e⟩)
  clear hF0 hl0 hn0 hs0
  go_enter Try.func18, Try.ntmps18
  go_upto_block 0 with fail
  go_cut [] (fun wc => Aside0 (Fr Wb wc gA v xs0))
  case first =>
    go_wp2_with fail
    go_loopg [6] 5 (fun kq v6 w' => ∃ (i : Nat), v6 = .int .i64 (i : Int) ∧ Aside0 (i + kq = 5) ∧ Aside0 (Fr Wb w' gA v xs0) ∧ Aside0 (w'.heap[gW]? = some (.cells (str5 xs0) 9 (0, 0))))
    case atStart => exact ⟨0, rfl, ⟨rfl⟩, HF, HS⟩
    case round =>
      clear HF HS
      obtain ⟨i, rfl, hik, hF, hS⟩ := hrel
      cases gk with
      | zero =>
        obtain rfl : i = 5 := hik.out
        go_wp2
        go_meet
        case rel => exact hF
      | succ k1 =>
        have hi4 : i < 5 := by have := hik.out; omega
        have hi5 : (i : Int) < 5 := by omega
        have hi6 : decide ((i : Int) < 5) = true := decide_eq_true hi5
        obtain ⟨Ws, hWs, hF⟩ : ∃ W, W = _ ∧ Aside0 (Fr Wb W gA v xs0) := ⟨_, rfl, hF⟩
        subst hWs
        obtain ⟨Ai, ci, hvi, hci, hCi⟩ := Kd.R_reads (hF.out.rows i hi4)
        rw [HL.out i hi4] at hvi
        rw [HL.out i hi4] at hci hCi
        have hcA : Ws.cell? ⟨gA, i, none⟩ = some (.slice Ai (n i) ci) := by
          rw [blk_cell hF.out.hA, arr4_at v i hi4, hvi]
        have hcS : Ws.cell? ⟨gW, i, none⟩ = some (.string (strOfNums (xs0 i))) := by
          rw [blk_cell hS.out, str5_at xs0 i hi4]
        have hcv := Kd.C_string (P := Try.prog) (A := Ai) (c := ci) (src := 22) (dst := 9) Try.underlying22 Try.underlying5 Try.underlying9 (Kd.C_below hCi (below_drew (Below.refl Ws.heap.size Ws)))
        clear hCi hci hvi
        go_upto_region 5 with fail
        go_still (by kernel_rfl)
        change Exit.then _ _ _ _ Ws.drew
        have hF2 := Aside0.mk (hF.out.below (below_drew (Below.refl _ _)))
        have hS2 := Aside0.mk (blk_below hS.out (below_drew (Below.refl _ _)))
        generalize Ws.drew = wq at hF2 hS2 ⊢
        go_wp2
        go_roundg k1
        case measure => omega
        case rel => exact ⟨i + 1, rfl, ⟨by have := hik.out; omega⟩, hF2, hS2⟩
  case rest =>
    obtain ⟨W1, hW1, HF⟩ : ∃ W, W = _ ∧ Aside0 (Fr Wb W gA v xs0) := ⟨_, rfl, hcut⟩
    subst hW1
    clear hcut
    go_upto_block 2 with fail
    go_cut [] (fun wc => ∃ ys : Nat → List Int, Aside0 (Fr Wb wc gA v ys) ∧ Aside0 (∀ m, m < 5 → ys m = mark m (n m)))
    case first =>
      go_wp2_with fail
      go_loopg [7] 5 (fun kq v7 w' => ∃ (i : Nat) (xs : Nat → List Int), v7 = .int .i64 (i : Int) ∧ Aside0 (i + kq = 5) ∧ Aside0 (Fr Wb w' gA v xs) ∧ Aside0 (∀ m, m < 5 → (xs m).length = n m) ∧ Aside0 (∀ m, m < i → xs m = mark m (n m)))
      case atStart => exact ⟨0, xs0, rfl, ⟨rfl⟩, HF, HL, ⟨fun m hm => by omega⟩⟩
      case round =>
        clear HF
        obtain ⟨i, xs, rfl, hik, hF, hL, hM⟩ := hrel
        cases gk with
        | zero =>
          obtain rfl : i = 5 := hik.out
          go_wp2
          go_meet
          case rel => exact ⟨xs, hF, ⟨fun m hm => hM.out m (by omega)⟩⟩
        | succ k1 =>
          have hi4 : i < 5 := by have := hik.out; omega
          have hi5 : (i : Int) < 5 := by omega
          have hi6 : decide ((i : Int) < 5) = true := decide_eq_true hi5
          obtain ⟨Ai, ci, hvi⟩ := hform.out i hi4
          have Hvi := Aside0.mk hvi
          have hcA := Aside0.mk (fun (w : World) (ys : Nat → List Int) (h : Fr Wb w gA v ys) => (show w.cell? ⟨gA, i, none⟩ = some (.slice Ai (n i) ci) from by
            rw [blk_cell h.hA, arr4_at v i hi4, hvi]))
          clear hvi
          go_wp2
          go_loopg [8] (n i) (fun kq v8 w' => ∃ (j : Nat) (xs : Nat → List Int), v8 = .int .i64 (j : Int) ∧ Aside0 (j + kq = n i) ∧ Aside0 (Fr Wb w' gA v xs) ∧ Aside0 (∀ m, m < 5 → (xs m).length = n m) ∧ Aside0 (∀ m, m < i → xs m = mark m (n m)) ∧ Aside0 ((xs i).take j = mark i j))
          case atStart => exact ⟨0, xs, rfl, ⟨by omega⟩, hF, hL, hM, ⟨rfl⟩⟩
          case round =>
            clear hF hL hM
            obtain ⟨j, xs, rfl, hjk, hF, hL, hM, hT⟩ := hrel
            have hc := hcA.out _ _ hF.out
            have hni : n i + 100 ≤ 140737488355000 := hnb.out i hi4
            cases gk with
            | zero =>
              obtain rfl : j = n i := hjk.out
              have hd1 : ¬ ((n i : Int) < (n i : Int)) := by omega
              go_wp2
              go_roundg k1
              case measure => omega
              case rel => exact ⟨i + 1, xs, rfl, ⟨by have := hik.out; omega⟩, hF, hL, ⟨fun m hm => by
                by_cases e : m = i
                · subst e
                  have := hT.out
                  rwa [List.take_of_length_le (by rw [hL.out m hi4]; exact Nat.le_refl _)] at this
                · exact hM.out m (by omega)⟩⟩
            | succ k2 =>
              have hj0 : j < n i := by have := hjk.out; omega
              have hj1 : (j : Int) < (n i : Int) := by omega
              have hj2 : decide ((j : Int) < (n i : Int)) = true := decide_eq_true hj1
              obtain ⟨g, cap, cur, he, hg, hjc, hput⟩ := row_open (hF.out.rows i hi4) j (by rw [hL.out i hi4]; exact hj0)
              rw [Hvi.out, hL.out i hi4] at he
              injection he with e1 e2 e3
              subst e1 e3
              have Hg := Aside0.mk hg
              have Hput := Aside0.mk hput
              clear hg hput e2
              go_wp2_with (first
                | ((with_reducible refine gate_store (t := 5) (p := 50) (v := .tmp 49) rfl ?_); refine put_event rfl rfl (g := g) (i := j) (v := .int .u8 ((i : Int) + 1)) rfl rfl rfl rfl Hg.out hjc (by kernel_rfl) ?_
                   intro w13 hb13 mv13
                   have F13 := Aside0.mk (hF.out.put hi4 (g := g) (by rw [Hvi.out]; rfl) mv13 (Hput.out w13 _ hb13))
                   clear hb13 mv13))
              go_roundg k2
              case measure => omega
              case rel => exact ⟨j + 1, _, rfl, ⟨by have := hjk.out; omega⟩, F13, ⟨fun m hm => by
                unfold updL
                split
                · rename_i e; subst e; rw [List.length_set]; exact hL.out m hm
                · exact hL.out m hm⟩, ⟨fun m hm => by
                unfold updL
                rw [if_neg (by omega)]
                exact hM.out m hm⟩, ⟨by
                unfold updL
                rw [if_pos rfl, set_take _ _ _ (by rw [hL.out i hi4]; exact hj0), hT.out, mark_add]⟩⟩
    case rest =>
      obtain ⟨ys, hFy, hMy⟩ := hcut
      have hFm := Aside0.mk (show ∃ Wc, Wc = wc ∧ Fr Wb Wc gA v (fun m => mark m (n m)) from ⟨_, rfl, hFy.out.bel, hFy.out.hA, hFy.out.bA, fun m hm => by
        have := hFy.out.rows m hm
        rw [hMy.out m hm] at this
        exact this, hFy.out.apart⟩)
      obtain ⟨Wc, hWc, hFm2⟩ := hFm.out
      have hFl := Aside0.mk (Fl.start hFm2)
      subst hWc
      clear hFm hFm2 hFy hMy
      go_upto_block 6 with fail
      go_cut [5] (fun v5 w' => Aside0 (Fl Wb Wc w' gA v n 5 v5))
      case first =>
        go_wp2_with fail
        go_loopg [5, 9] 5 (fun kq v5 v9 w' => ∃ (i : Nat), v9 = .int .i64 (i : Int) ∧ Aside0 (i + kq = 5) ∧ Aside0 (Fl Wb Wc w' gA v n i v5))
        case atStart => exact ⟨0, rfl, ⟨rfl⟩, hFl⟩
        case round =>
          clear hFl
          obtain ⟨i, rfl, hik, hF⟩ := hrel
          cases gk with
          | zero =>
            obtain rfl : i = 5 := hik.out
            go_wp2
            go_meet
            case rel => exact hF
          | succ k1 =>
            have hi4 : i < 5 := by have := hik.out; omega
            have hi5 : (i : Int) < 5 := by omega
            have hi6 : decide ((i : Int) < 5) = true := decide_eq_true hi5
            obtain ⟨Ai, ci, hvi⟩ := hform.out i hi4
            have Hvi := Aside0.mk hvi
            obtain ⟨Ws, hWs, hF⟩ : ∃ W, W = _ ∧ Aside0 (Fl Wb Wc W gA v n i _) := ⟨_, rfl, hF⟩
            subst hWs
            have hcA : Ws.cell? ⟨gA, i, none⟩ = some (.slice Ai (n i) ci) := by
              rw [blk_cell hF.out.hA, arr4_at v i hi4, hvi]
            have Hg := Aside0.mk (grown19 (Wb := Wb) hi4 (Nat.le_trans hF.out.bc hF.out.sz) (hnb.out i hi4) hvi (Fi.start hF.out hi4))
            clear hvi
            go_wp2_with (first
              | ((with_reducible refine gate_dst (N := 65) rfl ?_); refine goesL_ (some 65) rfl rfl Try.func19 (by kernel_rfl) rfl #[.slice Ai (n i) ci, .int .u8 ((i : Int) + 1)] rfl (by (try simp only [List.map_toArray, List.map_cons, List.map_nil]); first | done | rfl) ?_
                 refine Hg.out.mono ?_
                 rintro e w7 ⟨vm, rfl, hfi⟩
                 refine ⟨_, rfl, ?_⟩
                 obtain ⟨Am, cm, rfl⟩ := Kd.R_slice hfi.row
                 have hFi := Aside0.mk hfi
                 obtain ⟨i1, i2, i3, i4, i5, i6⟩ := hF.out.inner hi4 hfi
                 have I1 := Aside0.mk i1
                 have I6 := Aside0.mk i6
                 clear i1 i2 i3 i4 i5 i6 hfi)
              | ((with_reducible refine gate_builtin (b := .append) (xs := #[.tmp 57, .tmp 66]) rfl ?_); at_builtin; refine Kd.R_append (Kd.slice 5 (Kd.int .u8)) (w0 := Wb) Wb.heap.size rfl (.tmp 57) (.tmp 66) 41 22 _ 24 rfl Try.underlying41 info22 rfl (by decide) (by omega) _ _ (mark i (n i + 80)) [.slice Am (mark i (n i + 80)).length cm] (fun k => (∃ m, m < i + 1 ∧ (v m).ownBlock = some k) ∨ Wc.heap.size ≤ k) (fun k => (Value.slice Am (mark i (n i + 80)).length cm).ownBlock = some k) rfl rfl ?aP ?aK ?aF (Kd.R_mono I6.out (fun k hk => hk.elim (fun ⟨m, hm, h⟩ => .inl ⟨m, by omega, h⟩) .inr)) I1.out I1.out.size ?aL ?_
                 (case aP => exact ⟨_, rfl, Kd.R_mono (Kd.R_tight2 rfl hFi.out.row) (fun k hk => hk.1.symm)⟩)
                 (case aK =>
                   intro k hk
                   rcases hFi.out.at_ with h1 | ⟨b, hb, hle⟩
                   · rw [h1] at hk
                     exact ⟨.inl ⟨i, by omega, hk⟩, fun he => by have := hF.out.lblk k he.symm; have := hF.out.old i k hi4 hk; omega⟩
                   · rw [hb] at hk
                     injection hk with hk
                     subst hk
                     exact ⟨.inr (Nat.le_trans hF.out.sz hle), fun he => by have := Kd.R_lt hF.out.long b he.symm; omega⟩)
                 (case aF => exact fun k hk => .inr (Nat.le_trans (Nat.le_trans hF.out.sz hFi.out.mv.size) hk))
                 (case aL => simp; omega)
                 intro vo2 w15 ho hbB hgr hat
                 have F15 := Aside0.mk (hF.out.step hi4 hFi.out hbB hgr hat ho)
                 clear ho hbB hgr hat))
            go_roundg k1
            case measure => omega
            case rel => exact ⟨i + 1, rfl, ⟨by have := hik.out; omega⟩, F15⟩
      case rest =>
        obtain ⟨Wd, hWd, hF⟩ : ∃ W, W = _ ∧ Aside0 (Fl Wb Wc W gA v n 5 _) := ⟨_, rfl, hcut⟩
        subst hWd
        clear hcut hFl
        obtain ⟨Ag, cg, hlong⟩ := Kd.R_slice hF.out.long
        rw [show ((List.range 5).map fun m => mark m (n m + 80)).length = 5 from by simp] at hlong
        subst hlong
        have hlr := Aside0.mk (Kd.R_reads' hF.out.long).2.2
        rw [show ((List.range 5).map fun m => mark m (n m + 80)).length = 5 from by simp] at hlr
        go_wp2
        go_loopg [10] 5 (fun kq v10 w' => ∃ (i : Nat), v10 = .int .i64 (i : Int) ∧ w' = Wd ∧ Aside0 (i + kq = 5))
        case atStart => exact ⟨0, rfl, rfl, ⟨rfl⟩⟩
        case round =>
          obtain ⟨i, rfl, rfl, hik⟩ := hrel
          cases gk with
          | zero =>
            obtain rfl : i = 5 := hik.out
            go_wp2
            go_ret
            exact ⟨rfl, hF.out.bel⟩
          | succ k1 =>
            have hi4 : i < 5 := by have := hik.out; omega
            have hi5 : (i : Int) < 5 := by omega
            have hi6 : decide ((i : Int) < 5) = true := decide_eq_true hi5
            obtain ⟨Wd, hWd, hF⟩ : ∃ W, W = _ ∧ Aside0 (Fl Wb Wc W gA v n 5 _) := ⟨_, rfl, hF⟩
            subst hWd
            obtain ⟨Ai, ci, hvi, hci, hCi⟩ := (hF.out.reads i hi4).slice
            have hcA : Wd.cell? ⟨gA, i, none⟩ = some (.slice Ai (n i) ci) := by
              rw [blk_cell hF.out.hA, arr4_at v i hi4, hvi]
            obtain ⟨adg, A1, c1, rfl, hcg, hc1, hC1⟩ := at_L31 hlr.out (i : Int) (by omega) (by omega)
            have hgi : ((List.range 5).map fun m => mark m (n m + 80)).getD (i : Int).toNat [] = mark i (n i + 80) := by
              simp [hi4]
            rw [hgi, mark_len] at hcg hc1 hC1
            rw [Int.toNat_natCast] at hcg
            have HCi := Aside0.mk hCi
            have HC1 := Aside0.mk hC1
            have hni := Aside0.mk (hnb.out i hi4)
            clear hCi hC1 hgi hvi hci hc1
            go_wp2_with (first
              | ((with_reducible refine gate_dst (N := 81) rfl ?_); refine goesL_ (some 81) rfl rfl Try.func20 (by kernel_rfl) rfl #[.slice Ai (n i) ci, .int .u8 ((i : Int) + 1)] rfl (by (try simp only [List.map_toArray, List.map_cons, List.map_nil]); first | done | rfl) ?_
                 refine (full20 (m := i) HCi.out (by have := hni.out; omega)).mono ?_
                 rintro e w7 ⟨rfl, rfl⟩
                 refine ⟨_, rfl, ?_⟩)
              | ((with_reducible refine gate_dst (N := 91) rfl ?_); refine gate_guard rfl ?_; refine goesL_ (some 91) rfl rfl Try.func20 (by kernel_rfl) rfl #[.slice A1 (n i + 80) c1, .int .u8 ((i : Int) + 1)] rfl (by (try simp only [List.map_toArray, List.map_cons, List.map_nil]); first | done | rfl) ?_
                 refine (full20 (m := i) HC1.out (by have := hni.out; omega)).mono ?_
                 rintro e w8 ⟨rfl, rfl⟩
                 refine ⟨_, rfl, ?_⟩))
            go_roundg k1
            case measure => omega
            case rel => exact ⟨i + 1, rfl, rfl, ⟨by have := hik.out; omega⟩⟩
end Go.Proofs.Ytolnhhafjojjeaa.QA
