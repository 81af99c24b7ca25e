/- LockOne, walked. -/
import Derived.Test.YtjalkjoaepbhbaaTPlay
namespace Go.Proofs.Ytjalkjoaepbhbaa.QA
open Go.RowKit Go.Maps Go.Proofs.YtjalkjoaepbhbaaW.PrintWords Go.Proofs.YtjalkjoaepbhbaaW.PrintLast Go.Proofs.YtjalkjoaepbhbaaW.PrintMore
set_option linter.unusedVariables false
set_option linter.unusedSimpArgs false
def heldTo (L : Who) (x : Int) (q : Nat) : List Int := (pages16.take q).filter fun p => decide (L p = x ∧ L p ≠ 0)
theorem heldTo_zero (L : Who) (x : Int) : heldTo L x 0 = [] := rfl
theorem heldTo_all (L : Who) (x : Int) : heldTo L x 16 = heldL L x := rfl
theorem heldTo_yes (L : Who) (x : Int) (q : Nat) (hq : q < 16) (h : L (q : Int) = x) (h0 : x ≠ 0) : heldTo L x (q + 1) = heldTo L x q ++ [(q : Int)] := by
  unfold heldTo
  rw [List.take_succ_eq_append_getElem (by simpa [pages16] using hq), List.filter_append]
  simp [pages16, h, h0]
theorem heldTo_no (L : Who) (x : Int) (q : Nat) (hq : q < 16) (h : L (q : Int) ≠ x) : heldTo L x (q + 1) = heldTo L x q := by
  unfold heldTo
  rw [List.take_succ_eq_append_getElem (by simpa [pages16] using hq), List.filter_append]
  simp [pages16, h]
theorem heldTo_split (L : Who) (x : Int) (q : Nat) (hq : q < 16) (h : L (q : Int) = x) (h0 : x ≠ 0) : ∃ rest, heldL L x = heldTo L x q ++ (q : Int) :: rest := by
  refine ⟨(pages16.drop (q + 1)).filter fun p => decide (L p = x ∧ L p ≠ 0), ?_⟩
  have h1 : pages16 = pages16.take q ++ (q : Int) :: pages16.drop (q + 1) := by
    have hl : q < pages16.length := by simpa [pages16] using hq
    have e : pages16[q] = (q : Int) := by simp [pages16]
    rw [← e, ← List.drop_eq_getElem_cons hl, List.take_append_drop]
  unfold heldL heldTo
  conv => lhs; rw [h1]
  rw [List.filter_append, List.filter_cons, if_pos (by simp [h, h0])]
theorem heldTo_at (L : Who) (x : Int) (q : Nat) (hq : q < 16) (h : L (q : Int) = x) (h0 : x ≠ 0) : (heldTo L x q).length < (heldL L x).length ∧ rd (heldL L x) ((heldTo L x q).length : Int) = (q : Int) := by
  obtain ⟨rest, e⟩ := heldTo_split L x q hq h h0
  refine ⟨by rw [e, List.length_append, List.length_cons]; omega, ?_⟩
  unfold rd
  rw [Int.toNat_natCast, e, List.getD_eq_getElem?_getD, List.getElem?_append_right (Nat.le_refl _)]
  simp
theorem held_zero (L : Who) : heldL L 0 = [] := by
  unfold heldL
  rw [List.filter_eq_nil_iff]
  intro p _
  simp
/-- What stands when the second list of holders is there: the locks, who was, who is. -/
structure Now (W0 w : World) (p b g8 g10 : Nat) (L L' : Who) : Prop where
  bel : Below W0.heap.size W0 w
  lk : Lk w p b L'
  was : Ar w g8 L
  now : Ar w g10 L'
  lo : W0.heap.size ≤ b
  n : g8 ≠ b ∧ g10 ≠ b
theorem Now.below {W0 w w1 : World} {p b g8 g10 : Nat} {L L' : Who} (h : Now W0 w p b g8 g10 L L') (hb : Below w.heap.size w w1) : Now W0 w1 p b g8 g10 L L' :=
  ⟨h.bel.trans (hb.mono h.bel.size), h.lk.below hb, h.was.below hb, h.now.below hb, h.lo, h.n⟩
theorem Now.move {W0 w w1 : World} {p b g8 g10 g : Nat} {L L' : Who} (h : Now W0 w p b g8 g10 L L') (m : Mv w w1 (fun k => k = g)) (hg : W0.heap.size ≤ g) (h1 : p ≠ g) (h2 : b ≠ g) (h3 : g8 ≠ g) (h4 : g10 ≠ g) : Now W0 w1 p b g8 g10 L L' :=
  ⟨m.below h.bel h.bel.size (fun k hk => hk ▸ hg), h.lk.move m h1 h2, h.was.move m h3, h.now.move m h4, h.lo, h.n⟩
set_option maxHeartbeats 8000000 in
set_option maxRecDepth 100000 in
theorem one_wrong {W0 : World} {A0 : Option Addr} {c0 : Nat} (script : List Stp) (h0 : Kd.C k31 W0 A0 script.length script) (page birth : Int) (hw1 : (Lit.int .i64 page).wf = true) (hw2 : (Lit.int .i64 birth).wf = true) (hbad : page < 0 ∨ 16 ≤ page ∨ birth < 1 ∨ 1152921504606846976 < birth) :
    Calls Try.prog 4 #[.slice A0 script.length c0, .int .i64 page, .int .i64 birth] W0 fun e w' => e = .returned (.bool true) ∧ Below W0.heap.size W0 w' := by
  have H0 := Aside0.mk h0
  have HW1 := Aside0.mk hw1
  have HW2 := Aside0.mk hw2
  clear h0 hw1 hw2
  have hE : takeE (playL script) page birth = if page < 0 ∨ 16 ≤ page then 61 else 30 := by
    unfold takeE
    by_cases h1 : page < 0 ∨ 16 ≤ page
    · rw [if_pos h1, if_pos h1]
    · rw [if_neg h1, if_neg h1, if_pos (by omega)]
  have hL : takeL (playL script) page birth = playL script := by
    unfold takeL
    rw [hE, if_neg (by split <;> decide)]
  obtain ⟨E, hEE⟩ : ∃ E, E = takeE (playL script) page birth := ⟨_, rfl⟩
  rw [← hEE] at hE
  have HE := Aside0.mk hEE
  have HL := Aside0.mk hL
  have hbad' := Aside0.mk hbad
  have hE' := Aside0.mk hE
  clear hEE hL hbad hE
  go_enter Try.func4, Try.ntmps4
  go_upto_region 7 with (first
    | ((with_reducible refine gate_dst (N := 18) rfl ?_); refine goesL_ (some 18) rfl rfl Try.func12 (by kernel_rfl) rfl #[.slice A0 script.length c0] rfl (by (try simp only [List.map_toArray, List.map_cons, List.map_nil]); first | done | rfl) ?_
       refine (played12 script H0.out).mono ?_
       rintro e w1 ⟨p, b, rfl, hl, hp, hb, hbel⟩
       refine ⟨_, rfl, ?_⟩
       have K1 := Aside0.mk hl
       have B1 := Aside0.mk hbel
       have N1 := Aside0.mk hb
       clear hl hp hb hbel)
    | ((with_reducible refine gate_dst (N := 22) rfl ?_); refine gate_guard rfl ?_; refine goesL_ (some 22) rfl rfl Try.func9 (by kernel_rfl) rfl #[] rfl (by (try simp only [List.map_toArray, List.map_cons, List.map_nil]); first | done | rfl) ?_
       refine (known9).mono ?_
       rintro e w2 ⟨rfl, hbel⟩
       refine ⟨_, rfl, ?_⟩
       have K2 := Aside0.mk (K1.out.below hbel)
       have B2 := Aside0.mk (B1.out.trans (hbel.mono B1.out.size))
       clear hbel)
    | ((with_reducible refine gate_dst (N := 26) rfl ?_); refine goesL_ (some 26) rfl rfl Try.func13 (by kernel_rfl) rfl #[.pointer (some ⟨p, 0, none⟩)] rfl (by (try simp only [List.map_toArray, List.map_cons, List.map_nil]); first | done | rfl) ?_
       refine (holders13 K2.out).mono ?_
       rintro e w3 ⟨rfl, hbel⟩
       refine ⟨_, rfl, ?_⟩
       have K3 := Aside0.mk (K2.out.below hbel)
       have B3 := Aside0.mk (B2.out.trans (hbel.mono B2.out.size))
       clear hbel)
    | ((with_reducible refine gate_dst (N := 8) rfl ?_); refine box_event ?hg (N := 8) ?hd (cs := cells16 L0) (t := 35) ?hr ?_; (case hd => rfl); (case hg => rfl); (case hr => kernel_rfl); intro g8 hg_ w4 hb_ hbel_
       have G4 := Aside0.mk (show Ar w4 g8 L0 from hb_)
       have N4 := Aside0.mk hg_
       have S4 := Aside0.mk hbel_
       have K4 := Aside0.mk (K3.out.below hbel_)
       have B4 := Aside0.mk (B3.out.trans (hbel_.mono B3.out.size))
       have X4 := Aside0.mk (show g8 ≠ p ∧ g8 ≠ b ∧ W0.heap.size ≤ g8 from by have h1 := K3.out.lt; have h2 := B3.out.size; omega)
       clear hg_ hb_ hbel_)
    | ((with_reducible refine gate_store (t := 35) (p := 8) (v := .tmp 26) rfl ?_); refine store_event rfl rfl (g := g8) rfl rfl G4.out (by rw [cells16_size]; kernel_rfl) (by rw [cells16_size, cells16_size]) (one16 (playL script)) ?_
       intro w5 hb_ mv_
       have A5 := Aside0.mk (show Ar w5 g8 (playL script) from hb_)
       have K5 := Aside0.mk (K4.out.move mv_ (fun e => X4.out.1 e.symm) (fun e => X4.out.2.1 e.symm))
       have B5 := Aside0.mk (mv_.below B4.out B4.out.size (fun k hk => hk ▸ X4.out.2.2))
       clear hb_ mv_)
    | ((with_reducible refine gate_dst (N := 30) rfl ?_); refine goesL_ (some 30) rfl rfl Try.func14 (by kernel_rfl) rfl #[.pointer (some ⟨p, 0, none⟩), .int .i64 page, .int .i64 birth] rfl (by (try simp only [List.map_toArray, List.map_cons, List.map_nil]); first | done | rfl) ?_
       refine (take14 K5.out page birth HW1.out HW2.out).mono ?_
       rintro e w6 ⟨rfl, hl, hm_⟩
       refine ⟨_, rfl, ?_⟩
       have K6 := Aside0.mk hl
       have B6 := Aside0.mk (hm_.below B5.out B5.out.size (fun k hk => hk ▸ N1.out))
       have A6 := Aside0.mk (A5.out.move hm_ X4.out.2.1)
       clear hl hm_)
    | ((with_reducible refine gate_dst (N := 32) rfl ?_); refine goesL_ (some 32) rfl rfl Try.func13 (by kernel_rfl) rfl #[.pointer (some ⟨p, 0, none⟩)] rfl (by (try simp only [List.map_toArray, List.map_cons, List.map_nil]); first | done | rfl) ?_
       refine (holders13 K6.out).mono ?_
       rintro e w7 ⟨rfl, hbel⟩
       refine ⟨_, rfl, ?_⟩
       have K7 := Aside0.mk (K6.out.below hbel)
       have B7 := Aside0.mk (B6.out.trans (hbel.mono B6.out.size))
       have A7 := Aside0.mk (A6.out.below hbel)
       clear hbel)
    | ((with_reducible refine gate_dst (N := 10) rfl ?_); refine box_event ?hg (N := 10) ?hd (cs := cells16 L0) (t := 35) ?hr ?_; (case hd => rfl); (case hg => rfl); (case hr => kernel_rfl); intro g10 hg_ w8 hb_ hbel_
       have G8 := Aside0.mk (show Ar w8 g10 L0 from hb_)
       have N8 := Aside0.mk hg_
       have S8 := Aside0.mk hbel_
       have K8 := Aside0.mk (K7.out.below hbel_)
       have B8 := Aside0.mk (B7.out.trans (hbel_.mono B7.out.size))
       have A8 := Aside0.mk (A7.out.below hbel_)
       have X8 := Aside0.mk (show g10 ≠ p ∧ g10 ≠ b ∧ W0.heap.size ≤ g10 ∧ g10 ≠ g8 from by have h1 := K7.out.lt; have h2 := B7.out.size; have h3 := blk_lt A7.out; omega)
       clear hg_ hb_ hbel_)
    | ((with_reducible refine gate_store (t := 35) (p := 10) (v := .tmp 32) rfl ?_); refine store_event rfl rfl (g := g10) rfl rfl G8.out (by rw [cells16_size]; kernel_rfl) (by rw [cells16_size, cells16_size]) (one16 (takeL (playL script) page birth)) ?_
       intro w9 hb_ mv_
       have A9 := Aside0.mk (show Ar w9 g10 (takeL (playL script) page birth) from hb_)
       have Q9 := Aside0.mk (show Now W0 w9 p b g8 g10 (playL script) (takeL (playL script) page birth) from
         ⟨mv_.below B8.out B8.out.size (fun k hk => hk ▸ X8.out.2.2.1), K8.out.move mv_ (fun e => X8.out.1 e.symm) (fun e => X8.out.2.1 e.symm), A8.out.move mv_ (fun e => X8.out.2.2.2 e.symm), hb_, N1.out, X4.out.2.1, X8.out.2.1⟩)
       have Y9 := Aside0.mk (show W0.heap.size ≤ g10 ∧ W0.heap.size ≤ g8 from ⟨X8.out.2.2.1, X4.out.2.2⟩)
       clear hb_ mv_))
  clear K1 B1 N1 K2 B2 K3 B3 K4 B4 G4 N4 S4 X4 A5 K5 B5 A6 K6 B6 A7 K7 B7 G8 N8 S8 A8 K8 B8 X8 A9
  rw [← HE.out]
  rw [HL.out] at Q9
  have hq := fun w => eql16 (playL script) (playL script) (fun n _ => rfl) w
  have hg35 := guard35
  have hEv := hE'.out
  by_cases h1 : page < 0
  · have d1 : decide (0 ≤ page) = false := decide_eq_false (by omega)
    have d1' : decide (page < 0) = true := decide_eq_true h1
    obtain rfl : E = 61 := by rw [hEv, if_pos (.inl h1)]
    clear hEv h1
    go_wp2_with (first
      | ((with_reducible refine gate_dst (N := 49) rfl ?_); refine wpList_load_row rfl 35 _ rfl g10 rfl 35 (cells16 (playL script)) (0, 0) _ Q9.out.now Try.underlying35 rfl (by rw [cells16_size]; kernel_rfl) ?_)
      | ((with_reducible refine gate_dst (N := 50) rfl ?_); refine wpList_load_row rfl 35 _ rfl g8 rfl 35 (cells16 (playL script)) (0, 0) _ Q9.out.was Try.underlying35 rfl (by rw [cells16_size]; kernel_rfl) ?_))
    go_ret
    exact ⟨rfl, Q9.out.bel⟩
  · have d1 : decide (0 ≤ page) = true := decide_eq_true (by omega)
    have d1' : decide (page < 0) = false := decide_eq_false h1
    by_cases h2 : 16 ≤ page
    · have d2 : decide (page < 16) = false := decide_eq_false (by omega)
      have d2' : decide (16 ≤ page) = true := decide_eq_true h2
      obtain rfl : E = 61 := by rw [hEv, if_pos (.inr h2)]
      clear hEv h1 h2
      go_wp2_with (first
        | ((with_reducible refine gate_dst (N := 49) rfl ?_); refine wpList_load_row rfl 35 _ rfl g10 rfl 35 (cells16 (playL script)) (0, 0) _ Q9.out.now Try.underlying35 rfl (by rw [cells16_size]; kernel_rfl) ?_)
        | ((with_reducible refine gate_dst (N := 50) rfl ?_); refine wpList_load_row rfl 35 _ rfl g8 rfl 35 (cells16 (playL script)) (0, 0) _ Q9.out.was Try.underlying35 rfl (by rw [cells16_size]; kernel_rfl) ?_))
      go_ret
      exact ⟨rfl, Q9.out.bel⟩
    · have d2 : decide (page < 16) = true := decide_eq_true (by omega)
      have d2' : decide (16 ≤ page) = false := decide_eq_false h2
      obtain rfl : E = 30 := by rw [hEv, if_neg (by omega)]
      have hb := hbad'.out
      clear hEv
      by_cases h3 : birth < 1
      · have d3 : decide (1 ≤ birth) = false := decide_eq_false (by omega)
        clear h1 h2 h3 hb
        go_wp2_with (first
          | ((with_reducible refine gate_dst (N := 49) rfl ?_); refine wpList_load_row rfl 35 _ rfl g10 rfl 35 (cells16 (playL script)) (0, 0) _ Q9.out.now Try.underlying35 rfl (by rw [cells16_size]; kernel_rfl) ?_)
          | ((with_reducible refine gate_dst (N := 50) rfl ?_); refine wpList_load_row rfl 35 _ rfl g8 rfl 35 (cells16 (playL script)) (0, 0) _ Q9.out.was Try.underlying35 rfl (by rw [cells16_size]; kernel_rfl) ?_))
        go_ret
        exact ⟨rfl, Q9.out.bel⟩
      · have d3 : decide (1 ≤ birth) = true := decide_eq_true (by omega)
        have d4 : decide (birth ≤ 1152921504606846976) = false := decide_eq_false (by omega)
        clear h1 h2 h3 hb
        go_wp2_with (first
          | ((with_reducible refine gate_dst (N := 49) rfl ?_); refine wpList_load_row rfl 35 _ rfl g10 rfl 35 (cells16 (playL script)) (0, 0) _ Q9.out.now Try.underlying35 rfl (by rw [cells16_size]; kernel_rfl) ?_)
          | ((with_reducible refine gate_dst (N := 50) rfl ?_); refine wpList_load_row rfl 35 _ rfl g8 rfl 35 (cells16 (playL script)) (0, 0) _ Q9.out.was Try.underlying35 rfl (by rw [cells16_size]; kernel_rfl) ?_))
        go_ret
        exact ⟨rfl, Q9.out.bel⟩
theorem take_same (L : Who) (n : Nat) (birth : Int) (hn : n < 16) (hb : 1 ≤ birth ∧ birth ≤ 1152921504606846976) (h : L (n : Int) ≠ 0) (m : Nat) : L (m : Int) = takeL L (n : Int) birth (m : Int) := by
  unfold takeL
  split
  · rename_i h1
    have h2 : L (n : Int) = birth := by
      unfold takeE at h1
      rw [if_neg (by omega), if_neg (by omega)] at h1
      by_cases h3 : L (n : Int) = birth
      · exact h3
      · rw [if_pos ⟨h, h3⟩] at h1; cases h1
    unfold upd1
    by_cases e : (m : Int) = (n : Int)
    · rw [if_pos e, e, h2]
    · rw [if_neg e]
  · rfl
theorem take_free (L : Who) (n : Nat) (birth : Int) (hn : n < 16) (hb : 1 ≤ birth ∧ birth ≤ 1152921504606846976) (h : L (n : Int) = 0) : takeL L (n : Int) birth = upd1 L (n : Int) birth := by
  have hE : takeE L (n : Int) birth = 0 := by
    unfold takeE
    rw [if_neg (by omega), if_neg (by omega), if_neg (fun h2 => h2.1 h)]
  unfold takeL
  rw [hE, if_pos rfl]
theorem take_who (L : Who) (n : Nat) (birth : Int) (hn : n < 16) (hb : 1 ≤ birth ∧ birth ≤ 1152921504606846976) : (takeE L (n : Int) birth = 0 ∧ takeL L (n : Int) birth (n : Int) = birth) ∨ (takeE L (n : Int) birth = 150 ∧ takeL L (n : Int) birth (n : Int) ≠ birth) := by
  unfold takeL
  by_cases h : L (n : Int) ≠ 0 ∧ L (n : Int) ≠ birth
  · have hE : takeE L (n : Int) birth = 150 := by
      unfold takeE
      rw [if_neg (by omega), if_neg (by omega), if_pos h]
    rw [hE]
    exact .inr ⟨rfl, by rw [if_neg (by decide)]; exact h.2⟩
  · have hE : takeE L (n : Int) birth = 0 := by
      unfold takeE
      rw [if_neg (by omega), if_neg (by omega), if_neg h]
    rw [hE]
    exact .inl ⟨rfl, by rw [if_pos rfl]; unfold upd1; rw [if_pos rfl]⟩
set_option maxHeartbeats 8000000 in
set_option maxRecDepth 100000 in
theorem one_right {W0 : World} {A0 : Option Addr} {c0 : Nat} (script : List Stp) (h0 : Kd.C k31 W0 A0 script.length script) (n : Nat) (birth : Int) (hw1 : (Lit.int .i64 (n : Int)).wf = true) (hw2 : (Lit.int .i64 birth).wf = true) (hn : n < 16) (hbirth : 1 ≤ birth ∧ birth ≤ 1152921504606846976) :
    Calls Try.prog 4 #[.slice A0 script.length c0, .int .i64 (n : Int), .int .i64 birth] W0 fun e w' => e = .returned (.bool true) ∧ Below W0.heap.size W0 w' := by
  have H0 := Aside0.mk h0
  have HW1 := Aside0.mk hw1
  have HW2 := Aside0.mk hw2
  clear h0 hw1 hw2
  have Hbirth := Aside0.mk hbirth
  have hn1 : (n : Int) < 16 := by omega
  have f1 : decide (0 ≤ (n : Int)) = true := decide_eq_true (by omega)
  have f2 : decide ((n : Int) < 16) = true := decide_eq_true (by omega)
  have f3 : decide (1 ≤ birth) = true := decide_eq_true hbirth.1
  have f4 : decide (birth ≤ 1152921504606846976) = true := decide_eq_true hbirth.2
  have f1' : decide ((n : Int) < 0) = false := decide_eq_false (by omega)
  have f2' : decide (16 ≤ (n : Int)) = false := decide_eq_false (by omega)
  clear hbirth
  go_enter Try.func4, Try.ntmps4
  go_upto_region 7 with (first
    | ((with_reducible refine gate_dst (N := 18) rfl ?_); refine goesL_ (some 18) rfl rfl Try.func12 (by kernel_rfl) rfl #[.slice A0 script.length c0] rfl (by (try simp only [List.map_toArray, List.map_cons, List.map_nil]); first | done | rfl) ?_
       refine (played12 script H0.out).mono ?_
       rintro e w1 ⟨p, b, rfl, hl, hp, hb, hbel⟩
       refine ⟨_, rfl, ?_⟩
       have K1 := Aside0.mk hl
       have B1 := Aside0.mk hbel
       have N1 := Aside0.mk hb
       clear hl hp hb hbel)
    | ((with_reducible refine gate_dst (N := 22) rfl ?_); refine gate_guard rfl ?_; refine goesL_ (some 22) rfl rfl Try.func9 (by kernel_rfl) rfl #[] rfl (by (try simp only [List.map_toArray, List.map_cons, List.map_nil]); first | done | rfl) ?_
       refine (known9).mono ?_
       rintro e w2 ⟨rfl, hbel⟩
       refine ⟨_, rfl, ?_⟩
       have K2 := Aside0.mk (K1.out.below hbel)
       have B2 := Aside0.mk (B1.out.trans (hbel.mono B1.out.size))
       clear hbel)
    | ((with_reducible refine gate_dst (N := 26) rfl ?_); refine goesL_ (some 26) rfl rfl Try.func13 (by kernel_rfl) rfl #[.pointer (some ⟨p, 0, none⟩)] rfl (by (try simp only [List.map_toArray, List.map_cons, List.map_nil]); first | done | rfl) ?_
       refine (holders13 K2.out).mono ?_
       rintro e w3 ⟨rfl, hbel⟩
       refine ⟨_, rfl, ?_⟩
       have K3 := Aside0.mk (K2.out.below hbel)
       have B3 := Aside0.mk (B2.out.trans (hbel.mono B2.out.size))
       clear hbel)
    | ((with_reducible refine gate_dst (N := 8) rfl ?_); refine box_event ?hg (N := 8) ?hd (cs := cells16 L0) (t := 35) ?hr ?_; (case hd => rfl); (case hg => rfl); (case hr => kernel_rfl); intro g8 hg_ w4 hb_ hbel_
       have G4 := Aside0.mk (show Ar w4 g8 L0 from hb_)
       have N4 := Aside0.mk hg_
       have S4 := Aside0.mk hbel_
       have K4 := Aside0.mk (K3.out.below hbel_)
       have B4 := Aside0.mk (B3.out.trans (hbel_.mono B3.out.size))
       have X4 := Aside0.mk (show g8 ≠ p ∧ g8 ≠ b ∧ W0.heap.size ≤ g8 from by have h1 := K3.out.lt; have h2 := B3.out.size; omega)
       clear hg_ hb_ hbel_)
    | ((with_reducible refine gate_store (t := 35) (p := 8) (v := .tmp 26) rfl ?_); refine store_event rfl rfl (g := g8) rfl rfl G4.out (by rw [cells16_size]; kernel_rfl) (by rw [cells16_size, cells16_size]) (one16 (playL script)) ?_
       intro w5 hb_ mv_
       have A5 := Aside0.mk (show Ar w5 g8 (playL script) from hb_)
       have K5 := Aside0.mk (K4.out.move mv_ (fun e => X4.out.1 e.symm) (fun e => X4.out.2.1 e.symm))
       have B5 := Aside0.mk (mv_.below B4.out B4.out.size (fun k hk => hk ▸ X4.out.2.2))
       clear hb_ mv_)
    | ((with_reducible refine gate_dst (N := 30) rfl ?_); refine goesL_ (some 30) rfl rfl Try.func14 (by kernel_rfl) rfl #[.pointer (some ⟨p, 0, none⟩), .int .i64 (n : Int), .int .i64 birth] rfl (by (try simp only [List.map_toArray, List.map_cons, List.map_nil]); first | done | rfl) ?_
       refine (take14 K5.out (n : Int) birth HW1.out HW2.out).mono ?_
       rintro e w6 ⟨rfl, hl, hm_⟩
       refine ⟨_, rfl, ?_⟩
       have K6 := Aside0.mk hl
       have B6 := Aside0.mk (hm_.below B5.out B5.out.size (fun k hk => hk ▸ N1.out))
       have A6 := Aside0.mk (A5.out.move hm_ X4.out.2.1)
       clear hl hm_)
    | ((with_reducible refine gate_dst (N := 32) rfl ?_); refine goesL_ (some 32) rfl rfl Try.func13 (by kernel_rfl) rfl #[.pointer (some ⟨p, 0, none⟩)] rfl (by (try simp only [List.map_toArray, List.map_cons, List.map_nil]); first | done | rfl) ?_
       refine (holders13 K6.out).mono ?_
       rintro e w7 ⟨rfl, hbel⟩
       refine ⟨_, rfl, ?_⟩
       have K7 := Aside0.mk (K6.out.below hbel)
       have B7 := Aside0.mk (B6.out.trans (hbel.mono B6.out.size))
       have A7 := Aside0.mk (A6.out.below hbel)
       clear hbel)
    | ((with_reducible refine gate_dst (N := 10) rfl ?_); refine box_event ?hg (N := 10) ?hd (cs := cells16 L0) (t := 35) ?hr ?_; (case hd => rfl); (case hg => rfl); (case hr => kernel_rfl); intro g10 hg_ w8 hb_ hbel_
       have G8 := Aside0.mk (show Ar w8 g10 L0 from hb_)
       have N8 := Aside0.mk hg_
       have S8 := Aside0.mk hbel_
       have K8 := Aside0.mk (K7.out.below hbel_)
       have B8 := Aside0.mk (B7.out.trans (hbel_.mono B7.out.size))
       have A8 := Aside0.mk (A7.out.below hbel_)
       have X8 := Aside0.mk (show g10 ≠ p ∧ g10 ≠ b ∧ W0.heap.size ≤ g10 ∧ g10 ≠ g8 from by have h1 := K7.out.lt; have h2 := B7.out.size; have h3 := blk_lt A7.out; omega)
       clear hg_ hb_ hbel_)
    | ((with_reducible refine gate_store (t := 35) (p := 10) (v := .tmp 32) rfl ?_); refine store_event rfl rfl (g := g10) rfl rfl G8.out (by rw [cells16_size]; kernel_rfl) (by rw [cells16_size, cells16_size]) (one16 (takeL (playL script) (n : Int) birth)) ?_
       intro w9 hb_ mv_
       have A9 := Aside0.mk (show Ar w9 g10 (takeL (playL script) (n : Int) birth) from hb_)
       have Q9 := Aside0.mk (show Now W0 w9 p b g8 g10 (playL script) (takeL (playL script) (n : Int) birth) from
         ⟨mv_.below B8.out B8.out.size (fun k hk => hk ▸ X8.out.2.2.1), K8.out.move mv_ (fun e => X8.out.1 e.symm) (fun e => X8.out.2.1 e.symm), A8.out.move mv_ (fun e => X8.out.2.2.2 e.symm), hb_, N1.out, X4.out.2.1, X8.out.2.1⟩)
       have Y9 := Aside0.mk (show W0.heap.size ≤ g10 ∧ W0.heap.size ≤ g8 from ⟨X8.out.2.2.1, X4.out.2.2⟩)
       clear hb_ mv_))
  clear K1 B1 N1 K2 B2 K3 B3 K4 B4 G4 N4 S4 X4 A5 K5 B5 A6 K6 B6 A7 K7 B7 G8 N8 S8 A8 K8 B8 X8 A9
  obtain ⟨L, hLL⟩ : ∃ L, L = playL script := ⟨_, rfl⟩
  rw [← hLL] at Q9 ⊢
  have W13 := Aside0.mk (take_who L n birth hn Hbirth.out)
  have F13 := Aside0.mk (take_free L n birth hn Hbirth.out)
  have S13 := Aside0.mk (take_same L n birth hn Hbirth.out)
  obtain ⟨L', hLL'⟩ : ∃ L', L' = takeL L (n : Int) birth := ⟨_, rfl⟩
  obtain ⟨E, hEE⟩ : ∃ E, E = takeE L (n : Int) birth := ⟨_, rfl⟩
  rw [← hLL'] at Q9 W13 F13 S13
  rw [← hEE] at W13 ⊢
  clear hLL hLL' hEE
  go_upto_region 11 with (first
    | ((with_reducible refine gate_dst (N := 67) rfl ?_); refine wpList_load_row rfl 35 _ rfl g8 rfl 35 (cells16 (L)) (0, 0) _ Q9.out.was Try.underlying35 rfl (by rw [cells16_size]; kernel_rfl) ?_)
    | ((with_reducible refine gate_dst (N := 12) rfl ?_); refine box_event ?hg (N := 12) ?hd (cs := cells16 L0) (t := 35) ?hr ?_; (case hd => rfl); (case hg => rfl); (case hr => kernel_rfl); intro g12 hg_ w11 hb_ hbel_
       have G11 := Aside0.mk (show Ar w11 g12 L0 from hb_)
       have N11 := Aside0.mk hg_
       have S11 := Aside0.mk hbel_
       have Q11 := Aside0.mk (Q9.out.below hbel_)
       have X11 := Aside0.mk (show g12 ≠ p ∧ g12 ≠ b ∧ W0.heap.size ≤ g12 ∧ g12 ≠ g8 ∧ g12 ≠ g10 from by have h1 := Q9.out.lk.lt; have h2 := Q9.out.bel.size; have h3 := blk_lt Q9.out.was; have h4 := blk_lt Q9.out.now; omega)
       clear hg_ hb_ hbel_)
    | ((with_reducible refine gate_store (t := 35) (p := 12) (v := .tmp 67) rfl ?_); refine store_event rfl rfl (g := g12) rfl rfl G11.out (by rw [cells16_size]; kernel_rfl) (by rw [cells16_size, cells16_size]) (one16 (L)) ?_
       intro w12 hb_ mv_
       have A12 := Aside0.mk (show Ar w12 g12 (L) from hb_)
       have Q12 := Aside0.mk (Q11.out.move mv_ X11.out.2.2.1 (fun e => X11.out.1 e.symm) (fun e => X11.out.2.1 e.symm) (fun e => X11.out.2.2.2.1 e.symm) (fun e => X11.out.2.2.2.2 e.symm))
       clear hb_ mv_))
  have hc8 := Q12.out.was.cell n hn
  clear Q9 Q11 G11 N11 S11
  go_upto_if 71 with fail
  go_cut [] (fun wc => Aside0 (Now W0 wc p b g8 g10 L L') ∧ Aside0 (Ar wc g12 L'))
  case first =>
    by_cases h4 : L (n : Int) = 0
    · have d5 : (L (n : Int) == 0) = true := by rw [h4]; rfl
      have h5 := Aside0.mk (F13.out h4)
      clear h4
      go_wp2_with (first
        | ((with_reducible refine gate_store (t := 3) (p := 74) (v := .tmp 73) rfl ?_); refine put_event rfl rfl (g := g12) (i := n) (v := .int .i64 birth) rfl rfl rfl rfl A12.out (by rw [cells16_size]; exact hn) (by kernel_rfl) ?_
           intro w13 hb13 mv13
           rw [cells16_set L n hn, ← h5.out] at hb13
           have A13 := Aside0.mk (show Ar w13 g12 L' from hb13)
           have Q13 := Aside0.mk (Q12.out.move mv13 X11.out.2.2.1 (fun e => X11.out.1 e.symm) (fun e => X11.out.2.1 e.symm) (fun e => X11.out.2.2.2.1 e.symm) (fun e => X11.out.2.2.2.2 e.symm))
           clear hb13 mv13))
      go_meet
      case rel => exact ⟨Q13, A13⟩
    · have d5 : (L (n : Int) == 0) = false := beq_eq_false_iff_ne.mpr h4
      have h5 := Aside0.mk (show Ar w12 g12 L' from by
        have h := A12.out
        unfold Ar at h ⊢
        rw [cells16_congr L L' (fun m _ => S13.out h4 m)] at h
        exact h)
      clear h4
      go_wp2
      go_meet
      case rel => exact ⟨Q12, h5⟩
  case rest =>
    obtain ⟨Q14, A14⟩ := hcut
    clear Q12 A12 hc8 F13 S13
    obtain ⟨Wn, hWn, Q14⟩ : ∃ W, W = _ ∧ Aside0 (Now W0 W p b g8 g10 L L') := ⟨_, rfl, Q14⟩
    subst hWn
    have hq := fun w => neq16 L' L' (fun n _ => rfl) w
    have hg35 := guard35
    have hc10 := Q14.out.now.cell n hn
    go_upto_region 13 with fail
    go_cut [95] (fun v95 wc => v95 = .bool false ∧ wc = Wn)
    case first =>
      rcases W13.out with ⟨hE, hw⟩ | ⟨hE, hw⟩
      · subst hE
        have e1 : (L' (n : Int) == birth) = true := beq_iff_eq.mpr hw
        clear hw
        go_wp2_with (first
          | ((with_reducible refine gate_dst (N := 75) rfl ?_); refine wpList_load_row rfl 35 _ rfl g10 rfl 35 (cells16 (L')) (0, 0) _ Q14.out.now Try.underlying35 rfl (by rw [cells16_size]; kernel_rfl) ?_)
          | ((with_reducible refine gate_dst (N := 76) rfl ?_); refine wpList_load_row rfl 35 _ rfl g12 rfl 35 (cells16 (L')) (0, 0) _ A14.out Try.underlying35 rfl (by rw [cells16_size]; kernel_rfl) ?_))
        go_meet
        case rel => exact ⟨rfl, rfl⟩
      · subst hE
        have e1 : (L' (n : Int) == birth) = false := beq_eq_false_iff_ne.mpr hw
        clear hw
        go_wp2_with (first
          | ((with_reducible refine gate_dst (N := 75) rfl ?_); refine wpList_load_row rfl 35 _ rfl g10 rfl 35 (cells16 (L')) (0, 0) _ Q14.out.now Try.underlying35 rfl (by rw [cells16_size]; kernel_rfl) ?_)
          | ((with_reducible refine gate_dst (N := 76) rfl ?_); refine wpList_load_row rfl 35 _ rfl g12 rfl 35 (cells16 (L')) (0, 0) _ A14.out Try.underlying35 rfl (by rw [cells16_size]; kernel_rfl) ?_))
        go_meet
        case rel => exact ⟨rfl, rfl⟩
    case rest =>
      obtain ⟨rfl, rfl⟩ := hcut
      clear hq hg35 hc10 A14 W13
      go_wp2_with fail
      go_loopg [13] 16 (fun kq v13 wr => ∃ (j : Nat), v13 = .int .i64 (j : Int) ∧ Aside0 (j + kq = 16) ∧ Aside0 (Now W0 wr p b g8 g10 L L'))
      case atStart => exact ⟨0, rfl, ⟨rfl⟩, Q14⟩
      case round =>
        clear Q14
        obtain ⟨j, rfl, hjk, hQ⟩ := hrel
        obtain ⟨Ws, hWs, hQ⟩ : ∃ W, W = _ ∧ Aside0 (Now W0 W p b g8 g10 L L') := ⟨_, rfl, hQ⟩
        subst hWs
        cases gk with
        | zero =>
          obtain rfl : j = 16 := hjk.out
          have hz := held_zero L'
          have Hh := Aside0.mk (held15 hQ.out.lk 0)
          rw [hz] at Hh
          clear hz
          go_wp2_with (first
            | ((with_reducible refine gate_dst (N := 139) rfl ?_); refine goesL_ (some 139) rfl rfl Try.func15 (by kernel_rfl) rfl #[.pointer (some ⟨p, 0, none⟩), .int .i64 0] rfl (by (try simp only [List.map_toArray, List.map_cons, List.map_nil]); first | done | rfl) ?_
               refine Hh.out.mono ?_
               rintro e w1 ⟨v, rfl, hr, hb⟩
               refine ⟨_, rfl, ?_⟩
               obtain ⟨A5, c5, rfl⟩ := Kd.R_slice hr
               have B1 := Aside0.mk (hQ.out.below hb)
               clear hr hb))
          go_ret
          exact ⟨rfl, B1.out.bel⟩
        | succ k1 =>
          have hj0 : j < 16 := by have := hjk.out; omega
          have hj1 : (j : Int) < 16 := by omega
          have hj2 : decide ((j : Int) < 16) = true := decide_eq_true hj1
          have hcj := hQ.out.now.cell j hj0
          obtain ⟨x, hx⟩ : ∃ x, x = L' (j : Int) := ⟨_, rfl⟩
          rw [← hx] at hcj
          have Hx := Aside0.mk hx
          have Hheld := Aside0.mk (held15 hQ.out.lk x)
          clear hx
          obtain ⟨hs, hhs⟩ : ∃ hs, hs = heldL L' x := ⟨_, rfl⟩
          have hsl : hs.length ≤ 16 := by rw [hhs]; exact held_length _ _
          rw [← hhs] at Hheld
          have Hhs := Aside0.mk hhs
          clear hhs
          have CALL := Aside0.mk (fun (w1 : World) (A5 : Option Addr) (c5 : Nat) (hr : Kd.R (Kd.int .i64) 3 w1 Ws.heap.size (fun _ => True) (.slice A5 hs.length c5) hs) => (Kd.R_reads' hr).2.2)
          by_cases hx0 : x = 0
          · have e1 : (x == 0) = true := beq_iff_eq.mpr hx0
            clear hx0
            go_wp2_with (first
              | ((with_reducible refine gate_dst (N := 104) rfl ?_); refine goesL_ (some 104) rfl rfl Try.func15 (by kernel_rfl) rfl #[.pointer (some ⟨p, 0, none⟩), .int .i64 x] rfl (by (try simp only [List.map_toArray, List.map_cons, List.map_nil]); first | done | rfl) ?_
                 refine Hheld.out.mono ?_
                 rintro e w1 ⟨v, rfl, hr, hb⟩
                 refine ⟨_, rfl, ?_⟩
                 obtain ⟨A5, c5, rfl⟩ := Kd.R_slice hr
                 have B1 := Aside0.mk (hQ.out.below hb)
                 have hcj' := B1.out.now.cell j hj0
                 rw [← Hx.out] at hcj'
                 clear hr hb))
            go_roundg k1
            case measure => omega
            case rel => exact ⟨j + 1, rfl, ⟨by have := hjk.out; omega⟩, B1⟩
          · have e1 : (x == 0) = false := beq_eq_false_iff_ne.mpr hx0
            have Hx0 := Aside0.mk hx0
            clear hx0
            go_wp2_with (first
              | ((with_reducible refine gate_dst (N := 104) rfl ?_); refine goesL_ (some 104) rfl rfl Try.func15 (by kernel_rfl) rfl #[.pointer (some ⟨p, 0, none⟩), .int .i64 x] rfl (by (try simp only [List.map_toArray, List.map_cons, List.map_nil]); first | done | rfl) ?_
                 refine Hheld.out.mono ?_
                 rintro e w1 ⟨v, rfl, hr, hb⟩
                 refine ⟨_, rfl, ?_⟩
                 obtain ⟨A5, c5, rfl⟩ := Kd.R_slice hr
                 have B1 := Aside0.mk (hQ.out.below hb)
                 have C1 := Aside0.mk (CALL.out _ _ _ hr)
                 have hcj' := B1.out.now.cell j hj0
                 rw [← Hx.out] at hcj'
                 clear hr hb))
            clear hcj hcj'
            go_loopg [15, 16] 16 (fun kq v15 v16 wr => ∃ (q : Nat), v16 = .int .i64 (q : Int) ∧ v15 = .int .i64 ((heldTo L' x q).length : Int) ∧ Aside0 (q + kq = 16) ∧ Aside0 (Now W0 wr p b g8 g10 L L') ∧ Aside0 (Kd.C (Kd.int .i64) wr A5 hs.length hs))
            case atStart => exact ⟨0, rfl, rfl, ⟨rfl⟩, B1, C1⟩
            case round =>
              clear B1 C1 hQ
              obtain ⟨q, rfl, rfl, hqk, hQ, hC⟩ := hrel
              obtain ⟨Ws, hWs, hQ⟩ : ∃ W, W = _ ∧ Aside0 (Now W0 W p b g8 g10 L L') := ⟨_, rfl, hQ⟩
              subst hWs
              cases gk with
              | zero =>
                obtain rfl : q = 16 := hqk.out
                rw [heldTo_all, ← Hhs.out]
                have e2 : ((hs.length : Int) != (hs.length : Int)) = false := by simp
                go_wp2
                go_roundg k1
                case measure => omega
                case rel => exact ⟨j + 1, rfl, ⟨by have := hjk.out; omega⟩, hQ⟩
              | succ k2 =>
                have hq0 : q < 16 := by have := hqk.out; omega
                have hq1 : (q : Int) < 16 := by omega
                have hq2 : decide ((q : Int) < 16) = true := decide_eq_true hq1
                have hcq := hQ.out.now.cell q hq0
                have hcj := hQ.out.now.cell j hj0
                rw [← Hx.out] at hcj
                obtain ⟨y, hy⟩ : ∃ y, y = L' (q : Int) := ⟨_, rfl⟩
                rw [← hy] at hcq
                have Hy := Aside0.mk hy
                clear hy
                have hd := below_drew (Below.refl Ws.heap.size Ws)
                have hQd := Aside0.mk (hQ.out.below hd)
                have hCd := Aside0.mk (Kd.C_below hC.out hd)
                clear hd
                by_cases hyx : y = x
                · have e2 : (y == x) = true := beq_iff_eq.mpr hyx
                  have hat := heldTo_at L' x q hq0 (by rw [← Hy.out, hyx]) Hx0.out
                  have hnx := Aside0.mk (heldTo_yes L' x q hq0 (by rw [← Hy.out, hyx]) Hx0.out)
                  rw [← Hhs.out] at hat
                  clear hyx
                  obtain ⟨k, hk⟩ : ∃ k, k = (heldTo L' x q).length := ⟨_, rfl⟩
                  have Hk := Aside0.mk hk
                  rw [← hk] at hat ⊢
                  clear hk
                  have hk1 : (k : Int) < (hs.length : Int) := by omega
                  have hk2 : decide ((hs.length : Int) ≤ (k : Int)) = false := decide_eq_false (by omega)
                  have hk3 : decide (hs.length ≤ k) = false := decide_eq_false (by omega)
                  have hk4 : k < 17 := by omega
                  obtain ⟨ad, e, hce⟩ := Kd.at_int hCd.out (k : Int) (by omega) hk1
                  subst e
                  rw [Int.toNat_natCast, hat.2] at hce
                  have e3 : ((q : Int) != (q : Int)) = false := by simp
                  clear hat
                  go_upto_region 24 with fail
                  go_still (by kernel_rfl)
                  change Exit.then _ _ _ _ Ws.drew
                  generalize Ws.drew = wd at hQd hCd hce ⊢
                  go_wp2
                  go_roundg k2
                  case measure => omega
                  case rel => exact ⟨q + 1, rfl, by rw [hnx.out, List.length_append, List.length_singleton, ← Hk.out]; go_num, ⟨by have := hqk.out; omega⟩, hQd, hCd⟩
                · have e2 : (y == x) = false := beq_eq_false_iff_ne.mpr hyx
                  have hnx := Aside0.mk (heldTo_no L' x q hq0 (by rw [← Hy.out]; exact hyx))
                  clear hyx
                  go_upto_region 24 with fail
                  go_still (by kernel_rfl)
                  change Exit.then _ _ _ _ Ws.drew
                  generalize Ws.drew = wd at hQd hCd ⊢
                  go_wp2
                  go_roundg k2
                  case measure => omega
                  case rel => exact ⟨q + 1, rfl, by rw [hnx.out], ⟨by have := hqk.out; omega⟩, hQd, hCd⟩
theorem one4 {W0 : World} {A0 : Option Addr} {c0 : Nat} (script : List Stp) (h0 : Kd.C k31 W0 A0 script.length script) (page birth : Int) (hw1 : (Lit.int .i64 page).wf = true) (hw2 : (Lit.int .i64 birth).wf = true) :
    Calls Try.prog 4 #[.slice A0 script.length c0, .int .i64 page, .int .i64 birth] W0 fun e w' => e = .returned (.bool true) ∧ Below W0.heap.size W0 w' := by
  by_cases h : page < 0 ∨ 16 ≤ page ∨ birth < 1 ∨ 1152921504606846976 < birth
  · exact one_wrong script h0 page birth hw1 hw2 h
  · obtain ⟨n, rfl⟩ : ∃ n : Nat, page = (n : Int) := ⟨page.toNat, by omega⟩
    exact one_right script h0 n birth hw1 hw2 (by omega) (by omega)
end Go.Proofs.Ytjalkjoaepbhbaa.QA
namespace Go.Proofs.Ytjalkjoaepbhbaa.Walks
open Go.RowKit Go.Proofs.Ytjalkjoaepbhbaa.QA Go.Proofs.YtjalkjoaepbhbaaW.PrintWords Go.Proofs.YtjalkjoaepbhbaaW.PrintLast
theorem lockOne {W : World} (A0 : Option Addr) (c0 : Nat) (l0 : List Stp) (hr : Kd.C k31 W A0 l0.length l0) (_hc : l0.length ≤ c0) (a1 : Int) (w1 : (Lit.int .i64 a1).wf = true) (a2 : Int) (w2 : (Lit.int .i64 a2).wf = true) :
    Calls Try.prog 4 #[.slice A0 l0.length c0, .int .i64 a1, .int .i64 a2] W fun e W' => e = .returned (.bool true) ∧ Below W.heap.size W W' := one4 l0 hr a1 a2 w1 w2
end Go.Proofs.Ytjalkjoaepbhbaa.Walks
