/- LockGoes, walked. -/
import Derived.Test.YtjalkjoaepbhbaaTOne
namespace Go.Proofs.Ytjalkjoaepbhbaa.QA
open Go.RowKit Go.Maps Go.Proofs.YtjalkjoaepbhbaaW.PrintWords Go.Proofs.YtjalkjoaepbhbaaW.PrintLast Go.Proofs.YtjalkjoaepbhbaaW.PrintMore
set_option linter.unusedVariables false
set_option linter.unusedSimpArgs false
attribute [local go_sem] max2_int min2_int max_two min_two
theorem e3int : ∀ q ∈ 3 :: (Kd.int .i64).E, q = 3 := by decide
theorem drop_none (L : Who) (birth : Int) : heldL (dropL L birth) birth = [] := by
  unfold heldL
  rw [List.filter_eq_nil_iff]
  intro p _
  unfold dropL
  by_cases h : L p = birth
  · rw [if_pos h]; simp
  · rw [if_neg h]; simp [h]
theorem drop_twice (L : Who) (birth : Int) : dropL (dropL L birth) birth = dropL L birth := by
  funext x
  unfold dropL
  by_cases h : L x = birth
  · rw [if_pos h]; split <;> rfl
  · rw [if_neg h, if_neg h]
theorem heldTo_not (L : Who) (x : Int) (q : Nat) (hq : q < 16) (h : ¬ (L (q : Int) = x ∧ L (q : Int) ≠ 0)) : heldTo L x (q + 1) = heldTo L x q := by
  unfold heldTo
  rw [List.take_succ_eq_append_getElem (by simpa [pages16] using hq), List.filter_append]
  have : decide (L (q : Int) = x ∧ L (q : Int) ≠ 0) = false := decide_eq_false h
  simp [pages16] at this ⊢
  exact this
/-- Behind the takes of the first j pages. -/
def again (L : Who) (birth : Int) (j : Nat) : Who := fun x => if x < (j : Int) ∧ L x = birth ∧ L x ≠ 0 then 99 else dropL L birth x
theorem again_zero {L : Who} (h : Births L) (birth : Int) : again L birth 0 = dropL L birth := by
  funext x
  unfold again
  by_cases e : x < (0 : Int) ∧ L x = birth ∧ L x ≠ 0
  · have := h.page x e.2.2
    omega
  · exact if_neg e
theorem again_skip (L : Who) (birth : Int) (j : Nat) (h : ¬ (L (j : Int) = birth ∧ L (j : Int) ≠ 0)) : again L birth (j + 1) = again L birth j := by
  funext x
  unfold again
  by_cases e : x = (j : Int)
  · subst e
    rw [if_neg (fun h2 => h h2.2), if_neg (fun h2 => h h2.2)]
  · by_cases e2 : x < (j : Int) ∧ L x = birth ∧ L x ≠ 0
    · rw [if_pos e2, if_pos ⟨by omega, e2.2⟩]
    · rw [if_neg e2, if_neg (fun h2 => e2 ⟨by omega, h2.2⟩)]
theorem again_free (L : Who) (birth : Int) (j : Nat) (h : L (j : Int) = birth ∧ L (j : Int) ≠ 0) : again L birth j (j : Int) = 0 := by
  unfold again
  rw [if_neg (by omega)]
  unfold dropL
  rw [if_pos h.1]
theorem again_take (L : Who) (birth : Int) (j : Nat) (hj : j < 16) (h : L (j : Int) = birth ∧ L (j : Int) ≠ 0) : takeE (again L birth j) (j : Int) 99 = 0 ∧ takeL (again L birth j) (j : Int) 99 = again L birth (j + 1) ∧ again L birth (j + 1) (j : Int) = 99 := by
  have h0 := again_free L birth j h
  have hE : takeE (again L birth j) (j : Int) 99 = 0 := by
    unfold takeE
    rw [if_neg (by omega), if_neg (by omega), if_neg (fun h2 => h2.1 h0)]
  have h1 : again L birth (j + 1) (j : Int) = 99 := by
    unfold again
    rw [if_pos ⟨by omega, h⟩]
  refine ⟨hE, ?_, h1⟩
  unfold takeL
  rw [hE, if_pos rfl]
  funext x
  unfold upd1
  by_cases e : x = (j : Int)
  · rw [if_pos e, e, h1]
  · rw [if_neg e]
    unfold again
    by_cases e2 : x < (j : Int) ∧ L x = birth ∧ L x ≠ 0
    · rw [if_pos e2, if_pos ⟨by omega, e2.2⟩]
    · rw [if_neg e2, if_neg (fun h2 => e2 ⟨by omega, h2.2⟩)]
/-- Two Locks, and who was and who is. -/
structure Two (W0 w : World) (p1 b1 p2 b2 g9 g11 : Nat) (La Lb L N : Who) : Prop where
  bel : Below W0.heap.size W0 w
  l1 : Lk w p1 b1 La
  l2 : Lk w p2 b2 Lb
  was : Ar w g9 L
  now : Ar w g11 N
  lo : W0.heap.size ≤ b1 ∧ W0.heap.size ≤ b2 ∧ W0.heap.size ≤ g11
  n : b1 ≠ b2 ∧ b1 ≠ p2 ∧ b2 ≠ p1 ∧ g9 ≠ b2 ∧ g11 ≠ b2 ∧ g9 ≠ g11 ∧ g11 ≠ p1 ∧ g11 ≠ b1 ∧ g11 ≠ p2
section
variable {W0 w w1 : World} {p1 b1 p2 b2 g9 g11 : Nat} {La Lb L N : Who}
theorem Two.below (h : Two W0 w p1 b1 p2 b2 g9 g11 La Lb L N) (hb : Below w.heap.size w w1) : Two W0 w1 p1 b1 p2 b2 g9 g11 La Lb L N :=
  ⟨h.bel.trans (hb.mono h.bel.size), h.l1.below hb, h.l2.below hb, h.was.below hb, h.now.below hb, h.lo, h.n⟩
theorem Two.lock {Lb' : Who} (h : Two W0 w p1 b1 p2 b2 g9 g11 La Lb L N) (m : Mv w w1 (fun k => k = b2)) (hl : Lk w1 p2 b2 Lb') : Two W0 w1 p1 b1 p2 b2 g9 g11 La Lb' L N :=
  ⟨m.below h.bel h.bel.size (fun k hk => hk ▸ h.lo.2.1), h.l1.move m (fun e => h.n.2.2.1 e.symm) h.n.1, hl, h.was.move m h.n.2.2.2.1, h.now.move m h.n.2.2.2.2.1, h.lo, h.n⟩
theorem Two.arr {N' : Who} (h : Two W0 w p1 b1 p2 b2 g9 g11 La Lb L N) (m : Mv w w1 (fun k => k = g11)) (hn : Ar w1 g11 N') : Two W0 w1 p1 b1 p2 b2 g9 g11 La Lb L N' :=
  ⟨m.below h.bel h.bel.size (fun k hk => hk ▸ h.lo.2.2), h.l1.move m (fun e => h.n.2.2.2.2.2.2.1 e.symm) (fun e => h.n.2.2.2.2.2.2.2.1 e.symm), h.l2.move m (fun e => h.n.2.2.2.2.2.2.2.2 e.symm) (fun e => h.n.2.2.2.2.1 e.symm), h.was.move m h.n.2.2.2.2.2.1, hn, h.lo, h.n⟩
end
set_option maxHeartbeats 8000000 in
set_option maxRecDepth 100000 in
theorem goes5 {W0 : World} {A0 : Option Addr} {c0 : Nat} (script : List Stp) (h0 : Kd.C k31 W0 A0 script.length script) (page birth : Int) (hw1 : (Lit.int .i64 page).wf = true) (hw2 : (Lit.int .i64 birth).wf = true) :
    Calls Try.prog 5 #[.slice A0 script.length c0, .int .i64 page, .int .i64 birth] W0 fun e w' => e = .returned (.bool true) ∧ Below W0.heap.size W0 w' := by
  have H0 := Aside0.mk h0
  have HW1 := Aside0.mk hw1
  have HW2 := Aside0.mk hw2
  clear h0 hw1 hw2
  go_enter Try.func5, Try.ntmps5
  go_upto_region 8 with (first
    | ((with_reducible refine gate_dst (N := 22) rfl ?_); refine goesL_ (some 22) rfl rfl Try.func12 (by kernel_rfl) rfl #[.slice A0 script.length c0] rfl (by (try simp only [List.map_toArray, List.map_cons, List.map_nil]); first | done | rfl) ?_
       refine (played12 script H0.out).mono ?_
       rintro e w1 ⟨p1, b1, rfl, hl, hp, hb, hbel⟩
       refine ⟨_, rfl, ?_⟩
       have K1 := Aside0.mk hl
       have B1 := Aside0.mk hbel
       have N1 := Aside0.mk hb
       clear hl hp hb hbel)
    | ((with_reducible refine gate_dst (N := 24) rfl ?_); refine goesL_ (some 24) rfl rfl Try.func12 (by kernel_rfl) rfl #[.slice A0 script.length c0] rfl (by (try simp only [List.map_toArray, List.map_cons, List.map_nil]); first | done | rfl) ?_
       refine (played12 script (Kd.C_below H0.out B1.out)).mono ?_
       rintro e w2 ⟨p2, b2, rfl, hl, hp, hb, hbel⟩
       refine ⟨_, rfl, ?_⟩
       have K2 := Aside0.mk (K1.out.below hbel)
       have J2 := Aside0.mk hl
       have B2 := Aside0.mk (B1.out.trans (hbel.mono B1.out.size))
       have N2 := Aside0.mk (show W0.heap.size ≤ b2 ∧ b1 ≠ b2 ∧ b1 ≠ p2 ∧ b2 ≠ p1 from by have h1 := K1.out.lt; have h2 := B1.out.size; omega)
       clear hl hp hb hbel)
    | ((with_reducible refine gate_dst (N := 32) rfl ?_); refine gate_guard rfl ?_; refine goesL_ (some 32) rfl rfl Try.func9 (by kernel_rfl) rfl #[] rfl (by (try simp only [List.map_toArray, List.map_cons, List.map_nil]); first | done | rfl) ?_
       refine (known9).mono ?_
       rintro e w3 ⟨rfl, hbel⟩
       refine ⟨_, rfl, ?_⟩
       have K3 := Aside0.mk (K2.out.below hbel)
       have J3 := Aside0.mk (J2.out.below hbel)
       have B3 := Aside0.mk (B2.out.trans (hbel.mono B2.out.size))
       clear hbel)
    | ((with_reducible refine gate_dst (N := 36) rfl ?_); refine goesL_ (some 36) rfl rfl Try.func13 (by kernel_rfl) rfl #[.pointer (some ⟨p1, 0, none⟩)] rfl (by (try simp only [List.map_toArray, List.map_cons, List.map_nil]); first | done | rfl) ?_
       refine (holders13 K3.out).mono ?_
       rintro e w4 ⟨rfl, hbel⟩
       refine ⟨_, rfl, ?_⟩
       have K4 := Aside0.mk (K3.out.below hbel)
       have J4 := Aside0.mk (J3.out.below hbel)
       have B4 := Aside0.mk (B3.out.trans (hbel.mono B3.out.size))
       clear hbel)
    | ((with_reducible refine gate_dst (N := 9) rfl ?_); refine box_event ?hg (N := 9) ?hd (cs := cells16 L0) (t := 35) ?hr ?_; (case hd => rfl); (case hg => rfl); (case hr => kernel_rfl); intro g9 hg_ w5 hb_ hbel_
       have G5 := Aside0.mk (show Ar w5 g9 L0 from hb_)
       have N5 := Aside0.mk hg_
       have S5 := Aside0.mk hbel_
       have K5 := Aside0.mk (K4.out.below hbel_)
       have J5 := Aside0.mk (J4.out.below hbel_)
       have B5 := Aside0.mk (B4.out.trans (hbel_.mono B4.out.size))
       have X5 := Aside0.mk (show g9 ≠ p1 ∧ g9 ≠ b1 ∧ g9 ≠ p2 ∧ g9 ≠ b2 ∧ W0.heap.size ≤ g9 from by have h1 := K4.out.lt; have h2 := B4.out.size; have h3 := J4.out.lt; omega)
       clear hg_ hb_ hbel_)
    | ((with_reducible refine gate_store (t := 35) (p := 9) (v := .tmp 36) rfl ?_); refine store_event rfl rfl (g := g9) rfl rfl G5.out (by rw [cells16_size]; kernel_rfl) (by rw [cells16_size, cells16_size]) (one16 (playL script)) ?_
       intro w6 hb_ mv_
       have A6 := Aside0.mk (show Ar w6 g9 (playL script) from hb_)
       have K6 := Aside0.mk (K5.out.move mv_ (fun e => X5.out.1 e.symm) (fun e => X5.out.2.1 e.symm))
       have J6 := Aside0.mk (J5.out.move mv_ (fun e => X5.out.2.2.1 e.symm) (fun e => X5.out.2.2.2.1 e.symm))
       have B6 := Aside0.mk (mv_.below B5.out B5.out.size (fun k hk => hk ▸ X5.out.2.2.2.2))
       clear hb_ mv_)
    | ((with_reducible refine gate_dst (N := 39) rfl ?_); refine goesL_ (some 39) rfl rfl Try.func16 (by kernel_rfl) rfl #[.pointer (some ⟨p1, 0, none⟩), .int .i64 page] rfl (by (try simp only [List.map_toArray, List.map_cons, List.map_nil]); first | done | rfl) ?_
       refine (give16 K6.out page HW1.out).mono ?_
       rintro e w7 ⟨rfl, hl, hm_⟩
       refine ⟨_, rfl, ?_⟩
       have K7 := Aside0.mk hl
       have J7 := Aside0.mk (J6.out.move hm_ (fun e => N2.out.2.2.1 e.symm) (fun e => N2.out.2.1 e.symm))
       have B7 := Aside0.mk (hm_.below B6.out B6.out.size (fun k hk => hk ▸ N1.out))
       have A7 := Aside0.mk (A6.out.move hm_ X5.out.2.1)
       clear hl hm_)
    | ((with_reducible refine gate_dst (N := 41) rfl ?_); refine goesL_ (some 41) rfl rfl Try.func13 (by kernel_rfl) rfl #[.pointer (some ⟨p1, 0, none⟩)] rfl (by (try simp only [List.map_toArray, List.map_cons, List.map_nil]); first | done | rfl) ?_
       refine (holders13 K7.out).mono ?_
       rintro e w8 ⟨rfl, hbel⟩
       refine ⟨_, rfl, ?_⟩
       have K8 := Aside0.mk (K7.out.below hbel)
       have J8 := Aside0.mk (J7.out.below hbel)
       have B8 := Aside0.mk (B7.out.trans (hbel.mono B7.out.size))
       have A8 := Aside0.mk (A7.out.below hbel)
       clear hbel)
    | ((with_reducible refine gate_dst (N := 11) rfl ?_); refine box_event ?hg (N := 11) ?hd (cs := cells16 L0) (t := 35) ?hr ?_; (case hd => rfl); (case hg => rfl); (case hr => kernel_rfl); intro g11 hg_ w9 hb_ hbel_
       have G9 := Aside0.mk (show Ar w9 g11 L0 from hb_)
       have N9 := Aside0.mk hg_
       have S9 := Aside0.mk hbel_
       have K9 := Aside0.mk (K8.out.below hbel_)
       have J9 := Aside0.mk (J8.out.below hbel_)
       have B9 := Aside0.mk (B8.out.trans (hbel_.mono B8.out.size))
       have A9 := Aside0.mk (A8.out.below hbel_)
       have X9 := Aside0.mk (show W0.heap.size ≤ g11 ∧ g11 ≠ b2 ∧ g9 ≠ g11 ∧ g11 ≠ p1 ∧ g11 ≠ b1 ∧ g11 ≠ p2 from by have h1 := K8.out.lt; have h2 := B8.out.size; have h3 := J8.out.lt; have h4 := blk_lt A8.out; omega)
       clear hg_ hb_ hbel_)
    | ((with_reducible refine gate_store (t := 35) (p := 11) (v := .tmp 41) rfl ?_); refine store_event rfl rfl (g := g11) rfl rfl G9.out (by rw [cells16_size]; kernel_rfl) (by rw [cells16_size, cells16_size]) (one16 (upd1 (playL script) page 0)) ?_
       intro w10 hb_ mv_
       have A10 := Aside0.mk (show Ar w10 g11 (upd1 (playL script) page 0) from hb_)
       have Q10 := Aside0.mk (show Two W0 w10 p1 b1 p2 b2 g9 g11 (upd1 (playL script) page 0) (playL script) (playL script) (upd1 (playL script) page 0) from
         ⟨mv_.below B9.out B9.out.size (fun k hk => hk ▸ X9.out.1), K9.out.move mv_ (fun e => X9.out.2.2.2.1 e.symm) (fun e => X9.out.2.2.2.2.1 e.symm), J9.out.move mv_ (fun e => X9.out.2.2.2.2.2 e.symm) (fun e => X9.out.2.1 e.symm), A9.out.move mv_ X9.out.2.2.1, hb_, ⟨N1.out, N2.out.1, X9.out.1⟩, ⟨N2.out.2.1, N2.out.2.2.1, N2.out.2.2.2, X5.out.2.2.2.1, X9.out.2.1, X9.out.2.2.1, X9.out.2.2.2.1, X9.out.2.2.2.2.1, X9.out.2.2.2.2.2⟩⟩)
       clear hb_ mv_))
  clear K1 B1 N1 K2 J2 B2 N2 K3 J3 B3 K4 J4 B4 G5 N5 S5 K5 J5 B5 X5 A6 K6 J6 B6 K7 J7 B7 A7 K8 J8 B8 A8 G9 N9 S9 K9 J9 B9 A9 X9 A10
  have HL := Aside0.mk Q10.out.l2.ok
  obtain ⟨L, hL⟩ : ∃ L, L = playL script := ⟨_, rfl⟩
  rw [← hL] at Q10 HL ⊢
  clear hL
  have hGone := Aside0.mk (show ∀ z, z = gave L page → (z = false ∧ L page = 0) ∨ (z = true ∧ L page ≠ 0) from by
    intro z hz
    unfold gave at hz
    by_cases h : L page = 0
    · exact .inl ⟨by rw [hz]; simp [h], h⟩
    · exact .inr ⟨by rw [hz]; simp [h], h⟩)
  obtain ⟨z, hz⟩ : ∃ z, z = gave L page := ⟨_, rfl⟩
  rw [← hz]
  replace hGone := Aside0.mk (hGone.out z hz)
  clear hz
  go_upto_block 0 with fail
  go_cut [] (fun wc => wc = w10)
  case first =>
    go_wp2_with fail
    go_loopg [12] 16 (fun kq v12 wr => ∃ (j : Nat), v12 = .int .i64 (j : Int) ∧ Aside0 (j + kq = 16) ∧ wr = w10)
    case atStart => exact ⟨0, rfl, ⟨rfl⟩, rfl⟩
    case round =>
      obtain ⟨j, rfl, hjk, rfl⟩ := hrel
      obtain ⟨Ws, hWs, Q10⟩ : ∃ W, W = _ ∧ Aside0 (Two W0 W p1 b1 p2 b2 g9 g11 (upd1 L page 0) L L (upd1 L page 0)) := ⟨_, rfl, Q10⟩
      subst hWs
      cases gk with
      | zero =>
        obtain rfl : j = 16 := hjk.out
        go_wp2
        go_meet
        case rel => rfl
      | succ k1 =>
        have hj0 : j < 16 := by have := hjk.out; omega
        have hj1 : (j : Int) < 16 := by omega
        have hj2 : decide ((j : Int) < 16) = true := decide_eq_true hj1
        have hwj := Q10.out.was.cell j hj0
        have hnj := Q10.out.now.cell j hj0
        by_cases hbad : page < 0 ∨ 16 ≤ page
        · have hne : (j : Int) ≠ page := by omega
          have d1 : ((j : Int) == page) = false := beq_eq_false_iff_ne.mpr hne
          have hu : upd1 L page 0 (j : Int) = L (j : Int) := by unfold upd1; exact if_neg hne
          rw [hu] at hnj
          obtain ⟨y, hy⟩ : ∃ y, y = L (j : Int) := ⟨_, rfl⟩
          rw [← hy] at hwj hnj
          have hyy : (y != y) = false := by simp
          have hz0 : z = false := by
            rcases hGone.out with h | h
            · exact h.1
            · have := HL.out.page page h.2
              omega
          subst hz0
          clear hne hu hy
          rcases hbad with hb | hb
          · have d2 : decide (0 ≤ page) = false := decide_eq_false (by omega)
            go_wp2
            go_roundg k1
            case measure => omega
            case rel => exact ⟨j + 1, rfl, ⟨by have := hjk.out; omega⟩, rfl⟩
          · have d2 : decide (0 ≤ page) = true := decide_eq_true (by omega)
            have d3 : decide (page < 16) = false := decide_eq_false (by omega)
            go_wp2
            go_roundg k1
            case measure => omega
            case rel => exact ⟨j + 1, rfl, ⟨by have := hjk.out; omega⟩, rfl⟩
        · obtain ⟨n, hn⟩ : ∃ n : Nat, (n : Int) = page := ⟨page.toNat, by omega⟩
          have hn0 : n < 16 := by omega
          have hcn := Q10.out.was.cell n hn0
          obtain ⟨x, hx⟩ : ∃ x, x = L page := ⟨_, rfl⟩
          rw [hn, ← hx] at hcn
          have hzx := hGone.out
          rw [← hx] at hzx
          obtain ⟨y, hyw, hyn⟩ : ∃ y, Ws.cell? ⟨g9, j, none⟩ = some (.int .i64 y) ∧ Ws.cell? ⟨g11, j, none⟩ = some (.int .i64 (if (j : Int) = page then 0 else y)) := by
            refine ⟨L (j : Int), hwj, ?_⟩
            rw [hnj]
            unfold upd1
            rfl
          clear hwj hnj hx
          have hzz : z = (x != 0) := by
            rcases hzx with ⟨h1, h2⟩ | ⟨h1, h2⟩
            · rw [h1, h2]; rfl
            · rw [h1, bne_iff_ne.mpr h2]
          have hyy : (y != y) = false := by simp
          have hn1 : (n : Int) < 16 := by omega
          have d2 : decide (0 ≤ (n : Int)) = true := decide_eq_true (by omega)
          have d3 : decide ((n : Int) < 16) = true := decide_eq_true hn1
          have m1 : ¬ ((15 : Int) < (n : Int)) := by omega
          have m2 : (n : Int) ≤ 15 := by omega
          have hu : (x != 0) = z := hzz.symm
          clear hzx hzz hbad
          by_cases hn00 : n = 0
          · obtain rfl : page = 0 := by rw [← hn, hn00]; rfl
            rw [hn00] at hcn
            clear hn m1 m2 d2 d3 hn1
            by_cases hjn : j = 0
            · rw [if_pos (by omega)] at hyn
              have d1 : ((j : Int) == 0) = true := by rw [hjn]; rfl
              clear hjn
              go_wp2
              go_roundg k1
              case measure => omega
              case rel => exact ⟨j + 1, rfl, ⟨by have := hjk.out; omega⟩, rfl⟩
            · have d1 : ((j : Int) == 0) = false := beq_eq_false_iff_ne.mpr (by omega)
              rw [if_neg (by omega)] at hyn
              go_wp2
              go_roundg k1
              case measure => omega
              case rel => exact ⟨j + 1, rfl, ⟨by have := hjk.out; omega⟩, rfl⟩
          · have m3 : (0 : Int) < (n : Int) := by omega
            subst hn
            by_cases hjn : j = n
            · subst hjn
              have hyx : some (Value.int .i64 y) = some (.int .i64 x) := hyw.symm.trans hcn
              injection hyx with hyx
              injection hyx with _ hyx
              subst hyx
              clear hcn
              have d1 : ((j : Int) == (j : Int)) = true := beq_self_eq_true _
              rw [if_pos rfl] at hyn
              go_wp2
              go_roundg k1
              case measure => omega
              case rel => exact ⟨j + 1, rfl, ⟨by have := hjk.out; omega⟩, rfl⟩
            · have d1 : ((j : Int) == (n : Int)) = false := beq_eq_false_iff_ne.mpr (by omega)
              rw [if_neg (by omega)] at hyn
              go_wp2
              go_roundg k1
              case measure => omega
              case rel => exact ⟨j + 1, rfl, ⟨by have := hjk.out; omega⟩, rfl⟩
  case rest =>
    subst hcut
    clear hGone
    have HW3 := HW2
    go_upto_region 19 with (first
      | ((with_reducible refine gate_dst (N := 77) rfl ?_); refine goesL_ (some 77) rfl rfl Try.func15 (by kernel_rfl) rfl #[.pointer (some ⟨p2, 0, none⟩), .int .i64 birth] rfl (by (try simp only [List.map_toArray, List.map_cons, List.map_nil]); first | done | rfl) ?_
         refine (held15 Q10.out.l2 birth).mono ?_
         rintro e w11 ⟨v1, rfl, hv, hbel⟩
         refine ⟨_, rfl, ?_⟩
         obtain ⟨A1, c1, rfl⟩ := Kd.R_slice hv
         have V11 := Aside0.mk hv
         have Q11 := Aside0.mk (Q10.out.below hbel)
         clear hv hbel)
      | ((with_reducible refine gate_dst (N := 80) rfl ?_); refine goesL_ (some 80) rfl rfl Try.func17 (by kernel_rfl) rfl #[.pointer (some ⟨p2, 0, none⟩), .int .i64 birth] rfl (by (try simp only [List.map_toArray, List.map_cons, List.map_nil]); first | done | rfl) ?_
         refine (drop17 Q11.out.l2 birth).mono ?_
         rintro e w12 ⟨v2, rfl, hv, hl, hm_⟩
         refine ⟨_, rfl, ?_⟩
         obtain ⟨A2, c2, rfl⟩ := Kd.R_slice hv
         have V12 := Aside0.mk (And.intro hv Q11.out.l2.lt)
         have U12 := Aside0.mk (C_of_block (w2 := w12) V11.out (fun k hk => hm_.block k (Kd.R_lt V11.out k hk) (fun e => by have h1 := Kd.R_base V11.out k hk; have h2 := Q10.out.l2.lt; omega)))
         have Q12 := Aside0.mk (Q11.out.lock hm_ hl)
         clear hv hl hm_)
      | ((with_reducible refine gate_dst (N := 82) rfl ?_); refine goesL_ (some 82) rfl rfl Try.func13 (by kernel_rfl) rfl #[.pointer (some ⟨p2, 0, none⟩)] rfl (by (try simp only [List.map_toArray, List.map_cons, List.map_nil]); first | done | rfl) ?_
         refine (holders13 Q12.out.l2).mono ?_
         rintro e w13 ⟨rfl, hbel⟩
         refine ⟨_, rfl, ?_⟩
         have Q13 := Aside0.mk (Q12.out.below hbel)
         have U13 := Aside0.mk (Kd.R_below U12.out hbel)
         have V13 := Aside0.mk (Kd.R_below V12.out.1 hbel)
         clear hbel)
      | ((with_reducible refine gate_store (t := 35) (p := 11) (v := .tmp 82) rfl ?_); refine store_event rfl rfl (g := g11) rfl rfl Q13.out.now (by rw [cells16_size]; kernel_rfl) (by rw [cells16_size, cells16_size]) (one16 (dropL L birth)) ?_
         intro w14 hb_ mv_
         have A14 := Aside0.mk (show Ar w14 g11 (dropL L birth) from hb_)
         have Q14 := Aside0.mk (Q13.out.arr mv_ hb_)
         have U14 := Aside0.mk (R_tm U13.out mv_ (fun k q hs _ hq ht => by subst hs; have h1 := ht.eq Q13.out.now; have h2 := e3int q hq; omega))
         have V14 := Aside0.mk (R_tm V13.out mv_ (fun k q hs _ hq ht => by subst hs; have h1 := ht.eq Q13.out.now; have h2 := e3int q hq; omega))
         clear hb_ mv_))
    have hnone := Aside0.mk (drop_none L birth)
    have htwice := Aside0.mk (drop_twice L birth)
    go_upto_region 21 with (first
      | ((with_reducible refine gate_dst (N := 85) rfl ?_); refine goesL_ (some 85) rfl rfl Try.func18 (by kernel_rfl) rfl #[.slice A1 (heldL L birth).length c1, .slice A2 (heldL L birth).length c2] rfl (by (try simp only [List.map_toArray, List.map_cons, List.map_nil]); first | done | rfl) ?_
         refine (same18 (heldL L birth) (Kd.R_reads' U14.out).2.2 (Kd.R_reads' V14.out).2.2).mono ?_
         rintro e w15 ⟨rfl, hbel⟩
         refine ⟨_, rfl, ?_⟩
         have Q15 := Aside0.mk (Q14.out.below hbel)
         have V15 := Aside0.mk (Kd.R_below V14.out hbel)
         clear hbel)
      | ((with_reducible refine gate_dst (N := 90) rfl ?_); refine gate_guard rfl ?_; refine goesL_ (some 90) rfl rfl Try.func15 (by kernel_rfl) rfl #[.pointer (some ⟨p2, 0, none⟩), .int .i64 birth] rfl (by (try simp only [List.map_toArray, List.map_cons, List.map_nil]); first | done | rfl) ?_
         refine (held15 Q15.out.l2 birth).mono ?_
         rintro e w16 ⟨v3, rfl, hv, hbel⟩
         refine ⟨_, rfl, ?_⟩
         rw [hnone.out] at hv
         obtain ⟨A3, c3, rfl⟩ := Kd.R_slice hv
         have Q16 := Aside0.mk (Q15.out.below hbel)
         have V16 := Aside0.mk (Kd.R_below V15.out hbel)
         clear hv hbel)
      | ((with_reducible refine gate_dst (N := 97) rfl ?_); refine gate_guard rfl ?_; refine goesL_ (some 97) rfl rfl Try.func17 (by kernel_rfl) rfl #[.pointer (some ⟨p2, 0, none⟩), .int .i64 birth] rfl (by (try simp only [List.map_toArray, List.map_cons, List.map_nil]); first | done | rfl) ?_
         refine (drop17 Q16.out.l2 birth).mono ?_
         rintro e w17 ⟨v4, rfl, hv, hl, hm_⟩
         refine ⟨_, rfl, ?_⟩
         rw [hnone.out] at hv
         rw [htwice.out] at hl
         obtain ⟨A4, c4, rfl⟩ := Kd.R_slice hv
         have Q17 := Aside0.mk (Q16.out.lock hm_ hl)
         have V17 := Aside0.mk (C_of_block (w2 := w17) V16.out (fun k hk => hm_.block k (Kd.R_lt V16.out k hk) (fun e => by have h1 := Kd.R_base V16.out k hk; have h2 := V12.out.2; omega)))
         clear hv hl hm_))
    clear Q10 V11 Q11 U12 Q12 Q13 U13 V13 Q14 U14 V14 A14 Q15 V15 Q16 V16 hnone htwice
    have hB2 := V12.out.2.2
    clear V12
    go_wp2_with fail
    go_loopg [16, 17] 16 (fun kq v16 v17 wr => ∃ (j : Nat), v17 = .int .i64 (j : Int) ∧ v16 = .int .i64 ((heldTo L birth j).length : Int) ∧ Aside0 (j + kq = 16) ∧ Aside0 (Two W0 wr p1 b1 p2 b2 g9 g11 (upd1 L page 0) (again L birth j) L (dropL L birth)) ∧ Aside0 (Kd.R (Kd.int .i64) 3 wr w11.heap.size (fun _ => True) (.slice A2 (heldL L birth).length c2) (heldL L birth)))
    case atStart => exact ⟨0, rfl, rfl, ⟨rfl⟩, ⟨by rw [again_zero HL.out]; exact Q17.out⟩, V17⟩
    case round =>
      clear Q17 V17
      obtain ⟨j, rfl, rfl, hjk, hQ, hV⟩ := hrel
      obtain ⟨Ws, hWs, hQ⟩ : ∃ W, W = _ ∧ Aside0 (Two W0 W p1 b1 p2 b2 g9 g11 (upd1 L page 0) (again L birth j) L (dropL L birth)) := ⟨_, rfl, hQ⟩
      subst hWs
      have hsl : (heldL L birth).length ≤ 16 := held_length _ _
      cases gk with
      | zero =>
        obtain rfl : j = 16 := hjk.out
        rw [heldTo_all]
        have e2 : (((heldL L birth).length : Int) == ((heldL L birth).length : Int)) = true := by simp
        go_wp2
        go_ret
        exact ⟨rfl, hQ.out.bel⟩
      | succ k1 =>
        have hj0 : j < 16 := by have := hjk.out; omega
        have hj1 : (j : Int) < 16 := by omega
        have hj2 : decide ((j : Int) < 16) = true := decide_eq_true hj1
        have hwj := hQ.out.was.cell j hj0
        have hnj := hQ.out.now.cell j hj0
        by_cases hmine : L (j : Int) = birth ∧ L (j : Int) ≠ 0
        · have hb0 : birth ≠ 0 := fun e => hmine.2 (hmine.1.trans e)
          have hdr : dropL L birth (j : Int) = 0 := by unfold dropL; rw [if_pos hmine.1]
          obtain ⟨hT1, hT2, hT3⟩ := again_take L birth j hj0 hmine
          have hat := heldTo_at L birth j hj0 hmine.1 hb0
          have hnx := Aside0.mk (heldTo_yes L birth j hj0 hmine.1 hb0)
          rw [hmine.1] at hwj
          rw [hdr] at hnj
          have d1 : (birth == birth) = true := beq_self_eq_true _
          have d2 : (birth != 0) = true := bne_iff_ne.mpr hb0
          have HT1 := Aside0.mk hT1
          have HT2 := Aside0.mk hT2
          have HT3 := Aside0.mk hT3
          clear hT1 hT2 hT3 hmine hb0 hdr
          obtain ⟨k, hk⟩ : ∃ k, k = (heldTo L birth j).length := ⟨_, rfl⟩
          have Hk := Aside0.mk hk
          rw [← hk] at hat ⊢
          clear hk
          have hk1 : (k : Int) < ((heldL L birth).length : Int) := by omega
          have hk2 : decide (((heldL L birth).length : Int) ≤ (k : Int)) = false := decide_eq_false (by omega)
          have hk3 : decide ((heldL L birth).length ≤ k) = false := decide_eq_false (by omega)
          have hk4 : k < 17 := by omega
          obtain ⟨ad, e, hce⟩ := Kd.at_int (Kd.R_reads' hV.out).2.2 (k : Int) (by omega) hk1
          subst e
          rw [Int.toNat_natCast, hat.2] at hce
          have e3 : ((j : Int) != (j : Int)) = false := by simp
          have hw99 : (Lit.int .i64 99).wf = true := by decide
          have hwfj := wf_i64 (x := (j : Int)) (by omega)
          have HW9 := Aside0.mk (And.intro hw99 hwfj)
          have HTk := Aside0.mk (take14 hQ.out.l2 (j : Int) 99 hwfj hw99)
          rw [HT1.out, HT2.out] at HTk
          clear hat hw99 hwfj
          go_wp2_with (first
            | ((with_reducible refine gate_dst (N := 140) rfl ?_); refine goesL_ (some 140) rfl rfl Try.func14 (by kernel_rfl) rfl #[.pointer (some ⟨p2, 0, none⟩), .int .i64 (j : Int), .int .i64 99] rfl (by (try simp only [List.map_toArray, List.map_cons, List.map_nil]); first | done | rfl) ?_
               refine (HTk.out).mono ?_
               rintro e w18 ⟨rfl, hl, hm_⟩
               refine ⟨_, rfl, ?_⟩
               have Q18 := Aside0.mk (hQ.out.lock hm_ hl)
               have V18 := Aside0.mk (C_of_block (w2 := w18) hV.out (fun k hk => hm_.block k (Kd.R_lt hV.out k hk) (fun e => by have h1 := Kd.R_base hV.out k hk; omega)))
               have HHo := Aside0.mk (show Calls Try.prog 19 #[.pointer (some ⟨p2, 0, none⟩), .int .i64 (j : Int)] w18 (fun e w' => e = .returned (.int .i64 99) ∧ w18 = w') from by
                 have h := holder19 hl (j : Int) HW9.out.2
                 rw [HT3.out] at h
                 exact h)
               clear hl hm_)
            | ((with_reducible refine gate_dst (N := 146) rfl ?_); refine gate_guard rfl ?_; refine goesL_ (some 146) rfl rfl Try.func19 (by kernel_rfl) rfl #[.pointer (some ⟨p2, 0, none⟩), .int .i64 (j : Int)] rfl (by (try simp only [List.map_toArray, List.map_cons, List.map_nil]); first | done | rfl) ?_
               refine (HHo.out).mono ?_
               rintro e w' ⟨rfl, rfl⟩
               refine ⟨_, rfl, ?_⟩
               skip))
          go_roundg k1
          case measure => omega
          case rel => exact ⟨j + 1, rfl, by rw [hnx.out, List.length_append, List.length_singleton, ← Hk.out]; go_num, ⟨by have := hjk.out; omega⟩, Q18, V18⟩
        · have hnx := Aside0.mk (heldTo_not L birth j hj0 hmine)
          have hag := Aside0.mk (again_skip L birth j hmine)
          have hdr : dropL L birth (j : Int) = L (j : Int) := by
            unfold dropL
            by_cases h1 : L (j : Int) = birth
            · rw [if_pos h1]
              by_cases h2 : L (j : Int) = 0
              · exact h2.symm
              · exact absurd ⟨h1, h2⟩ hmine
            · rw [if_neg h1]
          rw [hdr] at hnj
          obtain ⟨y, hy⟩ : ∃ y, y = L (j : Int) := ⟨_, rfl⟩
          rw [← hy] at hwj hnj hmine
          have hyy : (y != y) = false := by simp
          clear hdr hy
          by_cases h1 : y = birth
          · have d1 : (y == birth) = true := beq_iff_eq.mpr h1
            have h2 : birth = 0 := by
              by_cases h3 : birth = 0
              · exact h3
              · exact absurd ⟨h1, h1 ▸ h3⟩ hmine
            have d2 : (birth != 0) = false := by rw [h2]; rfl
            have d2' : (birth == 0) = true := by rw [h2]; rfl
            clear h1 h2 hmine
            go_wp2
            go_roundg k1
            case measure => omega
            case rel => exact ⟨j + 1, rfl, by rw [hnx.out], ⟨by have := hjk.out; omega⟩, ⟨by rw [hag.out]; exact hQ.out⟩, hV⟩
          · have d1 : (y == birth) = false := beq_eq_false_iff_ne.mpr h1
            clear h1 hmine
            go_wp2
            go_roundg k1
            case measure => omega
            case rel => exact ⟨j + 1, rfl, by rw [hnx.out], ⟨by have := hjk.out; omega⟩, ⟨by rw [hag.out]; exact hQ.out⟩, hV⟩
end Go.Proofs.Ytjalkjoaepbhbaa.QA
namespace Go.Proofs.Ytjalkjoaepbhbaa.Walks
open Go.RowKit Go.Proofs.Ytjalkjoaepbhbaa.QA Go.Proofs.YtjalkjoaepbhbaaW.PrintWords Go.Proofs.YtjalkjoaepbhbaaW.PrintLast
theorem lockGoes {W : World} (A0 : Option Addr) (c0 : Nat) (l0 : List Stp) (hr : Kd.C k31 W A0 l0.length l0) (_hc : l0.length ≤ c0) (a1 : Int) (w1 : (Lit.int .i64 a1).wf = true) (a2 : Int) (w2 : (Lit.int .i64 a2).wf = true) :
    Calls Try.prog 5 #[.slice A0 l0.length c0, .int .i64 a1, .int .i64 a2] W fun e W' => e = .returned (.bool true) ∧ Below W.heap.size W W' := goes5 l0 hr a1 a2 w1 w2
end Go.Proofs.Ytjalkjoaepbhbaa.Walks
