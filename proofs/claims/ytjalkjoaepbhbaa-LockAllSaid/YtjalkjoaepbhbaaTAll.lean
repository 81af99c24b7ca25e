/- LockAll, walked: two pairs of Locks beside one another. -/
import Derived.Test.YtjalkjoaepbhbaaTScript
namespace Go.Proofs.Ytjalkjoaepbhbaa.QA
open Go.RowKit Go.Maps Go.Proofs.YtjalkjoaepbhbaaW.PrintWords Go.Proofs.YtjalkjoaepbhbaaW.PrintLast Go.Proofs.YtjalkjoaepbhbaaW.PrintMore
set_option linter.unusedVariables false
set_option linter.unusedSimpArgs false
attribute [local go_sem ↓] Go.wp_at_zero Go.wp_at_succ
/-- One pair, in blocks from lo on, below hi. -/
structure In (w : World) (lo hi X p b r : Nat) (L : Who) : Prop where
  pr : Pr w p b r L
  x : Px w X p r
  l : lo ≤ p ∧ lo ≤ b ∧ lo ≤ r ∧ lo ≤ X
  h : p < hi ∧ b < hi ∧ r < hi ∧ X < hi
  n : X ≠ b ∧ X ≠ r
theorem In.move {w w1 : World} {lo hi X p b r : Nat} {L : Who} {S : Nat → Prop} (h : In w lo hi X p b r L) (m : Mv w w1 S) (hS : ∀ k, S k → k < lo ∨ hi ≤ k) : In w1 lo hi X p b r L := by
  obtain ⟨h1, h2, h3, h4⟩ := h.h
  obtain ⟨l1, l2, l3, l4⟩ := h.l
  exact ⟨h.pr.move m (fun e => by have := hS _ e; omega) (fun e => by have := hS _ e; omega) (fun e => by have := hS _ e; omega), ⟨m.blk h.x.x (fun e => by have := hS _ e; omega)⟩, h.l, h.h, h.n⟩
theorem In.step {w w1 : World} {lo hi X p b r : Nat} {L L' : Who} (h : In w lo hi X p b r L) (m : Mv w w1 (fun k => k = b ∨ k = r)) (h' : Pr w1 p b r L') : In w1 lo hi X p b r L' :=
  ⟨h', ⟨m.blk h.x.x (fun e => e.elim h.n.1 h.n.2)⟩, h.l, h.h, h.n⟩
theorem In.below {w w1 : World} {lo hi X p b r : Nat} {L : Who} (h : In w lo hi X p b r L) (hb : Below w.heap.size w w1) : In w1 lo hi X p b r L :=
  h.move (Mv.of_below hb (fun _ => False)) (fun k hk => hk.elim)
set_option maxHeartbeats 8000000 in
set_option maxRecDepth 100000 in
theorem all3 {W0 : World} {A0 : Option Addr} {c0 : Nat} (script : List Stp) (h0 : Kd.C k31 W0 A0 script.length script) :
    Calls Try.prog 3 #[.slice A0 script.length c0] W0 fun e w' => e = .returned (.bool true) ∧ Below W0.heap.size W0 w' := by
  have H0 := Aside0.mk h0
  have hm := Kd.C_max h0
  clear h0
  go_enter Try.func3, Try.ntmps3
  go_upto_region 2 with (first
    | ((with_reducible refine gate_dst (N := 7) rfl ?_); refine goesL_ (some 7) rfl rfl Try.func7 (by kernel_rfl) rfl #[] rfl (by (try simp only [List.map_toArray, List.map_cons, List.map_nil]); first | done | rfl) ?_
       refine new7.mono ?_
       rintro e w1 ⟨p1, b1, rfl, hl, hp, hb, hbel⟩
       refine ⟨_, rfl, ?_⟩
       have K1 := Aside0.mk hl
       have B1 := Aside0.mk hbel
       have N1 := Aside0.mk (And.intro hp hb)
       clear hl hp hb hbel)
    | ((with_reducible refine gate_dst (N := 8) rfl ?_); refine goesL_ (some 8) rfl rfl Try.func8 (by kernel_rfl) rfl #[] rfl (by (try simp only [List.map_toArray, List.map_cons, List.map_nil]); first | done | rfl) ?_
       refine new8.mono ?_
       rintro e w2 ⟨r1, rfl, hr, hn, hbel⟩
       refine ⟨_, rfl, ?_⟩
       have P1 := Aside0.mk (Pr.mk (K1.out.below hbel) hr)
       have B2 := Aside0.mk (B1.out.trans (hbel.mono B1.out.size))
       have N2 := Aside0.mk hn
       have S2 := Aside0.mk (And.intro K1.out.lt hbel.size)
       clear hr hn hbel K1 B1))
  have I1 := Aside0.mk (show In (w2.alloc (.cells #[.pointer (some ⟨p1, 0, none⟩), .pointer (some ⟨r1, 0, none⟩)] 28 (0, 0))) W0.heap.size (w2.heap.size + 1) w2.heap.size p1 b1 r1 L0 from by
    have h1 := P1.out.k.lt
    have h2 := blk_lt P1.out.r
    have h3 := N1.out
    have h4 := N2.out
    have h5 := S2.out
    have h6 := B2.out.size
    exact ⟨P1.out.below (below_alloc (Below.refl _ _) _), ⟨heap_alloc_new w2 _⟩, ⟨h3.1, h3.2, by omega, by omega⟩, ⟨by omega, by omega, by omega, by omega⟩, ⟨by omega, by omega⟩⟩)
  have B3 := Aside0.mk (B2.out.trans ((below_alloc (Below.refl w2.heap.size w2) (.cells #[.pointer (some ⟨p1, 0, none⟩), .pointer (some ⟨r1, 0, none⟩)] 28 (0, 0))).mono B2.out.size))
  have Sz := Aside0.mk (show (w2.alloc (.cells #[.pointer (some ⟨p1, 0, none⟩), .pointer (some ⟨r1, 0, none⟩)] 28 (0, 0))).heap.size = w2.heap.size + 1 from by simp)
  clear P1 N1 N2 S2 B2
  generalize w2.alloc (.cells #[.pointer (some ⟨p1, 0, none⟩), .pointer (some ⟨r1, 0, none⟩)] 28 (0, 0)) = wa at I1 B3 Sz ⊢
  generalize w2.heap.size = X1 at I1 Sz ⊢
  rw [← Sz.out] at I1
  go_upto_region 3 with (first
    | ((with_reducible refine gate_dst (N := 10) rfl ?_); refine goesL_ (some 10) rfl rfl Try.func7 (by kernel_rfl) rfl #[] rfl (by (try simp only [List.map_toArray, List.map_cons, List.map_nil]); first | done | rfl) ?_
       refine new7.mono ?_
       rintro e w3 ⟨p2, b2, rfl, hl, hp, hb, hbel⟩
       refine ⟨_, rfl, ?_⟩
       have K2 := Aside0.mk hl
       have I2 := Aside0.mk (I1.out.below hbel)
       have B4 := Aside0.mk (B3.out.trans (hbel.mono B3.out.size))
       have N3 := Aside0.mk (And.intro hp hb)
       have Z3 := Aside0.mk hbel.size
       clear hl hp hb hbel)
    | ((with_reducible refine gate_dst (N := 11) rfl ?_); refine goesL_ (some 11) rfl rfl Try.func8 (by kernel_rfl) rfl #[] rfl (by (try simp only [List.map_toArray, List.map_cons, List.map_nil]); first | done | rfl) ?_
       refine new8.mono ?_
       rintro e w4 ⟨r2, rfl, hr, hn, hbel⟩
       refine ⟨_, rfl, ?_⟩
       have P2 := Aside0.mk (Pr.mk (K2.out.below hbel) hr)
       have I3 := Aside0.mk (I2.out.below hbel)
       have B5 := Aside0.mk (B4.out.trans (hbel.mono B4.out.size))
       have N4 := Aside0.mk hn
       have S4 := Aside0.mk (And.intro K2.out.lt hbel.size)
       clear hr hn hbel))
  have J2 := Aside0.mk (show In (w4.alloc (.cells #[.pointer (some ⟨p2, 0, none⟩), .pointer (some ⟨r2, 0, none⟩)] 28 (0, 0))) wa.heap.size (w4.heap.size + 1) w4.heap.size p2 b2 r2 L0 from by
    have h1 := P2.out.k.lt
    have h2 := blk_lt P2.out.r
    have h3 := N3.out
    have h4 := N4.out
    have h5 := S4.out
    have h6 := Z3.out
    exact ⟨P2.out.below (below_alloc (Below.refl _ _) _), ⟨heap_alloc_new w4 _⟩, ⟨h3.1, h3.2, by omega, by omega⟩, ⟨by omega, by omega, by omega, by omega⟩, ⟨by omega, by omega⟩⟩)
  have J1 := Aside0.mk (I3.out.below (below_alloc (Below.refl w4.heap.size w4) (.cells #[.pointer (some ⟨p2, 0, none⟩), .pointer (some ⟨r2, 0, none⟩)] 28 (0, 0))))
  have J0 := Aside0.mk (B5.out.trans ((below_alloc (Below.refl w4.heap.size w4) (.cells #[.pointer (some ⟨p2, 0, none⟩), .pointer (some ⟨r2, 0, none⟩)] 28 (0, 0))).mono B5.out.size))
  have hBm := B3.out.size
  clear P2 N3 N4 S4 Z3 B5 B4 I3 I2 I1 K2 B3 Sz
  generalize w4.alloc (.cells #[.pointer (some ⟨p2, 0, none⟩), .pointer (some ⟨r2, 0, none⟩)] 28 (0, 0)) = wb at J0 J1 J2 ⊢
  generalize w4.heap.size = X2 at J2 ⊢
  generalize X2 + 1 = hi at J2
  generalize wa.heap.size = mid at J1 J2 hBm
  obtain ⟨c1, c2⟩ := J1.out.x.cells
  obtain ⟨c3, c4⟩ := J2.out.x.cells
  go_upto_region 5 with (first
    | ((with_reducible refine gate_dst (N := 22) rfl ?_); refine gate_guard rfl ?_; refine goesL_ (some 22) rfl rfl Try.func9 (by kernel_rfl) rfl #[] rfl (by (try simp only [List.map_toArray, List.map_cons, List.map_nil]); first | done | rfl) ?_
       refine known9.mono ?_
       rintro e w5 ⟨rfl, hb⟩
       refine ⟨_, rfl, ?_⟩
       have Q0 := Aside0.mk (J0.out.trans (hb.mono J0.out.size))
       have Q1 := Aside0.mk (J1.out.below hb)
       have Q2 := Aside0.mk (J2.out.below hb)
       clear hb))
  clear J0 J1 J2 c1 c2 c3 c4
  go_wp2_with fail
  go_loopg [5] script.length (fun kq v5 wr => ∃ (j : Nat) (La Lb : Who), v5 = .int .i64 (j : Int) ∧ Aside0 (j + kq = script.length) ∧ Aside0 (In wr W0.heap.size mid X1 p1 b1 r1 La) ∧ Aside0 (In wr mid hi X2 p2 b2 r2 Lb) ∧ Aside0 (Below W0.heap.size W0 wr))
  case atStart => exact ⟨0, L0, L0, rfl, ⟨by omega⟩, Q1, Q2, Q0⟩
  case round =>
    clear Q0 Q1 Q2
    obtain ⟨j, La, Lb, rfl, hjk, hI, hJ, hB⟩ := hrel
    obtain ⟨Ws, hWs, hB⟩ : ∃ W, W = _ ∧ Aside0 (Below W0.heap.size W0 W) := ⟨_, rfl, hB⟩
    subst hWs
    obtain ⟨c1, c2⟩ := hI.out.x.cells
    obtain ⟨c3, c4⟩ := hJ.out.x.cells
    cases gk with
    | zero =>
      obtain rfl : j = script.length := hjk.out
      have hd1 : ¬ ((script.length : Int) < (script.length : Int)) := by omega
      go_wp2_with (first
        | ((with_reducible refine gate_dst (N := 51) rfl ?_); refine goesL_ (some 51) rfl rfl Try.func11 (by kernel_rfl) rfl #[.agg #[.pointer (some ⟨p1, 0, none⟩), .pointer (some ⟨r1, 0, none⟩)]] rfl (by (try simp only [List.map_toArray, List.map_cons, List.map_nil]); first | done | rfl) ?_
           refine (whole11 hI.out.pr).mono ?_
           rintro e w6 ⟨rfl, hb⟩
           refine ⟨_, rfl, ?_⟩
           have hB6 := Aside0.mk (hB.out.trans (hb.mono hB.out.size))
           have hJ6 := Aside0.mk (hJ.out.below hb)
           obtain ⟨g3, g4⟩ := hJ6.out.x.cells
           clear hb)
        | ((with_reducible refine gate_dst (N := 54) rfl ?_); refine gate_guard rfl ?_; refine goesL_ (some 54) rfl rfl Try.func11 (by kernel_rfl) rfl #[.agg #[.pointer (some ⟨p2, 0, none⟩), .pointer (some ⟨r2, 0, none⟩)]] rfl (by (try simp only [List.map_toArray, List.map_cons, List.map_nil]); first | done | rfl) ?_
           refine (whole11 hJ6.out.pr).mono ?_
           rintro e w7 ⟨rfl, hb⟩
           refine ⟨_, rfl, ?_⟩
           have hB7 := Aside0.mk (hB6.out.trans (hb.mono hB6.out.size))
           clear hb))
      go_ret
      exact ⟨rfl, hB7.out⟩
    | succ k1 =>
      have hj0 : j < script.length := by have := hjk.out; omega
      have hj1 : (j : Int) < (script.length : Int) := by omega
      have hj2 : decide ((j : Int) < (script.length : Int)) = true := decide_eq_true hj1
      obtain ⟨ad, e, d0, d1, d2, d3⟩ := at_T31 (Kd.C_below H0.out hB.out) (j : Int) (by omega) hj1
      subst e
      rw [Int.toNat_natCast] at d0 d1 d2 d3
      obtain ⟨st, hst⟩ : ∃ st, st = script.getD j z31 := ⟨_, rfl⟩
      rw [← hst] at d0 d1 d2 d3
      obtain ⟨sec, k, pg, bi⟩ := st
      have Hs := Aside0.mk hst.symm
      clear hst
      dsimp only at d0 d1 d2 d3
      cases sec with
      | true =>
        go_upto_region 10 with fail
        have hId := Aside0.mk (hI.out.below (below_drew (Below.refl _ _)))
        have hJd := Aside0.mk (hJ.out.below (below_drew (Below.refl _ _)))
        have hBd := Aside0.mk (hB.out.trans ((below_drew (Below.refl Ws.heap.size Ws)).mono hB.out.size))
        go_region_held3 (fun w' => w'.cell? ⟨X2, 0, none⟩ = some (.pointer (some ⟨p2, 0, none⟩)) ∧ w'.cell? ⟨X2, 1, none⟩ = some (.pointer (some ⟨r2, 0, none⟩)) ∧ w'.cell? (ad.add (j * 4)) = some (.bool true) ∧ w'.cell? ⟨(ad.add (j * 4)).block, (ad.add (j * 4)).off + 1, none⟩ = some (.int .i64 k.val) ∧ w'.cell? ⟨(ad.add (j * 4)).block, (ad.add (j * 4)).off + 2, none⟩ = some (.int .i64 pg.val) ∧ w'.cell? ⟨(ad.add (j * 4)).block, (ad.add (j * 4)).off + 3, none⟩ = some (.int .i64 bi.val)) (go_keep)
          (first
            | (go_at_call 10; refine (step10 hJd.out.pr true k.val pg.val bi.val pg.property bi.property).mono ?_; rintro e w1 ⟨rfl, hp, hm⟩
               have hb1 := Aside0.mk (hm.below hBd.out hBd.out.size (fun k hk => by have h1 := hJd.out.l; rcases hk with rfl | rfl <;> omega))
               have hI1 := Aside0.mk (hId.out.move hm (fun k hk => by have h1 := hJd.out.l; rcases hk with rfl | rfl <;> omega))
               have hJ1 := Aside0.mk (hJd.out.step hm hp)
               obtain ⟨ad1, e1, f0, f1, f2, f3⟩ := at_T31 (Kd.C_below H0.out hb1.out) (j : Int) (by omega) hj1
               injection e1 with e1
               subst e1
               rw [Int.toNat_natCast, Hs.out] at f0 f1 f2 f3
               dsimp only at f0 f1 f2 f3
               obtain ⟨g1, g2⟩ := hI1.out.x.cells
               obtain ⟨g3, g4⟩ := hJ1.out.x.cells
               clear hp hm))
        go_wp2
        go_roundg k1
        case measure => omega
        case rel => exact ⟨j + 1, _, _, rfl, ⟨by have := hjk.out; omega⟩, hI1, hJ1, hb1⟩
      | false =>
        go_upto_region 11 with fail
        have hId := Aside0.mk (hI.out.below (below_drew (Below.refl _ _)))
        have hJd := Aside0.mk (hJ.out.below (below_drew (Below.refl _ _)))
        have hBd := Aside0.mk (hB.out.trans ((below_drew (Below.refl Ws.heap.size Ws)).mono hB.out.size))
        go_region_held3 (fun w' => w'.cell? ⟨X1, 0, none⟩ = some (.pointer (some ⟨p1, 0, none⟩)) ∧ w'.cell? ⟨X1, 1, none⟩ = some (.pointer (some ⟨r1, 0, none⟩)) ∧ w'.cell? (ad.add (j * 4)) = some (.bool false) ∧ w'.cell? ⟨(ad.add (j * 4)).block, (ad.add (j * 4)).off + 1, none⟩ = some (.int .i64 k.val) ∧ w'.cell? ⟨(ad.add (j * 4)).block, (ad.add (j * 4)).off + 2, none⟩ = some (.int .i64 pg.val) ∧ w'.cell? ⟨(ad.add (j * 4)).block, (ad.add (j * 4)).off + 3, none⟩ = some (.int .i64 bi.val)) (go_keep)
          (first
            | (go_at_call 10; refine (step10 hId.out.pr false k.val pg.val bi.val pg.property bi.property).mono ?_; rintro e w1 ⟨rfl, hp, hm⟩
               have hb1 := Aside0.mk (hm.below hBd.out hBd.out.size (fun k hk => by have h1 := hId.out.l; rcases hk with rfl | rfl <;> omega))
               have hI1 := Aside0.mk (hId.out.step hm hp)
               have hJ1 := Aside0.mk (hJd.out.move hm (fun k hk => by have h1 := hId.out.h; rcases hk with rfl | rfl <;> omega))
               obtain ⟨ad1, e1, f0, f1, f2, f3⟩ := at_T31 (Kd.C_below H0.out hb1.out) (j : Int) (by omega) hj1
               injection e1 with e1
               subst e1
               rw [Int.toNat_natCast, Hs.out] at f0 f1 f2 f3
               dsimp only at f0 f1 f2 f3
               obtain ⟨g1, g2⟩ := hI1.out.x.cells
               obtain ⟨g3, g4⟩ := hJ1.out.x.cells
               clear hp hm))
        go_wp2
        go_roundg k1
        case measure => omega
        case rel => exact ⟨j + 1, _, _, rfl, ⟨by have := hjk.out; omega⟩, hI1, hJ1, hb1⟩
end Go.Proofs.Ytjalkjoaepbhbaa.QA
