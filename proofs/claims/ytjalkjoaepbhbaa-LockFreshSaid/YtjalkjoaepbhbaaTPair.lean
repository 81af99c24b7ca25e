/- Pair.whole, walked. -/
import Derived.Test.YtjalkjoaepbhbaaTStep
namespace Go.Proofs.Ytjalkjoaepbhbaa.QA
open Go.RowKit Go.Maps Go.Proofs.YtjalkjoaepbhbaaW.PrintWords Go.Proofs.YtjalkjoaepbhbaaW.PrintLast Go.Proofs.YtjalkjoaepbhbaaW.PrintMore
set_option linter.unusedVariables false
set_option linter.unusedSimpArgs false
attribute [local go_sem ↓] Go.wp_at_zero Go.wp_at_succ
structure Px (w : World) (X p r : Nat) : Prop where
  x : w.heap[X]? = some (.cells #[.pointer (some ⟨p, 0, none⟩), .pointer (some ⟨r, 0, none⟩)] 28 (0, 0))
theorem Px.below {w w1 : World} {X p r : Nat} (h : Px w X p r) (hb : Below w.heap.size w w1) : Px w1 X p r := ⟨blk_below h.x hb⟩
theorem Px.cells {w : World} {X p r : Nat} (h : Px w X p r) : w.cell? ⟨X, 0, none⟩ = some (.pointer (some ⟨p, 0, none⟩)) ∧ w.cell? ⟨X, 1, none⟩ = some (.pointer (some ⟨r, 0, none⟩)) := ⟨blk_cell h.x 0, blk_cell h.x 1⟩
set_option maxHeartbeats 8000000 in
set_option maxRecDepth 100000 in
theorem whole11 {w : World} {p b r : Nat} {L : Who} (h : Pr w p b r L) :
    Calls Try.prog 11 #[.agg #[.pointer (some ⟨p, 0, none⟩), .pointer (some ⟨r, 0, none⟩)]] w fun e w' => e = .returned (.bool true) ∧ Below w.heap.size w w' := by
  have H := Aside0.mk h
  have hb0 := below_alloc (Below.refl w.heap.size w) (.cells #[.pointer (some ⟨p, 0, none⟩), .pointer (some ⟨r, 0, none⟩)] 28 (0, 0))
  have PX := Aside0.mk (Px.mk (heap_alloc_new w (.cells #[.pointer (some ⟨p, 0, none⟩), .pointer (some ⟨r, 0, none⟩)] 28 (0, 0))))
  have HP := Aside0.mk (h.below hb0)
  have HB := Aside0.mk hb0
  clear h hb0
  go_enter Try.func11, Try.ntmps11
  go_wp2_with fail
  generalize w.alloc (.cells #[.pointer (some ⟨p, 0, none⟩), .pointer (some ⟨r, 0, none⟩)] 28 (0, 0)) = Wi at PX HP HB ⊢
  go_loopg [3] 18 (fun kq v3 wr => ∃ (q : Int) (j : Nat), v3 = .int .i64 q ∧ Aside0 (q + 1 = (j : Int)) ∧ Aside0 (j + kq = 18) ∧ Aside0 (Px wr w.heap.size p r) ∧ Aside0 (Pr wr p b r L) ∧ Aside0 (Below w.heap.size w wr))
  case atStart => exact ⟨-1, 0, rfl, ⟨rfl⟩, ⟨rfl⟩, PX, HP, HB⟩
  case round =>
    clear PX HP HB
    obtain ⟨q, j, rfl, hq, hjk, hX, hP, hB⟩ := hrel
    obtain ⟨Ws, hWs, hX⟩ : ∃ W, W = _ ∧ Aside0 (Px W w.heap.size p r) := ⟨_, rfl, hX⟩
    subst hWs
    cases gk with
    | zero =>
      obtain rfl : q = 17 := by have := hjk.out; have := hq.out; omega
      go_wp2
      go_ret
      exact ⟨rfl, hB.out⟩
    | succ k1 =>
      have hq1 : -1 ≤ q := by have := hjk.out; have := hq.out; omega
      have hq2 : q ≤ 16 := by have := hjk.out; have := hq.out; omega
      have hq3 : decide (q ≤ 16) = true := decide_eq_true hq2
      have hqw := Aside0.mk (wf_i64 (x := q) (by omega))
      obtain ⟨c1, c2⟩ := hX.out.cells
      go_upto_region 4 with fail
      have hXd := Aside0.mk (hX.out.below (below_drew (Below.refl _ _)))
      have hPd := Aside0.mk (hP.out.below (below_drew (Below.refl _ _)))
      have hBd := Aside0.mk (hB.out.trans ((below_drew (Below.refl Ws.heap.size Ws)).mono hB.out.size))
      have hne : (L q != L q) = false := by simp
      go_region_held3 (fun w' => w'.cell? ⟨w.heap.size, 0, none⟩ = some (.pointer (some ⟨p, 0, none⟩)) ∧ w'.cell? ⟨w.heap.size, 1, none⟩ = some (.pointer (some ⟨r, 0, none⟩))) (go_keep)
        (first
          | (go_at_call 19; refine (holder19 hPd.out.k q hqw.out).mono ?_; rintro e w' ⟨rfl, rfl⟩)
          | (go_at_call 23; refine (holder23 hPd.out.r H.out.k.ok q).mono ?_; rintro e w' ⟨rfl, rfl⟩)
          | (go_at_call 23; refine (holder23 hp1.out.r H.out.k.ok q).mono ?_; rintro e w' ⟨rfl, rfl⟩)
          | (go_at_call 15; refine (held15 hPd.out.k (L q)).mono ?_; rintro e w1 ⟨v1, rfl, hv, hb1_⟩
             obtain ⟨A1, d1, rfl⟩ := Kd.R_slice hv
             have hv1 := Aside0.mk hv
             have hX1 := Aside0.mk (hXd.out.below hb1_)
             obtain ⟨e1, e2⟩ := hX1.out.cells
             have hp1 := Aside0.mk (hPd.out.below hb1_)
             have hB1 := Aside0.mk (hBd.out.trans (hb1_.mono hBd.out.size))
             clear hb1_ hv)
          | (go_at_call 24; refine (held24 hp1.out.r (L q)).mono ?_; rintro e w2 ⟨v2, rfl, hv, hb2_⟩
             obtain ⟨A2, d2, rfl⟩ := Kd.R_slice hv
             have hv2 := Aside0.mk hv
             have hX2 := Aside0.mk (hX1.out.below hb2_)
             obtain ⟨f1, f2⟩ := hX2.out.cells
             have hv3 := Aside0.mk (Kd.R_below hv1.out hb2_)
             have hp2 := Aside0.mk (hp1.out.below hb2_)
             have hB2 := Aside0.mk (hB1.out.trans (hb2_.mono hB1.out.size))
             clear hb2_ hv)
          | (go_at_call 18; refine (same18 (heldL L (L q)) (Kd.R_reads' hv3.out).2.2 (Kd.R_reads' hv2.out).2.2).mono ?_; rintro e w3 ⟨rfl, hb3_⟩
             have hX3 := Aside0.mk (hX2.out.below hb3_)
             obtain ⟨g1, g2⟩ := hX3.out.cells
             have hp3 := Aside0.mk (hp2.out.below hb3_)
             have hB3 := Aside0.mk (hB2.out.trans (hb3_.mono hB2.out.size))
             clear hb3_))
      go_wp2
      go_roundg k1
      case measure => omega
      case rel => exact ⟨q + 1, j + 1, rfl, ⟨by have := hq.out; omega⟩, ⟨by have := hjk.out; omega⟩, hX3, hp3, hB3⟩
end Go.Proofs.Ytjalkjoaepbhbaa.QA
