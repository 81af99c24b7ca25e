/- Pair.step, walked: the program and the reference answer alike, and go on alike. -/
import Derived.Test.YtjalkjoaepbhbaaTSame
import Derived.Deep.RegionHeld3
import Derived.Deep.DrawnRows
namespace Go.Proofs.Ytjalkjoaepbhbaa.QA
open Go.RowKit Go.Maps Go.Proofs.YtjalkjoaepbhbaaW.PrintWords Go.Proofs.YtjalkjoaepbhbaaW.PrintLast Go.Proofs.YtjalkjoaepbhbaaW.PrintMore
set_option linter.unusedVariables false
set_option linter.unusedSimpArgs false
attribute [local go_sem ↓] Go.wp_at_zero Go.wp_at_succ
def stepL (L : Who) (kind page birth : Int) : Who := if kind = 0 then takeL L page birth else if kind = 1 then upd1 L page 0 else if kind = 2 then dropL L birth else L
/-- A pair of Locks: the program's and the reference's, that tell the same. -/
structure Pr (w : World) (p b r : Nat) (L : Who) : Prop where
  k : Lk w p b L
  r : Lr w r L
theorem Pr.rp {w : World} {p b r : Nat} {L : Who} (h : Pr w p b r L) : r ≠ p := by
  rintro rfl
  have h1 := h.k.cell
  have h2 : w.heap[r]? = some (.cells (cells16 L) 51 (0, 0)) := h.r
  rw [h1] at h2
  injection h2 with h2
  injection h2 with h3 h4
  cases h4
theorem Pr.rb {w : World} {p b r : Nat} {L : Who} (h : Pr w p b r L) : r ≠ b := by
  rintro rfl
  obtain ⟨D, ⟨es, clock, hb, _⟩, _⟩ := h.k.map
  have h2 : w.heap[r]? = some (.cells (cells16 L) 51 (0, 0)) := h.r
  rw [hb] at h2
  cases h2
theorem Pr.move {w w1 : World} {p b r : Nat} {L : Who} {S : Nat → Prop} (h : Pr w p b r L) (m : Mv w w1 S) (hp : ¬ S p) (hb : ¬ S b) (hr : ¬ S r) : Pr w1 p b r L := ⟨h.k.move m hp hb, h.r.move m hr⟩
theorem Pr.below {w w1 : World} {p b r : Nat} {L : Who} (h : Pr w p b r L) (hb : Below w.heap.size w w1) : Pr w1 p b r L := ⟨h.k.below hb, h.r.below hb⟩
/-- The two boxes of a step. -/
structure Bx (w : World) (X S : Nat) (p r : Nat) (sec : Bool) (kind page birth : Int) : Prop where
  x : w.heap[X]? = some (.cells #[.pointer (some ⟨p, 0, none⟩), .pointer (some ⟨r, 0, none⟩)] 28 (0, 0))
  s : w.heap[S]? = some (.cells #[.bool sec, .int .i64 kind, .int .i64 page, .int .i64 birth] 31 (0, 0))
theorem Bx.move {w w1 : World} {X S p r : Nat} {sec : Bool} {kind page birth : Int} {T : Nat → Prop} (h : Bx w X S p r sec kind page birth) (m : Mv w w1 T) (hx : ¬ T X) (hs : ¬ T S) : Bx w1 X S p r sec kind page birth :=
  ⟨m.blk h.x hx, m.blk h.s hs⟩
theorem Bx.cells {w : World} {X S p r : Nat} {sec : Bool} {kind page birth : Int} (h : Bx w X S p r sec kind page birth) :
    w.cell? ⟨X, 0, none⟩ = some (.pointer (some ⟨p, 0, none⟩)) ∧ w.cell? ⟨X, 1, none⟩ = some (.pointer (some ⟨r, 0, none⟩)) ∧ w.cell? ⟨S, 1, none⟩ = some (.int .i64 kind) ∧ w.cell? ⟨S, 2, none⟩ = some (.int .i64 page) ∧ w.cell? ⟨S, 3, none⟩ = some (.int .i64 birth) :=
  ⟨blk_cell h.x 0, blk_cell h.x 1, blk_cell h.s 1, blk_cell h.s 2, blk_cell h.s 3⟩
def boxed (w : World) (p r : Nat) (sec : Bool) (kind page birth : Int) : World :=
  (w.alloc (.cells #[.pointer (some ⟨p, 0, none⟩), .pointer (some ⟨r, 0, none⟩)] 28 (0, 0))).alloc (.cells #[.bool sec, .int .i64 kind, .int .i64 page, .int .i64 birth] 31 (0, 0))
theorem boxed_below (w : World) (p r : Nat) (sec : Bool) (kind page birth : Int) : Below w.heap.size w (boxed w p r sec kind page birth) :=
  ((Below.refl _ _).alloc (Nat.le_refl _) _).alloc (by simp) _
theorem boxed_bx (w : World) (p r : Nat) (sec : Bool) (kind page birth : Int) : Bx (boxed w p r sec kind page birth) w.heap.size (w.heap.size + 1) p r sec kind page birth := by
  refine ⟨blk_below (heap_alloc_new _ _) (below_alloc (Below.refl _ _) _), ?_⟩
  have h2 := heap_alloc_new (w.alloc (Obj.cells #[.pointer (some ⟨p, 0, none⟩), .pointer (some ⟨r, 0, none⟩)] 28 (0, 0))) (Obj.cells #[.bool sec, .int .i64 kind, .int .i64 page, .int .i64 birth] 31 (0, 0))
  simpa [boxed] using h2
set_option maxHeartbeats 8000000 in
set_option maxRecDepth 100000 in
theorem step_take {w : World} {p b r : Nat} {L : Who} (h : Pr w p b r L) (sec : Bool) (page birth : Int) (hw1 : (Lit.int .i64 page).wf = true) (hw2 : (Lit.int .i64 birth).wf = true) :
    Calls Try.prog 10 #[.agg #[.pointer (some ⟨p, 0, none⟩), .pointer (some ⟨r, 0, none⟩)], .agg #[.bool sec, .int .i64 0, .int .i64 page, .int .i64 birth]] w
      fun e w' => e = .returned (.bool true) ∧ Pr w' p b r (takeL L page birth) ∧ Mv w w' (fun k => k = b ∨ k = r) := by
  have H := Aside0.mk h
  have W1 := Aside0.mk hw1
  have W2 := Aside0.mk hw2
  have hb := h.k.lt.2
  have hr := blk_lt h.r
  have hrb := Aside0.mk h.rb
  have hrp := Aside0.mk h.rp
  have hbx := Aside0.mk (boxed_bx w p r sec 0 page birth)
  have hpr := Aside0.mk (h.below (boxed_below w p r sec 0 page birth))
  have hmv := Aside0.mk (Mv.of_below (boxed_below w p r sec 0 page birth) (fun k => k = b ∨ k = r))
  clear h hw1 hw2
  go_enter Try.func10, Try.ntmps10
  go_upto_region 1 with fail
  change Code.wp _ _ _ _ (boxed w p r sec 0 page birth)
  generalize boxed w p r sec 0 page birth = Ws at hbx hpr hmv ⊢
  obtain ⟨c1, c2, c3, c4, c5⟩ := hbx.out.cells
  go_upto_region 3 with fail
  have hpd := Aside0.mk (hpr.out.below (below_drew (Below.refl _ _)))
  have hbd := Aside0.mk (hbx.out.move (Mv.of_below (below_drew (Below.refl _ _)) (fun _ => False)) (fun h => h) (fun h => h))
  have hmd := Aside0.mk (hmv.out.then_ (Mv.of_below (below_drew (Below.refl _ _)) (fun _ => False)) (fun k h => h.elim))
  clear hpr hbx hmv
  go_region_held3 (fun w' => w'.cell? ⟨w.heap.size, 0, none⟩ = some (.pointer (some ⟨p, 0, none⟩)) ∧ w'.cell? ⟨w.heap.size, 1, none⟩ = some (.pointer (some ⟨r, 0, none⟩)) ∧ w'.cell? ⟨w.heap.size + 1, 2, none⟩ = some (.int .i64 page) ∧ w'.cell? ⟨w.heap.size + 1, 3, none⟩ = some (.int .i64 birth)) (go_keep)
    (first
      | (go_at_call 14; refine (take14 hpd.out.k page birth W1.out W2.out).mono ?_; rintro e w1 ⟨rfl, hl, hm⟩
         have hb1 := Aside0.mk (hbd.out.move hm (fun e => by omega) (fun e => by omega))
         obtain ⟨d1, d2, d3, d4, d5⟩ := hb1.out.cells
         have hl1 := Aside0.mk hl
         have hr1 := Aside0.mk (hpd.out.r.move hm hrb.out)
         have hm1 := Aside0.mk (hmd.out.then_ hm (fun k h => .inl (.inl h)))
         clear hl hm)
      | (go_at_call 20; refine (take20 hr1.out page birth).mono ?_; rintro e w2 ⟨rfl, hl, hm⟩
         have hb2 := Aside0.mk (hb1.out.move hm (fun e => by omega) (fun e => by omega))
         obtain ⟨e1, e2, e3, e4, e5⟩ := hb2.out.cells
         have hp2 := Aside0.mk (Pr.mk (hl1.out.move hm (fun e => hrp.out e.symm) (fun e => hrb.out e.symm)) hl)
         have hm2 := Aside0.mk (hm1.out.then_ hm (fun k h => .inl (.inr h)))
         clear hl hm))
  go_wp2
  go_ret
  exact ⟨rfl, hp2.out, hm2.out⟩
set_option maxHeartbeats 8000000 in
set_option maxRecDepth 100000 in
theorem step_give {w : World} {p b r : Nat} {L : Who} (h : Pr w p b r L) (sec : Bool) (page birth : Int) (hw1 : (Lit.int .i64 page).wf = true) (hw2 : (Lit.int .i64 birth).wf = true) :
    Calls Try.prog 10 #[.agg #[.pointer (some ⟨p, 0, none⟩), .pointer (some ⟨r, 0, none⟩)], .agg #[.bool sec, .int .i64 1, .int .i64 page, .int .i64 birth]] w
      fun e w' => e = .returned (.bool true) ∧ Pr w' p b r (upd1 L page 0) ∧ Mv w w' (fun k => k = b ∨ k = r) := by
  have H := Aside0.mk h
  have W1 := Aside0.mk hw1
  have W2 := Aside0.mk hw2
  have hb := h.k.lt.2
  have hr := blk_lt h.r
  have hrb := Aside0.mk h.rb
  have hrp := Aside0.mk h.rp
  have hbx := Aside0.mk (boxed_bx w p r sec 1 page birth)
  have hpr := Aside0.mk (h.below (boxed_below w p r sec 1 page birth))
  have hmv := Aside0.mk (Mv.of_below (boxed_below w p r sec 1 page birth) (fun k => k = b ∨ k = r))
  clear h hw1 hw2
  go_enter Try.func10, Try.ntmps10
  go_upto_region 1 with fail
  change Code.wp _ _ _ _ (boxed w p r sec 1 page birth)
  generalize boxed w p r sec 1 page birth = Ws at hbx hpr hmv ⊢
  obtain ⟨c1, c2, c3, c4, c5⟩ := hbx.out.cells
  go_upto_region 5 with fail
  have hpd := Aside0.mk (hpr.out.below (below_drew (Below.refl _ _)))
  have hbd := Aside0.mk (hbx.out.move (Mv.of_below (below_drew (Below.refl _ _)) (fun _ => False)) (fun h => h) (fun h => h))
  have hmd := Aside0.mk (hmv.out.then_ (Mv.of_below (below_drew (Below.refl _ _)) (fun _ => False)) (fun k h => h.elim))
  clear hpr hbx hmv
  go_region_held3 (fun w' => w'.cell? ⟨w.heap.size, 0, none⟩ = some (.pointer (some ⟨p, 0, none⟩)) ∧ w'.cell? ⟨w.heap.size, 1, none⟩ = some (.pointer (some ⟨r, 0, none⟩)) ∧ w'.cell? ⟨w.heap.size + 1, 2, none⟩ = some (.int .i64 page)) (go_keep)
    (first
      | (go_at_call 16; refine (give16 hpd.out.k page W1.out).mono ?_; rintro e w1 ⟨rfl, hl, hm⟩
         have hb1 := Aside0.mk (hbd.out.move hm (fun e => by omega) (fun e => by omega))
         obtain ⟨d1, d2, d3, d4, d5⟩ := hb1.out.cells
         have hl1 := Aside0.mk hl
         have hr1 := Aside0.mk (hpd.out.r.move hm hrb.out)
         have hm1 := Aside0.mk (hmd.out.then_ hm (fun k h => .inl (.inl h)))
         clear hl hm)
      | (go_at_call 21; refine (give21 hr1.out H.out.k.ok page).mono ?_; rintro e w2 ⟨rfl, hl, hm⟩
         have hb2 := Aside0.mk (hb1.out.move hm (fun e => by omega) (fun e => by omega))
         obtain ⟨e1, e2, e3, e4, e5⟩ := hb2.out.cells
         have hp2 := Aside0.mk (Pr.mk (hl1.out.move hm (fun e => hrp.out e.symm) (fun e => hrb.out e.symm)) hl)
         have hm2 := Aside0.mk (hm1.out.then_ hm (fun k h => .inl (.inr h)))
         clear hl hm))
  go_wp2
  go_ret
  exact ⟨rfl, hp2.out, hm2.out⟩
set_option maxHeartbeats 8000000 in
set_option maxRecDepth 100000 in
theorem step_drop {w : World} {p b r : Nat} {L : Who} (h : Pr w p b r L) (sec : Bool) (page birth : Int) (hw1 : (Lit.int .i64 page).wf = true) (hw2 : (Lit.int .i64 birth).wf = true) :
    Calls Try.prog 10 #[.agg #[.pointer (some ⟨p, 0, none⟩), .pointer (some ⟨r, 0, none⟩)], .agg #[.bool sec, .int .i64 2, .int .i64 page, .int .i64 birth]] w
      fun e w' => e = .returned (.bool true) ∧ Pr w' p b r (dropL L birth) ∧ Mv w w' (fun k => k = b ∨ k = r) := by
  have H := Aside0.mk h
  have W1 := Aside0.mk hw1
  have W2 := Aside0.mk hw2
  have hb := h.k.lt.2
  have hr := blk_lt h.r
  have hrb := Aside0.mk h.rb
  have hrp := Aside0.mk h.rp
  have hbx := Aside0.mk (boxed_bx w p r sec 2 page birth)
  have hpr := Aside0.mk (h.below (boxed_below w p r sec 2 page birth))
  have hmv := Aside0.mk (Mv.of_below (boxed_below w p r sec 2 page birth) (fun k => k = b ∨ k = r))
  clear h hw1 hw2
  go_enter Try.func10, Try.ntmps10
  go_upto_region 1 with fail
  change Code.wp _ _ _ _ (boxed w p r sec 2 page birth)
  generalize boxed w p r sec 2 page birth = Ws at hbx hpr hmv ⊢
  obtain ⟨c1, c2, c3, c4, c5⟩ := hbx.out.cells
  go_upto_region 7 with fail
  have hpd := Aside0.mk (hpr.out.below (below_drew (Below.refl _ _)))
  have hbd := Aside0.mk (hbx.out.move (Mv.of_below (below_drew (Below.refl _ _)) (fun _ => False)) (fun h => h) (fun h => h))
  have hmd := Aside0.mk (hmv.out.then_ (Mv.of_below (below_drew (Below.refl _ _)) (fun _ => False)) (fun k h => h.elim))
  clear hpr hbx hmv
  go_region_held3 (fun w' => w'.cell? ⟨w.heap.size, 0, none⟩ = some (.pointer (some ⟨p, 0, none⟩)) ∧ w'.cell? ⟨w.heap.size, 1, none⟩ = some (.pointer (some ⟨r, 0, none⟩)) ∧ w'.cell? ⟨w.heap.size + 1, 3, none⟩ = some (.int .i64 birth)) (go_keep)
    (first
      | (go_at_call 17; refine (drop17 hpd.out.k birth).mono ?_; rintro e w1 ⟨v1, rfl, hv, hl, hm⟩
         obtain ⟨A1, c1, rfl⟩ := Kd.R_slice hv
         have hv1 := Aside0.mk hv
         have hb1 := Aside0.mk (hbd.out.move hm (fun e => by omega) (fun e => by omega))
         obtain ⟨d1, d2, d3, d4, d5⟩ := hb1.out.cells
         have hl1 := Aside0.mk hl
         have hr1 := Aside0.mk (hpd.out.r.move hm hrb.out)
         have hm1 := Aside0.mk (hmd.out.then_ hm (fun k h => .inl (.inl h)))
         clear hl hm hv)
      | (go_at_call 22; refine (drop22 hr1.out H.out.k.ok birth).mono ?_; rintro e w2 ⟨v2, rfl, hv, hl, hm⟩
         obtain ⟨A2, c2, rfl⟩ := Kd.R_slice hv
         have hv2 := Aside0.mk hv
         have hb2 := Aside0.mk (hb1.out.move hm (fun e => by omega) (fun e => by omega))
         obtain ⟨e1, e2, e3, e4, e5⟩ := hb2.out.cells
         have hv3 := Aside0.mk (C_of_block (w2 := w2) hv1.out (fun k hk => hm.block k (Kd.R_lt hv1.out k hk) (fun e => by have h1 := Kd.R_base hv1.out k hk; have h2 := blk_lt hpd.out.r; omega)))
         have hp2 := Aside0.mk (Pr.mk (hl1.out.move hm (fun e => hrp.out e.symm) (fun e => hrb.out e.symm)) hl)
         have hm2 := Aside0.mk (hm1.out.then_ hm (fun k h => .inl (.inr h)))
         clear hl hm hv)
      | (go_at_call 18; refine (same18 (heldL L birth) (Kd.R_reads' hv3.out).2.2 (Kd.R_reads' hv2.out).2.2).mono ?_; rintro e w3 ⟨rfl, hb3_⟩
         have hb3 := Aside0.mk (hb2.out.move (Mv.of_below hb3_ (fun _ => False)) (fun h => h) (fun h => h))
         obtain ⟨f1, f2, f3, f4, f5⟩ := hb3.out.cells
         have hp3 := Aside0.mk (hp2.out.below hb3_)
         have hm3 := Aside0.mk (hm2.out.then_ (Mv.of_below hb3_ (fun _ => False)) (fun k h => h.elim))
         clear hb3_))
  go_wp2
  go_ret
  exact ⟨rfl, hp3.out, hm3.out⟩
set_option maxHeartbeats 8000000 in
set_option maxRecDepth 100000 in
theorem step_holder {w : World} {p b r : Nat} {L : Who} (h : Pr w p b r L) (sec : Bool) (page birth : Int) (hw1 : (Lit.int .i64 page).wf = true) (hw2 : (Lit.int .i64 birth).wf = true) :
    Calls Try.prog 10 #[.agg #[.pointer (some ⟨p, 0, none⟩), .pointer (some ⟨r, 0, none⟩)], .agg #[.bool sec, .int .i64 3, .int .i64 page, .int .i64 birth]] w
      fun e w' => e = .returned (.bool true) ∧ Pr w' p b r (L) ∧ Mv w w' (fun k => k = b ∨ k = r) := by
  have H := Aside0.mk h
  have W1 := Aside0.mk hw1
  have W2 := Aside0.mk hw2
  have hb := h.k.lt.2
  have hr := blk_lt h.r
  have hrb := Aside0.mk h.rb
  have hrp := Aside0.mk h.rp
  have hbx := Aside0.mk (boxed_bx w p r sec 3 page birth)
  have hpr := Aside0.mk (h.below (boxed_below w p r sec 3 page birth))
  have hmv := Aside0.mk (Mv.of_below (boxed_below w p r sec 3 page birth) (fun k => k = b ∨ k = r))
  clear h hw1 hw2
  go_enter Try.func10, Try.ntmps10
  go_upto_region 1 with fail
  change Code.wp _ _ _ _ (boxed w p r sec 3 page birth)
  generalize boxed w p r sec 3 page birth = Ws at hbx hpr hmv ⊢
  obtain ⟨c1, c2, c3, c4, c5⟩ := hbx.out.cells
  go_upto_region 9 with fail
  have hpd := Aside0.mk (hpr.out.below (below_drew (Below.refl _ _)))
  have hbd := Aside0.mk (hbx.out.move (Mv.of_below (below_drew (Below.refl _ _)) (fun _ => False)) (fun h => h) (fun h => h))
  have hmd := Aside0.mk (hmv.out.then_ (Mv.of_below (below_drew (Below.refl _ _)) (fun _ => False)) (fun k h => h.elim))
  clear hpr hbx hmv
  go_region_held3 (fun w' => w'.cell? ⟨w.heap.size, 0, none⟩ = some (.pointer (some ⟨p, 0, none⟩)) ∧ w'.cell? ⟨w.heap.size, 1, none⟩ = some (.pointer (some ⟨r, 0, none⟩)) ∧ w'.cell? ⟨w.heap.size + 1, 2, none⟩ = some (.int .i64 page)) (go_keep)
    (first
      | (go_at_call 19; refine (holder19 hpd.out.k page W1.out).mono ?_; rintro e w' ⟨rfl, rfl⟩)
      | (go_at_call 23; refine (holder23 hpd.out.r H.out.k.ok page).mono ?_; rintro e w' ⟨rfl, rfl⟩))
  go_wp2
  go_ret
  exact ⟨rfl, hpd.out, hmd.out⟩
set_option maxHeartbeats 8000000 in
set_option maxRecDepth 100000 in
theorem step_held {w : World} {p b r : Nat} {L : Who} (h : Pr w p b r L) (sec : Bool) (page birth : Int) (hw1 : (Lit.int .i64 page).wf = true) (hw2 : (Lit.int .i64 birth).wf = true) :
    Calls Try.prog 10 #[.agg #[.pointer (some ⟨p, 0, none⟩), .pointer (some ⟨r, 0, none⟩)], .agg #[.bool sec, .int .i64 4, .int .i64 page, .int .i64 birth]] w
      fun e w' => e = .returned (.bool true) ∧ Pr w' p b r (L) ∧ Mv w w' (fun k => k = b ∨ k = r) := by
  have H := Aside0.mk h
  have W1 := Aside0.mk hw1
  have W2 := Aside0.mk hw2
  have hb := h.k.lt.2
  have hr := blk_lt h.r
  have hrb := Aside0.mk h.rb
  have hrp := Aside0.mk h.rp
  have hbx := Aside0.mk (boxed_bx w p r sec 4 page birth)
  have hpr := Aside0.mk (h.below (boxed_below w p r sec 4 page birth))
  have hmv := Aside0.mk (Mv.of_below (boxed_below w p r sec 4 page birth) (fun k => k = b ∨ k = r))
  clear h hw1 hw2
  go_enter Try.func10, Try.ntmps10
  go_upto_region 1 with fail
  change Code.wp _ _ _ _ (boxed w p r sec 4 page birth)
  generalize boxed w p r sec 4 page birth = Ws at hbx hpr hmv ⊢
  obtain ⟨c1, c2, c3, c4, c5⟩ := hbx.out.cells
  go_upto_region 11 with fail
  have hpd := Aside0.mk (hpr.out.below (below_drew (Below.refl _ _)))
  have hbd := Aside0.mk (hbx.out.move (Mv.of_below (below_drew (Below.refl _ _)) (fun _ => False)) (fun h => h) (fun h => h))
  have hmd := Aside0.mk (hmv.out.then_ (Mv.of_below (below_drew (Below.refl _ _)) (fun _ => False)) (fun k h => h.elim))
  clear hpr hbx hmv
  go_region_held3 (fun w' => w'.cell? ⟨w.heap.size, 0, none⟩ = some (.pointer (some ⟨p, 0, none⟩)) ∧ w'.cell? ⟨w.heap.size, 1, none⟩ = some (.pointer (some ⟨r, 0, none⟩)) ∧ w'.cell? ⟨w.heap.size + 1, 3, none⟩ = some (.int .i64 birth)) (go_keep)
    (first
      | (go_at_call 15; refine (held15 hpd.out.k birth).mono ?_; rintro e w1 ⟨v1, rfl, hv, hb1_⟩
         obtain ⟨A1, c1, rfl⟩ := Kd.R_slice hv
         have hv1 := Aside0.mk hv
         have hb1 := Aside0.mk (hbd.out.move (Mv.of_below hb1_ (fun _ => False)) (fun h => h) (fun h => h))
         obtain ⟨d1, d2, d3, d4, d5⟩ := hb1.out.cells
         have hp1 := Aside0.mk (hpd.out.below hb1_)
         have hm1 := Aside0.mk (hmd.out.then_ (Mv.of_below hb1_ (fun _ => False)) (fun k h => h.elim))
         clear hb1_ hv)
      | (go_at_call 24; refine (held24 hp1.out.r birth).mono ?_; rintro e w2 ⟨v2, rfl, hv, hb2_⟩
         obtain ⟨A2, c2, rfl⟩ := Kd.R_slice hv
         have hv2 := Aside0.mk hv
         have hb2 := Aside0.mk (hb1.out.move (Mv.of_below hb2_ (fun _ => False)) (fun h => h) (fun h => h))
         obtain ⟨e1, e2, e3, e4, e5⟩ := hb2.out.cells
         have hv3 := Aside0.mk (Kd.R_below hv1.out hb2_)
         have hp2 := Aside0.mk (hp1.out.below hb2_)
         have hm2 := Aside0.mk (hm1.out.then_ (Mv.of_below hb2_ (fun _ => False)) (fun k h => h.elim))
         clear hb2_ hv)
      | (go_at_call 18; refine (same18 (heldL L birth) (Kd.R_reads' hv3.out).2.2 (Kd.R_reads' hv2.out).2.2).mono ?_; rintro e w3 ⟨rfl, hb3_⟩
         have hb3 := Aside0.mk (hb2.out.move (Mv.of_below hb3_ (fun _ => False)) (fun h => h) (fun h => h))
         obtain ⟨f1, f2, f3, f4, f5⟩ := hb3.out.cells
         have hp3 := Aside0.mk (hp2.out.below hb3_)
         have hm3 := Aside0.mk (hm2.out.then_ (Mv.of_below hb3_ (fun _ => False)) (fun k h => h.elim))
         clear hb3_))
  go_wp2
  go_ret
  exact ⟨rfl, hp3.out, hm3.out⟩
theorem step_none {w : World} {p b r : Nat} {L : Who} (h : Pr w p b r L) (sec : Bool) (kind page birth : Int) (hk : kind ≠ 0 ∧ kind ≠ 1 ∧ kind ≠ 2 ∧ kind ≠ 3 ∧ kind ≠ 4) :
    Calls Try.prog 10 #[.agg #[.pointer (some ⟨p, 0, none⟩), .pointer (some ⟨r, 0, none⟩)], .agg #[.bool sec, .int .i64 kind, .int .i64 page, .int .i64 birth]] w
      fun e w' => e = .returned (.bool true) ∧ Pr w' p b r L ∧ Mv w w' (fun k => k = b ∨ k = r) := by
  have hpr := Aside0.mk (h.below (boxed_below w p r sec kind page birth))
  have hmv := Aside0.mk (Mv.of_below (boxed_below w p r sec kind page birth) (fun k => k = b ∨ k = r))
  have k0 : (kind == 0) = false := beq_eq_false_iff_ne.mpr hk.1
  have k1 : (kind == 1) = false := beq_eq_false_iff_ne.mpr hk.2.1
  have k2 : (kind == 2) = false := beq_eq_false_iff_ne.mpr hk.2.2.1
  have k3 : (kind == 3) = false := beq_eq_false_iff_ne.mpr hk.2.2.2.1
  have k4 : (kind == 4) = false := beq_eq_false_iff_ne.mpr hk.2.2.2.2
  clear h hk
  go_enter Try.func10, Try.ntmps10
  go_wp2
  go_ret
  exact ⟨rfl, hpr.out, hmv.out⟩
theorem step10 {w : World} {p b r : Nat} {L : Who} (h : Pr w p b r L) (sec : Bool) (kind page birth : Int) (hw1 : (Lit.int .i64 page).wf = true) (hw2 : (Lit.int .i64 birth).wf = true) :
    Calls Try.prog 10 #[.agg #[.pointer (some ⟨p, 0, none⟩), .pointer (some ⟨r, 0, none⟩)], .agg #[.bool sec, .int .i64 kind, .int .i64 page, .int .i64 birth]] w
      fun e w' => e = .returned (.bool true) ∧ Pr w' p b r (stepL L kind page birth) ∧ Mv w w' (fun k => k = b ∨ k = r) := by
  unfold stepL
  by_cases k0 : kind = 0
  · subst k0; rw [if_pos rfl]; exact step_take h sec page birth hw1 hw2
  · rw [if_neg k0]
    by_cases k1 : kind = 1
    · subst k1; rw [if_pos rfl]; exact step_give h sec page birth hw1 hw2
    · rw [if_neg k1]
      by_cases k2 : kind = 2
      · subst k2; rw [if_pos rfl]; exact step_drop h sec page birth hw1 hw2
      · rw [if_neg k2]
        by_cases k3 : kind = 3
        · subst k3; exact step_holder h sec page birth hw1 hw2
        · by_cases k4 : kind = 4
          · subst k4; exact step_held h sec page birth hw1 hw2
          · exact step_none h sec kind page birth ⟨k0, k1, k2, k3, k4⟩
end Go.Proofs.Ytjalkjoaepbhbaa.QA
