/- LockFresh, walked. -/
import Derived.Test.YtjalkjoaepbhbaaTGoes
namespace Go.Proofs.Ytjalkjoaepbhbaa.QA
open Go.RowKit Go.Maps Go.Proofs.YtjalkjoaepbhbaaW.PrintWords Go.Proofs.YtjalkjoaepbhbaaW.PrintLast Go.Proofs.YtjalkjoaepbhbaaW.PrintMore
set_option linter.unusedVariables false
set_option linter.unusedSimpArgs false
theorem info39 : (Try.prog.info? 39).map (fun i => (i.zero, i.size, i.bytes)) = some (some (.slice none 0 0), 1, 24) := by kernel_rfl
theorem at_L45 {w : World} {A : Option Addr} {n : Nat} {xs : List (List Int)} (h : Kd.C (Kd.slice 3 (Kd.int .i64)) w A n xs) (i : Int) (h0 : 0 ≤ i) (h1 : i < n) : ∃ ad A0 c0, A = some ad ∧ w.cell? (ad.add i.toNat) = some (.slice A0 (xs.getD i.toNat []).length c0) ∧ (xs.getD i.toNat []).length ≤ c0 ∧ Kd.C (Kd.int .i64) w A0 (xs.getD i.toNat []).length (xs.getD i.toNat []) := by
  obtain ⟨ad, c, e, _, hK, hc0⟩ := Kd.C_get h ([] : List Int) i h0 h1
  have hc : ∀ j u, c[j]? = some u → w.cell? (ad.add (i.toNat * 1 + j)) = some u := hc0
  obtain ⟨A0, c0, rfl, l0, g0⟩ := hK
  exact ⟨ad, A0, c0, e, by have hq := hc 0 _ rfl; rwa [Nat.mul_one, Nat.add_zero] at hq, l0, g0⟩
theorem rd_mark (m n j : Nat) (h : j < n) : rd (mark m n) (j : Int) = -1 - (m : Int) := by
  unfold rd mark
  rw [Int.toNat_natCast, List.getD_eq_getElem?_getD, List.getElem?_replicate, if_pos h]
  rfl
/-- What was copied stays. -/
def WasR (Aw : Option Addr) (cw : Nat) (hs : List Int) (w : World) : Prop := Kd.R (Kd.int .i64) 3 w 0 (fun _ => True) (.slice Aw hs.length cw) hs
theorem below_same {W0 Wb Wx Wd : World} {n0 n : Nat} (h0 : Below n0 W0 Wx) (hx : Below n Wb Wx) (hd : Below n Wb Wd) (hn : n0 ≤ n) (hs : n0 ≤ Wd.heap.size → W0.heap.size ≤ Wd.heap.size) (hnd : n0 ≤ Wd.heap.size) : Below n0 W0 Wd :=
  ⟨(hd.os.trans hx.os.symm).trans h0.os, (hd.tape.trans hx.tape.symm).trans h0.tape, (hd.output.trans hx.output.symm).trans h0.output, hs hnd, fun k hk => ((hd.block k (by omega)).trans (hx.block k (by omega)).symm).trans (h0.block k hk)⟩
theorem below_go {W w w1 : World} {n : Nat} (B : Below n W w) (hn : n ≤ w.heap.size) (h : Below w.heap.size w w1) : Below n W w1 :=
  (Mv.of_below h (fun _ => False)).below B hn (fun _ h => h.elim)
/-- A world's beginning. -/
def trunc (w : World) (n : Nat) : World := { w with heap := w.heap.extract 0 n }
theorem trunc_size (w : World) (n : Nat) (h : n ≤ w.heap.size) : (trunc w n).heap.size = n := by simp [trunc]; omega
theorem trunc_below (w : World) (n : Nat) (h : n ≤ w.heap.size) : Below n (trunc w n) w :=
  ⟨rfl, rfl, rfl, by rw [trunc_size w n h]; exact h, fun k hk => by simp [trunc, Array.getElem?_extract, hk]; omega⟩
/-- Four rows, each made behind the one before it, in a world that is as it was below them. -/
theorem Fr.of {Wb w : World} {gA s1 s2 s3 : Nat} {a b c d : Value} {xa xb xc xd : List Int} (bel : Below Wb.heap.size Wb w) (hg : Wb.heap.size ≤ gA) (hA : w.heap[gA]? = some (.cells (arr4 (four a b c d)) 39 (0, 0)))
    (ha : Kd.R (Kd.int .i64) 3 w Wb.heap.size (fun _ => True) a xa) (hb : Kd.R (Kd.int .i64) 3 w Wb.heap.size (fun _ => True) b xb) (hc : Kd.R (Kd.int .i64) 3 w Wb.heap.size (fun _ => True) c xc) (hd : Kd.R (Kd.int .i64) 3 w Wb.heap.size (fun _ => True) d xd)
    (la : ∀ k, a.ownBlock = some k → k < s1) (lb : ∀ k, b.ownBlock = some k → s1 ≤ k ∧ k < s2) (lc : ∀ k, c.ownBlock = some k → s2 ≤ k ∧ k < s3) (ld : ∀ k, d.ownBlock = some k → s3 ≤ k) (h12 : s1 ≤ s2) (h23 : s2 ≤ s3) : Fr Wb w gA (four a b c d) (fun m => if m = 0 then xa else if m = 1 then xb else if m = 2 then xc else xd) := by
  refine ⟨bel, hA, hg, fun m hm => ?_, fun m n hm hn hne k hk hk2 => ?_⟩
  · have : m = 0 ∨ m = 1 ∨ m = 2 ∨ m = 3 := by omega
    rcases this with rfl | rfl | rfl | rfl
    · exact ha
    · exact hb
    · exact hc
    · exact hd
  · have lo : ∀ m k, m < 4 → (four a b c d m).ownBlock = some k → (m = 0 ∧ k < s1) ∨ (m = 1 ∧ s1 ≤ k ∧ k < s2) ∨ (m = 2 ∧ s2 ≤ k ∧ k < s3) ∨ (m = 3 ∧ s3 ≤ k) := by
      intro m k hm hk
      have : m = 0 ∨ m = 1 ∨ m = 2 ∨ m = 3 := by omega
      rcases this with rfl | rfl | rfl | rfl
      · exact .inl ⟨rfl, la k hk⟩
      · exact .inr (.inl ⟨rfl, lb k hk⟩)
      · exact .inr (.inr (.inl ⟨rfl, lc k hk⟩))
      · exact .inr (.inr (.inr ⟨rfl, ld k hk⟩))
    have l1 := lo m k hm hk
    have l2 := lo n k hn hk2
    omega
theorem Lk.same {w w1 : World} {p b : Nat} {L : Who} (h : Lk w p b L) (hp : w1.heap[p]? = w.heap[p]?) (hb : w1.heap[b]? = w.heap[b]?) : Lk w1 p b L := by
  obtain ⟨D, hD, ht⟩ := h.map
  exact ⟨hp.trans h.cell, ⟨D, own_block hD hb, ht⟩, h.ok⟩
set_option maxHeartbeats 8000000 in
set_option maxRecDepth 100000 in
theorem fresh6 {W0 : World} {A0 : Option Addr} {c0 : Nat} (script : List Stp) (h0 : Kd.C k31 W0 A0 script.length script) (birth : Int) (hw2 : (Lit.int .i64 birth).wf = true) :
    Calls Try.prog 6 #[.slice A0 script.length c0, .int .i64 birth] W0 fun e w' => e = .returned (.bool true) ∧ Below W0.heap.size W0 w' := by
  have H0 := Aside0.mk h0
  have HW2 := Aside0.mk hw2
  clear h0 hw2
  go_enter Try.func6, Try.ntmps6
  go_upto_region 5 with (first
    | ((with_reducible refine gate_dst (N := 22) rfl ?_); refine goesL_ (some 22) rfl rfl Try.func12 (by kernel_rfl) rfl #[.slice A0 script.length c0] rfl (by (try simp only [List.map_toArray, List.map_cons, List.map_nil]); first | done | rfl) ?_
       refine (played12 script H0.out).mono ?_
       rintro e w1 ⟨p1, b1, rfl, hl, hp, hb, hbel⟩
       refine ⟨_, rfl, ?_⟩
       have K1 := Aside0.mk hl
       have B1 := Aside0.mk hbel
       have N1 := Aside0.mk hb
       clear hl hp hb hbel)
    | ((with_reducible refine gate_dst (N := 24) rfl ?_); refine goesL_ (some 24) rfl rfl Try.func12 (by kernel_rfl) rfl #[.slice A0 script.length c0] rfl (by (try simp only [List.map_toArray, List.map_cons, List.map_nil]); first | done | rfl) ?_
       refine (played12 script (Kd.C_below H0.out B1.out)).mono ?_
       rintro e w2 ⟨p2, b2, rfl, hl, hp, hb, hbel⟩
       refine ⟨_, rfl, ?_⟩
       have K2 := Aside0.mk (K1.out.below hbel)
       have J2 := Aside0.mk hl
       have B2 := Aside0.mk (B1.out.trans (hbel.mono B1.out.size))
       have N2 := Aside0.mk (show W0.heap.size ≤ b2 ∧ b1 ≠ b2 ∧ b1 ≠ p2 ∧ b2 ≠ p1 from by have h1 := K1.out.lt; have h2 := B1.out.size; omega)
       clear hl hp hb hbel)
    | ((with_reducible refine gate_dst (N := 32) rfl ?_); refine gate_guard rfl ?_; refine goesL_ (some 32) rfl rfl Try.func9 (by kernel_rfl) rfl #[] rfl (by (try simp only [List.map_toArray, List.map_cons, List.map_nil]); first | done | rfl) ?_
       refine (known9).mono ?_
       rintro e w3 ⟨rfl, hbel⟩
       refine ⟨_, rfl, ?_⟩
       have K3 := Aside0.mk (K2.out.below hbel)
       have J3 := Aside0.mk (J2.out.below hbel)
       have B3 := Aside0.mk (B2.out.trans (hbel.mono B2.out.size))
       clear hbel))
  obtain ⟨L, hLL⟩ : ∃ L, L = playL script := ⟨_, rfl⟩
  rw [← hLL] at K3 J3
  clear hLL K1 K2 J2 B1 B2
  obtain ⟨hs, hhs⟩ : ∃ hs, hs = heldL L birth := ⟨_, rfl⟩
  have hsl : hs.length ≤ 16 := by rw [hhs]; exact held_length _ _
  have Hhs := Aside0.mk hhs
  have Hheld := Aside0.mk (fun {w : World} {p b : Nat} (h : Lk w p b L) => held15 h birth)
  have Hdrop := Aside0.mk (fun {w : World} {p b : Nat} (h : Lk w p b L) => drop17 h birth)
  rw [← hhs] at Hheld Hdrop
  clear hhs
  go_upto_region 8 with (first
    | ((with_reducible refine gate_dst (N := 37) rfl ?_); refine goesL_ (some 37) rfl rfl Try.func15 (by kernel_rfl) rfl #[.pointer (some ⟨p1, 0, none⟩), .int .i64 birth] rfl (by (try simp only [List.map_toArray, List.map_cons, List.map_nil]); first | done | rfl) ?_
       refine (Hheld.out K3.out).mono ?_
       rintro e w4 ⟨v, rfl, hv, hbel⟩
       refine ⟨_, rfl, ?_⟩
       obtain ⟨Aa, ca, rfl⟩ := Kd.R_slice hv
       have Ra := Aside0.mk hv
       have L4 := Aside0.mk hbel
       have K4 := Aside0.mk (K3.out.below hbel)
       have J4 := Aside0.mk (J3.out.below hbel)
       have B4 := Aside0.mk (B3.out.trans (hbel.mono B3.out.size))
       clear hv hbel)
    | ((with_reducible refine gate_dst (N := 40) rfl ?_); refine goesL_ (some 40) rfl rfl Try.func15 (by kernel_rfl) rfl #[.pointer (some ⟨p1, 0, none⟩), .int .i64 birth] rfl (by (try simp only [List.map_toArray, List.map_cons, List.map_nil]); first | done | rfl) ?_
       refine (Hheld.out K4.out).mono ?_
       rintro e w5 ⟨v, rfl, hv, hbel⟩
       refine ⟨_, rfl, ?_⟩
       obtain ⟨Ab, cb, rfl⟩ := Kd.R_slice hv
       have Rb := Aside0.mk hv
       have L5 := Aside0.mk hbel
       have K5 := Aside0.mk (K4.out.below hbel)
       have J5 := Aside0.mk (J4.out.below hbel)
       have B5 := Aside0.mk (B4.out.trans (hbel.mono B4.out.size))
       clear hv hbel)
    | ((with_reducible refine gate_dst (N := 43) rfl ?_); refine goesL_ (some 43) rfl rfl Try.func15 (by kernel_rfl) rfl #[.pointer (some ⟨p2, 0, none⟩), .int .i64 birth] rfl (by (try simp only [List.map_toArray, List.map_cons, List.map_nil]); first | done | rfl) ?_
       refine (Hheld.out J5.out).mono ?_
       rintro e w6 ⟨v, rfl, hv, hbel⟩
       refine ⟨_, rfl, ?_⟩
       obtain ⟨Ac, cc, rfl⟩ := Kd.R_slice hv
       have Rc := Aside0.mk hv
       have L6 := Aside0.mk hbel
       have K6 := Aside0.mk (K5.out.below hbel)
       have J6 := Aside0.mk (J5.out.below hbel)
       have B6 := Aside0.mk (B5.out.trans (hbel.mono B5.out.size))
       clear hv hbel))
  have E6 := Aside0.mk (Kd.R_of_own (e := 3) (base := w6.heap.size) (enc := Value.int .i64) (h1 := fun _ => rfl) (ok := fun _ => True) (own_lit_of (enc := Value.int .i64) w6 w6.heap.size 3 ([] : List Int) (Nat.le_refl _) (by decide)) (fun _ _ => trivial))
  have G6 := Aside0.mk (below_alloc (Below.refl w6.heap.size w6) (.cells (encs (Value.int .i64) ([] : List Int)).toArray 3 (0, 0)))
  go_upto_region 12 with (first
    | ((with_reducible refine gate_dst (N := 44) rfl ?_); refine Kd.event_run (v := .slice (some ⟨w6.heap.size, 0, none⟩) 0 0) (w1 := w6.alloc (.cells (encs (Value.int .i64) ([] : List Int)).toArray 3 (0, 0))) rfl (by first | (go_simp; done) | (go_simp; rfl) | kernel_rfl) ?_)
    | ((with_reducible refine gate_builtin (b := .append) (xs := #[.tmp 44, .tmp 45]) rfl ?_); at_builtin; refine Kd.R_append_row (Value.int .i64) (0 : Int) (h1 := fun _ => rfl) (w0 := w6) w6.heap.size rfl (.tmp 44) (.tmp 45) 39 3 (.int .i64 0) 8 rfl Try.underlying39 info3 rfl (by decide) _ [] hs Aa hs.length ca (fun _ => True) rfl rfl (fun _ _ => trivial) E6.out (Kd.C_below (Kd.C_below (Kd.C_below (Kd.R_reads' Ra.out).2.2 L5.out) L6.out) G6.out) G6.out G6.out.size (by simp; omega) ?_
       intro v7 w7 hv hbel _ _
       rw [List.nil_append] at hv
       obtain ⟨Aw, cw, rfl⟩ := Kd.R_slice hv
       have Rw := Aside0.mk hv
       have L7 := Aside0.mk hbel
       have K7 := Aside0.mk (K6.out.below hbel)
       have J7 := Aside0.mk (J6.out.below hbel)
       have B7 := Aside0.mk (B6.out.trans (hbel.mono B6.out.size))
       clear hv hbel)
    | ((with_reducible refine gate_dst (N := 49) rfl ?_); refine goesL_ (some 49) rfl rfl Try.func17 (by kernel_rfl) rfl #[.pointer (some ⟨p2, 0, none⟩), .int .i64 birth] rfl (by (try simp only [List.map_toArray, List.map_cons, List.map_nil]); first | done | rfl) ?_
       refine (Hdrop.out J7.out).mono ?_
       rintro e w8 ⟨v, rfl, hv, hl, hm_⟩
       refine ⟨_, rfl, ?_⟩
       obtain ⟨Ad, cd, rfl⟩ := Kd.R_slice hv
       have Rd := Aside0.mk hv
       have M8 := Aside0.mk hm_
       have K8 := Aside0.mk (K7.out.move hm_ (fun e => N2.out.2.2.2 e.symm) N2.out.2.1)
       have J8 := Aside0.mk hl
       have B8 := Aside0.mk (hm_.below B7.out B7.out.size (fun k hk => hk ▸ N2.out.1))
       have lt3 := J3.out.lt
       have U8 := Aside0.mk (show ∀ {base : Nat} {v : Value} {xs : List Int}, w3.heap.size ≤ base → Kd.R (Kd.int .i64) 3 w7 base (fun _ => True) v xs → Kd.R (Kd.int .i64) 3 w8 base (fun _ => True) v xs from fun hb hr => C_of_block (w2 := w8) hr (fun k hk => hm_.block k (Kd.R_lt hr k hk) (fun e => by have h1 := Kd.R_base hr k hk; omega)))
       clear hv hl hm_ lt3)
    | ((with_reducible refine gate_dst (N := 52) rfl ?_); refine goesL_ (some 52) rfl rfl Try.func18 (by kernel_rfl) rfl #[.slice Ab hs.length cb, .slice Aw hs.length cw] rfl (by (try simp only [List.map_toArray, List.map_cons, List.map_nil]); first | done | rfl) ?_
       refine (same18 hs (Kd.R_reads' (U8.out (by have := L4.out.size; omega) (Kd.R_below (Kd.R_below Rb.out L6.out) L7.out))).2.2 (Kd.R_reads' (U8.out (by have := L4.out.size; have := L5.out.size; have := L6.out.size; omega) Rw.out)).2.2).mono ?_
       rintro e w9 ⟨rfl, hbel⟩
       refine ⟨_, rfl, ?_⟩
       have L9 := Aside0.mk hbel
       clear hbel)
    | ((with_reducible refine gate_dst (N := 57) rfl ?_); refine gate_guard rfl ?_; refine goesL_ (some 57) rfl rfl Try.func18 (by kernel_rfl) rfl #[.slice Ac hs.length cc, .slice Aw hs.length cw] rfl (by (try simp only [List.map_toArray, List.map_cons, List.map_nil]); first | done | rfl) ?_
       refine (same18 hs (Kd.C_below (Kd.R_reads' (U8.out (by have := L4.out.size; have := L5.out.size; omega) (Kd.R_below Rc.out L7.out))).2.2 L9.out) (Kd.C_below (Kd.R_reads' (U8.out (by have := L4.out.size; have := L5.out.size; have := L6.out.size; omega) Rw.out)).2.2 L9.out)).mono ?_
       rintro e w10 ⟨rfl, hbel⟩
       refine ⟨_, rfl, ?_⟩
       have L10 := Aside0.mk (below_go L9.out L9.out.size hbel)
       clear hbel)
    | ((with_reducible refine gate_dst (N := 63) rfl ?_); refine gate_guard rfl ?_; refine goesL_ (some 63) rfl rfl Try.func18 (by kernel_rfl) rfl #[.slice Ad hs.length cd, .slice Aw hs.length cw] rfl (by (try simp only [List.map_toArray, List.map_cons, List.map_nil]); first | done | rfl) ?_
       refine (same18 hs (Kd.C_below (Kd.R_reads' Rd.out).2.2 L10.out) (Kd.C_below (Kd.R_reads' (U8.out (by have := L4.out.size; have := L5.out.size; have := L6.out.size; omega) Rw.out)).2.2 L10.out)).mono ?_
       rintro e w11 ⟨rfl, hbel⟩
       refine ⟨_, rfl, ?_⟩
       have L11 := Aside0.mk (below_go L10.out L10.out.size hbel)
       clear hbel))
  obtain ⟨n, hn_⟩ : ∃ n : Nat → Nat, n = fun _ => hs.length := ⟨_, rfl⟩
  have Hn := Aside0.mk hn_
  clear hn_
  go_upto_region 13 with (first
    | ((with_reducible refine gate_dst (N := 70) rfl ?_); refine lit4_event rfl (four (.slice Aa hs.length ca) (.slice Ab hs.length cb) (.slice Ac hs.length cc) (.slice Ad hs.length cd)) rfl rfl rfl rfl rfl (lit45 _ Aa Ab Ac Ad hs.length hs.length hs.length hs.length ca cb cc cd) ?_
       intro gA w12 hgA hA hbA
       have HGA := Aside0.mk hgA
       have HAA := Aside0.mk hA
       have LA := Aside0.mk (below_go L11.out L11.out.size hbA)
       clear hgA hA hbA))
  obtain ⟨Wb, hWb⟩ : ∃ W, W = trunc w12 w3.heap.size := ⟨_, rfl⟩
  have hz := trunc_size w12 w3.heap.size (by have := L4.out.size; have := L5.out.size; have := L6.out.size; have := L7.out.size; have := M8.out.size; have := LA.out.size; omega)
  have hzb := trunc_below w12 w3.heap.size (by have := L4.out.size; have := L5.out.size; have := L6.out.size; have := L7.out.size; have := M8.out.size; have := LA.out.size; omega)
  rw [← hWb] at hz hzb
  have Zb := Aside0.mk hz
  have Hzb := Aside0.mk hzb
  clear hWb hz hzb
  have C12 := Aside0.mk (show Wb.heap.size ≤ w4.heap.size ∧ w4.heap.size ≤ w5.heap.size ∧ w5.heap.size ≤ w6.heap.size ∧ w6.heap.size ≤ w7.heap.size ∧ w7.heap.size ≤ w8.heap.size ∧ w8.heap.size ≤ w12.heap.size from
    ⟨by rw [Zb.out]; exact L4.out.size, L5.out.size, L6.out.size, L7.out.size, M8.out.size, LA.out.size⟩)
  have F12 := Aside0.mk (show ∃ (v : Nat → Value) (xs : Nat → List Int), Fr Wb w12 gA v xs ∧ (∀ m, m < 4 → (xs m).length = n m) ∧ (∀ m, m < 4 → ∀ k, (v m).ownBlock = some k → k < w6.heap.size ∨ w7.heap.size ≤ k) from by
    have hc := C12.out
    have rza := Kd.R_below (U8.out (Nat.le_refl _) (Kd.R_below (Kd.R_below (Kd.R_below Ra.out L5.out) L6.out) L7.out)) LA.out
    have rzb := Kd.R_below (U8.out (by rw [← Zb.out]; omega) (Kd.R_below (Kd.R_below Rb.out L6.out) L7.out)) LA.out
    have rzc := Kd.R_below (U8.out (by rw [← Zb.out]; omega) (Kd.R_below Rc.out L7.out)) LA.out
    have rzd := Kd.R_below Rd.out LA.out
    have la : ∀ k, (Value.slice Aa hs.length ca).ownBlock = some k → k < w4.heap.size := fun k hk => Kd.R_lt Ra.out k hk
    have lb : ∀ k, (Value.slice Ab hs.length cb).ownBlock = some k → w4.heap.size ≤ k ∧ k < w5.heap.size := fun k hk => ⟨Kd.R_base Rb.out k hk, Kd.R_lt Rb.out k hk⟩
    have lc : ∀ k, (Value.slice Ac hs.length cc).ownBlock = some k → w5.heap.size ≤ k ∧ k < w6.heap.size := fun k hk => ⟨Kd.R_base Rc.out k hk, Kd.R_lt Rc.out k hk⟩
    have ld : ∀ k, (Value.slice Ad hs.length cd).ownBlock = some k → w7.heap.size ≤ k := fun k hk => Kd.R_base Rd.out k hk
    refine ⟨_, _, Fr.of (s1 := w4.heap.size) (s2 := w5.heap.size) (s3 := w6.heap.size) (xa := hs) (xb := hs) (xc := hs) (xd := hs) (by rw [Zb.out]; exact Hzb.out) (by have := HGA.out; have := L11.out.size; omega) HAA.out (by rw [Zb.out]; exact rza) (Kd.R_lower rzb (by omega)) (Kd.R_lower rzc (by omega)) (Kd.R_lower rzd (by omega)) la lb lc (fun k hk => by have := ld k hk; omega) (by omega) (by omega), fun m hm => ?_, fun m hm k hk => ?_⟩
    · rw [Hn.out]
      have : m = 0 ∨ m = 1 ∨ m = 2 ∨ m = 3 := by omega
      rcases this with rfl | rfl | rfl | rfl <;> rfl
    · have : m = 0 ∨ m = 1 ∨ m = 2 ∨ m = 3 := by omega
      rcases this with rfl | rfl | rfl | rfl
      · have := la k hk; omega
      · have := lb k hk; omega
      · have := lc k hk; omega
      · have := ld k hk; omega)
  have HW := Aside0.mk (show WasR Aw cw hs w12 from Kd.R_lower (Kd.R_below (U8.out (by have := C12.out; rw [← Zb.out]; omega) Rw.out) LA.out) (Nat.zero_le _))
  have HWo := Aside0.mk (show ∀ k, (Value.slice Aw hs.length cw).ownBlock = some k → w6.heap.size ≤ k ∧ k < w7.heap.size from fun k hk => ⟨Kd.R_base Rw.out k hk, Kd.R_lt Rw.out k hk⟩)
  have K12 := Aside0.mk (K8.out.below LA.out)
  have J12 := Aside0.mk (J8.out.below LA.out)
  have B12 := Aside0.mk (below_go B8.out B8.out.size LA.out)
  have T12 := Aside0.mk (show p1 < Wb.heap.size ∧ b1 < Wb.heap.size ∧ p2 < Wb.heap.size ∧ b2 < Wb.heap.size ∧ W0.heap.size ≤ Wb.heap.size from by
    have h1 := K3.out.lt
    have h2 := J3.out.lt
    have h3 := B3.out.size
    rw [Zb.out]
    omega)
  have X12 := Aside0.mk (show Below Wb.heap.size Wb w12 from by rw [Zb.out]; exact Hzb.out)
  clear K3 J3 B3 N1 N2 Ra L4 K4 J4 B4 Rb L5 K5 J5 B5 Rc L6 K6 J6 B6 E6 G6 Rw L7 K7 J7 B7 Rd M8 K8 J8 B8 U8 L9 L10 L11 HGA HAA LA Zb Hzb
  obtain ⟨v, xs0, hF0, hl0, hap0⟩ := F12.out
  have HWk := Aside0.mk (show ∀ (w w1 : World) (S : Nat → Prop), Mv w w1 S → w12.heap.size ≤ w.heap.size → (∀ k, S k → (∃ m, m < 4 ∧ (v m).ownBlock = some k) ∨ w12.heap.size ≤ k) → WasR Aw cw hs w → WasR Aw cw hs w1 from
    fun w w1 S m _ hS hw => C_of_block (w2 := w1) hw (fun k hk => m.block k (Kd.R_lt hw k hk) (fun hs_ => by
      have h1 := HWo.out k hk
      have h2 := C12.out
      rcases hS k hs_ with ⟨i, hi, hik⟩ | h3
      · have := hap0 i hi k hik; omega
      · omega)))
  clear hap0
  have HF := Aside0.mk hF0
  have HL := Aside0.mk hl0
  clear hF0 hl0 F12
  obtain ⟨Wx, hWx, HF⟩ : ∃ W, W = _ ∧ Aside0 (Fr Wb W gA v xs0) := ⟨_, rfl, HF⟩
  subst hWx
  have hform := Aside0.mk (show ∀ m, m < 4 → ∃ A c, v m = .slice A (n m) c from fun m hm => by
    obtain ⟨A, c, e⟩ := Kd.R_slice (HF.out.rows m hm)
    rw [HL.out m hm] at e
    exact ⟨A, c, e⟩)
  have hnb := Aside0.mk (show ∀ m, m < 4 → n m ≤ 300 from fun m hm => by
    rw [Hn.out]
    show hs.length ≤ 300
    omega)
  go_upto_block 0 with fail
  go_cut [] (fun wc => (∃ ys : Nat → List Int, Aside0 (Fr Wb wc gA v ys) ∧ Aside0 (∀ m, m < 4 → ys m = mark m (n m))) ∧ Aside0 (WasR Aw cw hs wc) ∧ Aside0 (Wx.heap.size ≤ wc.heap.size))
  case first =>
    go_wp2_with fail
    go_loopg [13] 4 (fun kq v13 w' => ∃ (i : Nat) (xs : Nat → List Int), v13 = .int .i64 (i : Int) ∧ Aside0 (i + kq = 4) ∧ Aside0 (Fr Wb w' gA v xs) ∧ Aside0 (∀ m, m < 4 → (xs m).length = n m) ∧ Aside0 (∀ m, m < i → xs m = mark m (n m)) ∧ Aside0 (WasR Aw cw hs w') ∧ Aside0 (Wx.heap.size ≤ w'.heap.size))
    case atStart => exact ⟨0, xs0, rfl, ⟨rfl⟩, HF, HL, ⟨fun m hm => by omega⟩, HW, ⟨Nat.le_refl _⟩⟩
    case round =>
      clear HF
      obtain ⟨i, xs, rfl, hik, hF, hL, hM, hWs, hSz⟩ := hrel
      cases gk with
      | zero =>
        obtain rfl : i = 4 := hik.out
        go_wp2
        go_meet
        case rel => exact ⟨⟨xs, hF, ⟨fun m hm => hM.out m (by omega)⟩⟩, hWs, hSz⟩
      | succ k1 =>
        have hi4 : i < 4 := by have := hik.out; omega
        have hi5 : (i : Int) < 4 := by omega
        have hi6 : decide ((i : Int) < 4) = true := decide_eq_true hi5
        obtain ⟨Ai, ci, hvi⟩ := hform.out i hi4
        have Hvi := Aside0.mk hvi
        have hcA := Aside0.mk (fun (w : World) (ys : Nat → List Int) (h : Fr Wb w gA v ys) => (show w.cell? ⟨gA, i, none⟩ = some (.slice Ai (n i) ci) from by
          rw [blk_cell h.hA, arr4_at v i hi4, hvi]))
        clear hvi
        go_wp2
        go_loopg [14] (n i) (fun kq v14 w' => ∃ (j : Nat) (xs : Nat → List Int), v14 = .int .i64 (j : Int) ∧ Aside0 (j + kq = n i) ∧ Aside0 (Fr Wb w' gA v xs) ∧ Aside0 (∀ m, m < 4 → (xs m).length = n m) ∧ Aside0 (∀ m, m < i → xs m = mark m (n m)) ∧ Aside0 ((xs i).take j = mark i j) ∧ Aside0 (WasR Aw cw hs w') ∧ Aside0 (Wx.heap.size ≤ w'.heap.size))
        case atStart => exact ⟨0, xs, rfl, ⟨by omega⟩, hF, hL, hM, ⟨rfl⟩, hWs, hSz⟩
        case round =>
          clear hF hL hM hWs hSz
          obtain ⟨j, xs, rfl, hjk, hF, hL, hM, hT, hWs, hSz⟩ := hrel
          have hc := hcA.out _ _ hF.out
          have hni : n i ≤ 300 := hnb.out i hi4
          cases gk with
          | zero =>
            obtain rfl : j = n i := hjk.out
            have hd1 : ¬ ((n i : Int) < (n i : Int)) := by omega
            go_wp2
            go_roundg k1
            case measure => omega
            case rel => exact ⟨i + 1, xs, rfl, ⟨by have := hik.out; omega⟩, hF, hL, ⟨fun m hm => by
              by_cases e : m = i
              · subst e
                have := hT.out
                rwa [List.take_of_length_le (by rw [hL.out m hi4]; exact Nat.le_refl _)] at this
              · exact hM.out m (by omega)⟩, hWs, hSz⟩
          | succ k2 =>
            have hj0 : j < n i := by have := hjk.out; omega
            have hj1 : (j : Int) < (n i : Int) := by omega
            have hj2 : decide ((j : Int) < (n i : Int)) = true := decide_eq_true hj1
            obtain ⟨g, cap, cur, he, hg, hjc, hput⟩ := row_open (hF.out.rows i hi4) j (by rw [hL.out i hi4]; exact hj0)
            rw [Hvi.out, hL.out i hi4] at he
            injection he with e1 e2 e3
            subst e1 e3
            have Hg := Aside0.mk hg
            have Hput := Aside0.mk hput
            clear hg hput e2
            go_wp2_with (first
              | ((with_reducible refine gate_store (t := 3) (p := 91) (v := .tmp 90) rfl ?_); refine put_event rfl rfl (g := g) (i := j) (v := .int .i64 (-1 - (i : Int))) rfl rfl rfl rfl Hg.out hjc (by kernel_rfl) ?_
                 intro w13 hb13 mv13
                 have F13 := Aside0.mk (hF.out.put hi4 (g := g) (by rw [Hvi.out]; rfl) mv13 (Hput.out w13 _ hb13))
                 have W13 := Aside0.mk (HWk.out _ _ _ mv13 hSz.out (fun k hk => .inl ⟨i, hi4, by rw [Hvi.out]; exact congrArg some hk.symm⟩) hWs.out)
                 have S13 := Aside0.mk (Nat.le_trans hSz.out mv13.size)
                 clear hb13 mv13))
            go_roundg k2
            case measure => omega
            case rel => exact ⟨j + 1, _, rfl, ⟨by have := hjk.out; omega⟩, F13, ⟨fun m hm => by
              unfold updL
              split
              · rename_i e; subst e; rw [List.length_set]; exact hL.out m hm
              · exact hL.out m hm⟩, ⟨fun m hm => by
              unfold updL
              rw [if_neg (by omega)]
              exact hM.out m hm⟩, ⟨by
              unfold updL
              rw [if_pos rfl, set_take _ _ _ (by rw [hL.out i hi4]; exact hj0), hT.out, mark_add]⟩, W13, S13⟩
  case rest =>
    obtain ⟨⟨ys, hFy, hMy⟩, hWs, hSz⟩ := hcut
    clear HF HL
    have hFm := Aside0.mk (show ∃ Wc, Wc = wc ∧ Fr Wb Wc gA v (fun m => mark m (n m)) from ⟨_, rfl, hFy.out.bel, hFy.out.hA, hFy.out.bA, fun m hm => by
      have := hFy.out.rows m hm
      rw [hMy.out m hm] at this
      exact this, hFy.out.apart⟩)
    obtain ⟨Wc, hWc, hFm2⟩ := hFm.out
    have hFl := Aside0.mk (Fl.start hFm2)
    subst hWc
    clear hFm hFm2 hFy hMy
    go_upto_block 4 with fail
    go_cut [15] (fun v15 w' => Aside0 (Fl Wb Wc w' gA v n 4 v15) ∧ Aside0 (WasR Aw cw hs w'))
    case first =>
      go_wp2_with fail
      go_loopg [15, 16] 4 (fun kq v15 v16 w' => ∃ (i : Nat), v16 = .int .i64 (i : Int) ∧ Aside0 (i + kq = 4) ∧ Aside0 (Fl Wb Wc w' gA v n i v15) ∧ Aside0 (WasR Aw cw hs w'))
      case atStart => exact ⟨0, rfl, ⟨rfl⟩, hFl, hWs⟩
      case round =>
        clear hFl hWs
        obtain ⟨i, rfl, hik, hF, hWs⟩ := hrel
        cases gk with
        | zero =>
          obtain rfl : i = 4 := hik.out
          go_wp2
          go_meet
          case rel => exact ⟨hF, hWs⟩
        | succ k1 =>
          have hi4 : i < 4 := by have := hik.out; omega
          have hi5 : (i : Int) < 4 := by omega
          have hi6 : decide ((i : Int) < 4) = true := decide_eq_true hi5
          obtain ⟨Ai, ci, hvi⟩ := hform.out i hi4
          have Hvi := Aside0.mk hvi
          obtain ⟨Ws, hWs, hF⟩ : ∃ W, W = _ ∧ Aside0 (Fl Wb Wc W gA v n i _) := ⟨_, rfl, hF⟩
          subst hWs
          have hcA : Ws.cell? ⟨gA, i, none⟩ = some (.slice Ai (n i) ci) := by
            rw [blk_cell hF.out.hA, arr4_at v i hi4, hvi]
          have hni := Aside0.mk (hnb.out i hi4)
          have hFi := Aside0.mk (Fi.start hF.out hi4)
          rw [hvi] at hFi
          clear hvi
          go_wp2
          go_loopg [17, 18] 40 (fun kq v17 v18 wq => ∃ (j : Nat), v18 = .int .i64 (j : Int) ∧ Aside0 (j + kq = 40) ∧ Aside0 (Fi Wb Ws wq v n i j v17) ∧ Aside0 (WasR Aw cw hs wq))
          case atStart => exact ⟨0, rfl, ⟨rfl⟩, hFi, hWs⟩
          case round =>
            clear hFi hcA hWs
            obtain ⟨j, rfl, hjk, hFi, hWs⟩ := hrel
            obtain ⟨Am, cm, rfl⟩ := Kd.R_slice hFi.out.row
            cases gk with
            | zero =>
              obtain rfl : j = 40 := hjk.out
              obtain ⟨i1, i2, i3, i4, i5, i6⟩ := hF.out.inner hi4 hFi.out
              have I1 := Aside0.mk i1
              have I6 := Aside0.mk i6
              clear i1 i2 i3 i4 i5 i6
              go_wp2_with (first
                | ((with_reducible refine gate_builtin (b := .append) (xs := #[.tmp 109, .tmp 111]) rfl ?_); at_builtin; refine Kd.R_append (Kd.slice 3 (Kd.int .i64)) (w0 := Wb) Wb.heap.size rfl (.tmp 109) (.tmp 111) 45 39 _ 24 rfl Try.underlying45 info39 rfl (by decide) (by omega) _ _ (mark i (n i + 40)) [.slice Am (mark i (n i + 40)).length cm] (fun k => (∃ m, m < i + 1 ∧ (v m).ownBlock = some k) ∨ Wc.heap.size ≤ k) (fun k => (Value.slice Am (mark i (n i + 40)).length cm).ownBlock = some k) rfl rfl ?aP ?aK ?aF (Kd.R_mono I6.out (fun k hk => hk.elim (fun ⟨m, hm, h⟩ => .inl ⟨m, by omega, h⟩) .inr)) I1.out I1.out.size ?aL ?_
                   (case aP => exact ⟨_, rfl, Kd.R_mono (Kd.R_tight2 rfl hFi.out.row) (fun k hk => hk.1.symm)⟩)
                   (case aK =>
                     intro k hk
                     rcases hFi.out.at_ with h1 | ⟨b, hb, hle⟩
                     · rw [h1] at hk
                       exact ⟨.inl ⟨i, by omega, hk⟩, fun he => by have := hF.out.lblk k he.symm; have := hF.out.old i k hi4 hk; omega⟩
                     · rw [hb] at hk
                       injection hk with hk
                       subst hk
                       exact ⟨.inr (Nat.le_trans hF.out.sz hle), fun he => by have := Kd.R_lt hF.out.long b he.symm; omega⟩)
                   (case aF => exact fun k hk => .inr (Nat.le_trans (Nat.le_trans hF.out.sz hFi.out.mv.size) hk))
                   (case aL => simp; omega)
                   intro vo2 w15 ho hbB hgr hat
                   have F15 := Aside0.mk (hF.out.step hi4 hFi.out hbB hgr hat ho)
                   have W15 := Aside0.mk (HWk.out _ _ _ (Mv.of_grown hgr) (Nat.le_trans (Nat.le_trans hSz.out hF.out.sz) hFi.out.mv.size) (fun k hk => .inr (Nat.le_trans hSz.out (hF.out.lblk k hk.symm))) hWs.out)
                   clear ho hbB hgr hat))
              go_roundg k1
              case measure => omega
              case rel => exact ⟨i + 1, rfl, ⟨by have := hik.out; omega⟩, F15, W15⟩
            | succ k2 =>
              have hj1 : (j : Int) < 40 := by have := hjk.out; omega
              have hj2 : decide ((j : Int) < 40) = true := decide_eq_true hj1
              go_wp2_with (first
                | ((with_reducible refine gate_builtin (b := .append) (xs := #[.tmp 104, .tmp 107]) rfl ?_); at_builtin; refine keep_event (base := Wb.heap.size) (Nat.le_trans (Nat.le_trans hF.out.bc hF.out.sz) hFi.out.mv.size) rfl (.tmp 104) (.tmp 107) rfl Try.underlying39 info3 (xs := mark i (n i + j)) (-1 - (i : Int)) rfl rfl hFi.out.row (by rw [mark_len]; have := hni.out; omega) ?_
                   intro v1 w16 hR hm hat hC
                   have F16 := Aside0.mk (hFi.out.step hR hm hat hC)
                   have W16 := Aside0.mk (HWk.out _ _ _ hm (Nat.le_trans (Nat.le_trans hSz.out hF.out.sz) hFi.out.mv.size) (fun k hk => hFi.out.at_.elim (fun h1 => .inl ⟨i, hi4, by rw [← h1, ← hk]⟩) (fun ⟨b, hb, hle⟩ => .inr (by rw [hb] at hk; injection hk with hk; have := hF.out.sz; have := hSz.out; omega))) hWs.out)
                   clear hR hm hat hC))
              go_roundg k2
              case measure => omega
              case rel => exact ⟨j + 1, rfl, ⟨by have := hjk.out; omega⟩, F16, W16⟩
    case rest =>
      clear hFl
      obtain ⟨Wd, hWd, hF⟩ : ∃ W, W = _ ∧ Aside0 (Fl Wb Wc W gA v n 4 _) := ⟨_, rfl, hcut.1⟩
      subst hWd
      have hWd2 := hcut.2
      clear hcut
      obtain ⟨Ag, cg, hlong⟩ := Kd.R_slice hF.out.long
      rw [show ((List.range 4).map fun m => mark m (n m + 40)).length = 4 from by simp] at hlong
      subst hlong
      have hlr := Aside0.mk (Kd.R_reads' hF.out.long).2.2
      rw [show ((List.range 4).map fun m => mark m (n m + 40)).length = 4 from by simp] at hlr
      go_upto_block 8 with fail
      go_cut [] (fun w' => w' = Wd)
      case first =>
        go_wp2_with fail
        go_loopg [19] 4 (fun kq v19 w' => ∃ (i : Nat), v19 = .int .i64 (i : Int) ∧ w' = Wd ∧ Aside0 (i + kq = 4))
        case atStart => exact ⟨0, rfl, rfl, ⟨rfl⟩⟩
        case round =>
          obtain ⟨i, rfl, rfl, hik⟩ := hrel
          cases gk with
          | zero =>
            obtain rfl : i = 4 := hik.out
            go_wp2
            go_meet
            case rel => rfl
          | succ k1 =>
            have hi4 : i < 4 := by have := hik.out; omega
            have hi5 : (i : Int) < 4 := by omega
            have hi6 : decide ((i : Int) < 4) = true := decide_eq_true hi5
            obtain ⟨Wd, hWd, hF⟩ : ∃ W, W = _ ∧ Aside0 (Fl Wb Wc W gA v n 4 _) := ⟨_, rfl, hF⟩
            subst hWd
            obtain ⟨Ai, ci, hvi, hci, hCi⟩ := (hF.out.reads i hi4).slice
            have hcA : Wd.cell? ⟨gA, i, none⟩ = some (.slice Ai (n i) ci) := by
              rw [blk_cell hF.out.hA, arr4_at v i hi4, hvi]
            obtain ⟨adg, A1, c1, rfl, hcg, hc1, hC1⟩ := at_L45 hlr.out (i : Int) (by omega) (by omega)
            have hgi : ((List.range 4).map fun m => mark m (n m + 40)).getD (i : Int).toNat [] = mark i (n i + 40) := by
              simp [hi4]
            rw [hgi, mark_len] at hcg hc1 hC1
            rw [Int.toNat_natCast] at hcg
            have HCi := Aside0.mk hCi
            have HC1 := Aside0.mk hC1
            have hni := hnb.out i hi4
            clear hCi hC1 hgi hvi hci hc1
            go_wp2
            go_loopg [20] (n i + 40) (fun kq v20 w' => ∃ (j : Nat), v20 = .int .i64 (j : Int) ∧ w' = Wd ∧ Aside0 (j + kq = n i + 40))
            case atStart => exact ⟨0, rfl, rfl, ⟨by omega⟩⟩
            case round =>
              obtain ⟨j, rfl, rfl, hjk⟩ := hrel
              cases gk with
              | zero =>
                obtain rfl : j = n i + 40 := hjk.out
                have hd1 : ¬ (((n i + 40 : Nat) : Int) < ((n i + 40 : Nat) : Int)) := by omega
                go_wp2
                go_roundg k1
                case measure => omega
                case rel => exact ⟨i + 1, rfl, rfl, ⟨by have := hik.out; omega⟩⟩
              | succ k2 =>
                have hj0 : j < n i + 40 := by have := hjk.out; omega
                have hj1 : (j : Int) < ((n i + 40 : Nat) : Int) := by omega
                have hj1' : (j : Int) < (n i : Int) + 40 := by omega
                have hj2 : decide ((j : Int) < ((n i + 40 : Nat) : Int)) = true := decide_eq_true hj1
                obtain ⟨ad1, e1, hx1⟩ := Kd.at_int HC1.out (j : Int) (by omega) hj1
                subst e1
                rw [Int.toNat_natCast, rd_mark _ _ _ hj0] at hx1
                by_cases hjn : j < n i
                · have hk1 : (j : Int) < (n i : Int) := by omega
                  have hk2 : decide ((j : Int) < (n i : Int)) = true := decide_eq_true hk1
                  obtain ⟨ad2, e2, hx2⟩ := Kd.at_int HCi.out (j : Int) (by omega) hk1
                  subst e2
                  rw [Int.toNat_natCast, rd_mark _ _ _ hjn] at hx2
                  go_wp2
                  go_roundg k2
                  case measure => omega
                  case rel => exact ⟨j + 1, rfl, rfl, ⟨by have := hjk.out; omega⟩⟩
                · have hk1 : ¬ ((j : Int) < (n i : Int)) := by omega
                  have hk2 : decide ((j : Int) < (n i : Int)) = false := decide_eq_false hk1
                  have hk3 : decide (j < n i) = false := decide_eq_false hjn
                  go_wp2
                  go_roundg k2
                  case measure => omega
                  case rel => exact ⟨j + 1, rfl, rfl, ⟨by have := hjk.out; omega⟩⟩
      case rest =>
        subst hcut
        obtain ⟨Wd, hWd, hF⟩ : ∃ W, W = _ ∧ Aside0 (Fl Wb Wc W gA v n 4 _) := ⟨_, rfl, hF⟩
        subst hWd
        have hbD := hF.out.bel
        have K13 := Aside0.mk (K12.out.same ((hbD.block p1 T12.out.1).trans (X12.out.block p1 T12.out.1).symm) ((hbD.block b1 T12.out.2.1).trans (X12.out.block b1 T12.out.2.1).symm))
        have J13 := Aside0.mk (J12.out.same ((hbD.block p2 T12.out.2.2.1).trans (X12.out.block p2 T12.out.2.2.1).symm) ((hbD.block b2 T12.out.2.2.2.1).trans (X12.out.block b2 T12.out.2.2.2.1).symm))
        have B13 := Aside0.mk (show Below W0.heap.size W0 Wd from by
          have h1 := hbD.size
          have h2 := T12.out.2.2.2.2
          exact below_same B12.out X12.out hbD h2 (fun _ => by omega) (by omega))
        have Hn0 := Aside0.mk (drop_none L birth)
        clear hbD hlr
        go_wp2_with (first
          | ((with_reducible refine gate_dst (N := 159) rfl ?_); refine goesL_ (some 159) rfl rfl Try.func15 (by kernel_rfl) rfl #[.pointer (some ⟨p1, 0, none⟩), .int .i64 birth] rfl (by (try simp only [List.map_toArray, List.map_cons, List.map_nil]); first | done | rfl) ?_
             refine (Hheld.out K13.out).mono ?_
             rintro e w14 ⟨ve, rfl, hv, hbel⟩
             refine ⟨_, rfl, ?_⟩
             obtain ⟨Ae, ce, rfl⟩ := Kd.R_slice hv
             have Re := Aside0.mk (Kd.R_reads' hv).2.2
             have J14 := Aside0.mk (J13.out.below hbel)
             have B14 := Aside0.mk (below_go B13.out B13.out.size hbel)
             have W14 := Aside0.mk (Kd.R_reads' (Kd.R_below hWd2.out hbel)).2.2
             clear hv hbel)
          | ((with_reducible refine gate_dst (N := 161) rfl ?_); refine goesL_ (some 161) rfl rfl Try.func18 (by kernel_rfl) rfl #[.slice Ae hs.length ce, .slice Aw hs.length cw] rfl (by (try simp only [List.map_toArray, List.map_cons, List.map_nil]); first | done | rfl) ?_
             refine (same18 hs Re.out W14.out).mono ?_
             rintro e w15 ⟨rfl, hbel⟩
             refine ⟨_, rfl, ?_⟩
             have J15 := Aside0.mk (J14.out.below hbel)
             have B15 := Aside0.mk (below_go B14.out B14.out.size hbel)
             have HH15 := Aside0.mk (held15 J15.out birth)
             rw [Hn0.out] at HH15
             clear hbel)
          | ((with_reducible refine gate_dst (N := 165) rfl ?_); refine gate_guard rfl ?_; refine goesL_ (some 165) rfl rfl Try.func15 (by kernel_rfl) rfl #[.pointer (some ⟨p2, 0, none⟩), .int .i64 birth] rfl (by (try simp only [List.map_toArray, List.map_cons, List.map_nil]); first | done | rfl) ?_
             refine (HH15.out).mono ?_
             rintro e w16 ⟨vf, rfl, hv, hbel⟩
             refine ⟨_, rfl, ?_⟩
             obtain ⟨Af, cf, rfl⟩ := Kd.R_slice hv
             have B16 := Aside0.mk (below_go B15.out B15.out.size hbel)
             clear hv hbel))
        go_ret
        exact ⟨rfl, B16.out⟩
end Go.Proofs.Ytjalkjoaepbhbaa.QA
namespace Go.Proofs.Ytjalkjoaepbhbaa.Walks
open Go.RowKit Go.Proofs.Ytjalkjoaepbhbaa.QA Go.Proofs.YtjalkjoaepbhbaaW.PrintWords Go.Proofs.YtjalkjoaepbhbaaW.PrintLast
theorem lockFresh {W : World} (A0 : Option Addr) (c0 : Nat) (l0 : List Stp) (hr : Kd.C k31 W A0 l0.length l0) (_hc : l0.length ≤ c0) (a1 : Int) (w1 : (Lit.int .i64 a1).wf = true) :
    Calls Try.prog 6 #[.slice A0 l0.length c0, .int .i64 a1] W fun e W' => e = .returned (.bool true) ∧ Below W.heap.size W W' := fresh6 l0 hr a1 w1
end Go.Proofs.Ytjalkjoaepbhbaa.Walks
