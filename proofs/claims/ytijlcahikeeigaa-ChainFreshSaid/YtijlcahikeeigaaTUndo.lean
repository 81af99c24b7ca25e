/- Undo: the updates that are to be undone yet. -/
import Derived.Test.YtijlcahikeeigaaTBack
namespace Go.Proofs.Ytijlcahikeeigaa.QA
open Go.RowKit Go.Proofs.YtijlcahikeeigaaW.PrintWords Go.Proofs.YtijlcahikeeigaaW.PrintLast Go.Proofs.YtijlcahikeeigaaW.PrintMore
set_option linter.unusedVariables false
set_option linter.unusedSimpArgs false
/-- What a record adds to the list. -/
def undoOut (r : S41) (x : Int) (out : List Int) : List Int := if r.f0 = 2 then out ++ [x] else out
/-- Undo's rounds: the list, the error, and what has been asked. -/
def undoL (l : List S43) (all : Bool) : Nat → Int → List Int → Bool → Int → List Int → Option (List Int × Int × List Int)
  | 0, _, _, _, _, _ => none
  | k + 1, x, out, must, birth, asked =>
    if (atF l all birth asked x).1.2 ≠ 0 then some ([], (atF l all birth asked x).1.2, (atF l all birth asked x).2.2) else
    if must = true ∧ (atF l all birth asked x).1.1.f0 ≠ 2 then some ([], 120, (atF l all birth asked x).2.2) else
    if (atF l all birth asked x).1.1.f0 = 1 then some (out, 0, (atF l all birth asked x).2.2) else
    if (atF l all birth asked x).1.1.f0 = 3 then
      (if (atF l all birth asked x).1.1.f8 = 0 then some (out, 0, (atF l all birth asked x).2.2) else
       if (atF l all birth asked x).2.1 ≤ (atF l all birth asked x).1.1.f8 ∧ (atF l all birth asked x).1.1.f8 < x then undoL l all k (atF l all birth asked x).1.1.f8 out true (atF l all birth asked x).2.1 (atF l all birth asked x).2.2
       else some ([], 120, (atF l all birth asked x).2.2)) else
    if (atF l all birth asked x).2.1 ≤ (atF l all birth asked x).1.1.f2 ∧ (atF l all birth asked x).1.1.f2 < x then undoL l all k (atF l all birth asked x).1.1.f2 (undoOut (atF l all birth asked x).1.1 x out) false (atF l all birth asked x).2.1 (atF l all birth asked x).2.2
    else some ([], 120, (atF l all birth asked x).2.2)
def undoF (k : Nat) (l : List S43) (all : Bool) (next : Int) : Option (List Int × Int × List Int) :=
  if next ≤ 0 then some ([], (if next < 0 then 120 else 0), []) else undoL l all k next [] true 0 []
set_option maxHeartbeats 1600000 in
set_option maxRecDepth 100000 in
theorem undo19 {W0 w : World} {ga gl gb : Nat} {A0 : Option Addr} {c0 : Nat} {l : List S43} {all : Bool} (k : Nat) (last : Int) (r1 : List Int) (r2 : Int) (r3 : List Int) (hn : l.length ≤ 9223372036854775807)
    (h0 : Kd.C k43 W0 A0 l.length l) (hc0 : l.length ≤ c0) (h : Ask W0 w ga gl gb A0 c0 l all (.slice none 0 0) [] (fun _ => True)) (hf : undoF k l all last = some (r1, r2, r3)) :
    Calls Try.prog 19 #[.func (.func 17) #[] #[.pointer (some ⟨ga, 0, none⟩), .pointer (some ⟨gl, 0, none⟩), .pointer (some ⟨gb, 0, none⟩)], .int .i64 last] w (BackPost W0 w ga gl gb A0 c0 l all r1 r2 r3) := by
  have hu41 := Try.underlying41
  by_cases c1 : last ≤ 0
  · have d1 : decide (last ≤ 0) = true := decide_eq_true c1
    unfold undoF at hf
    rw [if_pos c1] at hf
    simp only [Option.some.injEq, Prod.mk.injEq] at hf
    obtain ⟨rfl, rfl, rfl⟩ := hf
    have hask := Aside0.mk h
    clear h
    have hemp := empty22 last
    obtain ⟨ee, hee⟩ : ∃ ee : Int, (if last < 0 then (120 : Int) else 0) = ee := ⟨_, rfl⟩
    rw [hee] at hemp ⊢
    clear hee
    have Hemp := Aside0.mk hemp
    clear hemp
    go_enter Try.func19, Try.ntmps19
    go_wp2
    refine wp_scope_straight ?_
    go_wp2_with (first | ((with_reducible refine gate_callee (f := 22) rfl ?_); refine goesL_ (some 16) rfl rfl Try.func22 (by kernel_rfl) rfl #[.int .i64 last] rfl (by (try simp only [List.map_toArray, List.map_cons, List.map_nil]); first | done | rfl) ?_; refine (Hemp.out _).mono ?_; rintro e w' ⟨rfl, rfl⟩; refine ⟨_, rfl, ?_⟩))
    change bodyPost Try.prog Try.f19 (BackPost W0 w ga gl gb A0 c0 l all [] _ []) Exit.ret _ _
    go_ret2
    exact ⟨_, _, rfl, hask.out.mono (fun _ _ => by simp [Value.ownBlock]), Kd.R_nil _ _ _ _ _⟩
  · have d1 : decide (last ≤ 0) = false := decide_eq_false c1
    unfold undoF at hf
    rw [if_neg c1] at hf
    have H := Aside0.mk hf
    clear hf
    go_enter Try.func19, Try.ntmps19
    go_wp2
    refine wp_scope_straight ?_
    go_wp2_with (first
      | ((with_reducible refine gate_dst (N := 21) rfl ?_); refine box_event ?hg (N := 21) ?hd (cs := #[(.func (.func 17) #[] #[.pointer (some ⟨ga, 0, none⟩), .pointer (some ⟨gl, 0, none⟩), .pointer (some ⟨gb, 0, none⟩)]), .int .i64 0, .int .i64 0]) (t := 62) ?hr ?_; (case hd => rfl); (case hg => rfl); (case hr => first | (go_simp; done) | (go_simp; rfl)); intro gw hgw w1 hbw hbel
         have h1 := Aside0.mk ((h.apart gw (by omega)).below hbel)
         have W1 := Aside0.mk (show w1.heap[gw]? = some (walk62 (.func (.func 17) #[] #[.pointer (some ⟨ga, 0, none⟩), .pointer (some ⟨gl, 0, none⟩), .pointer (some ⟨gb, 0, none⟩)]) 0 ((([] : List Int).length : Nat) : Int)) from hbw)
         have nw := Aside0.mk (show w.heap.size ≤ gw by omega)
         clear hbw hbel hgw))
    refine wp_label ?_
    go_wp2
    have lw : W0.heap.size ≤ gw := Nat.le_trans h.size nw.out
    have hne : gw ≠ ga ∧ gw ≠ gl ∧ gw ≠ gb := ⟨by have := blk_lt h.ha; have := nw.out; omega, by have := blk_lt h.hl; have := nw.out; omega, by have := blk_lt h.hb; have := nw.out; omega⟩
    go_loopg [7, 8, 9] k (fun kq v7 v8 v9 w' => ∃ (x : Int) (out : List Int) (must : Bool) (birth : Int) (asked : List Int) (va : Value), v8 = .bool must ∧ v9 = .int .i64 x ∧ Aside0 (undoL l all kq x out must birth asked = some (r1, r2, r3)) ∧ Aside0 (kq ≤ k) ∧ Aside0 (asked.length ≤ 4096 ∧ out.length ≤ asked.length) ∧
      Aside0 (Ask W0 w' ga gl gb A0 c0 l all va asked (fun k => k ≠ gw ∧ some k ≠ (v7 : Value).ownBlock)) ∧ Aside0 (w'.heap[gw]? = some (walk62 (.func (.func 17) #[] #[.pointer (some ⟨ga, 0, none⟩), .pointer (some ⟨gl, 0, none⟩), .pointer (some ⟨gb, 0, none⟩)]) birth ((asked.length : Nat) : Int))) ∧
      Aside0 (Kd.R (Kd.int .i64) 3 w' W0.heap.size (fun k => ((k ≠ ga ∧ k ≠ gl ∧ k ≠ gb) ∧ k ≠ gw) ∧ some k ≠ va.ownBlock) v7 out))
    case atStart => exact ⟨last, [], true, 0, [], .slice none 0 0, rfl, rfl, H, ⟨Nat.le_refl _⟩, ⟨by simp⟩, ⟨h1.out.mono (fun k hk => ⟨hk.2, by simp [Value.ownBlock]⟩)⟩, W1, ⟨Kd.R_nil _ _ _ _ _⟩⟩
    case round =>
      clear H h1 W1
      obtain ⟨x, out, must, birth, asked, va, rfl, rfl, HA, HK1, HL, Hask, HW, HO⟩ := hrel
      cases gk with
      | zero => exact absurd HA.out (by simp [undoL])
      | succ k1 =>
        have HB := HA.out
        clear HA
        simp only [undoL] at HB
        obtain ⟨Ao, co, rfl⟩ := Kd.R_slice HO.out
        have hoblk := Aside0.mk (fun k (he : some k = (Value.slice Ao out.length co).ownBlock) => (And.intro (Kd.R_lt HO.out k he.symm) (HO.out.1 k he.symm)))
        have hcall := at23 x hn h0 hc0 Hask.out (fun k hk => ⟨by have := blk_lt HW.out; omega, fun he => by have := (hoblk.out k he).1; omega⟩) (fun k hk => hk.1) HL.out.1 HW.out lw hne
        have hlen2 := Aside0.mk (And.intro (atF_len (l := l) (all := all) (birth := birth) (x := x) HL.out.1) (atF_ok (l := l) (all := all) (birth := birth) (asked := asked) (x := x)))
        generalize atF l all birth asked x = t at HB hcall hlen2
        obtain ⟨⟨r, er⟩, bi, asked2⟩ := t
        have HBB := Aside0.mk HB
        have Hcall := Aside0.mk hcall
        clear HB hcall
        dsimp only at HBB hlen2
        go_upto_if 29 with (first
          | ((with_reducible refine gate_callee (f := 23) rfl ?_); refine goesL_ (some 26) rfl rfl Try.func23 (by kernel_rfl) rfl #[.pointer (some ⟨gw, 0, none⟩), .int .i64 x] rfl (by (try simp only [List.map_toArray, List.map_cons, List.map_nil]); first | done | rfl) ?_
             refine Hcall.out.mono ?_
             rintro e w2 ⟨n6, n7, n9, n10, c6, c7, c9, c10, A6, A7, A9, A10, va2, count, rfl, ask2, gw2, hcnt, mv2, fr2⟩
             refine ⟨_, rfl, ?_⟩
             have h2 := Aside0.mk ask2
             have W2 := Aside0.mk gw2
             have hcnt2 := Aside0.mk hcnt
             have O2 := Aside0.mk (row_move HO.out mv2 (fun k h1 h2 hk => hk.elim h1.1.1 (fun h => h.elim h1.2 h2)) fr2)
             have sz2 := Aside0.mk mv2.size
             clear ask2 gw2 hcnt mv2 fr2)
          | ((with_reducible refine gate_dst (N := 10) rfl ?_); refine box_event ?hg (N := 10) ?hd (cs := #[.int .i64 0, .int .i64 0, .int .i64 0, .int .i64 0, .int .i64 0, .int .i64 0, .slice none 0 0, .slice none 0 0, .int .i64 0, .slice none 0 0, .slice none 0 0]) (t := 41) ?hr ?_; (case hd => rfl); (case hg => rfl); (case hr => first | (go_simp; done) | (go_simp; rfl)); intro g9 hg9 w3 hb9 hbel
             have h3 := Aside0.mk ((h2.out.apart g9 (by omega)).below hbel)
             have W3 := Aside0.mk (blk_below W2.out hbel)
             have O3 := Aside0.mk (Kd.R_below (Kd.R_elderB O2.out g9 (by omega)) hbel)
             have B93 := Aside0.mk hb9
             have n9_ := Aside0.mk (show w2.heap.size ≤ g9 by omega)
             have ew9 := Aside0.mk (show gw ≠ g9 by have := blk_lt W2.out; omega)
             have ea9 := Aside0.mk (show ga ≠ g9 ∧ gl ≠ g9 ∧ gb ≠ g9 from ⟨by have := blk_lt h2.out.ha; omega, by have := blk_lt h2.out.hl; omega, by have := blk_lt h2.out.hb; omega⟩)
             have l9 := Aside0.mk (show W0.heap.size ≤ g9 by have := h2.out.size; omega)
             clear hb9 hbel hg9)
          | ((with_reducible refine gate_store (t := 41) (p := 10) (v := .tmp 27) rfl ?_); refine store_event rfl rfl (g := g9) rfl rfl B93.out (by kernel_rfl) rfl (by simp [Value.oneCell']) ?_
             intro w4 hb94 mv4
             have h4 := Aside0.mk (h3.out.move mv4 (fun k hk => by rw [hk]; exact l9.out) ea9.out.1 ea9.out.2.1 ea9.out.2.2 (fun k hk he => hk.2 he))
             have W4 := Aside0.mk (mv4.blk W3.out ew9.out)
             have O4 := Aside0.mk (Kd.R_kept O3.out mv4.kept (fun k hk he => hk.2 he))
             have B94 := Aside0.mk hb94
             clear hb94 mv4))
        by_cases c2 : er = 0
        · subst c2
          have HB2 := Aside0.mk ((if_neg (fun h => h rfl)).symm.trans HBB.out)
          clear HBB
          have hout : out.length + 1 ≤ 4096 := by have := HL.out; have := hlen2.out.2 rfl; have := hlen2.out.1; omega
          have hq0 : w4.cell? ⟨g9, 0, none⟩ = some (.int .i64 r.f0) := (blk_cell B94.out 0).trans rfl
          have hq2 : w4.cell? ⟨g9, 2, none⟩ = some (.int .i64 r.f2) := (blk_cell B94.out 2).trans rfl
          have hq8 : w4.cell? ⟨g9, 8, none⟩ = some (.int .i64 r.f8) := (blk_cell B94.out 8).trans rfl
          by_cases c3 : must = true ∧ r.f0 ≠ 2
          · have d3 : (r.f0 != 2) = true := bne_iff_ne.mpr c3.2
            have d3' : (r.f0 == 2) = false := beq_eq_false_iff_ne.mpr c3.2
            obtain ⟨rfl, c3⟩ := c3
            have HF := ((if_pos ⟨rfl, c3⟩).symm.trans HB2.out)
            clear HB2
            simp only [Option.some.injEq, Prod.mk.injEq] at HF
            obtain ⟨rfl, rfl, rfl⟩ := HF
            go_wp2
            change bodyPost Try.prog Try.f19 (BackPost W0 w ga gl gb A0 c0 l all [] 120 asked2) Exit.ret _ _
            go_ret2
            exact ⟨_, va2, rfl, h4.out.mono (fun _ _ => by simp [Value.ownBlock]), Kd.R_nil _ _ _ _ _⟩
          · have HB3 := Aside0.mk ((if_neg c3).symm.trans HB2.out)
            clear HB2
            by_cases e2 : r.f0 = 2
            · have d2_ : (r.f0 != 2) = false := bne_eq_false_iff_eq.mpr e2
              have d2' : (r.f0 == 2) = true := beq_iff_eq.mpr e2
              have d1_ : (r.f0 == 1) = false := beq_eq_false_iff_ne.mpr (by omega)
              have HB5 := Aside0.mk ((if_neg (show ¬ r.f0 = 1 by omega)).symm.trans HB3.out)
              clear HB3
              have HB6 := Aside0.mk ((if_neg (show ¬ r.f0 = 3 by omega)).symm.trans HB5.out)
              clear HB5
              have hu : undoOut r x out = out ++ [x] := if_pos e2
              rw [hu] at HB6
              clear c3
              cases must with
              | true =>
                by_cases c4 : bi ≤ r.f2 ∧ r.f2 < x
                · have d4 : (decide (bi ≤ r.f2) && decide (r.f2 < x)) = true := by simp [c4.1, c4.2]
                  have HB4 := Aside0.mk ((if_pos c4).symm.trans HB6.out)
                  clear HB6
                  have hlower := fun (W : World) (hW : W.heap[gw]? = some (walk62 (.func (.func 17) #[] #[.pointer (some ⟨ga, 0, none⟩), .pointer (some ⟨gl, 0, none⟩), .pointer (some ⟨gb, 0, none⟩)]) bi count)) => lower24 r.f2 x hW
                  rw [d4] at hlower
                  go_wp2_with (first
                    | ((with_reducible refine gate_callee (f := 24) rfl ?_); refine goesL_ (some 61) rfl rfl Try.func24 (by kernel_rfl) rfl #[.pointer (some ⟨gw, 0, none⟩), .int .i64 r.f2, .int .i64 x] rfl (by (try simp only [List.map_toArray, List.map_cons, List.map_nil]); first | done | rfl) ?_; refine Hlw.out.mono ?_; rintro e w6 ⟨rfl, rfl⟩; refine ⟨_, rfl, ?_⟩)
                    | ((with_reducible refine gate_builtin (b := .append) (xs := #[.tmp 48, .tmp 50]) rfl ?_); at_builtin; refine Kd.R_append (Kd.int .i64) (w0 := W0) W0.heap.size rfl (.tmp 48) (.tmp 50) 23 3 (.int .i64 0) 8 rfl Try.underlying23 info3 rfl (by decide) (by omega) (.slice Ao out.length co) out x [.int .i64 x] (fun k => (((k ≠ ga ∧ k ≠ gl ∧ k ≠ gb) ∧ k ≠ gw) ∧ some k ≠ va2.ownBlock) ∧ k ≠ g9) (fun _ => False) rfl rfl ?aP (fun _ hk => hk.elim) ?aF ?aO ?aB ?aS ?aL ?_
                       (case aP => exact rfl)
                       (case aF => exact fun k hk => ⟨⟨⟨⟨by have := blk_lt h4.out.ha; omega, by have := blk_lt h4.out.hl; omega, by have := blk_lt h4.out.hb; omega⟩, by have := blk_lt W4.out; omega⟩, fun he => by have := Kd.R_lt h4.out.hr k he.symm; omega⟩, by have := blk_lt B94.out; omega⟩)
                       (case aO => exact O4.out)
                       (case aB => exact h4.out.bel)
                       (case aS => exact h4.out.size)
                       (case aL => omega)
                       intro vo1 w5 ho hbB hgr hat
                       have h5 := Aside0.mk ((h4.out.mono (ok' := fun k => (k ≠ gw ∧ k ≠ g9) ∧ some k ≠ (Value.slice Ao out.length co).ownBlock) (fun k hk => ⟨⟨hk.1.1, hk.2⟩, hk.1.2⟩)).grown hgr hat hbB (fun he => (hoblk.out ga he).2.1.1.1 rfl) (fun he => (hoblk.out gl he).2.1.1.2.1 rfl) (fun he => (hoblk.out gb he).2.1.1.2.2 rfl))
                       have W5 := Aside0.mk (blk_grown W4.out hgr (fun he => (hoblk.out gw he).2.1.2 rfl))
                       have O5 := Aside0.mk ho
                       have Hlw := Aside0.mk (hlower w5 W5.out)
                       obtain ⟨Ap, cp, hv⟩ := Kd.R_slice ho
                       rw [List.length_append, List.length_singleton] at hv
                       subst hv
                       clear ho hbB hgr hat))
                  go_roundg k1
                  case measure => have := HK1.out; omega
                  case rel => exact ⟨r.f2, out ++ [x], false, bi, asked2, va2, rfl, rfl, HB4, ⟨by have := HK1.out; omega⟩, ⟨hlen2.out.1, by have := hlen2.out.2 (by first | trivial | rfl); have := HL.out; simp; omega⟩, ⟨h5.out.mono (fun k hk => ⟨hk.1.1, hk.2⟩)⟩, ⟨by have := hcnt2.out (by first | trivial | rfl); rw [this] at W5; exact W5.out⟩, ⟨Kd.R_mono O5.out (fun k hk => hk.1)⟩⟩
                · have d4 : (decide (bi ≤ r.f2) && decide (r.f2 < x)) = false := by
                    rw [Bool.and_eq_false_iff]
                    by_cases c5 : bi ≤ r.f2
                    · exact .inr (decide_eq_false (fun h => c4 ⟨c5, h⟩))
                    · exact .inl (decide_eq_false c5)
                  have HF := ((if_neg c4).symm.trans HB6.out)
                  clear HB6
                  simp only [Option.some.injEq, Prod.mk.injEq] at HF
                  obtain ⟨rfl, rfl, rfl⟩ := HF
                  have hlower := fun (W : World) (hW : W.heap[gw]? = some (walk62 (.func (.func 17) #[] #[.pointer (some ⟨ga, 0, none⟩), .pointer (some ⟨gl, 0, none⟩), .pointer (some ⟨gb, 0, none⟩)]) bi count)) => lower24 r.f2 x hW
                  rw [d4] at hlower
                  go_wp2_with (first
                    | ((with_reducible refine gate_callee (f := 24) rfl ?_); refine goesL_ (some 61) rfl rfl Try.func24 (by kernel_rfl) rfl #[.pointer (some ⟨gw, 0, none⟩), .int .i64 r.f2, .int .i64 x] rfl (by (try simp only [List.map_toArray, List.map_cons, List.map_nil]); first | done | rfl) ?_; refine Hlw.out.mono ?_; rintro e w6 ⟨rfl, rfl⟩; refine ⟨_, rfl, ?_⟩)
                    | ((with_reducible refine gate_builtin (b := .append) (xs := #[.tmp 48, .tmp 50]) rfl ?_); at_builtin; refine Kd.R_append (Kd.int .i64) (w0 := W0) W0.heap.size rfl (.tmp 48) (.tmp 50) 23 3 (.int .i64 0) 8 rfl Try.underlying23 info3 rfl (by decide) (by omega) (.slice Ao out.length co) out x [.int .i64 x] (fun k => (((k ≠ ga ∧ k ≠ gl ∧ k ≠ gb) ∧ k ≠ gw) ∧ some k ≠ va2.ownBlock) ∧ k ≠ g9) (fun _ => False) rfl rfl ?aP (fun _ hk => hk.elim) ?aF ?aO ?aB ?aS ?aL ?_
                       (case aP => exact rfl)
                       (case aF => exact fun k hk => ⟨⟨⟨⟨by have := blk_lt h4.out.ha; omega, by have := blk_lt h4.out.hl; omega, by have := blk_lt h4.out.hb; omega⟩, by have := blk_lt W4.out; omega⟩, fun he => by have := Kd.R_lt h4.out.hr k he.symm; omega⟩, by have := blk_lt B94.out; omega⟩)
                       (case aO => exact O4.out)
                       (case aB => exact h4.out.bel)
                       (case aS => exact h4.out.size)
                       (case aL => omega)
                       intro vo1 w5 ho hbB hgr hat
                       have h5 := Aside0.mk ((h4.out.mono (ok' := fun k => (k ≠ gw ∧ k ≠ g9) ∧ some k ≠ (Value.slice Ao out.length co).ownBlock) (fun k hk => ⟨⟨hk.1.1, hk.2⟩, hk.1.2⟩)).grown hgr hat hbB (fun he => (hoblk.out ga he).2.1.1.1 rfl) (fun he => (hoblk.out gl he).2.1.1.2.1 rfl) (fun he => (hoblk.out gb he).2.1.1.2.2 rfl))
                       have W5 := Aside0.mk (blk_grown W4.out hgr (fun he => (hoblk.out gw he).2.1.2 rfl))
                       have O5 := Aside0.mk ho
                       have Hlw := Aside0.mk (hlower w5 W5.out)
                       obtain ⟨Ap, cp, hv⟩ := Kd.R_slice ho
                       rw [List.length_append, List.length_singleton] at hv
                       subst hv
                       clear ho hbB hgr hat))
                  change bodyPost Try.prog Try.f19 (BackPost W0 w ga gl gb A0 c0 l all [] 120 asked2) Exit.ret _ _
                  go_ret2
                  exact ⟨_, va2, rfl, h5.out.mono (fun _ _ => by simp [Value.ownBlock]), Kd.R_nil _ _ _ _ _⟩
              | false =>
                by_cases c4 : bi ≤ r.f2 ∧ r.f2 < x
                · have d4 : (decide (bi ≤ r.f2) && decide (r.f2 < x)) = true := by simp [c4.1, c4.2]
                  have HB4 := Aside0.mk ((if_pos c4).symm.trans HB6.out)
                  clear HB6
                  have hlower := fun (W : World) (hW : W.heap[gw]? = some (walk62 (.func (.func 17) #[] #[.pointer (some ⟨ga, 0, none⟩), .pointer (some ⟨gl, 0, none⟩), .pointer (some ⟨gb, 0, none⟩)]) bi count)) => lower24 r.f2 x hW
                  rw [d4] at hlower
                  go_wp2_with (first
                    | ((with_reducible refine gate_callee (f := 24) rfl ?_); refine goesL_ (some 61) rfl rfl Try.func24 (by kernel_rfl) rfl #[.pointer (some ⟨gw, 0, none⟩), .int .i64 r.f2, .int .i64 x] rfl (by (try simp only [List.map_toArray, List.map_cons, List.map_nil]); first | done | rfl) ?_; refine Hlw.out.mono ?_; rintro e w6 ⟨rfl, rfl⟩; refine ⟨_, rfl, ?_⟩)
                    | ((with_reducible refine gate_builtin (b := .append) (xs := #[.tmp 48, .tmp 50]) rfl ?_); at_builtin; refine Kd.R_append (Kd.int .i64) (w0 := W0) W0.heap.size rfl (.tmp 48) (.tmp 50) 23 3 (.int .i64 0) 8 rfl Try.underlying23 info3 rfl (by decide) (by omega) (.slice Ao out.length co) out x [.int .i64 x] (fun k => (((k ≠ ga ∧ k ≠ gl ∧ k ≠ gb) ∧ k ≠ gw) ∧ some k ≠ va2.ownBlock) ∧ k ≠ g9) (fun _ => False) rfl rfl ?aP (fun _ hk => hk.elim) ?aF ?aO ?aB ?aS ?aL ?_
                       (case aP => exact rfl)
                       (case aF => exact fun k hk => ⟨⟨⟨⟨by have := blk_lt h4.out.ha; omega, by have := blk_lt h4.out.hl; omega, by have := blk_lt h4.out.hb; omega⟩, by have := blk_lt W4.out; omega⟩, fun he => by have := Kd.R_lt h4.out.hr k he.symm; omega⟩, by have := blk_lt B94.out; omega⟩)
                       (case aO => exact O4.out)
                       (case aB => exact h4.out.bel)
                       (case aS => exact h4.out.size)
                       (case aL => omega)
                       intro vo1 w5 ho hbB hgr hat
                       have h5 := Aside0.mk ((h4.out.mono (ok' := fun k => (k ≠ gw ∧ k ≠ g9) ∧ some k ≠ (Value.slice Ao out.length co).ownBlock) (fun k hk => ⟨⟨hk.1.1, hk.2⟩, hk.1.2⟩)).grown hgr hat hbB (fun he => (hoblk.out ga he).2.1.1.1 rfl) (fun he => (hoblk.out gl he).2.1.1.2.1 rfl) (fun he => (hoblk.out gb he).2.1.1.2.2 rfl))
                       have W5 := Aside0.mk (blk_grown W4.out hgr (fun he => (hoblk.out gw he).2.1.2 rfl))
                       have O5 := Aside0.mk ho
                       have Hlw := Aside0.mk (hlower w5 W5.out)
                       obtain ⟨Ap, cp, hv⟩ := Kd.R_slice ho
                       rw [List.length_append, List.length_singleton] at hv
                       subst hv
                       clear ho hbB hgr hat))
                  go_roundg k1
                  case measure => have := HK1.out; omega
                  case rel => exact ⟨r.f2, out ++ [x], false, bi, asked2, va2, rfl, rfl, HB4, ⟨by have := HK1.out; omega⟩, ⟨hlen2.out.1, by have := hlen2.out.2 (by first | trivial | rfl); have := HL.out; simp; omega⟩, ⟨h5.out.mono (fun k hk => ⟨hk.1.1, hk.2⟩)⟩, ⟨by have := hcnt2.out (by first | trivial | rfl); rw [this] at W5; exact W5.out⟩, ⟨Kd.R_mono O5.out (fun k hk => hk.1)⟩⟩
                · have d4 : (decide (bi ≤ r.f2) && decide (r.f2 < x)) = false := by
                    rw [Bool.and_eq_false_iff]
                    by_cases c5 : bi ≤ r.f2
                    · exact .inr (decide_eq_false (fun h => c4 ⟨c5, h⟩))
                    · exact .inl (decide_eq_false c5)
                  have HF := ((if_neg c4).symm.trans HB6.out)
                  clear HB6
                  simp only [Option.some.injEq, Prod.mk.injEq] at HF
                  obtain ⟨rfl, rfl, rfl⟩ := HF
                  have hlower := fun (W : World) (hW : W.heap[gw]? = some (walk62 (.func (.func 17) #[] #[.pointer (some ⟨ga, 0, none⟩), .pointer (some ⟨gl, 0, none⟩), .pointer (some ⟨gb, 0, none⟩)]) bi count)) => lower24 r.f2 x hW
                  rw [d4] at hlower
                  go_wp2_with (first
                    | ((with_reducible refine gate_callee (f := 24) rfl ?_); refine goesL_ (some 61) rfl rfl Try.func24 (by kernel_rfl) rfl #[.pointer (some ⟨gw, 0, none⟩), .int .i64 r.f2, .int .i64 x] rfl (by (try simp only [List.map_toArray, List.map_cons, List.map_nil]); first | done | rfl) ?_; refine Hlw.out.mono ?_; rintro e w6 ⟨rfl, rfl⟩; refine ⟨_, rfl, ?_⟩)
                    | ((with_reducible refine gate_builtin (b := .append) (xs := #[.tmp 48, .tmp 50]) rfl ?_); at_builtin; refine Kd.R_append (Kd.int .i64) (w0 := W0) W0.heap.size rfl (.tmp 48) (.tmp 50) 23 3 (.int .i64 0) 8 rfl Try.underlying23 info3 rfl (by decide) (by omega) (.slice Ao out.length co) out x [.int .i64 x] (fun k => (((k ≠ ga ∧ k ≠ gl ∧ k ≠ gb) ∧ k ≠ gw) ∧ some k ≠ va2.ownBlock) ∧ k ≠ g9) (fun _ => False) rfl rfl ?aP (fun _ hk => hk.elim) ?aF ?aO ?aB ?aS ?aL ?_
                       (case aP => exact rfl)
                       (case aF => exact fun k hk => ⟨⟨⟨⟨by have := blk_lt h4.out.ha; omega, by have := blk_lt h4.out.hl; omega, by have := blk_lt h4.out.hb; omega⟩, by have := blk_lt W4.out; omega⟩, fun he => by have := Kd.R_lt h4.out.hr k he.symm; omega⟩, by have := blk_lt B94.out; omega⟩)
                       (case aO => exact O4.out)
                       (case aB => exact h4.out.bel)
                       (case aS => exact h4.out.size)
                       (case aL => omega)
                       intro vo1 w5 ho hbB hgr hat
                       have h5 := Aside0.mk ((h4.out.mono (ok' := fun k => (k ≠ gw ∧ k ≠ g9) ∧ some k ≠ (Value.slice Ao out.length co).ownBlock) (fun k hk => ⟨⟨hk.1.1, hk.2⟩, hk.1.2⟩)).grown hgr hat hbB (fun he => (hoblk.out ga he).2.1.1.1 rfl) (fun he => (hoblk.out gl he).2.1.1.2.1 rfl) (fun he => (hoblk.out gb he).2.1.1.2.2 rfl))
                       have W5 := Aside0.mk (blk_grown W4.out hgr (fun he => (hoblk.out gw he).2.1.2 rfl))
                       have O5 := Aside0.mk ho
                       have Hlw := Aside0.mk (hlower w5 W5.out)
                       obtain ⟨Ap, cp, hv⟩ := Kd.R_slice ho
                       rw [List.length_append, List.length_singleton] at hv
                       subst hv
                       clear ho hbB hgr hat))
                  change bodyPost Try.prog Try.f19 (BackPost W0 w ga gl gb A0 c0 l all [] 120 asked2) Exit.ret _ _
                  go_ret2
                  exact ⟨_, va2, rfl, h5.out.mono (fun _ _ => by simp [Value.ownBlock]), Kd.R_nil _ _ _ _ _⟩
            · have d2_ : (r.f0 != 2) = true := bne_iff_ne.mpr e2
              have d2' : (r.f0 == 2) = false := beq_eq_false_iff_ne.mpr e2
              obtain rfl : must = false := by
                cases must with
                | false => rfl
                | true => exact absurd ⟨rfl, e2⟩ c3
              clear c3
              have hu : undoOut r x out = out := if_neg e2
              rw [hu] at HB3
              by_cases e1 : r.f0 = 1
              · have d1_ : (r.f0 == 1) = true := beq_iff_eq.mpr e1
                have HF := ((if_pos e1).symm.trans HB3.out)
                clear HB3
                simp only [Option.some.injEq, Prod.mk.injEq] at HF
                obtain ⟨rfl, rfl, rfl⟩ := HF
                go_wp2
                trace_state
                go_ret2
                exact ⟨_, va2, rfl, h4.out.mono (fun k hk => hk.1.2), Kd.R_mono O4.out (fun k hk => ⟨hk.1.1.1, hk.1.2⟩)⟩
              · have d1_ : (r.f0 == 1) = false := beq_eq_false_iff_ne.mpr e1
                have HB5 := Aside0.mk ((if_neg e1).symm.trans HB3.out)
                clear HB3
                by_cases e3 : r.f0 = 3
                · have d3_ : (r.f0 == 3) = true := beq_iff_eq.mpr e3
                  have HB6 := Aside0.mk ((if_pos e3).symm.trans HB5.out)
                  clear HB5
                  by_cases e8 : r.f8 = 0
                  · have d8_ : (r.f8 == 0) = true := beq_iff_eq.mpr e8
                    have HF := ((if_pos e8).symm.trans HB6.out)
                    clear HB6
                    simp only [Option.some.injEq, Prod.mk.injEq] at HF
                    obtain ⟨rfl, rfl, rfl⟩ := HF
                    go_wp2
                    go_ret2
                    exact ⟨_, va2, rfl, h4.out.mono (fun k hk => hk.1.2), Kd.R_mono O4.out (fun k hk => ⟨hk.1.1.1, hk.1.2⟩)⟩
                  · have d8_ : (r.f8 == 0) = false := beq_eq_false_iff_ne.mpr e8
                    have HB7 := Aside0.mk ((if_neg e8).symm.trans HB6.out)
                    clear HB6
                    by_cases c4 : bi ≤ r.f8 ∧ r.f8 < x
                    · have d4 : (decide (bi ≤ r.f8) && decide (r.f8 < x)) = true := by simp [c4.1, c4.2]
                      have HB4 := Aside0.mk ((if_pos c4).symm.trans HB7.out)
                      clear HB7
                      have hlower := fun (W : World) (hW : W.heap[gw]? = some (walk62 (.func (.func 17) #[] #[.pointer (some ⟨ga, 0, none⟩), .pointer (some ⟨gl, 0, none⟩), .pointer (some ⟨gb, 0, none⟩)]) bi count)) => lower24 r.f8 x hW
                      rw [d4] at hlower
                      have Hlw := Aside0.mk (hlower w4 W4.out)
                      go_wp2_with (first | ((with_reducible refine gate_callee (f := 24) rfl ?_); refine goesL_ (some 61) rfl rfl Try.func24 (by kernel_rfl) rfl #[.pointer (some ⟨gw, 0, none⟩), .int .i64 r.f8, .int .i64 x] rfl (by (try simp only [List.map_toArray, List.map_cons, List.map_nil]); first | done | rfl) ?_; refine Hlw.out.mono ?_; rintro e w6 ⟨rfl, rfl⟩; refine ⟨_, rfl, ?_⟩))
                      go_roundg k1
                      case measure => have := HK1.out; omega
                      case rel => exact ⟨r.f8, out, true, bi, asked2, va2, rfl, rfl, HB4, ⟨by have := HK1.out; omega⟩, ⟨hlen2.out.1, by have := hlen2.out.2 (by first | trivial | rfl); have := HL.out; omega⟩, ⟨h4.out.mono (fun k hk => hk.1)⟩, ⟨by have := hcnt2.out (by first | trivial | rfl); rw [this] at W4; exact W4.out⟩, ⟨Kd.R_mono O4.out (fun k hk => hk.1)⟩⟩
                    · have d4 : (decide (bi ≤ r.f8) && decide (r.f8 < x)) = false := by
                        rw [Bool.and_eq_false_iff]
                        by_cases c5 : bi ≤ r.f8
                        · exact .inr (decide_eq_false (fun h => c4 ⟨c5, h⟩))
                        · exact .inl (decide_eq_false c5)
                      have HF := ((if_neg c4).symm.trans HB7.out)
                      clear HB7
                      simp only [Option.some.injEq, Prod.mk.injEq] at HF
                      obtain ⟨rfl, rfl, rfl⟩ := HF
                      have hlower := fun (W : World) (hW : W.heap[gw]? = some (walk62 (.func (.func 17) #[] #[.pointer (some ⟨ga, 0, none⟩), .pointer (some ⟨gl, 0, none⟩), .pointer (some ⟨gb, 0, none⟩)]) bi count)) => lower24 r.f8 x hW
                      rw [d4] at hlower
                      have Hlw := Aside0.mk (hlower w4 W4.out)
                      go_wp2_with (first | ((with_reducible refine gate_callee (f := 24) rfl ?_); refine goesL_ (some 61) rfl rfl Try.func24 (by kernel_rfl) rfl #[.pointer (some ⟨gw, 0, none⟩), .int .i64 r.f8, .int .i64 x] rfl (by (try simp only [List.map_toArray, List.map_cons, List.map_nil]); first | done | rfl) ?_; refine Hlw.out.mono ?_; rintro e w6 ⟨rfl, rfl⟩; refine ⟨_, rfl, ?_⟩))
                      change bodyPost Try.prog Try.f19 (BackPost W0 w ga gl gb A0 c0 l all [] 120 asked2) Exit.ret _ _
                      go_ret2
                      exact ⟨_, va2, rfl, h4.out.mono (fun _ _ => by simp [Value.ownBlock]), Kd.R_nil _ _ _ _ _⟩
                · have d3_ : (r.f0 == 3) = false := beq_eq_false_iff_ne.mpr e3
                  have HB6 := Aside0.mk ((if_neg e3).symm.trans HB5.out)
                  clear HB5
                  by_cases c4 : bi ≤ r.f2 ∧ r.f2 < x
                  · have d4 : (decide (bi ≤ r.f2) && decide (r.f2 < x)) = true := by simp [c4.1, c4.2]
                    have HB4 := Aside0.mk ((if_pos c4).symm.trans HB6.out)
                    clear HB6
                    have hlower := fun (W : World) (hW : W.heap[gw]? = some (walk62 (.func (.func 17) #[] #[.pointer (some ⟨ga, 0, none⟩), .pointer (some ⟨gl, 0, none⟩), .pointer (some ⟨gb, 0, none⟩)]) bi count)) => lower24 r.f2 x hW
                    rw [d4] at hlower
                    have Hlw := Aside0.mk (hlower w4 W4.out)
                    go_wp2_with (first | ((with_reducible refine gate_callee (f := 24) rfl ?_); refine goesL_ (some 61) rfl rfl Try.func24 (by kernel_rfl) rfl #[.pointer (some ⟨gw, 0, none⟩), .int .i64 r.f2, .int .i64 x] rfl (by (try simp only [List.map_toArray, List.map_cons, List.map_nil]); first | done | rfl) ?_; refine Hlw.out.mono ?_; rintro e w6 ⟨rfl, rfl⟩; refine ⟨_, rfl, ?_⟩))
                    go_roundg k1
                    case measure => have := HK1.out; omega
                    case rel => exact ⟨r.f2, out, false, bi, asked2, va2, rfl, rfl, HB4, ⟨by have := HK1.out; omega⟩, ⟨hlen2.out.1, by have := hlen2.out.2 (by first | trivial | rfl); have := HL.out; omega⟩, ⟨h4.out.mono (fun k hk => hk.1)⟩, ⟨by have := hcnt2.out (by first | trivial | rfl); rw [this] at W4; exact W4.out⟩, ⟨Kd.R_mono O4.out (fun k hk => hk.1)⟩⟩
                  · have d4 : (decide (bi ≤ r.f2) && decide (r.f2 < x)) = false := by
                      rw [Bool.and_eq_false_iff]
                      by_cases c5 : bi ≤ r.f2
                      · exact .inr (decide_eq_false (fun h => c4 ⟨c5, h⟩))
                      · exact .inl (decide_eq_false c5)
                    have HF := ((if_neg c4).symm.trans HB6.out)
                    clear HB6
                    simp only [Option.some.injEq, Prod.mk.injEq] at HF
                    obtain ⟨rfl, rfl, rfl⟩ := HF
                    have hlower := fun (W : World) (hW : W.heap[gw]? = some (walk62 (.func (.func 17) #[] #[.pointer (some ⟨ga, 0, none⟩), .pointer (some ⟨gl, 0, none⟩), .pointer (some ⟨gb, 0, none⟩)]) bi count)) => lower24 r.f2 x hW
                    rw [d4] at hlower
                    have Hlw := Aside0.mk (hlower w4 W4.out)
                    go_wp2_with (first | ((with_reducible refine gate_callee (f := 24) rfl ?_); refine goesL_ (some 61) rfl rfl Try.func24 (by kernel_rfl) rfl #[.pointer (some ⟨gw, 0, none⟩), .int .i64 r.f2, .int .i64 x] rfl (by (try simp only [List.map_toArray, List.map_cons, List.map_nil]); first | done | rfl) ?_; refine Hlw.out.mono ?_; rintro e w6 ⟨rfl, rfl⟩; refine ⟨_, rfl, ?_⟩))
                    change bodyPost Try.prog Try.f19 (BackPost W0 w ga gl gb A0 c0 l all [] 120 asked2) Exit.ret _ _
                    go_ret2
                    exact ⟨_, va2, rfl, h4.out.mono (fun _ _ => by simp [Value.ownBlock]), Kd.R_nil _ _ _ _ _⟩
        · have d2 : (er != 0) = true := bne_iff_ne.mpr c2
          have d2' : (er == 0) = false := beq_eq_false_iff_ne.mpr c2
          have HF := Aside0.mk ((if_pos c2).symm.trans HBB.out)
          clear HBB
          have HF2 := HF.out
          simp only [Option.some.injEq, Prod.mk.injEq] at HF2
          obtain ⟨rfl, rfl, rfl⟩ := HF2
          clear HF
          go_wp2
          change bodyPost Try.prog Try.f19 (BackPost W0 w ga gl gb A0 c0 l all [] er asked2) Exit.ret _ _
          go_ret2
          exact ⟨_, va2, rfl, h4.out.mono (fun _ _ => by simp [Value.ownBlock]), Kd.R_nil _ _ _ _ _⟩
end Go.Proofs.Ytijlcahikeeigaa.QA
