/- Back: a transaction's records, from its last one backwards. -/
import Derived.Test.YtijlcahikeeigaaTAt
import Derived.Scope
namespace Go.Proofs.Ytijlcahikeeigaa.QA
open Go.RowKit Go.Proofs.YtijlcahikeeigaaW.PrintWords Go.Proofs.YtijlcahikeeigaaW.PrintLast Go.Proofs.YtijlcahikeeigaaW.PrintMore
set_option linter.unusedVariables false
set_option linter.unusedSimpArgs false
/-- Back's rounds: the list, the error, and what has been asked. -/
def backL (l : List S43) (all : Bool) : Nat → Int → List Int → Int → List Int → Option (List Int × Int × List Int)
  | 0, _, _, _, _ => none
  | k + 1, x, out, birth, asked =>
    if (atF l all birth asked x).1.2 ≠ 0 then some ([], (atF l all birth asked x).1.2, (atF l all birth asked x).2.2) else
    if (atF l all birth asked x).1.1.f0 = 1 then some (out ++ [x], 0, (atF l all birth asked x).2.2) else
    if (atF l all birth asked x).2.1 ≤ (atF l all birth asked x).1.1.f2 ∧ (atF l all birth asked x).1.1.f2 < x then backL l all k (atF l all birth asked x).1.1.f2 (out ++ [x]) (atF l all birth asked x).2.1 (atF l all birth asked x).2.2
    else some ([], 120, (atF l all birth asked x).2.2)
def backF (k : Nat) (l : List S43) (all : Bool) (last : Int) : Option (List Int × Int × List Int) :=
  if last ≤ 0 then some ([], (if last < 0 then 120 else 0), []) else backL l all k last [] 0 []
/-- What a call of Back or Undo leaves. -/
def BackPost (W0 w : World) (ga gl gb : Nat) (A0 : Option Addr) (c0 : Nat) (l : List S43) (all : Bool) (r1 : List Int) (r2 : Int) (r3 : List Int) (e : Ending) (w' : World) : Prop :=
  ∃ (vo va : Value), e = .returned (.tuple #[vo, .int .i64 r2]) ∧ Ask W0 w' ga gl gb A0 c0 l all va r3 (fun k => some k ≠ vo.ownBlock) ∧ Kd.R (Kd.int .i64) 3 w' W0.heap.size (fun k => (k ≠ ga ∧ k ≠ gl ∧ k ≠ gb) ∧ some k ≠ va.ownBlock) vo r1
theorem atF_asked (l : List S43) (all : Bool) (birth : Int) (asked : List Int) (x : Int) : (atF l all birth asked x).2.2 = if asked.length = 4096 then asked else asked ++ [x] := by
  unfold atF
  by_cases c1 : asked.length = 4096
  · rw [if_pos c1, if_pos c1]
  · rw [if_neg c1, if_neg c1]
    by_cases c2 : (rec12 l all x).2 ≠ 0
    · rw [if_pos c2]
    · rw [if_neg c2]
      generalize (rec12 l all x).1 = r
      generalize (if r.f0 = 1 then x else r.f1) = b
      simp only []
      generalize (if asked.length = 0 then b else birth) = bi
      split
      · rfl
      · split <;> rfl
theorem atF_ok {l : List S43} {all : Bool} {birth : Int} {asked : List Int} {x : Int} (h : (atF l all birth asked x).1.2 = 0) : (atF l all birth asked x).2.2.length = asked.length + 1 := by
  rw [atF_asked]
  by_cases c1 : asked.length = 4096
  · unfold atF at h
    rw [if_pos c1] at h
    exact absurd h (show (120 : Int) ≠ 0 by decide)
  · rw [if_neg c1]; simp
theorem atF_len {l : List S43} {all : Bool} {birth : Int} {asked : List Int} {x : Int} (h : asked.length ≤ 4096) : (atF l all birth asked x).2.2.length ≤ 4096 := by
  rw [atF_asked]
  split
  · exact h
  · simp; omega
/-- A row of the call's own, behind a call that may have laid the other row anew. -/
theorem row_move {α : Type} {d : Kd α} {e base : Nat} {w w2 : World} {ok0 S : Nat → Prop} {va va2 vo : Value} {xs : List α} (h : d.R e w base (fun k => ok0 k ∧ some k ≠ va.ownBlock) vo xs) (mv : Mv w w2 S) (hS : ∀ k, ok0 k → some k ≠ va.ownBlock → ¬ S k)
    (fr : va2.ownBlock = va.ownBlock ∨ ∃ b, va2.ownBlock = some b ∧ w.heap.size ≤ b) : d.R e w2 base (fun k => ok0 k ∧ some k ≠ va2.ownBlock) vo xs := by
  have h1 := Kd.R_kept (Kd.R_bound h) mv.kept (fun k hk => hS k hk.1.1 hk.1.2)
  refine Kd.R_mono h1 (fun k hk => ⟨hk.1.1, ?_⟩)
  rcases fr with fr | ⟨b, hb, hle⟩
  · rw [fr]; exact hk.1.2
  · rw [hb]
    intro he
    injection he with he
    have := hk.2.2.1
    omega
/-- .. and what is asked, behind the other row's growth. -/
theorem Ask.grown {W0 w w1 : World} {ga gl gb : Nat} {A0 : Option Addr} {c0 : Nat} {l : List S43} {all : Bool} {va vo vo1 : Value} {asked : List Int} {ok0 : Nat → Prop} (h : Ask W0 w ga gl gb A0 c0 l all va asked (fun k => ok0 k ∧ some k ≠ vo.ownBlock)) (hg : w.grownBy w1 vo.ownBlock)
    (hat : vo1.ownBlock = vo.ownBlock ∨ ∃ b, vo1.ownBlock = some b ∧ w.heap.size ≤ b) (hbel : Below W0.heap.size W0 w1) (ha : some ga ≠ vo.ownBlock) (hl : some gl ≠ vo.ownBlock) (hb : some gb ≠ vo.ownBlock) : Ask W0 w1 ga gl gb A0 c0 l all va asked (fun k => ok0 k ∧ some k ≠ vo1.ownBlock) :=
  ⟨hbel, blk_grown h.ha hg ha, blk_grown h.hl hg hl, blk_grown h.hb hg hb, Kd.R_mono (Kd.R_after (ok := fun k => (k ≠ ga ∧ k ≠ gl ∧ k ≠ gb) ∧ ok0 k) (v := vo) (v1 := vo1) (Kd.R_mono h.hr (fun k hk => ⟨⟨hk.1, hk.2.1⟩, hk.2.2⟩)) hg hat) (fun k hk => ⟨hk.1.1, hk.1.2, hk.2⟩), h.la, h.ll, h.lb⟩
set_option maxHeartbeats 1600000 in
set_option maxRecDepth 100000 in
theorem back20 {W0 w : World} {ga gl gb : Nat} {A0 : Option Addr} {c0 : Nat} {l : List S43} {all : Bool} (k : Nat) (last : Int) (r1 : List Int) (r2 : Int) (r3 : List Int) (hn : l.length ≤ 9223372036854775807)
    (h0 : Kd.C k43 W0 A0 l.length l) (hc0 : l.length ≤ c0) (h : Ask W0 w ga gl gb A0 c0 l all (.slice none 0 0) [] (fun _ => True)) (hf : backF k l all last = some (r1, r2, r3)) :
    Calls Try.prog 20 #[.func (.func 17) #[] #[.pointer (some ⟨ga, 0, none⟩), .pointer (some ⟨gl, 0, none⟩), .pointer (some ⟨gb, 0, none⟩)], .int .i64 last] w (BackPost W0 w ga gl gb A0 c0 l all r1 r2 r3) := by
  have hu41 := Try.underlying41
  by_cases c1 : last ≤ 0
  · have d1 : decide (last ≤ 0) = true := decide_eq_true c1
    unfold backF at hf
    rw [if_pos c1] at hf
    simp only [Option.some.injEq, Prod.mk.injEq] at hf
    obtain ⟨rfl, rfl, rfl⟩ := hf
    have hask := Aside0.mk h
    clear h
    have hemp := empty22 last
    obtain ⟨ee, hee⟩ : ∃ ee : Int, (if last < 0 then (120 : Int) else 0) = ee := ⟨_, rfl⟩
    rw [hee] at hemp ⊢
    clear hee
    have Hemp := Aside0.mk hemp
    clear hemp
    go_enter Try.func20, Try.ntmps20
    go_wp2
    refine wp_scope_straight ?_
    go_wp2_with (first | ((with_reducible refine gate_callee (f := 22) rfl ?_); refine goesL_ (some 14) rfl rfl Try.func22 (by kernel_rfl) rfl #[.int .i64 last] rfl (by (try simp only [List.map_toArray, List.map_cons, List.map_nil]); first | done | rfl) ?_; refine (Hemp.out _).mono ?_; rintro e w' ⟨rfl, rfl⟩; refine ⟨_, rfl, ?_⟩))
    change bodyPost Try.prog Try.f20 (BackPost W0 w ga gl gb A0 c0 l all [] _ []) Exit.ret _ _
    go_ret2
    exact ⟨_, _, rfl, hask.out.mono (fun _ _ => by simp [Value.ownBlock]), Kd.R_nil _ _ _ _ _⟩
  · have d1 : decide (last ≤ 0) = false := decide_eq_false c1
    unfold backF at hf
    rw [if_neg c1] at hf
    have H := Aside0.mk hf
    clear hf
    go_enter Try.func20, Try.ntmps20
    go_wp2
    refine wp_scope_straight ?_
    go_wp2_with (first
      | ((with_reducible refine gate_dst (N := 19) rfl ?_); refine box_event ?hg (N := 19) ?hd (cs := #[(.func (.func 17) #[] #[.pointer (some ⟨ga, 0, none⟩), .pointer (some ⟨gl, 0, none⟩), .pointer (some ⟨gb, 0, none⟩)]), .int .i64 0, .int .i64 0]) (t := 62) ?hr ?_; (case hd => rfl); (case hg => rfl); (case hr => first | (go_simp; done) | (go_simp; rfl)); intro gw hgw w1 hbw hbel
         have h1 := Aside0.mk ((h.apart gw (by omega)).below hbel)
         have W1 := Aside0.mk (show w1.heap[gw]? = some (walk62 (.func (.func 17) #[] #[.pointer (some ⟨ga, 0, none⟩), .pointer (some ⟨gl, 0, none⟩), .pointer (some ⟨gb, 0, none⟩)]) 0 ((([] : List Int).length : Nat) : Int)) from hbw)
         have nw := Aside0.mk (show w.heap.size ≤ gw by omega)
         clear hbw hbel hgw))
    refine wp_label ?_
    go_wp2
    have lw : W0.heap.size ≤ gw := Nat.le_trans h.size nw.out
    have hne : gw ≠ ga ∧ gw ≠ gl ∧ gw ≠ gb := ⟨by have := blk_lt h.ha; have := nw.out; omega, by have := blk_lt h.hl; have := nw.out; omega, by have := blk_lt h.hb; have := nw.out; omega⟩
    go_loopg [7, 8] k (fun kq v7 v8 w' => ∃ (x : Int) (out : List Int) (birth : Int) (asked : List Int) (va : Value), v8 = .int .i64 x ∧ Aside0 (backL l all kq x out birth asked = some (r1, r2, r3)) ∧ Aside0 (kq ≤ k) ∧ Aside0 (asked.length ≤ 4096 ∧ out.length ≤ asked.length) ∧
      Aside0 (Ask W0 w' ga gl gb A0 c0 l all va asked (fun k => k ≠ gw ∧ some k ≠ (v7 : Value).ownBlock)) ∧ Aside0 (w'.heap[gw]? = some (walk62 (.func (.func 17) #[] #[.pointer (some ⟨ga, 0, none⟩), .pointer (some ⟨gl, 0, none⟩), .pointer (some ⟨gb, 0, none⟩)]) birth ((asked.length : Nat) : Int))) ∧
      Aside0 (Kd.R (Kd.int .i64) 3 w' W0.heap.size (fun k => ((k ≠ ga ∧ k ≠ gl ∧ k ≠ gb) ∧ k ≠ gw) ∧ some k ≠ va.ownBlock) v7 out))
    case atStart => exact ⟨last, [], 0, [], .slice none 0 0, rfl, H, ⟨Nat.le_refl _⟩, ⟨by simp⟩, ⟨h1.out.mono (fun k hk => ⟨hk.2, by simp [Value.ownBlock]⟩)⟩, W1, ⟨Kd.R_nil _ _ _ _ _⟩⟩
    case round =>
      clear H h1 W1
      obtain ⟨x, out, birth, asked, va, rfl, HA, HK1, HL, Hask, HW, HO⟩ := hrel
      cases gk with
      | zero => exact absurd HA.out (by simp [backL])
      | succ k1 =>
        have HB := HA.out
        clear HA
        simp only [backL] at HB
        obtain ⟨Ao, co, rfl⟩ := Kd.R_slice HO.out
        have hoblk := Aside0.mk (fun k (he : some k = (Value.slice Ao out.length co).ownBlock) => (And.intro (Kd.R_lt HO.out k he.symm) (HO.out.1 k he.symm)))
        have hcall := at23 x hn h0 hc0 Hask.out (fun k hk => ⟨by have := blk_lt HW.out; omega, fun he => by have := (hoblk.out k he).1; omega⟩) (fun k hk => hk.1) HL.out.1 HW.out lw hne
        have hlen2 := Aside0.mk (And.intro (atF_len (l := l) (all := all) (birth := birth) (x := x) HL.out.1) (atF_ok (l := l) (all := all) (birth := birth) (asked := asked) (x := x)))
        generalize atF l all birth asked x = t at HB hcall hlen2
        obtain ⟨⟨r, er⟩, bi, asked2⟩ := t
        have HBB := Aside0.mk HB
        have Hcall := Aside0.mk hcall
        clear HB hcall
        dsimp only at HBB hlen2
        go_upto_if 28 with (first
          | ((with_reducible refine gate_callee (f := 23) rfl ?_); refine goesL_ (some 24) rfl rfl Try.func23 (by kernel_rfl) rfl #[.pointer (some ⟨gw, 0, none⟩), .int .i64 x] rfl (by (try simp only [List.map_toArray, List.map_cons, List.map_nil]); first | done | rfl) ?_
             refine Hcall.out.mono ?_
             rintro e w2 ⟨n6, n7, n9, n10, c6, c7, c9, c10, A6, A7, A9, A10, va2, count, rfl, ask2, gw2, hcnt, mv2, fr2⟩
             refine ⟨_, rfl, ?_⟩
             have h2 := Aside0.mk ask2
             have W2 := Aside0.mk gw2
             have hcnt2 := Aside0.mk hcnt
             have O2 := Aside0.mk (row_move HO.out mv2 (fun k h1 h2 hk => hk.elim h1.1.1 (fun h => h.elim h1.2 h2)) fr2)
             have sz2 := Aside0.mk mv2.size
             clear ask2 gw2 hcnt mv2 fr2)
          | ((with_reducible refine gate_dst (N := 9) rfl ?_); refine box_event ?hg (N := 9) ?hd (cs := #[.int .i64 0, .int .i64 0, .int .i64 0, .int .i64 0, .int .i64 0, .int .i64 0, .slice none 0 0, .slice none 0 0, .int .i64 0, .slice none 0 0, .slice none 0 0]) (t := 41) ?hr ?_; (case hd => rfl); (case hg => rfl); (case hr => first | (go_simp; done) | (go_simp; rfl)); intro g9 hg9 w3 hb9 hbel
             have h3 := Aside0.mk ((h2.out.apart g9 (by omega)).below hbel)
             have W3 := Aside0.mk (blk_below W2.out hbel)
             have O3 := Aside0.mk (Kd.R_below (Kd.R_elderB O2.out g9 (by omega)) hbel)
             have B93 := Aside0.mk hb9
             have n9_ := Aside0.mk (show w2.heap.size ≤ g9 by omega)
             have ew9 := Aside0.mk (show gw ≠ g9 by have := blk_lt W2.out; omega)
             have ea9 := Aside0.mk (show ga ≠ g9 ∧ gl ≠ g9 ∧ gb ≠ g9 from ⟨by have := blk_lt h2.out.ha; omega, by have := blk_lt h2.out.hl; omega, by have := blk_lt h2.out.hb; omega⟩)
             have l9 := Aside0.mk (show W0.heap.size ≤ g9 by have := h2.out.size; omega)
             clear hb9 hbel hg9)
          | ((with_reducible refine gate_store (t := 41) (p := 9) (v := .tmp 25) rfl ?_); refine store_event rfl rfl (g := g9) rfl rfl B93.out (by kernel_rfl) rfl (by simp [Value.oneCell']) ?_
             intro w4 hb94 mv4
             have h4 := Aside0.mk (h3.out.move mv4 (fun k hk => by rw [hk]; exact l9.out) ea9.out.1 ea9.out.2.1 ea9.out.2.2 (fun k hk he => hk.2 he))
             have W4 := Aside0.mk (mv4.blk W3.out ew9.out)
             have O4 := Aside0.mk (Kd.R_kept O3.out mv4.kept (fun k hk he => hk.2 he))
             have B94 := Aside0.mk hb94
             clear hb94 mv4))
        by_cases c2 : er = 0
        · subst c2
          have HB2 := Aside0.mk ((if_neg (fun h => h rfl)).symm.trans HBB.out)
          clear HBB
          have hout : out.length + 1 ≤ 4096 := by have := HL.out; have := hlen2.out.2 (by first | trivial | rfl); have := hlen2.out.1; omega
          have hq0 : w4.cell? ⟨g9, 0, none⟩ = some (.int .i64 r.f0) := (blk_cell B94.out 0).trans rfl
          go_upto_if 34 with (first
            | ((with_reducible refine gate_builtin (b := .append) (xs := #[.tmp 30, .tmp 32]) rfl ?_); at_builtin; refine Kd.R_append (Kd.int .i64) (w0 := W0) W0.heap.size rfl (.tmp 30) (.tmp 32) 23 3 (.int .i64 0) 8 rfl Try.underlying23 info3 rfl (by decide) (by omega) (.slice Ao out.length co) out x [.int .i64 x] (fun k => (((k ≠ ga ∧ k ≠ gl ∧ k ≠ gb) ∧ k ≠ gw) ∧ some k ≠ va2.ownBlock) ∧ k ≠ g9) (fun _ => False) rfl rfl ?aP (fun _ hk => hk.elim) ?aF ?aO ?aB ?aS ?aL ?_
               (case aP => exact rfl)
               (case aF => exact fun k hk => ⟨⟨⟨⟨by have := blk_lt h4.out.ha; omega, by have := blk_lt h4.out.hl; omega, by have := blk_lt h4.out.hb; omega⟩, by have := blk_lt W4.out; omega⟩, fun he => by have := Kd.R_lt h4.out.hr k he.symm; omega⟩, by have := blk_lt B94.out; omega⟩)
               (case aO => exact O4.out)
               (case aB => exact h4.out.bel)
               (case aS => exact h4.out.size)
               (case aL => omega)
               intro vo1 w5 ho hbB hgr hat
               have h5 := Aside0.mk ((h4.out.mono (ok' := fun k => (k ≠ gw ∧ k ≠ g9) ∧ some k ≠ (Value.slice Ao out.length co).ownBlock) (fun k hk => ⟨⟨hk.1.1, hk.2⟩, hk.1.2⟩)).grown hgr hat hbB (fun he => (hoblk.out ga he).2.1.1.1 rfl) (fun he => (hoblk.out gl he).2.1.1.2.1 rfl) (fun he => (hoblk.out gb he).2.1.1.2.2 rfl))
               have W5 := Aside0.mk (blk_grown W4.out hgr (fun he => (hoblk.out gw he).2.1.2 rfl))
               have B95 := Aside0.mk (blk_grown B94.out hgr (fun he => by have := (hoblk.out g9 he).1; have := sz2.out; have := n9_.out; omega))
               have O5 := Aside0.mk ho
               have hk0 : w5.cell? ⟨g9, 0, none⟩ = some (.int .i64 r.f0) := (blk_cell B95.out 0).trans rfl
               have hk2 : w5.cell? ⟨g9, 2, none⟩ = some (.int .i64 r.f2) := (blk_cell B95.out 2).trans rfl
               obtain ⟨Ap, cp, hv⟩ := Kd.R_slice ho
               rw [List.length_append, List.length_singleton] at hv
               subst hv
               clear ho hbB hgr hat))
          by_cases c3 : r.f0 = 1
          · have d3 : (r.f0 == 1) = true := beq_iff_eq.mpr c3
            have HF := ((if_pos c3).symm.trans HB2.out)
            clear HB2
            simp only [Option.some.injEq, Prod.mk.injEq] at HF
            obtain ⟨rfl, rfl, rfl⟩ := HF
            go_wp2
            go_ret2
            exact ⟨_, va2, rfl, h5.out.mono (fun k hk => hk.2), Kd.R_mono O5.out (fun k hk => ⟨hk.1.1.1, hk.1.2⟩)⟩
          · have d3 : (r.f0 == 1) = false := beq_eq_false_iff_ne.mpr c3
            have HB3 := Aside0.mk ((if_neg c3).symm.trans HB2.out)
            clear HB2
            by_cases c4 : bi ≤ r.f2 ∧ r.f2 < x
            · have d4 : (decide (bi ≤ r.f2) && decide (r.f2 < x)) = true := by simp [c4.1, c4.2]
              have HB4 := Aside0.mk ((if_pos c4).symm.trans HB3.out)
              clear HB3
              have hlw := lower24 (F := (.func (.func 17) #[] #[.pointer (some ⟨ga, 0, none⟩), .pointer (some ⟨gl, 0, none⟩), .pointer (some ⟨gb, 0, none⟩)])) r.f2 x W5.out
              rw [d4] at hlw
              have Hlw := Aside0.mk hlw
              clear hlw
              go_wp2_with (first | ((with_reducible refine gate_callee (f := 24) rfl ?_); refine goesL_ (some 43) rfl rfl Try.func24 (by kernel_rfl) rfl #[.pointer (some ⟨gw, 0, none⟩), .int .i64 r.f2, .int .i64 x] rfl (by (try simp only [List.map_toArray, List.map_cons, List.map_nil]); first | done | rfl) ?_; refine Hlw.out.mono ?_; rintro e w6 ⟨rfl, rfl⟩; refine ⟨_, rfl, ?_⟩))
              go_roundg k1
              case measure => have := HK1.out; omega
              case rel => exact ⟨r.f2, out ++ [x], bi, asked2, va2, rfl, HB4, ⟨by have := HK1.out; omega⟩, ⟨hlen2.out.1, by have := hlen2.out.2 (by first | trivial | rfl); have := HL.out; simp; omega⟩, ⟨h5.out.mono (fun k hk => ⟨hk.1.1, hk.2⟩)⟩, ⟨by have := hcnt2.out (by first | trivial | rfl); rw [this] at W5; exact W5.out⟩, ⟨Kd.R_mono O5.out (fun k hk => hk.1)⟩⟩
            · have d4 : (decide (bi ≤ r.f2) && decide (r.f2 < x)) = false := by
                rw [Bool.and_eq_false_iff]
                by_cases c5 : bi ≤ r.f2
                · exact .inr (decide_eq_false (fun h => c4 ⟨c5, h⟩))
                · exact .inl (decide_eq_false c5)
              have HF := ((if_neg c4).symm.trans HB3.out)
              clear HB3
              simp only [Option.some.injEq, Prod.mk.injEq] at HF
              obtain ⟨rfl, rfl, rfl⟩ := HF
              have hlw := lower24 (F := (.func (.func 17) #[] #[.pointer (some ⟨ga, 0, none⟩), .pointer (some ⟨gl, 0, none⟩), .pointer (some ⟨gb, 0, none⟩)])) r.f2 x W5.out
              rw [d4] at hlw
              have Hlw := Aside0.mk hlw
              clear hlw
              go_wp2_with (first | ((with_reducible refine gate_callee (f := 24) rfl ?_); refine goesL_ (some 43) rfl rfl Try.func24 (by kernel_rfl) rfl #[.pointer (some ⟨gw, 0, none⟩), .int .i64 r.f2, .int .i64 x] rfl (by (try simp only [List.map_toArray, List.map_cons, List.map_nil]); first | done | rfl) ?_; refine Hlw.out.mono ?_; rintro e w6 ⟨rfl, rfl⟩; refine ⟨_, rfl, ?_⟩))
              change bodyPost Try.prog Try.f20 (BackPost W0 w ga gl gb A0 c0 l all [] 120 asked2) Exit.ret _ _
              go_ret2
              exact ⟨_, va2, rfl, h5.out.mono (fun _ _ => by simp [Value.ownBlock]), Kd.R_nil _ _ _ _ _⟩
        · have d2 : (er != 0) = true := bne_iff_ne.mpr c2
          have d2' : (er == 0) = false := beq_eq_false_iff_ne.mpr c2
          have HF := Aside0.mk ((if_pos c2).symm.trans HBB.out)
          clear HBB
          have HF2 := HF.out
          simp only [Option.some.injEq, Prod.mk.injEq] at HF2
          obtain ⟨rfl, rfl, rfl⟩ := HF2
          clear HF
          go_wp2
          change bodyPost Try.prog Try.f20 (BackPost W0 w ga gl gb A0 c0 l all [] er asked2) Exit.ret _ _
          go_ret2
          exact ⟨_, va2, rfl, h4.out.mono (fun _ _ => by simp [Value.ownBlock]), Kd.R_nil _ _ _ _ _⟩
end Go.Proofs.Ytijlcahikeeigaa.QA
