/- A chain's walk: the record at a place, and whether it hangs in the chain. -/
import Derived.Test.YtijlcahikeeigaaTRead17
namespace Go.Proofs.Ytijlcahikeeigaa.QA
open Go.RowKit Go.Proofs.YtijlcahikeeigaaW.PrintWords Go.Proofs.YtijlcahikeeigaaW.PrintLast Go.Proofs.YtijlcahikeeigaaW.PrintMore
set_option linter.unusedVariables false
set_option linter.unusedSimpArgs false
section
variable {P : Program} {ops : Array Oper} {rest : List Oper} {o : Oper} {a : Act} {Q : Exit → Act → World → Prop}
/-- A call, whichever way it names its function. -/
theorem enter_event {W : World} (hgd : o.guard = none) {f : FuncId} {args : Array Value} (hrun : (execOp a.eval o).run P W = .ok (.enter f args) W)
    (h : Calls P f args W fun e w' => ∃ v, e = .returned v ∧ wpList P ops Q rest (a.put o.dst v) w') : wpList P ops Q (o :: rest) a W := by
  refine wpList_plain hgd fun K hK => ?_
  unfold Oper.wp
  rw [hrun, Oper.upon_enter]
  refine h.mono fun e w'' hh => ?_
  obtain ⟨v, rfl, hk⟩ := hh
  exact hK _ _ hk
end
theorem empty22 (x : Int) (w : World) : Calls Try.prog 22 #[.int .i64 x] w fun e w' => e = .returned (.tuple #[.slice none 0 0, .int .i64 (if x < 0 then 120 else 0)]) ∧ w = w' := by
  by_cases h : x < 0
  · have hd := decide_eq_true h
    rw [if_pos h]
    go_enter Try.func22, Try.ntmps22
    go_wp2
    go_ret2
    exact ⟨rfl, rfl⟩
  · have hd := decide_eq_false h
    rw [if_neg h]
    go_enter Try.func22, Try.ntmps22
    go_wp2
    go_ret2
    exact ⟨rfl, rfl⟩
/-- The walk's own state: the read, the birth, the count. -/
def walk62 (F : Value) (birth count : Int) : Obj := .cells #[F, .int .i64 birth, .int .i64 count] 62 (0, 0)
theorem lower24 {gw : Nat} {F : Value} {birth count : Int} (t f : Int) {w : World} (h : w.heap[gw]? = some (walk62 F birth count)) :
    Calls Try.prog 24 #[.pointer (some ⟨gw, 0, none⟩), .int .i64 t, .int .i64 f] w fun e w' => e = .returned (.bool (decide (birth ≤ t) && decide (t < f))) ∧ w = w' := by
  have hc : w.cell? ⟨gw, 1, none⟩ = some (.int .i64 birth) := (blk_cell h 1).trans rfl
  by_cases h1 : birth ≤ t
  · have d1 : decide (birth ≤ t) = true := decide_eq_true h1
    have d1' : decide (t ≥ birth) = true := decide_eq_true h1
    rw [d1, Bool.true_and]
    go_enter Try.func24, Try.ntmps24
    go_wp2
    go_ret
    exact ⟨rfl, rfl⟩
  · have d1 : decide (birth ≤ t) = false := decide_eq_false h1
    have d1' : decide (t ≥ birth) = false := decide_eq_false h1
    rw [d1, Bool.false_and]
    go_enter Try.func24, Try.ntmps24
    go_wp2
    go_ret
    exact ⟨rfl, rfl⟩
/-- What 'at' tells: the record and the error, the birth, and what has been asked. -/
def atF (l : List S43) (all : Bool) (birth : Int) (asked : List Int) (x : Int) : (S41 × Int) × Int × List Int :=
  if asked.length = 4096 then ((z41, 120), birth, asked) else
  if (rec12 l all x).2 ≠ 0 then ((z41, (rec12 l all x).2), birth, asked ++ [x]) else
  let b := if (rec12 l all x).1.f0 = 1 then x else (rec12 l all x).1.f1
  let bi := if asked.length = 0 then b else birth
  if (rec12 l all x).1.f0 < 1 ∨ (rec12 l all x).1.f0 > 6 ∨ b ≠ bi then ((z41, 120), bi, asked ++ [x])
  else if (rec12 l all x).1.f0 ≠ 1 ∧ (b < 1 ∨ b ≥ x) then ((z41, 120), bi, asked ++ [x])
  else (((rec12 l all x).1, 0), bi, asked ++ [x])
def Wr2 (ga gw : Nat) (va : Value) (k : Nat) : Prop := k = ga ∨ k = gw ∨ some k = va.ownBlock
def agg41 (r : S41) (A6 A7 A9 A10 : Option Addr) (n6 n7 n9 n10 c6 c7 c9 c10 : Nat) : Value :=
  .agg #[.int .i64 r.f0, .int .i64 r.f1, .int .i64 r.f2, .int .i64 r.f3, .int .i64 r.f4, .int .i64 r.f5, .slice A6 n6 c6, .slice A7 n7 c7, .int .i64 r.f8, .slice A9 n9 c9, .slice A10 n10 c10]
/-- What a call of 'at' leaves, t what it tells. -/
def AtPost (W0 w : World) (ga gl gb gw : Nat) (A0 : Option Addr) (c0 : Nat) (l : List S43) (all : Bool) (va : Value) (ok : Nat → Prop) (t : (S41 × Int) × Int × List Int) (e : Ending) (w' : World) : Prop :=
  ∃ (n6 n7 n9 n10 c6 c7 c9 c10 : Nat) (A6 A7 A9 A10 : Option Addr) (va' : Value) (count : Int),
      e = .returned (.tuple #[agg41 t.1.1 A6 A7 A9 A10 n6 n7 n9 n10 c6 c7 c9 c10, .int .i64 t.1.2]) ∧
      Ask W0 w' ga gl gb A0 c0 l all va' t.2.2 ok ∧
      w'.heap[gw]? = some (walk62 (.func (.func 17) #[] #[.pointer (some ⟨ga, 0, none⟩), .pointer (some ⟨gl, 0, none⟩), .pointer (some ⟨gb, 0, none⟩)]) t.2.1 count) ∧
      (t.1.2 = 0 → count = (t.2.2.length : Int)) ∧
      Mv w w' (Wr2 ga gw va) ∧ (va'.ownBlock = va.ownBlock ∨ ∃ b, va'.ownBlock = some b ∧ w.heap.size ≤ b)
set_option maxHeartbeats 1600000 in
set_option maxRecDepth 100000 in
theorem at23 {W0 w : World} {ga gl gb gw : Nat} {A0 : Option Addr} {c0 : Nat} {l : List S43} {all : Bool} {va : Value} {asked : List Int} {ok : Nat → Prop} {birth : Int} (x : Int) (hn : l.length ≤ 9223372036854775807)
    (h0 : Kd.C k43 W0 A0 l.length l) (hc0 : l.length ≤ c0) (h : Ask W0 w ga gl gb A0 c0 l all va asked ok) (hfresh : ∀ k, w.heap.size ≤ k → ok k) (hokw : ∀ k, ok k → k ≠ gw) (hlen : asked.length ≤ 4096)
    (hw : w.heap[gw]? = some (walk62 (.func (.func 17) #[] #[.pointer (some ⟨ga, 0, none⟩), .pointer (some ⟨gl, 0, none⟩), .pointer (some ⟨gb, 0, none⟩)]) birth (asked.length : Int))) (lw : W0.heap.size ≤ gw) (hne : gw ≠ ga ∧ gw ≠ gl ∧ gw ≠ gb) :
    Calls Try.prog 23 #[.pointer (some ⟨gw, 0, none⟩), .int .i64 x] w (AtPost W0 w ga gl gb gw A0 c0 l all va ok (atF l all birth asked x)) := by
  have hu41 := Try.underlying41
  have hlw := blk_lt hw
  by_cases c1 : asked.length = 4096
  · have hat : atF l all birth asked x = ((z41, 120), birth, asked) := by unfold atF; rw [if_pos c1]
    rw [hat]
    have d1 : ((asked.length : Int) == 4096) = true := by simp; omega
    go_enter Try.func23, Try.ntmps23
    go_wp2_with (first
      | ((with_reducible refine gate_dst (N := 4) rfl ?_); refine box_event ?hg (N := 4) ?hd (cs := #[.int .i64 0, .int .i64 0, .int .i64 0, .int .i64 0, .int .i64 0, .int .i64 0, .slice none 0 0, .slice none 0 0, .int .i64 0, .slice none 0 0, .slice none 0 0]) (t := 41) ?hr ?_; (case hd => rfl); (case hg => rfl); (case hr => first | (go_simp; done) | (go_simp; rfl)); intro g4 hg4 w1 hb4 hbel
         have h1 := Aside0.mk ((h.apart g4 (by omega)).below hbel)
         have m1 := Aside0.mk (Mv.of_below hbel (Wr2 ga gw va))
         have W1 := Aside0.mk (blk_below hw hbel)
         have B4 := Aside0.mk hb4
         have n4 := Aside0.mk (show w.heap.size ≤ g4 by omega)
         have hcw : w1.cell? ⟨gw, 2, none⟩ = some (.int .i64 (asked.length : Int)) := (blk_cell W1.out 2).trans rfl
         clear hb4 hbel hg4)
      | ((with_reducible refine gate_store (t := 41) (p := 4) (v := .tmp 14) rfl ?_); refine store_event rfl rfl (g := g4) rfl rfl B4.out (by kernel_rfl) rfl (by simp [Value.oneCell']) ?_
         intro w2 hb2 m2
         have h2 := Aside0.mk (h1.out.move m2 (fun k hk => by rw [hk]; have := h.size; have := n4.out; omega) (fun hk => by have := blk_lt h.ha; have := n4.out; omega) (fun hk => by have := blk_lt h.hl; have := n4.out; omega) (fun hk => by have := blk_lt h.hb; have := n4.out; omega) (fun k hk he => hk.2 he))
         have q2 := Aside0.mk (m1.out.then_ m2 (fun k hk => .inr (by rw [hk]; exact n4.out)))
         have W2 := Aside0.mk (m2.blk W1.out (by have := n4.out; omega))
         have B42 := Aside0.mk hb2
         clear hb2 m2))
    refine bodyPost_ret (results_ct rfl _ _ g4 41 _ (0, 0) _ rfl B42.out Try.underlying41 rfl (by kernel_rfl)) rfl ?_
    exact ⟨0, 0, 0, 0, 0, 0, 0, 0, none, none, none, none, va, _, rfl, h2.out.mono (fun k hk => hk.1), W2.out, fun he => absurd he (show (120 : Int) ≠ 0 by decide), q2.out, .inl rfl⟩
  · obtain ⟨r, er, hrec⟩ : ∃ r er, rec12 l all x = (r, er) := ⟨_, _, rfl⟩
    have d1 : ((asked.length : Int) == 4096) = false := by simp; omega
    have hread := fun (W : World) (ok' : Nat → Prop) (hW : Ask W0 W ga gl gb A0 c0 l all va asked ok') (hf : ∀ k, W.heap.size ≤ k → ok' k) => read17 (l := l) (all := all) x hn h0 hc0 hW hf (by omega)
    rw [hrec] at hread
    have Hread := Aside0.mk hread
    clear hread
    obtain ⟨b, hb⟩ : ∃ b : Int, b = (if r.f0 = 1 then x else r.f1) := ⟨_, rfl⟩
    obtain ⟨bi, hbi⟩ : ∃ bi : Int, bi = (if asked.length = 0 then b else birth) := ⟨_, rfl⟩
    have Hat : Aside0 (atF l all birth asked x = if er ≠ 0 then ((z41, er), birth, asked ++ [x]) else if r.f0 < 1 ∨ r.f0 > 6 ∨ b ≠ bi then ((z41, 120), bi, asked ++ [x]) else if r.f0 ≠ 1 ∧ (b < 1 ∨ b ≥ x) then ((z41, 120), bi, asked ++ [x]) else ((r, 0), bi, asked ++ [x])) := ⟨by
      unfold atF
      rw [if_neg c1, hrec, hbi, hb]⟩
    clear hrec
    have Hb := Aside0.mk hb
    have Hbi := Aside0.mk hbi
    clear hb hbi
    go_enter Try.func23, Try.ntmps23
    go_upto_if 25 with (first
      | ((with_reducible refine gate_dst (N := 4) rfl ?_); refine box_event ?hg (N := 4) ?hd (cs := #[.int .i64 0, .int .i64 0, .int .i64 0, .int .i64 0, .int .i64 0, .int .i64 0, .slice none 0 0, .slice none 0 0, .int .i64 0, .slice none 0 0, .slice none 0 0]) (t := 41) ?hr ?_; (case hd => rfl); (case hg => rfl); (case hr => first | (go_simp; done) | (go_simp; rfl)); intro g4 hg4 w1 hb4 hbel
         have h1 := Aside0.mk ((h.apart g4 (by omega)).below hbel)
         have m1 := Aside0.mk (Mv.of_below hbel (Wr2 ga gw va))
         have W1 := Aside0.mk (blk_below hw hbel)
         have B4 := Aside0.mk hb4
         have n4 := Aside0.mk (show w.heap.size ≤ g4 by omega)
         have hcw : w1.cell? ⟨gw, 2, none⟩ = some (.int .i64 (asked.length : Int)) := (blk_cell W1.out 2).trans rfl
         have hcf : w1.cell? ⟨gw, 0, none⟩ = some (.func (.func 17) #[] #[.pointer (some ⟨ga, 0, none⟩), .pointer (some ⟨gl, 0, none⟩), .pointer (some ⟨gb, 0, none⟩)]) := (blk_cell W1.out 0).trans rfl
         clear hb4 hbel hg4)
      | ((with_reducible refine gate_dst (N := 21) rfl ?_); refine enter_event rfl (f := 17) (args := #[.int .i64 x, .pointer (some ⟨ga, 0, none⟩), .pointer (some ⟨gl, 0, none⟩), .pointer (some ⟨gb, 0, none⟩)]) ?hr ?_; (case hr => first | (go_simp; done) | (go_simp; rfl))
         refine (Hread.out w1 _ h1.out (fun k hk => ⟨hfresh k (Nat.le_trans m1.out.size hk), by have := blk_lt B4.out; omega⟩)).mono ?_
         rintro e w2 ⟨n6, n7, n9, n10, c6, c7, c9, c10, A6, A7, A9, A10, va2, rfl, ask2, mv2, fr2⟩
         refine ⟨_, rfl, ?_⟩
         have h2 := Aside0.mk ask2
         have hva := Aside0.mk (fun k (he : some k = va.ownBlock) => (And.intro (Kd.R_lt h.hr k he.symm) (h.hr.1 k he.symm) : k < w.heap.size ∧ _))
         have m2 := Aside0.mk (m1.out.then_ mv2 (fun k hk => .inl (hk.elim (fun e => .inl e) (fun e => .inr (.inr e)))))
         have W2 := Aside0.mk (mv2.blk W1.out (fun hk => hk.elim hne.1 (fun e => hokw gw (hva.out gw e).2.2 rfl)))
         have B42 := Aside0.mk (mv2.blk B4.out (fun hk => hk.elim (fun e => by have := blk_lt h.ha; have := n4.out; omega) (fun e => by have := (hva.out g4 e).1; have := n4.out; omega)))
         have f2 := Aside0.mk (show va2.ownBlock = va.ownBlock ∨ ∃ b, va2.ownBlock = some b ∧ w.heap.size ≤ b from fr2.imp id (fun ⟨b, hb, hle⟩ => ⟨b, hb, Nat.le_trans m1.out.size hle⟩))
         clear ask2 mv2 fr2)
      | ((with_reducible refine gate_dst (N := 6) rfl ?_); refine box_event ?hg (N := 6) ?hd (cs := #[.int .i64 0, .int .i64 0, .int .i64 0, .int .i64 0, .int .i64 0, .int .i64 0, .slice none 0 0, .slice none 0 0, .int .i64 0, .slice none 0 0, .slice none 0 0]) (t := 41) ?hr ?_; (case hd => rfl); (case hg => rfl); (case hr => first | (go_simp; done) | (go_simp; rfl)); intro g6 hg6 w3 hb6 hbel
         have h3 := Aside0.mk ((h2.out.apart g6 (by omega)).below hbel)
         have m3 := Aside0.mk (m2.out.then_ (Mv.of_below hbel (fun _ => False)) (fun _ hk => hk.elim))
         have W3 := Aside0.mk (blk_below W2.out hbel)
         have B43 := Aside0.mk (blk_below B42.out hbel)
         have B63 := Aside0.mk hb6
         have n6_ := Aside0.mk (show w.heap.size ≤ g6 by have := m2.out.size; omega)
         have e46 := Aside0.mk (show g4 ≠ g6 by have := blk_lt B42.out; omega)
         have ew6 := Aside0.mk (show gw ≠ g6 by have := blk_lt W2.out; omega)
         clear hb6 hbel hg6)
      | ((with_reducible refine gate_store (t := 41) (p := 6) (v := .tmp 22) rfl ?_); refine store_event rfl rfl (g := g6) rfl rfl B63.out (by kernel_rfl) rfl (by simp [Value.oneCell']) ?_
         intro w4 hb64 mv4
         have h4 := Aside0.mk (h3.out.move mv4 (fun k hk => by rw [hk]; have := h.size; have := n6_.out; omega) (fun hk => by have := blk_lt h.ha; have := n6_.out; omega) (fun hk => by have := blk_lt h.hl; have := n6_.out; omega) (fun hk => by have := blk_lt h.hb; have := n6_.out; omega) (fun k hk he => hk.2 he))
         have m4 := Aside0.mk (m3.out.then_ mv4 (fun k hk => .inr (by rw [hk]; exact n6_.out)))
         have W4 := Aside0.mk (mv4.blk W3.out ew6.out)
         have B44 := Aside0.mk (mv4.blk B43.out e46.out)
         have B64 := Aside0.mk hb64
         clear hb64 mv4))
    by_cases c2 : er = 0
    · subst c2
      have Hat2 := Aside0.mk (Hat.out.trans (if_neg (fun h => h rfl)))
      clear Hat
      have hr0 : w4.cell? ⟨g6, 0, none⟩ = some (.int .i64 r.f0) := (blk_cell B64.out 0).trans rfl
      have hr1 : w4.cell? ⟨g6, 1, none⟩ = some (.int .i64 r.f1) := (blk_cell B64.out 1).trans rfl
      go_upto_if 32 with fail
      go_cut [8] (fun v8 wc => v8 = .int .i64 b ∧ wc = w4)
      case first =>
        by_cases c3 : r.f0 = 1
        · have d3 : (r.f0 == 1) = true := beq_iff_eq.mpr c3
          have e3 := Hb.out
          rw [if_pos c3] at e3
          go_wp2
          go_meet
          case rel => exact ⟨by first | rfl | rw [e3], rfl⟩
        · have d3 : (r.f0 == 1) = false := beq_eq_false_iff_ne.mpr c3
          have e3 := Hb.out
          rw [if_neg c3] at e3
          go_wp2
          go_meet
          case rel => exact ⟨by first | rfl | rw [e3], rfl⟩
      case rest =>
        obtain ⟨rfl, rfl⟩ := hcut
        have hcw4 : wc.cell? ⟨gw, 2, none⟩ = some (.int .i64 (asked.length : Int)) := (blk_cell W4.out 2).trans rfl
        have hfw4 : wc.frozen? ⟨gw, 2, none⟩ = false := blk_frozen W4.out 2
        have hwr : IntKind.i64.wrap ((asked.length : Int) + 1) = ((asked.length + 1 : Nat) : Int) := by rw [i64_w]; exact (wr64 (by omega) (by omega)).trans (by omega)
        go_upto_if 45 with (first
          | ((with_reducible refine gate_store (t := 3) (p := 40) (v := .tmp 38) rfl ?_); refine store1_event (g := gw) (i := 2) (v := .int .i64 ((asked.length + 1 : Nat) : Int)) rfl W4.out ?hr ?_; (case hr => first | (go_simp; done) | (go_simp; rfl)); intro w5 hb5 mv5
             have h5 := Aside0.mk (h4.out.move mv5 (fun k hk => by rw [hk]; exact lw) (fun hk => hne.1 hk.symm) (fun hk => hne.2.1 hk.symm) (fun hk => hne.2.2 hk.symm) (fun k hk he => hokw k hk.1.1 he))
             have m5 := Aside0.mk (m4.out.then_ mv5 (fun k hk => .inl (.inr (.inl hk))))
             have W5 := Aside0.mk hb5
             have B45 := Aside0.mk (mv5.blk B44.out (by have := n4.out; omega))
             have B65 := Aside0.mk (mv5.blk B64.out (fun hk => ew6.out hk.symm))
             have hcw5 : w5.cell? ⟨gw, 2, none⟩ = some (.int .i64 ((asked.length + 1 : Nat) : Int)) := (blk_cell hb5 2).trans rfl
             have hfw5 : w5.frozen? ⟨gw, 1, none⟩ = false := blk_frozen hb5 1
             have hcb5 : w5.cell? ⟨gw, 1, none⟩ = some (.int .i64 birth) := (blk_cell hb5 1).trans rfl
             clear hb5 mv5))
        go_cut [8] (fun v8 wc => v8 = .int .i64 b ∧ Aside0 (Ask W0 wc ga gl gb A0 c0 l all va2 (asked ++ [x]) (fun k => (ok k ∧ k ≠ g4) ∧ k ≠ g6)) ∧ Aside0 (Mv w wc (Wr2 ga gw va)) ∧ Aside0 (wc.heap[gw]? = some (walk62 (.func (.func 17) #[] #[.pointer (some ⟨ga, 0, none⟩), .pointer (some ⟨gl, 0, none⟩), .pointer (some ⟨gb, 0, none⟩)]) bi ((asked.length + 1 : Nat) : Int))) ∧ Aside0 (wc.heap[g4]? = some (.cells #[.int .i64 0, .int .i64 0, .int .i64 0, .int .i64 0, .int .i64 0, .int .i64 0, .slice none 0 0, .slice none 0 0, .int .i64 0, .slice none 0 0, .slice none 0 0] 41 (0, 0))) ∧ Aside0 (wc.heap[g6]? = some (.cells #[.int .i64 r.f0, .int .i64 r.f1, .int .i64 r.f2, .int .i64 r.f3, .int .i64 r.f4, .int .i64 r.f5, .slice A6 n6 c6, .slice A7 n7 c7, .int .i64 r.f8, .slice A9 n9 c9, .slice A10 n10 c10] 41 (0, 0))))
        case first =>
          by_cases c4 : asked.length = 0
          · have d4 : (((asked.length + 1 : Nat) : Int) == 1) = true := by simp; omega
            have e4 := Hbi.out
            rw [if_pos c4] at e4
            go_wp2_with (first
              | ((with_reducible refine gate_store (t := 3) (p := 49) (v := .tmp 47) rfl ?_); refine store1_event (g := gw) (i := 1) (v := .int .i64 b) rfl W5.out ?hr ?_; (case hr => first | (go_simp; done) | (go_simp; rfl)); intro w6 hb6 mv6
                 have h6 := Aside0.mk (h5.out.move mv6 (fun k hk => by rw [hk]; exact lw) (fun hk => hne.1 hk.symm) (fun hk => hne.2.1 hk.symm) (fun hk => hne.2.2 hk.symm) (fun k hk he => hokw k hk.1.1 he))
                 have m6 := Aside0.mk (m5.out.then_ mv6 (fun k hk => .inl (.inr (.inl hk))))
                 have W6 := Aside0.mk hb6
                 have B46 := Aside0.mk (mv6.blk B45.out (by have := n4.out; omega))
                 have B66 := Aside0.mk (mv6.blk B65.out (fun hk => ew6.out hk.symm))
                 clear hb6 mv6))
            go_meet
            case rel => exact ⟨rfl, h6, m6, ⟨by rw [e4]; exact W6.out⟩, B46, B66⟩
          · have d4 : (((asked.length + 1 : Nat) : Int) == 1) = false := by simp; omega
            have e4 := Hbi.out
            rw [if_neg c4] at e4
            go_wp2
            go_meet
            case rel => exact ⟨rfl, h5, m5, ⟨by rw [e4]; exact W5.out⟩, B45, B65⟩
        case rest =>
          obtain ⟨rfl, h6, m6, W6, B46, B66⟩ := hcut
          have hk0 : wc.cell? ⟨g6, 0, none⟩ = some (.int .i64 r.f0) := (blk_cell B66.out 0).trans rfl
          have hkb : wc.cell? ⟨gw, 1, none⟩ = some (.int .i64 bi) := (blk_cell W6.out 1).trans rfl
          by_cases c5 : r.f0 < 1
          · have d5 : decide (r.f0 < 1) = true := decide_eq_true c5
            have HE := Aside0.mk (Hat2.out.trans (if_pos (.inl c5)))
            go_wp2_with (first
              | ((with_reducible refine gate_store (t := 41) (p := 4) (v := .tmp 67) rfl ?_); refine store_event rfl rfl (g := g4) rfl rfl B46.out (by kernel_rfl) rfl (by simp [Value.oneCell']) ?_
                 intro w9 hb9 mv9
                 have h9 := Aside0.mk (h6.out.move mv9 (fun k hk => by rw [hk]; have := h.size; have := n4.out; omega) (fun hk => by have := blk_lt h.ha; have := n4.out; omega) (fun hk => by have := blk_lt h.hl; have := n4.out; omega) (fun hk => by have := blk_lt h.hb; have := n4.out; omega) (fun k hk he => hk.1.2 he))
                 have m9 := Aside0.mk (m6.out.then_ mv9 (fun k hk => .inr (by rw [hk]; exact n4.out)))
                 have W9 := Aside0.mk (mv9.blk W6.out (by have := n4.out; omega))
                 have B9 := Aside0.mk hb9
                 clear hb9 mv9))
            refine bodyPost_ret (results_ct rfl _ _ g4 41 _ (0, 0) _ rfl B9.out Try.underlying41 rfl (by kernel_rfl)) rfl ?_
            rw [HE.out]
            exact ⟨0, 0, 0, 0, 0, 0, 0, 0, none, none, none, none, va2, _, rfl, h9.out.mono (fun k hk => hk.1.1), W9.out, fun he => absurd he (show (120 : Int) ≠ 0 by decide), m9.out, f2.out⟩
          · have d5 : decide (r.f0 < 1) = false := decide_eq_false c5
            by_cases c6 : r.f0 > 6
            · have d6 : decide (6 < r.f0) = true := decide_eq_true c6
              have d6' : decide (r.f0 > 6) = true := decide_eq_true c6
              have HE := Aside0.mk (Hat2.out.trans (if_pos (.inr (.inl c6))))
              go_wp2_with (first
                | ((with_reducible refine gate_store (t := 41) (p := 4) (v := .tmp 67) rfl ?_); refine store_event rfl rfl (g := g4) rfl rfl B46.out (by kernel_rfl) rfl (by simp [Value.oneCell']) ?_
                   intro w9 hb9 mv9
                   have h9 := Aside0.mk (h6.out.move mv9 (fun k hk => by rw [hk]; have := h.size; have := n4.out; omega) (fun hk => by have := blk_lt h.ha; have := n4.out; omega) (fun hk => by have := blk_lt h.hl; have := n4.out; omega) (fun hk => by have := blk_lt h.hb; have := n4.out; omega) (fun k hk he => hk.1.2 he))
                   have m9 := Aside0.mk (m6.out.then_ mv9 (fun k hk => .inr (by rw [hk]; exact n4.out)))
                   have W9 := Aside0.mk (mv9.blk W6.out (by have := n4.out; omega))
                   have B9 := Aside0.mk hb9
                   clear hb9 mv9))
              refine bodyPost_ret (results_ct rfl _ _ g4 41 _ (0, 0) _ rfl B9.out Try.underlying41 rfl (by kernel_rfl)) rfl ?_
              rw [HE.out]
              exact ⟨0, 0, 0, 0, 0, 0, 0, 0, none, none, none, none, va2, _, rfl, h9.out.mono (fun k hk => hk.1.1), W9.out, fun he => absurd he (show (120 : Int) ≠ 0 by decide), m9.out, f2.out⟩
            · have d6 : decide (6 < r.f0) = false := decide_eq_false c6
              have d6' : decide (r.f0 > 6) = false := decide_eq_false c6
              by_cases c7 : b = bi
              · have d7 : (b != bi) = false := bne_eq_false_iff_eq.mpr c7
                have Hn : ¬ (r.f0 < 1 ∨ r.f0 > 6 ∨ b ≠ bi) := by rintro (h | h | h); exact c5 h; exact c6 h; exact h c7
                replace Hat2 := Aside0.mk (Hat2.out.trans (if_neg Hn))
                clear Hn
                by_cases c3 : r.f0 = 1
                · have d3 : (r.f0 != 1) = false := bne_eq_false_iff_eq.mpr c3
                  have HO := Aside0.mk (Hat2.out.trans (if_neg (fun h => h.1 c3)))
                  go_wp2_with (first
                    | ((with_reducible refine gate_dst (N := 82) rfl ?_); refine wpList_load_row rfl 41 (.tmp 6) rfl g6 rfl 41 _ (0, 0) _ B66.out Try.underlying41 rfl (by kernel_rfl) ?_)
                    | ((with_reducible refine gate_store (t := 41) (p := 4) (v := .tmp 82) rfl ?_); refine store_event rfl rfl (g := g4) rfl rfl B46.out (by kernel_rfl) rfl (by simp [Value.oneCell']) ?_
                       intro w9 hb9 mv9
                       have h9 := Aside0.mk (h6.out.move mv9 (fun k hk => by rw [hk]; have := h.size; have := n4.out; omega) (fun hk => by have := blk_lt h.ha; have := n4.out; omega) (fun hk => by have := blk_lt h.hl; have := n4.out; omega) (fun hk => by have := blk_lt h.hb; have := n4.out; omega) (fun k hk he => hk.1.2 he))
                       have m9 := Aside0.mk (m6.out.then_ mv9 (fun k hk => .inr (by rw [hk]; exact n4.out)))
                       have W9 := Aside0.mk (mv9.blk W6.out (by have := n4.out; omega))
                       have B9 := Aside0.mk hb9
                       clear hb9 mv9))
                  refine bodyPost_ret (results_ct rfl _ _ g4 41 _ (0, 0) _ rfl B9.out Try.underlying41 rfl (by kernel_rfl)) rfl ?_
                  rw [HO.out]
                  exact ⟨_, _, _, _, _, _, _, _, _, _, _, _, va2, _, rfl, h9.out.mono (fun k hk => hk.1.1), W9.out, fun _ => by simp, m9.out, f2.out⟩
                · have d3 : (r.f0 != 1) = true := bne_iff_ne.mpr c3
                  by_cases c8 : b < 1
                  · have d8 : decide (b < 1) = true := decide_eq_true c8
                    have HE := Aside0.mk (Hat2.out.trans (if_pos ⟨c3, .inl c8⟩))
                    go_wp2_with (first
                      | ((with_reducible refine gate_store (t := 41) (p := 4) (v := .tmp 81) rfl ?_); refine store_event rfl rfl (g := g4) rfl rfl B46.out (by kernel_rfl) rfl (by simp [Value.oneCell']) ?_
                         intro w9 hb9 mv9
                         have h9 := Aside0.mk (h6.out.move mv9 (fun k hk => by rw [hk]; have := h.size; have := n4.out; omega) (fun hk => by have := blk_lt h.ha; have := n4.out; omega) (fun hk => by have := blk_lt h.hl; have := n4.out; omega) (fun hk => by have := blk_lt h.hb; have := n4.out; omega) (fun k hk he => hk.1.2 he))
                         have m9 := Aside0.mk (m6.out.then_ mv9 (fun k hk => .inr (by rw [hk]; exact n4.out)))
                         have W9 := Aside0.mk (mv9.blk W6.out (by have := n4.out; omega))
                         have B9 := Aside0.mk hb9
                         clear hb9 mv9))
                    refine bodyPost_ret (results_ct rfl _ _ g4 41 _ (0, 0) _ rfl B9.out Try.underlying41 rfl (by kernel_rfl)) rfl ?_
                    rw [HE.out]
                    exact ⟨0, 0, 0, 0, 0, 0, 0, 0, none, none, none, none, va2, _, rfl, h9.out.mono (fun k hk => hk.1.1), W9.out, fun he => absurd he (show (120 : Int) ≠ 0 by decide), m9.out, f2.out⟩
                  · have d8 : decide (b < 1) = false := decide_eq_false c8
                    by_cases c9 : b ≥ x
                    · have d9 : decide (x ≤ b) = true := decide_eq_true c9
                      have d9' : decide (b ≥ x) = true := decide_eq_true c9
                      have HE := Aside0.mk (Hat2.out.trans (if_pos ⟨c3, .inr c9⟩))
                      go_wp2_with (first
                        | ((with_reducible refine gate_store (t := 41) (p := 4) (v := .tmp 81) rfl ?_); refine store_event rfl rfl (g := g4) rfl rfl B46.out (by kernel_rfl) rfl (by simp [Value.oneCell']) ?_
                           intro w9 hb9 mv9
                           have h9 := Aside0.mk (h6.out.move mv9 (fun k hk => by rw [hk]; have := h.size; have := n4.out; omega) (fun hk => by have := blk_lt h.ha; have := n4.out; omega) (fun hk => by have := blk_lt h.hl; have := n4.out; omega) (fun hk => by have := blk_lt h.hb; have := n4.out; omega) (fun k hk he => hk.1.2 he))
                           have m9 := Aside0.mk (m6.out.then_ mv9 (fun k hk => .inr (by rw [hk]; exact n4.out)))
                           have W9 := Aside0.mk (mv9.blk W6.out (by have := n4.out; omega))
                           have B9 := Aside0.mk hb9
                           clear hb9 mv9))
                      refine bodyPost_ret (results_ct rfl _ _ g4 41 _ (0, 0) _ rfl B9.out Try.underlying41 rfl (by kernel_rfl)) rfl ?_
                      rw [HE.out]
                      exact ⟨0, 0, 0, 0, 0, 0, 0, 0, none, none, none, none, va2, _, rfl, h9.out.mono (fun k hk => hk.1.1), W9.out, fun he => absurd he (show (120 : Int) ≠ 0 by decide), m9.out, f2.out⟩
                    · have d9 : decide (x ≤ b) = false := decide_eq_false c9
                      have d9' : decide (b ≥ x) = false := decide_eq_false c9
                      have HO := Aside0.mk (Hat2.out.trans (if_neg (fun h => h.2.elim c8 c9)))
                      go_wp2_with (first
                        | ((with_reducible refine gate_dst (N := 82) rfl ?_); refine wpList_load_row rfl 41 (.tmp 6) rfl g6 rfl 41 _ (0, 0) _ B66.out Try.underlying41 rfl (by kernel_rfl) ?_)
                        | ((with_reducible refine gate_store (t := 41) (p := 4) (v := .tmp 82) rfl ?_); refine store_event rfl rfl (g := g4) rfl rfl B46.out (by kernel_rfl) rfl (by simp [Value.oneCell']) ?_
                           intro w9 hb9 mv9
                           have h9 := Aside0.mk (h6.out.move mv9 (fun k hk => by rw [hk]; have := h.size; have := n4.out; omega) (fun hk => by have := blk_lt h.ha; have := n4.out; omega) (fun hk => by have := blk_lt h.hl; have := n4.out; omega) (fun hk => by have := blk_lt h.hb; have := n4.out; omega) (fun k hk he => hk.1.2 he))
                           have m9 := Aside0.mk (m6.out.then_ mv9 (fun k hk => .inr (by rw [hk]; exact n4.out)))
                           have W9 := Aside0.mk (mv9.blk W6.out (by have := n4.out; omega))
                           have B9 := Aside0.mk hb9
                           clear hb9 mv9))
                      refine bodyPost_ret (results_ct rfl _ _ g4 41 _ (0, 0) _ rfl B9.out Try.underlying41 rfl (by kernel_rfl)) rfl ?_
                      rw [HO.out]
                      exact ⟨_, _, _, _, _, _, _, _, _, _, _, _, va2, _, rfl, h9.out.mono (fun k hk => hk.1.1), W9.out, fun _ => by simp, m9.out, f2.out⟩
              · have d7 : (b != bi) = true := bne_iff_ne.mpr c7
                have HE := Aside0.mk (Hat2.out.trans (if_pos (.inr (.inr c7))))
                go_wp2_with (first
                  | ((with_reducible refine gate_store (t := 41) (p := 4) (v := .tmp 67) rfl ?_); refine store_event rfl rfl (g := g4) rfl rfl B46.out (by kernel_rfl) rfl (by simp [Value.oneCell']) ?_
                     intro w9 hb9 mv9
                     have h9 := Aside0.mk (h6.out.move mv9 (fun k hk => by rw [hk]; have := h.size; have := n4.out; omega) (fun hk => by have := blk_lt h.ha; have := n4.out; omega) (fun hk => by have := blk_lt h.hl; have := n4.out; omega) (fun hk => by have := blk_lt h.hb; have := n4.out; omega) (fun k hk he => hk.1.2 he))
                     have m9 := Aside0.mk (m6.out.then_ mv9 (fun k hk => .inr (by rw [hk]; exact n4.out)))
                     have W9 := Aside0.mk (mv9.blk W6.out (by have := n4.out; omega))
                     have B9 := Aside0.mk hb9
                     clear hb9 mv9))
                refine bodyPost_ret (results_ct rfl _ _ g4 41 _ (0, 0) _ rfl B9.out Try.underlying41 rfl (by kernel_rfl)) rfl ?_
                rw [HE.out]
                exact ⟨0, 0, 0, 0, 0, 0, 0, 0, none, none, none, none, va2, _, rfl, h9.out.mono (fun k hk => hk.1.1), W9.out, fun he => absurd he (show (120 : Int) ≠ 0 by decide), m9.out, f2.out⟩
    · have Hat2 := Aside0.mk (Hat.out.trans (if_pos c2))
      have d2 : (er != 0) = true := bne_iff_ne.mpr c2
      have d2' : (er == 0) = false := beq_eq_false_iff_ne.mpr c2
      go_wp2_with (first
        | ((with_reducible refine gate_store (t := 41) (p := 4) (v := .tmp 26) rfl ?_); refine store_event rfl rfl (g := g4) rfl rfl B44.out (by kernel_rfl) rfl (by simp [Value.oneCell']) ?_
           intro w9 hb9 mv9
           have h9 := Aside0.mk (h4.out.move mv9 (fun k hk => by rw [hk]; have := h.size; have := n4.out; omega) (fun hk => by have := blk_lt h.ha; have := n4.out; omega) (fun hk => by have := blk_lt h.hl; have := n4.out; omega) (fun hk => by have := blk_lt h.hb; have := n4.out; omega) (fun k hk he => hk.1.2 he))
           have m9 := Aside0.mk (m4.out.then_ mv9 (fun k hk => .inr (by rw [hk]; exact n4.out)))
           have W9 := Aside0.mk (mv9.blk W4.out (by have := n4.out; omega))
           have B9 := Aside0.mk hb9
           clear hb9 mv9))
      refine bodyPost_ret (results_ct rfl _ _ g4 41 _ (0, 0) _ rfl B9.out Try.underlying41 rfl (by kernel_rfl)) rfl ?_
      rw [Hat2.out]
      exact ⟨0, 0, 0, 0, 0, 0, 0, 0, none, none, none, none, va2, _, rfl, h9.out.mono (fun k hk => hk.1.1), W9.out, fun he => absurd he (c2), m9.out, f2.out⟩
end Go.Proofs.Ytijlcahikeeigaa.QA
