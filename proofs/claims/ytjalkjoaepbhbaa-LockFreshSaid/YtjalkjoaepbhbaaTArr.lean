/- Sixteen numbers as a value: alike. -/
import Derived.Test.YtjalkjoaepbhbaaTScript
import Derived.Laws.StructEq
namespace Go.Proofs.Ytjalkjoaepbhbaa.QA
open Go.RowKit Go.Maps Go.Proofs.YtjalkjoaepbhbaaW.PrintWords Go.Proofs.YtjalkjoaepbhbaaW.PrintLast Go.Proofs.YtjalkjoaepbhbaaW.PrintMore
set_option linter.unusedVariables false
set_option linter.unusedSimpArgs false
theorem size3 (w : World) : (sizeOf 3).run Try.prog w = .ok 1 w := by kernel_rfl
theorem agg3 (w : World) : (isAgg 3).run Try.prog w = .ok false w := by kernel_rfl
theorem part16 (L : Who) (n : Nat) (h : n < 16) (w : World) : (part 3 (cells16 L) n).run Try.prog w = .ok (.int .i64 (L (n : Int))) w := by
  have h1 := cells16_at L n h
  unfold part
  simp only [Sem.run_bind, agg3, Result.andThen_ok, Bool.false_eq_true, if_false, h1, Sem.run_pure]
theorem eq_elem (L M : Who) (d n : Nat) (h : n < 16) (hL : L (n : Int) = M (n : Int)) (w : World) :
    (Op.equalIn (d + 1) 3 (.int .i64 (L (n : Int))) (.int .i64 (M (n : Int)))).run Try.prog w = .ok true w := by
  rw [run_equalIn_int (P := Try.prog) w d 3 .i64 .i64 _ _ Try.underlying3, hL, beq_self_eq_true]
/-- Arrays that hold the same are equal. -/
theorem eq_arr (L M : Who) (hLM : ∀ n : Nat, n < 16 → L (n : Int) = M (n : Int)) (d : Nat) (w : World) : (Op.equalIn (d + 2) 35 (.agg (cells16 L)) (.agg (cells16 M))).run Try.prog w = .ok true w := by
  have key : ∀ n, n < 16 → ((part 3 (cells16 L) n).run Try.prog w = .ok (.int .i64 (L (n : Int))) w) ∧ ((part 3 (cells16 M) n).run Try.prog w = .ok (.int .i64 (M (n : Int))) w) ∧ (Op.equalIn (d + 1) 3 (.int .i64 (L (n : Int))) (.int .i64 (M (n : Int)))).run Try.prog w = .ok true w :=
    fun n hn => ⟨part16 L n hn w, part16 M n hn w, eq_elem L M d n hn (hLM n hn) w⟩
  rw [Op.equalIn]
  simp only [Sem.run_bind, run_underlying Try.underlying35, Result.andThen_ok, size3]
  rw [Std.Legacy.Range.forIn_eq_forIn_range']
  have loop : ∀ l : List Nat, (∀ n ∈ l, n < 16) → (forIn (m := Sem) l ((none : Option Bool), ()) fun i __s => do
            let x ← part 3 (cells16 L) (i * 1)
            let y ← part 3 (cells16 M) (i * 1)
            let r ← Op.equalIn (d + 1) 3 x y
            if (!r) = true then pure (ForInStep.done (some false, ())) else pure (ForInStep.yield (none, ()))).run Try.prog w = .ok (none, ()) w := by
    intro l
    induction l with
    | nil => intro _; simp
    | cons n l ih =>
      intro hl
      obtain ⟨k1, k2, k3⟩ := key n (hl n (by simp))
      simp only [List.forIn_cons, Sem.run_bind, Nat.mul_one, k1, k2, k3, Result.andThen_ok, Bool.not_true, Bool.false_eq_true, if_false, Sem.run_pure]
      have := ih (fun m hm => hl m (by simp [hm]))
      simp only [Nat.mul_one, Sem.run_bind] at this
      exact this
  rw [loop _ (fun n hn => by
    have h1 := List.mem_range'_1.1 hn
    simp [Std.Legacy.Range.size] at h1
    omega)]
  simp
theorem guard35 : Try.prog.eqGuardType Try.prog.depth 35 = false := by kernel_rfl
theorem eql16 (L M : Who) (hLM : ∀ n : Nat, n < 16 → L (n : Int) = M (n : Int)) (w : World) : (binOp .eql 35 (.agg (cells16 L)) (.agg (cells16 M))).run Try.prog w = .ok (.bool true) w := by
  rw [run_eql_struct, show (10000 : Nat) = 9998 + 2 from rfl, eq_arr L M hLM]
  rfl
theorem neq16 (L M : Who) (hLM : ∀ n : Nat, n < 16 → L (n : Int) = M (n : Int)) (w : World) : (binOp .neq 35 (.agg (cells16 L)) (.agg (cells16 M))).run Try.prog w = .ok (.bool false) w := by
  rw [run_neq_struct, show (10000 : Nat) = 9998 + 2 from rfl, eq_arr L M hLM]
  rfl
theorem one16 (L : Who) : (cells16 L).all (·.oneCell') = true := by
  unfold cells16
  simp
  intro n hn
  rfl
/-- Sixteen numbers in a block of their own. -/
def Ar (w : World) (g : Nat) (L : Who) : Prop := w.heap[g]? = some (.cells (cells16 L) 35 (0, 0))
theorem Ar.move {w w1 : World} {g : Nat} {L : Who} {S : Nat → Prop} (h : Ar w g L) (m : Mv w w1 S) (hg : ¬ S g) : Ar w1 g L := m.blk h hg
theorem Ar.below {w w1 : World} {g : Nat} {L : Who} (h : Ar w g L) (hb : Below w.heap.size w w1) : Ar w1 g L := blk_below h hb
theorem Ar.cell {w : World} {g : Nat} {L : Who} (h : Ar w g L) (n : Nat) (hn : n < 16) : w.cell? ⟨g, n, none⟩ = some (.int .i64 (L (n : Int))) := by
  rw [blk_cell h, cells16_at L n hn]
theorem cells16_congr (L M : Who) (h : ∀ n : Nat, n < 16 → L (n : Int) = M (n : Int)) : cells16 L = cells16 M := by
  apply Array.ext
  · simp [cells16]
  · intro i h1 h2
    have hi : i < 16 := by rw [cells16_size] at h2; exact h2
    simp [cells16, h i hi]
def upTo (L : Who) (j : Nat) : Who := fun x => if x < (j : Int) then L x else 0
theorem upTo_step (L : Who) (j : Nat) : upd1 (upTo L j) (j : Int) (L (j : Int)) = upTo L (j + 1) := by
  funext x
  unfold upd1 upTo
  by_cases e : x = (j : Int)
  · subst e
    rw [if_pos rfl, if_pos (by omega)]
  · rw [if_neg e]
    by_cases h : x < (j : Int)
    · rw [if_pos h, if_pos (by omega)]
    · rw [if_neg h, if_neg (by omega)]
theorem upTo_zero (n : Nat) (L : Who) : upTo L 0 (n : Int) = L0 (n : Int) := by
  unfold upTo
  rw [if_neg (by omega)]
  rfl
set_option maxHeartbeats 4000000 in
set_option maxRecDepth 100000 in
theorem holders13 {w : World} {p b : Nat} {L : Who} (h : Lk w p b L) : Calls Try.prog 13 #[.pointer (some ⟨p, 0, none⟩)] w fun e w' => e = .returned (.agg (cells16 L)) ∧ Below w.heap.size w w' := by
  have H := Aside0.mk h
  clear h
  go_enter Try.func13, Try.ntmps13
  go_wp2_with (first
    | ((with_reducible refine gate_dst (N := 2) rfl ?_); refine box_event ?hg (N := 2) ?hd (cs := cells16 L0) (t := 35) ?hr ?_; (case hd => rfl); (case hg => rfl); (case hr => kernel_rfl); intro g2 hg2 w1 hb1 hbel1; have G2 := Aside0.mk (show Ar w1 g2 L0 from hb1); have B1 := Aside0.mk hbel1; have N2 := Aside0.mk hg2; clear hg2 hb1 hbel1)
    | ((with_reducible refine gate_dst (N := 3) rfl ?_); refine box_event ?hg (N := 3) ?hd (cs := cells16 L0) (t := 35) ?hr ?_; (case hd => rfl); (case hg => rfl); (case hr => kernel_rfl); intro g3 hg3 w2 hb2 hbel2; have G3 := Aside0.mk (show Ar w2 g3 L0 from hb2); have G2' := Aside0.mk (G2.out.below hbel2); have B2 := Aside0.mk (B1.out.trans (hbel2.mono B1.out.size)); have N3 := Aside0.mk (And.intro hg3 (blk_lt G2.out)); clear hg3 hb2 hbel2))
  go_loopg [4] 16 (fun kq v4 wr => ∃ (j : Nat), v4 = .int .i64 (j : Int) ∧ Aside0 (j + kq = 16) ∧ Aside0 (Ar wr g2 L0) ∧ Aside0 (Ar wr g3 (upTo L j)) ∧ Aside0 (Below w.heap.size w wr) ∧ Aside0 (Lk wr p b L))
  case atStart => exact ⟨0, rfl, ⟨rfl⟩, G2', ⟨by have := G3.out; unfold Ar at this ⊢; rw [cells16_congr (upTo L 0) L0 (fun n _ => upTo_zero n L)]; exact this⟩, B2, ⟨H.out.below B2.out⟩⟩
  case round =>
    have hg23 : g2 < g3 := by have := N3.out; omega
    have hg2 : w.heap.size ≤ g2 := by have := N2.out; omega
    have hl := H.out.lt
    clear G2' G3 G2 B1 B2 N2 N3
    obtain ⟨j, rfl, hjk, hA, hG, hB, hL⟩ := hrel
    obtain ⟨Ws, hWs, hB⟩ : ∃ W, W = _ ∧ Aside0 (Below w.heap.size w W) := ⟨_, rfl, hB⟩
    subst hWs
    cases gk with
    | zero =>
      obtain rfl : j = 16 := hjk.out
      have hG2 := Aside0.mk (show Ar Ws g3 L from by
        have := hG.out
        unfold Ar at this ⊢
        rw [cells16_congr (upTo L 16) L (fun n hn => by unfold upTo; rw [if_pos (by omega)])] at this
        exact this)
      go_wp2_with (first
        | ((with_reducible refine gate_dst (N := 14) rfl ?_); refine wpList_load_row rfl 35 _ rfl g3 rfl 35 (cells16 L) (0, 0) _ hG2.out Try.underlying35 rfl (by rw [cells16_size]; kernel_rfl) ?_)
        | ((with_reducible refine gate_store (t := 35) (p := 2) (v := .tmp 14) rfl ?_); refine store_event rfl rfl (g := g2) rfl rfl hA.out (by rw [cells16_size]; kernel_rfl) (by rw [cells16_size, cells16_size]) (one16 L) ?_
           intro w3 hb3 mv3
           have A3 := Aside0.mk (show Ar w3 g2 L from hb3)
           have B3 := Aside0.mk (mv3.below hB.out hB.out.size (fun k hk => hk ▸ hg2))
           clear hb3 mv3))
      exact bodyPost_ret (results_cell_row rfl _ _ g2 35 (cells16 L) (0, 0) _ rfl A3.out Try.underlying35 rfl (by rw [cells16_size]; kernel_rfl)) rfl ⟨rfl, B3.out⟩
    | succ k1 =>
      have hj0 : j < 16 := by have := hjk.out; omega
      have hj1 : (j : Int) < 16 := by omega
      have hj2 : decide ((j : Int) < 16) = true := decide_eq_true hj1
      go_wp2_with (first
        | ((with_reducible refine gate_dst (N := 12) rfl ?_); refine goesL_ (some 12) rfl rfl Try.func19 (by kernel_rfl) rfl #[.pointer (some ⟨p, 0, none⟩), .int .i64 (j : Int)] rfl (by (try simp only [List.map_toArray, List.map_cons, List.map_nil]); first | done | rfl) ?_
           refine (holder19 hL.out (j : Int) (wf_i64 (by omega))).mono ?_
           rintro e w' ⟨rfl, rfl⟩
           refine ⟨_, rfl, ?_⟩)
        | ((with_reducible refine gate_store (t := 3) (p := 13) (v := .tmp 12) rfl ?_); refine put_event rfl rfl (g := g3) (i := j) (v := .int .i64 (L (j : Int))) rfl rfl rfl rfl hG.out (by rw [cells16_size]; exact hj0) (by kernel_rfl) ?_
           intro w3 hb3 mv3
           rw [cells16_set _ j hj0, upTo_step] at hb3
           have A3 := Aside0.mk (show Ar w3 g3 (upTo L (j + 1)) from hb3)
           have B3 := Aside0.mk (mv3.below hB.out hB.out.size (fun k hk => by omega))
           have A2 := Aside0.mk (hA.out.move mv3 (fun e => by omega))
           have L3 := Aside0.mk (hL.out.move mv3 (fun e => by omega) (fun e => by omega))
           clear hb3 mv3))
      go_roundg k1
      case measure => omega
      case rel => exact ⟨j + 1, rfl, ⟨by have := hjk.out; omega⟩, A2, A3, B3, L3⟩
end Go.Proofs.Ytjalkjoaepbhbaa.QA
