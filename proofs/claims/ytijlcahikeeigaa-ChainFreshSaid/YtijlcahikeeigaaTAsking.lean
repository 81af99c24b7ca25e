/- asking: Back or Undo of the program's over a list, and which places it read. -/
import Derived.Test.YtijlcahikeeigaaTUndo
namespace Go.Proofs.Ytijlcahikeeigaa.QA
open Go.RowKit Go.Proofs.YtijlcahikeeigaaW.PrintWords Go.Proofs.YtijlcahikeeigaaW.PrintLast Go.Proofs.YtijlcahikeeigaaW.PrintMore
set_option linter.unusedVariables false
set_option linter.unusedSimpArgs false
def tidemarklaw12_asking.f (k : Nat) (l0 : List (S43)) (a1 : Bool) (a2 : Bool) (a3 : Int) : Option (List Int × Int × List Int) := if a2 = true then undoF k l0 a1 a3 else backF k l0 a1 a3
theorem backL_mono (l : List S43) (all : Bool) : ∀ (k : Nat) (x : Int) (out : List Int) (birth : Int) (asked : List Int), LeO (backL l all k x out birth asked) (backL l all (k + 1) x out birth asked)
  | 0, x, out, birth, asked => LeO.none _
  | k + 1, x, out, birth, asked => by
    unfold backL
    exact LeO.ite (LeO.refl _) (LeO.ite (LeO.refl _) (LeO.ite (backL_mono l all k _ _ _ _) (LeO.refl _)))
theorem undoL_mono (l : List S43) (all : Bool) : ∀ (k : Nat) (x : Int) (out : List Int) (must : Bool) (birth : Int) (asked : List Int), LeO (undoL l all k x out must birth asked) (undoL l all (k + 1) x out must birth asked)
  | 0, x, out, must, birth, asked => LeO.none _
  | k + 1, x, out, must, birth, asked => by
    unfold undoL
    exact LeO.ite (LeO.refl _) (LeO.ite (LeO.refl _) (LeO.ite (LeO.refl _) (LeO.ite (LeO.ite (LeO.refl _) (LeO.ite (undoL_mono l all k _ _ _ _ _) (LeO.refl _))) (LeO.ite (undoL_mono l all k _ _ _ _ _) (LeO.refl _)))))
theorem tidemarklaw12_asking.mono : ∀ a0 a1 a2 a3 k, LeO (tidemarklaw12_asking.f k a0 a1 a2 a3) (tidemarklaw12_asking.f (k + 1) a0 a1 a2 a3) := by
  intro a0 a1 a2 a3 k
  unfold tidemarklaw12_asking.f undoF backF
  exact LeO.ite (LeO.ite (LeO.refl _) (undoL_mono _ _ _ _ _ _ _ _)) (LeO.ite (LeO.refl _) (backL_mono _ _ _ _ _ _ _))
set_option maxHeartbeats 1600000 in
set_option maxRecDepth 100000 in
theorem tidemarklaw12_asking.calls (k : Nat) (A0 : Option Addr) (c0 : Nat) (l0 : List (S43)) (a1 : Bool) (a2 : Bool) (a3 : Int) (r1 : List Int) (r2 : Int) (r3 : List Int) (w : World) (hr0 : Kd.C k43 w A0 l0.length l0) (hc0 : l0.length ≤ c0) (h : tidemarklaw12_asking.f k l0 a1 a2 a3 = some (r1, r2, r3)) :
    Calls Try.prog 8 #[.slice A0 l0.length c0, .bool a1, .bool a2, .int .i64 a3] w fun e w' => ∃ v0_ v2_ : Value, e = .returned (.tuple #[v0_, .int .i64 r2, v2_]) ∧ Kd.R (Kd.int .i64) 3 w' w.heap.size (fun k_ => some k_ ≠ (v2_ : Value).ownBlock) v0_ r1 ∧ Kd.R (Kd.int .i64) 3 w' w.heap.size (fun k_ => some k_ ≠ (v0_ : Value).ownBlock) v2_ r3 ∧ Below w.heap.size w w' := by
  have hmf : ∀ (fn : Fn) (first cap : Array Value) (w : World), (Instr.makeFunc fn first cap).run Try.prog w = .ok (.func fn first cap) w := fun _ _ _ _ => rfl
  have hn := Kd.C_max hr0
  have HR := Aside0.mk hr0
  clear hr0
  cases a2 with
  | true =>
    have hf : undoF k l0 a1 a3 = some (r1, r2, r3) := h
    clear h
    have H := Aside0.mk hf
    clear hf
    go_enter Try.func8, Try.ntmps8
    go_wp2_with (first
      | ((with_reducible refine gate_dst (N := 4) rfl ?_); refine box_event ?hg (N := 4) ?hd (cs := #[.slice A0 l0.length c0]) (t := 22) ?hr ?_; (case hd => rfl); (case hg => rfl); (case hr => first | (go_simp; done) | (go_simp; rfl)); intro gl hgl w1 hb1 hbel
         have b1 := Aside0.mk hbel
         have L1 := Aside0.mk hb1
         have nl := Aside0.mk (show w.heap.size ≤ gl by omega)
         clear hb1 hbel hgl)
      | ((with_reducible refine gate_dst (N := 5) rfl ?_); refine box_event ?hg (N := 5) ?hd (cs := #[.bool a1]) (t := 4) ?hr ?_; (case hd => rfl); (case hg => rfl); (case hr => first | (go_simp; done) | (go_simp; rfl)); intro gb hgb w2 hb2 hbel
         have b2 := Aside0.mk (below_step b1.out hbel)
         have L2 := Aside0.mk (blk_below L1.out hbel)
         have B2 := Aside0.mk hb2
         have nb := Aside0.mk (show w.heap.size ≤ gb by have := b1.out.size; omega)
         clear hb2 hbel hgb)
      | ((with_reducible refine gate_dst (N := 11) rfl ?_); refine box_event ?hg (N := 11) ?hd (cs := #[.slice none 0 0]) (t := 23) ?hr ?_; (case hd => rfl); (case hg => rfl); (case hr => first | (go_simp; done) | (go_simp; rfl)); intro ga hga w3 hb3 hbel
         have ask3 := Aside0.mk (show Ask w w3 ga gl gb A0 c0 l0 a1 (.slice none 0 0) [] (fun _ => True) from ⟨below_step b2.out hbel, hb3, blk_below L2.out hbel, blk_below B2.out hbel, Kd.R_nil _ _ _ _ _, by have := b2.out.size; omega, nl.out, nb.out⟩)
         clear hb3 hbel hga)
      | ((with_reducible refine gate_callee (f := 19) rfl ?_); refine goesL_ (some 22) rfl rfl Try.func19 (by kernel_rfl) rfl #[.func (.func 17) #[] #[.pointer (some ⟨ga, 0, none⟩), .pointer (some ⟨gl, 0, none⟩), .pointer (some ⟨gb, 0, none⟩)], .int .i64 a3] rfl (by (try simp only [List.map_toArray, List.map_cons, List.map_nil]); first | done | rfl) ?_
         refine (undo19 k a3 r1 r2 r3 hn HR.out hc0 ask3.out H.out).mono ?_
         rintro e w4 ⟨vo, va, rfl, ask4, ho⟩
         refine ⟨_, rfl, ?_⟩
         have A4 := Aside0.mk ask4
         have O4 := Aside0.mk ho
         have hcell : w4.cell? ⟨ga, 0, none⟩ = some va := (blk_cell ask4.ha 0).trans rfl
         clear ask4 ho))
    go_quiet (fail)
    go_wp2

    go_ret3
    exact ⟨vo, va, rfl, Kd.R_drewN (Kd.R_mono O4.out (fun k hk => hk.2)) _, Kd.R_drewN (Kd.R_mono A4.out.hr (fun k hk => hk.2)) _, pw_below_drewN A4.out.bel _⟩
  | false =>
    have hf : backF k l0 a1 a3 = some (r1, r2, r3) := h
    clear h
    have H := Aside0.mk hf
    clear hf
    go_enter Try.func8, Try.ntmps8
    go_wp2_with (first
      | ((with_reducible refine gate_dst (N := 4) rfl ?_); refine box_event ?hg (N := 4) ?hd (cs := #[.slice A0 l0.length c0]) (t := 22) ?hr ?_; (case hd => rfl); (case hg => rfl); (case hr => first | (go_simp; done) | (go_simp; rfl)); intro gl hgl w1 hb1 hbel
         have b1 := Aside0.mk hbel
         have L1 := Aside0.mk hb1
         have nl := Aside0.mk (show w.heap.size ≤ gl by omega)
         clear hb1 hbel hgl)
      | ((with_reducible refine gate_dst (N := 5) rfl ?_); refine box_event ?hg (N := 5) ?hd (cs := #[.bool a1]) (t := 4) ?hr ?_; (case hd => rfl); (case hg => rfl); (case hr => first | (go_simp; done) | (go_simp; rfl)); intro gb hgb w2 hb2 hbel
         have b2 := Aside0.mk (below_step b1.out hbel)
         have L2 := Aside0.mk (blk_below L1.out hbel)
         have B2 := Aside0.mk hb2
         have nb := Aside0.mk (show w.heap.size ≤ gb by have := b1.out.size; omega)
         clear hb2 hbel hgb)
      | ((with_reducible refine gate_dst (N := 11) rfl ?_); refine box_event ?hg (N := 11) ?hd (cs := #[.slice none 0 0]) (t := 23) ?hr ?_; (case hd => rfl); (case hg => rfl); (case hr => first | (go_simp; done) | (go_simp; rfl)); intro ga hga w3 hb3 hbel
         have ask3 := Aside0.mk (show Ask w w3 ga gl gb A0 c0 l0 a1 (.slice none 0 0) [] (fun _ => True) from ⟨below_step b2.out hbel, hb3, blk_below L2.out hbel, blk_below B2.out hbel, Kd.R_nil _ _ _ _ _, by have := b2.out.size; omega, nl.out, nb.out⟩)
         clear hb3 hbel hga)
      | ((with_reducible refine gate_callee (f := 20) rfl ?_); refine goesL_ (some 31) rfl rfl Try.func20 (by kernel_rfl) rfl #[.func (.func 17) #[] #[.pointer (some ⟨ga, 0, none⟩), .pointer (some ⟨gl, 0, none⟩), .pointer (some ⟨gb, 0, none⟩)], .int .i64 a3] rfl (by (try simp only [List.map_toArray, List.map_cons, List.map_nil]); first | done | rfl) ?_
         refine (back20 k a3 r1 r2 r3 hn HR.out hc0 ask3.out H.out).mono ?_
         rintro e w4 ⟨vo, va, rfl, ask4, ho⟩
         refine ⟨_, rfl, ?_⟩
         have A4 := Aside0.mk ask4
         have O4 := Aside0.mk ho
         have hcell : w4.cell? ⟨ga, 0, none⟩ = some va := (blk_cell ask4.ha 0).trans rfl
         clear ask4 ho))
    go_quiet (fail)
    go_wp2

    go_ret3
    exact ⟨vo, va, rfl, Kd.R_drewN (Kd.R_mono O4.out (fun k hk => hk.2)) _, Kd.R_drewN (Kd.R_mono A4.out.hr (fun k hk => hk.2)) _, pw_below_drewN A4.out.bel _⟩
end Go.Proofs.Ytijlcahikeeigaa.QA
