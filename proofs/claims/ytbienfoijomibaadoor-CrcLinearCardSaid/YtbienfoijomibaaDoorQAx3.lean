-- Laid by a program of this session out of Lean's own print of the program; hand-made contracts are pasted in. Lean checks it.
import Derived.Test.YtbienfoijomibaaDoorQAx0
import Derived.Test.YtbienfoijomibaaDoorQAx1
import Derived.Test.YtbienfoijomibaaDoorQAx2
namespace Go.Proofs.YtbienfoijomibaaDoor.QA
open Go.RowKit Go.Proofs.YtbienfoijomibaaDoorW.PrintWords Go.Proofs.YtbienfoijomibaaDoorW.PrintLast Go.Proofs.YtbienfoijomibaaDoorW.PrintMore
attribute [local go_sem] max2_int min2_int max_two min_two max_three min_three max_four min_four   -- for this text's walks alone
set_option linter.unusedVariables false
set_option linter.unusedSimpArgs false

/-! ### tidemarklaw02_known: function 8 -/

/-- A block that is known whole, whatever its mark, reads as its numbers. -/
theorem C_block {W : World} {g n : Nat} {e : TypeId} {mk : Nat × Nat} (l : List Int) (hl : l.length = n) (hn : n ≤ 9223372036854775807) (h : W.heap[g]? = some (.cells (nums .u8 l).toArray e mk)) : Kd.C (Kd.int .u8) W (some ⟨g, 0, none⟩) n l := by
  refine Kd.C_of_reads (d := (0 : Int)) (enc := Value.int .u8) (h1 := fun _ => rfl) ⟨hl, hn, fun _ => ⟨_, rfl, fun j hj => ?_⟩⟩
  rw [add_plain]
  have hj' : j < l.length := by omega
  simp [World.cell?, h, nums, List.getElem?_eq_getElem hj', List.getD_eq_getElem?_getD]
/-- One row in a block of its own. -/
theorem C_row1 {W : World} {g : Nat} {e : TypeId} {A : Option Addr} {c : Nat} (l : List Int) (hc : l.length ≤ c) (hC : Kd.C (Kd.int .u8) W A l.length l) (h : W.heap[g]? = some (.cells #[.slice A l.length c] e)) : Kd.C (Kd.slice 5 (Kd.int .u8)) W (some ⟨g, 0, none⟩) 1 [l] := by
  refine ⟨rfl, by omega, fun _ => ⟨_, rfl, fun j p hj => ?_⟩⟩
  cases j with
  | succ j => simp at hj
  | zero =>
    simp at hj
    subst hj
    refine ⟨[.slice A l.length c], rfl, ⟨A, c, rfl, hc, hC⟩, fun i u hu => ?_⟩
    cases i with
    | succ i => simp at hu
    | zero =>
      simp at hu
      subst hu
      rw [add_plain]
      simp [World.cell?, h]
section
variable {P : Program} {ops : Array Oper} {rest : List Oper} {o : Oper} {a : Act} {Q : Exit → Act → World → Prop}
/-- '[]byte("..")' of a constant: the row that was laid gets its mark; it is read from then on. -/
theorem C_conv {w0 W : World} (base : Nat) (hgd : o.guard = none) {N : Tmp} (hd : o.dst = some N) (t e : TypeId) (x : Operand) (ho : o.op = .convert t t x) (ht : P.underlying t = some (.slice e)) (he : P.underlying e = some (.int .u8))
    (l : List Int) (hx : a.eval x = .slice (some ⟨W.heap.size, 0, none⟩) l.length l.length) (HB : Below base w0 W) (hbase : base ≤ W.heap.size) (hm : l.length ≤ 9223372036854775807)
    (h : ∀ A w1, Kd.C (Kd.int .u8) w1 A l.length l → Below W.heap.size W w1 → Below base w0 w1 → wpList P ops Q rest (a.put o.dst (.slice A l.length l.length)) w1) :
    wpList P ops Q (o :: rest) a (W.alloc (.cells (nums .u8 l).toArray e)) := by
  have hr := Lib.run_convert_bytes_const (P := P) W t e (nums .u8 l).toArray l.length l.length ht he
  refine Kd.event_run (v := .slice (some ⟨W.heap.size, 0, none⟩) l.length l.length) (w1 := W.alloc (.cells (nums .u8 l).toArray e ((nums .u8 l).toArray.size, (nums .u8 l).toArray.size + 1))) hgd ?_ ?_
  · simp only [execOp, ho, hx, Sem.run_bind, Sem.run_pure, hr, Result.andThen_ok]
  · refine h _ _ (C_block l rfl hm (heap_alloc_new W _)) (below_alloc (Below.refl _ _) _) (HB.alloc hbase _)
end
theorem sum_known : crc_Sum.f [[49, 50, 51, 52, 53, 54, 55, 56, 57]] = some 3421780262 := by decide +kernel
theorem sum_none : crc_Sum.f [] = some 0 := by decide +kernel
def tidemarklaw02_known.f : Option Bool := some true
set_option maxHeartbeats 1600000 in
set_option maxRecDepth 100000 in
theorem tidemarklaw02_known.calls (r : Bool) (w : World) (h : tidemarklaw02_known.f = some r) (hT : Aside0 (Tab w) := by first | assumption | exact hT | exact ⟨Tab.step hT.out (by repeat (first | (with_reducible first | exact HB.out | apply below_alloc | apply pw_below_drewN | apply below_drew1) | exact HB.out))⟩) :
    Calls Tryd.prog 8 #[] w fun e w' => e = .returned (.bool r) ∧ Below w.heap.size w w' := by
  obtain rfl := Option.some.inj h
  clear h
  go_enter Tryd.func8, Tryd.ntmps8
  have HB := Aside0.mk (Below.refl w.heap.size w)
  go_wp2_with (((with_reducible refine gate_dst (N := 2) rfl ?_); refine C_conv w.heap.size rfl (N := 2) rfl 28 5 _ rfl Tryd.underlying28 Tryd.underlying5 [49, 50, 51, 52, 53, 54, 55, 56, 57] rfl HB.out HB.out.size (by simp) ?_; intro A2 w2 h2 hs2 hb2; have C2 := Aside0.mk h2; have B2 := Aside0.mk hb2; clear h2 hs2 hb2))
  have T3 := Aside0.mk (Tab.step hT.out (below_alloc B2.out (.cells #[.slice A2 9 9] 28)))
  have C3 := Aside0.mk (C_row1 (W := w2.alloc (.cells #[.slice A2 9 9] 28)) [49, 50, 51, 52, 53, 54, 55, 56, 57] (Nat.le_refl _) (Kd.C_alloc C2.out _) (heap_alloc_new _ _))
  refine (crc_Sum.same _ _ [[49, 50, 51, 52, 53, 54, 55, 56, 57]] 3421780262 _ C3.out (Nat.le_refl _) sum_known T3).mono ?_
  rintro e w' ⟨rfl, rfl⟩
  go_wp2_with fail
  refine (crc_Sum.same _ _ [] 0 _ (Kd.C_nil _ _) (Nat.le_refl _) sum_none T3).mono ?_
  rintro e w' ⟨rfl, rfl⟩
  go_wp2_with fail
  go_ret
  exact ⟨rfl, below_alloc B2.out _⟩


end Go.Proofs.YtbienfoijomibaaDoor.QA
