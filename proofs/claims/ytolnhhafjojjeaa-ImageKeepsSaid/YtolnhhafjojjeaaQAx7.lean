-- Laid by a program of this session out of Lean's own print of the program; hand-made contracts are pasted in. Lean checks it.
import Derived.Test.YtolnhhafjojjeaaQAx0
import Derived.Test.YtolnhhafjojjeaaQAx2
import Derived.Test.YtolnhhafjojjeaaQAx4
import Derived.Test.YtolnhhafjojjeaaQAx5
import Derived.Test.YtolnhhafjojjeaaQAx6
namespace Go.Proofs.Ytolnhhafjojjeaa.QA
open Go.RowKit Go.Proofs.YtolnhhafjojjeaaW.PrintWords Go.Proofs.YtolnhhafjojjeaaW.PrintLast Go.Proofs.YtolnhhafjojjeaaW.PrintMore
attribute [local go_sem] max2_int min2_int max_two min_two max_three min_three max_four min_four   -- for this text's walks alone
set_option linter.unusedVariables false
set_option linter.unusedSimpArgs false

/-! ### tidemarklaw03_alive: function 11 -/

/-- A block that is known whole, whatever its mark, reads as its numbers. -/
theorem C_block {W : World} {g n : Nat} {e : TypeId} {mk : Nat × Nat} (l : List Int) (hl : l.length = n) (hn : n ≤ 9223372036854775807) (h : W.heap[g]? = some (.cells (nums .u8 l).toArray e mk)) : Kd.C (Kd.int .u8) W (some ⟨g, 0, none⟩) n l := by
  refine Kd.C_of_reads (d := (0 : Int)) (enc := Value.int .u8) (h1 := fun _ => rfl) ⟨hl, hn, fun _ => ⟨_, rfl, fun j hj => ?_⟩⟩
  rw [add_plain]
  have hj' : j < l.length := by omega
  simp [World.cell?, h, nums, List.getElem?_eq_getElem hj', List.getD_eq_getElem?_getD]
section
variable {P : Program} {ops : Array Oper} {rest : List Oper} {o : Oper} {a : Act} {Q : Exit → Act → World → Prop}
/-- '[]byte("..")' of a constant: the row that was laid gets its mark; it is read from then on. -/
theorem C_conv {w0 W : World} (base : Nat) (hgd : o.guard = none) {N : Tmp} (hd : o.dst = some N) (t e : TypeId) (x : Operand) (ho : o.op = .convert t t x) (ht : P.underlying t = some (.slice e)) (he : P.underlying e = some (.int .u8))
    (l : List Int) (hx : a.eval x = .slice (some ⟨W.heap.size, 0, none⟩) l.length l.length) (HB : Below base w0 W) (hbase : base ≤ W.heap.size) (hm : l.length ≤ 9223372036854775807)
    (h : ∀ A w1, Kd.C (Kd.int .u8) w1 A l.length l → Below W.heap.size W w1 → Below base w0 w1 → wpList P ops Q rest (a.put o.dst (.slice A l.length l.length)) w1) :
    wpList P ops Q (o :: rest) a (W.alloc (.cells (nums .u8 l).toArray e)) := by
  have hr := Lib.run_convert_bytes_const (P := P) W t e (nums .u8 l).toArray l.length l.length ht he
  refine Kd.event_run (v := .slice (some ⟨W.heap.size, 0, none⟩) l.length l.length) (w1 := W.alloc (.cells (nums .u8 l).toArray e ((nums .u8 l).toArray.size, (nums .u8 l).toArray.size + 1))) hgd ?_ ?_
  · simp only [execOp, ho, hx, Sem.run_bind, Sem.run_pure, hr, Result.andThen_ok]
  · refine h _ _ (C_block l rfl hm (heap_alloc_new W _)) (below_alloc (Below.refl _ _) _) (HB.alloc hbase _)
end
theorem part_alive : image_Part.f 100 [97, 98, 99, 100, 101, 102] [97, 98, 88, 100, 89, 102] = some (2, 5, 0) := by decide +kernel
theorem cut_alive : image_Cut.f [97, 98, 99, 100, 101, 102] 2 5 = some ([99, 100, 101], 0) := by decide +kernel
theorem lay_alive : image_Lay.f [97, 98, 99, 100, 101, 102] 2 [88, 89] = some ([97, 98, 88, 89, 101, 102], 0) := by decide +kernel
theorem str_cde : strOfNums [99, 100, 101] = ⟨#[99, 100, 101]⟩ := by decide +kernel
theorem str_lay : strOfNums [97, 98, 88, 89, 101, 102] = ⟨#[97, 98, 88, 89, 101, 102]⟩ := by decide +kernel
def tidemarklaw03_alive.f : Option Bool := some true
set_option maxHeartbeats 1600000 in
set_option maxRecDepth 100000 in
theorem tidemarklaw03_alive.calls (r : Bool) (w : World) (h : tidemarklaw03_alive.f = some r) :
    Calls Try.prog 11 #[] w fun e w' => e = .returned (.bool r) ∧ Below w.heap.size w w' := by
  obtain rfl := Option.some.inj h
  clear h
  go_enter Try.func11, Try.ntmps11
  have HB := Aside0.mk (Below.refl w.heap.size w)
  go_wp2_with (first
    | ((with_reducible refine gate_dst (N := 10) rfl ?_); refine C_conv w.heap.size rfl (N := 10) rfl 22 5 _ rfl Try.underlying22 Try.underlying5 [97, 98, 99, 100, 101, 102] rfl HB.out HB.out.size (by simp) ?_; intro A10 w10 h10 hs10 hb10; have C10 := Aside0.mk h10; have B10 := Aside0.mk hb10; clear h10 hs10 hb10)
    | ((with_reducible refine gate_dst (N := 12) rfl ?_); refine C_conv w.heap.size rfl (N := 12) rfl 22 5 _ rfl Try.underlying22 Try.underlying5 [97, 98, 88, 100, 89, 102] rfl B10.out B10.out.size (by simp) ?_; intro A12 w12 h12 hs12 hb12; have C12 := Aside0.mk h12; have C10' := Aside0.mk (Kd.C_below C10.out hs12); have B12 := Aside0.mk hb12; clear h12 hs12 hb12)
    | (go_at_call 9; refine (image_Part.calls 100 _ _ [97, 98, 99, 100, 101, 102] _ _ [97, 98, 88, 100, 89, 102] 2 5 0 _ C10'.out (Nat.le_refl _) C12.out (Nat.le_refl _) part_alive).mono ?_; rintro e w13 ⟨rfl, hb⟩; have B13 := Aside0.mk (below_then B12.out B12.out.size hb.below); clear hb)
    | ((with_reducible refine gate_dst (N := 19) rfl ?_); refine C_conv w.heap.size rfl (N := 19) rfl 22 5 _ rfl Try.underlying22 Try.underlying5 [97, 98, 99, 100, 101, 102] rfl B13.out B13.out.size (by simp) ?_; intro A19 w19 h19 hs19 hb19; have C19 := Aside0.mk h19; have B19 := Aside0.mk hb19; clear h19 hs19 hb19)
    | (go_at_call 14; refine (image_Cut.calls _ _ [97, 98, 99, 100, 101, 102] 2 5 [99, 100, 101] 0 _ C19.out (Nat.le_refl _) cut_alive).mono ?_; rintro e w20 ⟨v20, rfl, h20, hb⟩; have R20 := Aside0.mk h20; have B20 := Aside0.mk (below_then B19.out B19.out.size hb); clear hb h20)
    | ((with_reducible refine gate_dst (N := 25) rfl ?_); refine C_conv w.heap.size rfl (N := 25) rfl 22 5 _ rfl Try.underlying22 Try.underlying5 [97, 98, 99, 100, 101, 102] rfl B20.out B20.out.size (by simp) ?_; intro A25 w25 h25 hs25 hb25; have C25 := Aside0.mk h25; have R25 := Aside0.mk (Kd.R_below R20.out hs25); have B25 := Aside0.mk hb25; clear h25 hs25 hb25)
    | ((with_reducible refine gate_dst (N := 27) rfl ?_); refine C_conv w.heap.size rfl (N := 27) rfl 22 5 _ rfl Try.underlying22 Try.underlying5 [88, 89] rfl B25.out B25.out.size (by simp) ?_; intro A27 w27 h27 hs27 hb27; have C27 := Aside0.mk h27; have C25' := Aside0.mk (Kd.C_below C25.out hs27); have R27 := Aside0.mk (Kd.R_below R25.out hs27); have B27 := Aside0.mk hb27; clear h27 hs27 hb27)
    | (go_at_call 16; refine (image_Lay.calls _ _ [97, 98, 99, 100, 101, 102] 2 _ _ [88, 89] [97, 98, 88, 89, 101, 102] 0 _ C25'.out (Nat.le_refl _) C27.out (Nat.le_refl _) lay_alive).mono ?_; rintro e w28 ⟨v28, rfl, h28, hb⟩; have R28 := Aside0.mk h28; have R20' := Aside0.mk (Kd.R_below R27.out hb); have B28 := Aside0.mk (below_then B27.out B27.out.size hb); clear hb h28; have hs1 := own_string (P := Try.prog) Try.underlying22 Try.underlying5 Try.underlying9 (Kd.own_of_R R20'.out); have hs2 := own_string (P := Try.prog) Try.underlying22 Try.underlying5 Try.underlying9 (Kd.own_of_R R28.out); rw [str_cde] at hs1; rw [str_lay] at hs2)
    | (go_at_call 12; refine (num_same _ _).mono ?_; rintro e w' ⟨rfl, rfl⟩))
  go_ret
  exact ⟨rfl, B28.out⟩


end Go.Proofs.Ytolnhhafjojjeaa.QA
