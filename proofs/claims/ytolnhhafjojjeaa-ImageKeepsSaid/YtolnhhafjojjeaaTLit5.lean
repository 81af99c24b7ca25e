/- Five rows, and five strings, written out; each run once. -/
import Derived.Test.YtolnhhafjojjeaaTApart
namespace Go.Proofs.Ytolnhhafjojjeaa.QA
open Go.RowKit Go.Proofs.YtolnhhafjojjeaaW.PrintWords Go.Proofs.YtolnhhafjojjeaaW.PrintLast Go.Proofs.YtolnhhafjojjeaaW.PrintMore
set_option linter.unusedVariables false
set_option linter.unusedSimpArgs false
section
variable {P : Program} {ops : Array Oper} {rest : List Oper} {o : Oper} {a : Act} {Q : Exit → Act → World → Prop}
theorem lit5_event {W : World} (hgd : o.guard = none) {t e : TypeId} {x0 x1 x2 x3 x4 : Operand} {v0 v1 v2 v3 v4 : Value} {cs : Array Value} (ho : o.op = .buildSlice t 5 #[(0, x0), (1, x1), (2, x2), (3, x3), (4, x4)]) (h0 : a.eval x0 = v0) (h1 : a.eval x1 = v1) (h2 : a.eval x2 = v2) (h3 : a.eval x3 = v3) (h4 : a.eval x4 = v4)
    (hrun : (Instr.buildSlice t 5 #[(0, v0), (1, v1), (2, v2), (3, v3), (4, v4)]).run P W = .ok (.slice (some ⟨W.heap.size, 0, none⟩) 5 5) (W.alloc (.cells cs e)))
    (h : ∀ g w1, W.heap.size ≤ g → w1.heap[g]? = some (.cells cs e (0, 0)) → Below W.heap.size W w1 → wpList P ops Q rest (a.put o.dst (.slice (some ⟨g, 0, none⟩) 5 5)) w1) : wpList P ops Q (o :: rest) a W := by
  refine wpList_plain hgd fun K hK => ?_
  unfold Oper.wp execOp
  simp only [ho, List.map_toArray, List.map_cons, List.map_nil, h0, h1, h2, h3, h4, Sem.run_bind, hrun, Result.andThen_ok, Sem.run_pure]
  exact hK _ _ (h _ _ (Nat.le_refl _) (heap_alloc_new W _) (below_alloc (Below.refl _ _) _))
end
theorem lit41 (W : World) (A0 A1 A2 A3 A4 : Option Addr) (n0 n1 n2 n3 n4 c0 c1 c2 c3 c4 : Nat) :
    (Instr.buildSlice 41 5 #[(0, .slice A0 n0 c0), (1, .slice A1 n1 c1), (2, .slice A2 n2 c2), (3, .slice A3 n3 c3), (4, .slice A4 n4 c4)]).run Try.prog W = .ok (.slice (some ⟨W.heap.size, 0, none⟩) 5 5) (W.alloc (.cells #[.slice A0 n0 c0, .slice A1 n1 c1, .slice A2 n2 c2, .slice A3 n3 c3, .slice A4 n4 c4] 22)) := by
  kernel_rfl
theorem lit42 (W : World) (s0 s1 s2 s3 s4 : ByteArray) :
    (Instr.buildSlice 42 5 #[(0, .string s0), (1, .string s1), (2, .string s2), (3, .string s3), (4, .string s4)]).run Try.prog W = .ok (.slice (some ⟨W.heap.size, 0, none⟩) 5 5) (W.alloc (.cells #[.string s0, .string s1, .string s2, .string s3, .string s4] 9)) := by
  kernel_rfl
def five (a b c d e : Value) : Nat → Value := fun m => if m = 0 then a else if m = 1 then b else if m = 2 then c else if m = 3 then d else e
def fiveL (a b c d e : List Int) : Nat → List Int := fun m => if m = 0 then a else if m = 1 then b else if m = 2 then c else if m = 3 then d else e
/-- Five rows, each made behind the one before it. -/
theorem Fr.make5 {Wb w1 w2 w3 w4 w5 w : World} {gA : Nat} {a b c d e : Value} {xa xb xc xd xe : List Int} {oka okb okc okd oke : Nat → Prop} (ha : Kd.R (Kd.int .u8) 5 w1 Wb.heap.size oka a xa) (hb : Kd.R (Kd.int .u8) 5 w2 w1.heap.size okb b xb) (hc : Kd.R (Kd.int .u8) 5 w3 w2.heap.size okc c xc) (hd : Kd.R (Kd.int .u8) 5 w4 w3.heap.size okd d xd) (he : Kd.R (Kd.int .u8) 5 w5 w4.heap.size oke e xe)
    (b1 : Below Wb.heap.size Wb w1) (b2 : Below w1.heap.size w1 w2) (b3 : Below w2.heap.size w2 w3) (b4 : Below w3.heap.size w3 w4) (b5 : Below w4.heap.size w4 w5) (b6 : Below w5.heap.size w5 w) (hg : w5.heap.size ≤ gA) (hA : w.heap[gA]? = some (.cells (arr4 (five a b c d e)) 22 (0, 0))) : Fr Wb w gA (five a b c d e) (fiveL xa xb xc xd xe) := by
  have s1 := b1.size
  have s2 := b2.size
  have s3 := b3.size
  have s4 := b4.size
  have s5 := b5.size
  have s6 := b6.size
  refine ⟨?_, hA, by omega, fun m hm => ?_, fun m n hm hn hne k hk hk2 => ?_⟩
  · have e2 := (Mv.of_below b2 (fun _ => False)).below b1 s1 (fun _ h => h.elim)
    have e3 := (Mv.of_below b3 (fun _ => False)).below e2 (by omega) (fun _ h => h.elim)
    have e4 := (Mv.of_below b4 (fun _ => False)).below e3 (by omega) (fun _ h => h.elim)
    have e5 := (Mv.of_below b5 (fun _ => False)).below e4 (by omega) (fun _ h => h.elim)
    exact (Mv.of_below b6 (fun _ => False)).below e5 (by omega) (fun _ h => h.elim)
  · have ra := Kd.R_mono (Kd.R_below (Kd.R_below (Kd.R_below (Kd.R_below (Kd.R_below ha b2) b3) b4) b5) b6) (fun _ _ => trivial)
    have rb := Kd.R_mono (Kd.R_lower (Kd.R_below (Kd.R_below (Kd.R_below (Kd.R_below hb b3) b4) b5) b6) s1) (fun _ _ => trivial)
    have rc := Kd.R_mono (Kd.R_lower (Kd.R_below (Kd.R_below (Kd.R_below hc b4) b5) b6) (Nat.le_trans s1 s2)) (fun _ _ => trivial)
    have rd := Kd.R_mono (Kd.R_lower (Kd.R_below (Kd.R_below hd b5) b6) (Nat.le_trans s1 (Nat.le_trans s2 s3))) (fun _ _ => trivial)
    have re := Kd.R_mono (Kd.R_lower (Kd.R_below he b6) (Nat.le_trans s1 (Nat.le_trans s2 (Nat.le_trans s3 s4)))) (fun _ _ => trivial)
    have : m = 0 ∨ m = 1 ∨ m = 2 ∨ m = 3 ∨ m = 4 := by omega
    rcases this with rfl | rfl | rfl | rfl | rfl
    · exact ra
    · exact rb
    · exact rc
    · exact rd
    · exact re
  · have lo : ∀ m k, m < 5 → (five a b c d e m).ownBlock = some k → (m = 0 ∧ k < w1.heap.size) ∨ (m = 1 ∧ w1.heap.size ≤ k ∧ k < w2.heap.size) ∨ (m = 2 ∧ w2.heap.size ≤ k ∧ k < w3.heap.size) ∨ (m = 3 ∧ w3.heap.size ≤ k ∧ k < w4.heap.size) ∨ (m = 4 ∧ w4.heap.size ≤ k) := by
      intro m k hm hk
      have : m = 0 ∨ m = 1 ∨ m = 2 ∨ m = 3 ∨ m = 4 := by omega
      rcases this with rfl | rfl | rfl | rfl | rfl
      · exact .inl ⟨rfl, Kd.R_lt ha k hk⟩
      · exact .inr (.inl ⟨rfl, Kd.R_base hb k hk, Kd.R_lt hb k hk⟩)
      · exact .inr (.inr (.inl ⟨rfl, Kd.R_base hc k hk, Kd.R_lt hc k hk⟩))
      · exact .inr (.inr (.inr (.inl ⟨rfl, Kd.R_base hd k hk, Kd.R_lt hd k hk⟩)))
      · exact .inr (.inr (.inr (.inr ⟨rfl, Kd.R_base he k hk⟩)))
    have l1 := lo m k hm hk
    have l2 := lo n k hn hk2
    omega
end Go.Proofs.Ytolnhhafjojjeaa.QA
