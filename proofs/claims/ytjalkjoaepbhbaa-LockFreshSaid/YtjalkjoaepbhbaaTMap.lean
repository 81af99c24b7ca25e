/- A map keyed by whole numbers, told as a function. -/
import Derived.Test.YtjalkjoaepbhbaaTRows
namespace Go.Proofs.Ytjalkjoaepbhbaa.QA
open Go.RowKit Go.Maps Go.Proofs.YtjalkjoaepbhbaaW.PrintWords Go.Proofs.YtjalkjoaepbhbaaW.PrintLast Go.Proofs.YtjalkjoaepbhbaaW.PrintMore
set_option linter.unusedVariables false
set_option linter.unusedSimpArgs false
/-- The map D tells f: of each key that it has, a number of kind q. -/
structure Tell (q : IntKind) (D : DataW Unit) (f : Int → Option Int) : Prop where
  tidy : Tidy D
  at_ : ∀ x c, f x = some c → ∀ z, D.atKey (.int .i64 x) z = .lit (.int q c)
  no_ : ∀ x, f x = none → Maps.has D (.int .i64 x) = false
  keys : ∀ k, Maps.has D k = true → ∃ x c, k = .int .i64 x ∧ f x = some c
def updO (f : Int → Option Int) (x : Int) (y : Option Int) : Int → Option Int := fun z => if z = x then y else f z
section
variable {q : IntKind} {D : DataW Unit} {f : Int → Option Int}
theorem Tell.has_some (h : Tell q D f) {x c : Int} (e : f x = some c) : Maps.has D (.int .i64 x) = true := has_true_of_atKey (h.at_ x c e)
theorem Tell.has_ (h : Tell q D f) (x : Int) : Maps.has D (.int .i64 x) = (f x).isSome := by
  cases e : f x with
  | none => exact h.no_ x e
  | some c => exact h.has_some e
theorem Tell.atD (h : Tell q D f) (x z : Int) : D.atKey (.int .i64 x) (.lit (.int q z)) = .lit (.int q ((f x).getD z)) := by
  cases e : f x with
  | none => exact atKey_of_not_has (h.no_ x e) _
  | some c => exact h.at_ x c e _
theorem key_inj {x y : Int} (h : (Lit.int .i64 x) = .int .i64 y) : x = y := by injection h
theorem Tell.put (h : Tell q D f) (x c : Int) : Tell q (D.put (.int .i64 x) (.lit (.int q c))) (updO f x (some c)) := by
  refine ⟨h.tidy.put (by exact True.intro) _, fun y d hy z => ?_, fun y hy => ?_, fun k hk => ?_⟩
  · unfold updO at hy
    by_cases e : y = x
    · subst e
      rw [if_pos rfl] at hy
      injection hy with hy
      subst hy
      exact atKey_put_same h.tidy.isMap (by exact True.intro) _ _
    · rw [if_neg e] at hy
      rw [atKey_put_other (fun h2 => e (key_inj h2))]
      exact h.at_ y d hy z
  · unfold updO at hy
    by_cases e : y = x
    · rw [if_pos e] at hy; cases hy
    · rw [if_neg e] at hy
      rw [has_put_other (fun h2 => e (key_inj h2))]
      exact h.no_ y hy
  · by_cases e : k = .int .i64 x
    · exact ⟨x, c, e, by unfold updO; rw [if_pos rfl]⟩
    · rw [has_put_other e] at hk
      obtain ⟨y, d, rfl, hy⟩ := h.keys k hk
      exact ⟨y, d, rfl, by unfold updO; rw [if_neg (fun h2 => e (by rw [h2]))]; exact hy⟩
theorem Tell.del (h : Tell q D f) (x : Int) : Tell q (D.del (.int .i64 x)) (updO f x none) := by
  refine ⟨h.tidy.del _, fun y d hy z => ?_, fun y hy => ?_, fun k hk => ?_⟩
  · unfold updO at hy
    by_cases e : y = x
    · rw [if_pos e] at hy; cases hy
    · rw [if_neg e] at hy
      rw [atKey_del_other (fun h2 => e (key_inj h2))]
      exact h.at_ y d hy z
  · unfold updO at hy
    by_cases e : y = x
    · subst e; exact has_del_same
    · rw [if_neg e] at hy
      rw [has_del_other (fun h2 => e (key_inj h2))]
      exact h.no_ y hy
  · by_cases e : k = .int .i64 x
    · subst e
      rw [has_del_same] at hk
      cases hk
    · rw [has_del_other e] at hk
      obtain ⟨y, d, rfl, hy⟩ := h.keys k hk
      exact ⟨y, d, rfl, by unfold updO; rw [if_neg (fun h2 => e (by rw [h2]))]; exact hy⟩
theorem Tell.empty (q : IntKind) : Tell q (.map []) (fun _ => none) := ⟨tidy_empty, (fun x c e => absurd e (by simp)), (fun x _ => rfl), (fun k hk => absurd hk (by simp [Maps.has]))⟩
end
theorem pig : ∀ (m : Nat) (l : List Int), l.Nodup → (∀ x ∈ l, 0 ≤ x ∧ x < (m : Int)) → l.length ≤ m
  | 0, l, _, h => by
    cases l with
    | nil => exact Nat.le_refl _
    | cons a l => have := h a (by simp); omega
  | m + 1, l, hn, h => by
    have h1 := pig m (l.erase (m : Int)) (hn.erase _) (fun x hx => by
      obtain ⟨hne, hm⟩ := (hn.mem_erase_iff).1 hx
      have := h x hm
      omega)
    have h2 : l.length - 1 ≤ (l.erase (m : Int)).length := by
      rw [List.length_erase]
      split <;> omega
    omega
/-- A map whose keys lie below m has at most m of them. -/
theorem Tell.size_le {q : IntKind} {D : DataW Unit} {f : Int → Option Int} (h : Tell q D f) (hc : Canon D) (m : Nat) (hf : ∀ x c, f x = some c → 0 ≤ x ∧ x < (m : Int)) : Maps.size D ≤ m := by
  obtain ⟨es, e, hp, hlit⟩ := hc
  have hp := apart_of_rising hp
  have hk : ∀ p ∈ es, ∃ x : Int, p.1 = .int .i64 x ∧ 0 ≤ x ∧ x < (m : Int) := by
    intro p hp2
    have hh : Maps.has D p.1 = true := by
      rw [e, has_eq, List.any_eq_true]
      exact ⟨p, hp2, WideAt.sameKey_self (hlit p hp2)⟩
    obtain ⟨x, c, e1, e2⟩ := h.keys _ hh
    exact ⟨x, e1, hf x c e2⟩
  let num : Lit → Int := fun k => match k with
    | .int _ x => x
    | _ => 0
  have hl := pig m (es.map fun p => num p.1) ?_ ?_
  · rw [e, size_eq]
    simpa using hl
  · rw [List.Nodup, List.pairwise_map]
    refine List.Pairwise.imp_of_mem (fun {a b} ha hb hab => ?_) hp
    obtain ⟨x, ex, _⟩ := hk a ha
    obtain ⟨y, ey, _⟩ := hk b hb
    rw [ex, ey]
    intro h9
    apply hab
    rw [ex, ey]
    exact congrArg _ h9
  · intro y hy
    obtain ⟨p, hp2, rfl⟩ := List.mem_map.1 hy
    obtain ⟨x, ex, h0⟩ := hk p hp2
    rw [ex]
    exact h0
/-- The bound on a map's entries may be how many there are. -/
theorem own_size {P : Program} {k : TypeId} {R : Value → Option (DataW Unit × List MemPlace)} {w : World} {b n : Nat} {D : DataW Unit} (h : w.ownsMap P k R b n D) : w.ownsMap P k R b (Maps.size D) D := by
  obtain ⟨es, clock, hb, F, hs, rfl⟩ := h
  exact ⟨es, clock, hb, F, by rw [size_eq, length_sorted]; simp, rfl⟩
theorem own_block {P : Program} {k : TypeId} {R : Value → Option (DataW Unit × List MemPlace)} {w w1 : World} {b n : Nat} {D : DataW Unit} (h : w.ownsMap P k R b n D) (hb : w1.heap[b]? = w.heap[b]?) : w1.ownsMap P k R b n D := by
  obtain ⟨es, clock, hb0, F, hs, hD⟩ := h
  exact ⟨es, clock, hb.trans hb0, F, hs, hD⟩
end Go.Proofs.Ytjalkjoaepbhbaa.QA
