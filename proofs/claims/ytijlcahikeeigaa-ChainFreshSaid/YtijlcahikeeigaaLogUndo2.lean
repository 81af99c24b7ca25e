/- Undo from a place of the log tells what its transaction has left, backwards. -/
import Derived.Test.YtijlcahikeeigaaLogUndo
namespace Go.Proofs.Ytijlcahikeeigaa.Log
open Go.RowKit Go.Proofs.Ytijlcahikeeigaa.QA Go.Proofs.Ytijlcahikeeigaa.Pure
set_option linter.unusedVariables false
def below (items : List Item) (x : Int) : Nat := items.countP fun b => decide (b.L ≤ x)
theorem below_lt (items : List Item) (q a : Item) (ha : a ∈ items) (h : q.L < a.L) : below items q.L < below items a.L := by
  unfold below
  induction items with
  | nil => cases ha
  | cons b t ih =>
    have hle : t.countP (fun b => decide (b.L ≤ q.L)) ≤ t.countP (fun b => decide (b.L ≤ a.L)) :=
      List.countP_mono_left fun x _ hx => by simp at hx ⊢; omega
    rw [List.countP_cons, List.countP_cons]
    rcases List.mem_cons.1 ha with rfl | ha
    · rw [if_neg (by simp; omega), if_pos (by simp)]; omega
    · have := ih ha
      by_cases h1 : b.L ≤ q.L
      · rw [if_pos (by simp [h1]), if_pos (by simp; omega)]; omega
      · rw [if_neg (by simp [h1])]; omega
theorem undo_left {s : Log} {items : List Item} (h : Inv s items) (all : Bool) : ∀ (n K : Nat) (a : Item) (out asked : List Int) (must : Bool) (birth : Int), a ∈ items → below items a.L ≤ n → n < K → asked.length + n ≤ 4095 → (asked.length ≠ 0 → birth = a.way.getLastD 0) → (must = true → a.r.f0 = 2) →
    ∃ asked', undoL s.lines all K a.L out must birth asked = some (out ++ a.left.reverse, 0, asked') := by
  intro n
  induction n with
  | zero => 
    intro K a out asked must birth ha hl hK hc hb hm
    exfalso
    have : 0 < below items a.L := List.countP_pos_iff.2 ⟨a, ha, by simp⟩
    omega
  | succ n ih =>
    intro K a out asked must birth ha hl hK hc hb hm
    obtain ⟨K, rfl⟩ : ∃ m, K = m + 1 := ⟨K - 1, by omega⟩
    have hat := at_item h all a asked birth ha (by omega) hb
    obtain ⟨pre, hh, hpre⟩ := h.ok.split a ha
    simp only [undoL, hat]
    rw [if_neg (by decide), if_neg (fun hc => hc.2 (hm hc.1))]
    rcases hh with ⟨h1, hw, h0⟩ | ⟨p, hp, hf1, hf2, hw, hne, hk⟩
    · rw [if_pos h1, h0]; exact ⟨_, by simp; rfl⟩
    · obtain ⟨hp1, hp2⟩ := hpre p hp
      obtain ⟨l1, l2⟩ := h.ok.last _ p hp1 (Nat.le_refl _)
      have hla : a.way.getLastD 0 = p.way.getLastD 0 := by rw [hw]; exact getLastD_cons_ne _ _ hne
      have hbp := below_lt items p a ha hp2
      rw [if_neg (by rcases hk with hk | hk | hk <;> omega)]
      have go : ∀ o, ∃ asked', undoL s.lines all K p.L o false (a.way.getLastD 0) (asked ++ [a.L]) = some (o ++ p.left.reverse, 0, asked') := fun o =>
        ih K p o _ false _ hp1 (by omega) (by omega) (by simp; omega) (fun _ => hla) (fun h => by cases h)
      rcases hk with ⟨h2, hk⟩ | ⟨h3, hpn, hk, h8⟩ | ⟨h5, hk⟩
      · rw [if_neg (by omega), if_pos ⟨by omega, by omega⟩, hf2, undoOut, if_pos h2]
        obtain ⟨ask, e⟩ := go (out ++ [a.L])
        exact ⟨ask, by rw [e, hk]; simp⟩
      · rw [if_pos h3]
        rcases List.eq_nil_or_concat a.left with hnil | ⟨L', y, hL⟩
        · rw [hnil] at h8
          rw [if_pos (by rw [h8]; rfl), hnil]; exact ⟨_, by simp; rfl⟩
        · have hlen : L'.length < a.left.length := by rw [hL]; simp
          obtain ⟨q, hq, q1, q2, q3, q4⟩ := h.ok.stack a ha L'.length hlen
          have hy : q.L = y := by rw [q1]; simp [hL]
          have h8' : a.r.f8 = q.L := by rw [h8, hL, hy]; simp
          have hql : q.left = a.left := by rw [q3, hL]; rw [List.take_of_length_le (by simp)]
          have hlt : q.L < a.L := by
            have : q.L ∈ p.left := List.mem_of_mem_take (i := p.left.length - 1) (by rw [← hk, hL, hy]; simp)
            have := h.ok.left_le _ p hp1 (Nat.le_refl _) _ this
            omega
          obtain ⟨m1, m2⟩ := h.ok.last _ q hq (Nat.le_refl _)
          have hbq := below_lt items q a ha hlt
          rw [if_neg (by omega), if_pos ⟨by omega, by omega⟩, h8', ← hql]
          exact ih K q out _ true _ hq (by omega) (by omega) (by simp; omega) (fun _ => q4.symm) (fun _ => q2)
      · rw [if_neg (by omega), if_pos ⟨by omega, by omega⟩, hf2, undoOut, if_neg (by omega), hk]
        exact go out
end Go.Proofs.Ytijlcahikeeigaa.Log
