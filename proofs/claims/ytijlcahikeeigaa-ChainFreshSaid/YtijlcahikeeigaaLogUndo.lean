/- Undo from a place of the log tells what its transaction has left, backwards. -/
import Derived.Test.YtijlcahikeeigaaLogBack
import Derived.Test.YtijlcahikeeigaaTUndo
namespace Go.Proofs.Ytijlcahikeeigaa.Log
open Go.RowKit Go.Proofs.Ytijlcahikeeigaa.QA Go.Proofs.Ytijlcahikeeigaa.Pure
set_option linter.unusedVariables false
theorem at_item {s : Log} {items : List Item} (h : Inv s items) (all : Bool) (a : Item) (asked : List Int) (birth : Int) (ha : a ∈ items) (hc' : asked.length ≠ 4096) (hb : asked.length ≠ 0 → birth = a.way.getLastD 0) :
    atF s.lines all birth asked a.L = ((a.r, 0), a.way.getLastD 0, asked ++ [a.L]) := by
  have hrd := read_item h all a ha
  obtain ⟨pre, hh, hpre⟩ := h.ok.split a ha
  rcases hh with ⟨h1, hw, _⟩ | ⟨p, hp, hf1, hf2, hw, hne, hk⟩
  · have hwl : a.way.getLastD 0 = a.L := by rw [hw]; rfl
    have hbi : (if asked.length = 0 then a.L else birth) = a.L := by
      split
      · rfl
      · rename_i hz; rw [hb hz, hwl]
    rw [atF_is _ _ _ _ _ hc', hrd, hwl]
    have hh : hang a.r a.L a.L a.L = 0 := by
      unfold hang
      rw [if_neg (by omega), if_neg (by omega)]
    simp only [h1, if_true, hbi, hh, ne_eq, not_true_eq_false, if_false]
  · obtain ⟨hp1, hp2⟩ := hpre p hp
    obtain ⟨l1, l2⟩ := h.ok.last _ p hp1 (Nat.le_refl _)
    have hla : a.way.getLastD 0 = a.r.f1 := by rw [hw, hf1]; exact getLastD_cons_ne _ _ hne
    have hn1 : a.r.f0 ≠ 1 := by rcases hk with hk | hk | hk <;> omega
    have hrange : 1 ≤ a.r.f0 ∧ a.r.f0 ≤ 6 := by rcases hk with hk | hk | hk <;> omega
    have hbi : (if asked.length = 0 then a.r.f1 else birth) = a.r.f1 := by
      split
      · rfl
      · rename_i hz; rw [hb hz, hla]
    rw [atF_is _ _ _ _ _ hc', hrd, hla]
    have hh : hang a.r a.L a.r.f1 a.r.f1 = 0 := by
      unfold hang
      rw [if_neg (by omega), if_neg (by omega)]
    simp only [hn1, hbi, hh, ne_eq, not_true_eq_false, if_false]
theorem Ok.left_le {items : List Item} (h : Ok items) : ∀ (n : Nat) (a : Item), a ∈ items → a.way.length ≤ n → ∀ y ∈ a.left, y ≤ a.L := by
  intro n
  induction n with
  | zero =>
    intro a ha hl
    obtain ⟨t, ht⟩ := h.head a ha
    rw [ht] at hl
    simp at hl
  | succ n ih =>
    intro a ha hl y hy
    obtain ⟨pre, hh, hpre⟩ := h.split a ha
    rcases hh with ⟨_, _, h0⟩ | ⟨p, hp, _, _, hw, hne, hk⟩
    · rw [h0] at hy; cases hy
    · obtain ⟨hp1, hp2⟩ := hpre p hp
      rw [hw] at hl
      have hi := ih p hp1 (by simp at hl; omega)
      rcases hk with ⟨_, hk⟩ | ⟨_, _, hk, _⟩ | ⟨_, hk⟩
      · rw [hk] at hy
        rcases List.mem_append.1 hy with hy | hy
        · have := hi y hy; omega
        · rw [List.mem_singleton.1 hy]; exact Int.le_refl _
      · rw [hk] at hy
        have := hi y (List.mem_of_mem_take hy); omega
      · rw [hk] at hy
        have := hi y hy; omega
end Go.Proofs.Ytijlcahikeeigaa.Log
