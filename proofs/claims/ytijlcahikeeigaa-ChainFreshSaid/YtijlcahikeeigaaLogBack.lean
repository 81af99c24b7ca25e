/- Back from a place of the log tells its way. -/
import Derived.Test.YtijlcahikeeigaaLogFind
namespace Go.Proofs.Ytijlcahikeeigaa.Log
open Go.RowKit Go.Proofs.Ytijlcahikeeigaa.QA Go.Proofs.Ytijlcahikeeigaa.Pure
set_option linter.unusedVariables false
theorem Ok.split {items : List Item} (h : Ok items) (a : Item) (ha : a ∈ items) : ∃ pre, Hangs pre a ∧ ∀ p ∈ pre, p ∈ items ∧ p.L < a.L := by
  obtain ⟨pre, post, he⟩ := List.append_of_mem ha
  refine ⟨pre, h.hangs pre a post he, fun p hp => ⟨by rw [he]; exact List.mem_append_left _ hp, ?_⟩⟩
  have hr := h.rise
  rw [he] at hr
  exact (List.pairwise_append.1 hr).2.2 p hp a (by simp)
theorem Ok.last {items : List Item} (h : Ok items) : ∀ (n : Nat) (a : Item), a ∈ items → a.way.length ≤ n → 1 ≤ a.way.getLastD 0 ∧ a.way.getLastD 0 ≤ a.L := by
  intro n
  induction n with
  | zero =>
    intro a ha hl
    obtain ⟨t, ht⟩ := h.head a ha
    rw [ht] at hl
    simp at hl
  | succ n ih =>
    intro a ha hl
    obtain ⟨pre, hh, hpre⟩ := h.split a ha
    rcases hh with ⟨_, hw, _⟩ | ⟨p, hp, _, _, hw, hne, _⟩
    · rw [hw]; exact ⟨h.one a ha, Int.le_refl _⟩
    · obtain ⟨hp1, hp2⟩ := hpre p hp
      rw [hw] at hl ⊢
      rw [getLastD_cons_ne _ _ hne]
      have := ih p hp1 (by simp at hl; omega)
      omega
theorem back_way {s : Log} {items : List Item} (h : Inv s items) (all : Bool) : ∀ (n K : Nat) (a : Item) (out asked : List Int) (birth : Int), a ∈ items → a.way.length ≤ n → n ≤ K → asked.length + a.way.length ≤ 4096 → (asked.length ≠ 0 → birth = a.way.getLastD 0) →
    backL s.lines all K a.L out birth asked = some (out ++ a.way, 0, asked ++ a.way) := by
  intro n
  induction n with
  | zero =>
    intro K a out asked birth ha hl
    obtain ⟨t, ht⟩ := h.ok.head a ha
    rw [ht] at hl
    simp at hl
  | succ n ih =>
    intro K a out asked birth ha hl hK hc hb
    obtain ⟨K, rfl⟩ : ∃ m, K = m + 1 := ⟨K - 1, by omega⟩
    obtain ⟨t, ht⟩ := h.ok.head a ha
    have hc' : asked.length ≠ 4096 := by rw [ht] at hc; simp at hc; omega
    have hrd := read_item h all a ha
    obtain ⟨pre, hh, hpre⟩ := h.ok.split a ha
    rcases hh with ⟨h1, hw, _⟩ | ⟨p, hp, hf1, hf2, hw, hne, hk⟩
    · have hbi : (if asked.length = 0 then a.L else birth) = a.L := by
        split
        · rfl
        · rename_i hz; rw [hb hz, hw]; rfl
      have hat : atF s.lines all birth asked a.L = ((a.r, 0), a.L, asked ++ [a.L]) := by
        rw [atF_is _ _ _ _ _ hc', hrd]
        have hh : hang a.r a.L a.L a.L = 0 := by
          unfold hang
          rw [if_neg (by omega), if_neg (by omega)]
        simp only [h1, if_true, hbi, hh, ne_eq, not_true_eq_false, if_false]
      simp only [backL, hat]
      rw [if_neg (by decide), if_pos h1, hw]
    · obtain ⟨hp1, hp2⟩ := hpre p hp
      obtain ⟨l1, l2⟩ := h.ok.last _ p hp1 (Nat.le_refl _)
      have hla : a.way.getLastD 0 = p.way.getLastD 0 := by rw [hw]; exact getLastD_cons_ne _ _ hne
      have hn1 : a.r.f0 ≠ 1 := by rcases hk with hk | hk | hk <;> omega
      have hrange : 1 ≤ a.r.f0 ∧ a.r.f0 ≤ 6 := by rcases hk with hk | hk | hk <;> omega
      have hbi : (if asked.length = 0 then a.r.f1 else birth) = a.r.f1 := by
        split
        · rfl
        · rename_i hz; rw [hb hz, hla, hf1]
      have hat : atF s.lines all birth asked a.L = ((a.r, 0), a.r.f1, asked ++ [a.L]) := by
        rw [atF_is _ _ _ _ _ hc', hrd]
        have hh : hang a.r a.L a.r.f1 a.r.f1 = 0 := by
          unfold hang
          rw [if_neg (by omega), if_neg (by omega)]
        simp only [hn1, hbi, hh, ne_eq, not_true_eq_false, if_false]
      simp only [backL, hat]
      rw [if_neg (by decide), if_neg hn1, if_pos ⟨by omega, by omega⟩, hf2]
      rw [hw] at hl hc
      rw [ih K p (out ++ [a.L]) (asked ++ [a.L]) a.r.f1 hp1 (by simp at hl; omega) (by omega) (by simp at hc ⊢; omega) (fun _ => hf1), hw]
      simp
end Go.Proofs.Ytijlcahikeeigaa.Log
