/- What a plan's log is: its lines rise; each line's way is its own place ahead of its predecessor's way; what is left is a stack. -/
import Derived.Test.YtijlcahikeeigaaWritten
namespace Go.Proofs.Ytijlcahikeeigaa.Log
open Go.RowKit Go.Proofs.Ytijlcahikeeigaa.QA
set_option linter.unusedVariables false
/-- A line, with its way and with what its transaction has left behind it. -/
structure Item where
  L : Int
  r : S41
  way : List Int
  left : List Int
/-- A line hangs in the lines ahead of it. -/
def Hangs (before : List Item) (a : Item) : Prop :=
  (a.r.f0 = 1 ∧ a.way = [a.L] ∧ a.left = []) ∨
  ∃ p ∈ before, a.r.f1 = p.way.getLastD 0 ∧ a.r.f2 = p.L ∧ a.way = a.L :: p.way ∧ p.way ≠ [] ∧
    ((a.r.f0 = 2 ∧ a.left = p.left ++ [a.L]) ∨ (a.r.f0 = 3 ∧ p.left ≠ [] ∧ a.left = p.left.take (p.left.length - 1) ∧ a.r.f8 = a.left.getLastD 0) ∨ ((a.r.f0 = 5 ∨ a.r.f0 = 6) ∧ a.left = p.left))
/-- What is left is a stack: each of its places is an update's, with what was left then. -/
def Stack (before : List Item) (way left : List Int) : Prop :=
  ∀ (i : Nat) (h : i < left.length), ∃ q ∈ before, q.L = left[i] ∧ q.r.f0 = 2 ∧ q.left = left.take (i + 1) ∧ q.way.getLastD 0 = way.getLastD 0
structure Ok (items : List Item) : Prop where
  rise : items.Pairwise fun a b => a.L < b.L
  one : ∀ a ∈ items, 1 ≤ a.L
  hangs : ∀ (pre : List Item) (a : Item) (post : List Item), items = pre ++ a :: post → Hangs pre a
  stack : ∀ a ∈ items, Stack items a.way a.left
  head : ∀ a ∈ items, ∃ t, a.way = a.L :: t
theorem Ok.nil : Ok [] := ⟨List.Pairwise.nil, by simp, fun pre a post h => by simp at h, by simp, by simp⟩
theorem hangs_mono {b b' : List Item} {a : Item} (h : Hangs b a) (hs : ∀ p ∈ b, p ∈ b') : Hangs b' a := by
  rcases h with h | ⟨p, hp, h⟩
  · exact .inl h
  · exact .inr ⟨p, hs p hp, h⟩
theorem stack_mono {b b' : List Item} {w l : List Int} (h : Stack b w l) (hs : ∀ p ∈ b, p ∈ b') : Stack b' w l := fun i hi => by
  obtain ⟨q, hq, h⟩ := h i hi
  exact ⟨q, hs q hq, h⟩
theorem Ok.snoc {items : List Item} (h : Ok items) (a : Item) (hr : ∀ b ∈ items, b.L < a.L) (h1 : 1 ≤ a.L) (hh : Hangs items a) (hst : Stack (items ++ [a]) a.way a.left) (hw : ∃ t, a.way = a.L :: t) : Ok (items ++ [a]) := by
  refine ⟨List.pairwise_append.2 ⟨h.rise, List.pairwise_singleton _ _, fun b hb c hc => by rw [List.mem_singleton.1 hc]; exact hr b hb⟩, ?_, ?_, ?_, ?_⟩
  · intro b hb
    rcases List.mem_append.1 hb with hb | hb
    · exact h.one b hb
    · rw [List.mem_singleton.1 hb]; exact h1
  · intro pre b post he
    rcases List.eq_nil_or_concat post with rfl | ⟨post', c, rfl⟩
    · have hap := List.append_inj' (show items ++ [a] = pre ++ [b] from he) rfl
      obtain ⟨e1, e2⟩ := hap
      injection e2 with e3 _
      subst e1
      subst e3
      exact hh
    · have he' : items ++ [a] = (pre ++ b :: post') ++ [c] := by rw [he]; simp
      have := (List.append_inj' he' rfl).1
      exact h.hangs pre b post' this
  · intro b hb
    rcases List.mem_append.1 hb with hb | hb
    · exact stack_mono (h.stack b hb) (fun p hp => List.mem_append_left _ hp)
    · rw [List.mem_singleton.1 hb]; exact hst
  · intro b hb
    rcases List.mem_append.1 hb with hb | hb
    · exact h.head b hb
    · rw [List.mem_singleton.1 hb]; exact hw
/-- A transaction that is open: nothing yet; or its last record's line. -/
def RunOk (items : List Item) (x : Run) : Prop := (x.all = [] ∧ x.left = [] ∧ x.back = false) ∨ ∃ p ∈ items, p.way = x.all.reverse ∧ x.all ≠ [] ∧ p.left = x.left
theorem runOk_mono {b b' : List Item} {x : Run} (h : RunOk b x) (hs : ∀ p ∈ b, p ∈ b') : RunOk b' x := by
  rcases h with h | ⟨p, hp, h⟩
  · exact .inl h
  · exact .inr ⟨p, hs p hp, h⟩
theorem getLastD_cons_ne (a : Int) (l : List Int) (h : l ≠ []) : (a :: l).getLastD 0 = l.getLastD 0 := by
  cases l with
  | nil => exact absurd rfl h
  | cons b l => rfl
theorem getLastD_reverse (l : List Int) (b : Int) (t : List Int) (h : l = b :: t) : l.reverse.getLastD 0 = b := by
  subst h; simp
theorem stack_sub {b : List Item} {w l : List Int} (h : Stack b w l) (n : Nat) : Stack b w (l.take n) := fun i hi => by
  have hl : i < l.length := by simp at hi; omega
  have hn : i < n := by simp at hi; omega
  obtain ⟨q, hq, h1, h2, h3, h4⟩ := h i hl
  exact ⟨q, hq, by rw [h1]; simp, h2, by rw [h3, List.take_take, Nat.min_eq_left (by omega)], h4⟩
theorem stack_way {b : List Item} {w w' l : List Int} (h : Stack b w l) (he : w'.getLastD 0 = w.getLastD 0) : Stack b w' l := fun i hi => by
  obtain ⟨q, hq, h1, h2, h3, h4⟩ := h i hi
  exact ⟨q, hq, h1, h2, h3, h4.trans he.symm⟩
theorem stack_push {b : List Item} {w l : List Int} {a : Item} (h : Stack b w l) (h2 : a.r.f0 = 2) (hl : a.left = l ++ [a.L]) (he : a.way.getLastD 0 = w.getLastD 0) : Stack (b ++ [a]) a.way a.left := by
  intro i hi
  rw [hl] at hi
  simp at hi
  rcases Nat.lt_or_ge i l.length with hlt | hge
  · obtain ⟨q, hq, h1, h3, h4, h5⟩ := h i hlt
    refine ⟨q, List.mem_append_left _ hq, ?_, h3, ?_, h5.trans he.symm⟩
    · rw [h1]; simp [hl, List.getElem_append_left hlt]
    · rw [h4, hl, List.take_append_of_le_length (by omega)]
  · obtain rfl : i = l.length := by omega
    refine ⟨a, by simp, ?_, h2, ?_, rfl⟩
    · simp [hl]
    · rw [hl, List.take_of_length_le (by simp)]
theorem record_all (x : Run) (k what lsn : Int) : (record x k what lsn).2.all = x.all := by
  obtain ⟨all, left, back⟩ := x
  cases all with
  | nil => rfl
  | cons b t =>
    simp only [record]
    split
    · rfl
    · split
      · rfl
      · split <;> rfl
/-- The item that a step lays. -/
def item (x : Run) (k what lsn : Int) : Item := ⟨lsn, (record x k what lsn).1, (x.all ++ [lsn]).reverse, (record x k what lsn).2.left⟩
theorem item_ok {items : List Item} {x : Run} (k what lsn : Int) (hx : RunOk items x) (hi : Ok items) : Hangs items (item x k what lsn) ∧ Stack (items ++ [item x k what lsn]) (item x k what lsn).way (item x k what lsn).left ∧ ∃ t, (item x k what lsn).way = (item x k what lsn).L :: t := by
  have hw : (item x k what lsn).way = lsn :: x.all.reverse := by simp [item]
  have hhead : ∃ t, (item x k what lsn).way = (item x k what lsn).L :: t := ⟨x.all.reverse, hw⟩
  obtain ⟨all, left, back⟩ := x
  cases all with
  | nil =>
    have hleft : left = [] := by
      rcases hx with h | ⟨p, _, _, h, _⟩
      · exact h.2.1
      · exact absurd rfl h
    subst hleft
    exact ⟨.inl ⟨rfl, rfl, rfl⟩, fun i h => absurd h (by simp [item, record]), hhead⟩
  | cons b t =>
    obtain ⟨p, hp, hpw, _, hpl⟩ : ∃ p ∈ items, p.way = (b :: t).reverse ∧ (b :: t) ≠ [] ∧ p.left = left := by
      rcases hx with h | h
      · cases h.1
      · exact h
    obtain ⟨t2, ht2⟩ := hi.head p hp
    have hne : p.way ≠ [] := by rw [ht2]; simp
    have hb : p.way.getLastD 0 = b := by rw [hpw]; exact getLastD_reverse _ b t rfl
    have hprev : (b :: t).getLastD 0 = p.L := by
      have h1 : (b :: t) = p.way.reverse := by rw [hpw, List.reverse_reverse]
      rw [h1]
      exact getLastD_reverse _ p.L t2 ht2
    have hlast : (item ⟨b :: t, left, back⟩ k what lsn).way.getLastD 0 = p.way.getLastD 0 := by
      rw [hw, show ((Run.mk (b :: t) left back).all.reverse) = p.way from hpw.symm]
      exact getLastD_cons_ne _ _ hne
    have hst := hi.stack p hp
    rw [hpl] at hst
    have hmono : ∀ q ∈ items, q ∈ items ++ [item ⟨b :: t, left, back⟩ k what lsn] := fun q hq => List.mem_append_left _ hq
    refine ⟨.inr ⟨p, hp, ?_⟩, ?_, hhead⟩
    · have hwy : (item ⟨b :: t, left, back⟩ k what lsn).way = (item ⟨b :: t, left, back⟩ k what lsn).L :: p.way := by rw [hw, hpw]; rfl
      have h1 : (item ⟨b :: t, left, back⟩ k what lsn).r.f1 = b := by
        simp only [item, record]
        (split; rfl; split; rfl; split <;> rfl)
      have h2 : (item ⟨b :: t, left, back⟩ k what lsn).r.f2 = (b :: t).getLastD 0 := by
        simp only [item, record]
        (split; rfl; split; rfl; split <;> rfl)
      refine ⟨h1.trans hb.symm, h2.trans hprev, hwy, hne, ?_⟩
      rw [hpl]
      simp only [item, record]
      split
      · exact .inr (.inr ⟨.inl rfl, rfl⟩)
      · split
        · rename_i hc
          refine .inr (.inl ⟨rfl, ?_, rfl, ?_⟩)
          · intro h0; rw [h0] at hc; simp at hc
          · show (if 1 < left.length then left.getD (left.length - 2) 0 else 0) = (left.take (left.length - 1)).getLastD 0
            by_cases hl : 1 < left.length
            · rw [if_pos hl, List.getLastD_eq_getLast?, List.getLast?_eq_getElem?, List.length_take, Nat.min_eq_left (by omega), List.getElem?_take, if_pos (by omega), List.getD_eq_getElem?_getD]
              rfl
            · rw [if_neg hl, show left.length - 1 = 0 from by omega]; rfl
        · split
          · exact .inr (.inr ⟨.inr rfl, rfl⟩)
          · exact .inl ⟨rfl, rfl⟩
    · by_cases hu : (item ⟨b :: t, left, back⟩ k what lsn).r.f0 = 2 ∧ (item ⟨b :: t, left, back⟩ k what lsn).left = left ++ [lsn]
      · exact stack_push hst hu.1 hu.2 hlast
      · have hl : ∃ n, (item ⟨b :: t, left, back⟩ k what lsn).left = left.take n := by
          revert hu
          simp only [item, record]
          split
          · exact fun _ => ⟨left.length, (List.take_length).symm⟩
          · split
            · exact fun _ => ⟨left.length - 1, rfl⟩
            · split
              · exact fun _ => ⟨left.length, (List.take_length).symm⟩
              · exact fun hu => absurd ⟨rfl, rfl⟩ hu
        obtain ⟨n, hn⟩ := hl
        rw [hn]
        exact stack_mono (stack_way (stack_sub hst n) hlast) hmono
end Go.Proofs.Ytijlcahikeeigaa.Log
