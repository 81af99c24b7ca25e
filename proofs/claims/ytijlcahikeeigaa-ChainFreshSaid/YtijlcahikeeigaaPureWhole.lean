/- ChainWhole's plain law: what is asked of a plan's log. -/
import Derived.Test.YtijlcahikeeigaaLogUndo2
import Derived.Test.YtijlcahikeeigaaLogUpto
import Derived.Test.YtijlcahikeeigaaTAsking
namespace Go.Proofs.Ytijlcahikeeigaa.Log
open Go.RowKit Go.Proofs.Ytijlcahikeeigaa.QA Go.Proofs.Ytijlcahikeeigaa.Pure
set_option linter.unusedVariables false
set_option linter.unusedSimpArgs false
theorem below_le (items : List Item) (x : Int) : below items x ≤ items.length := List.countP_le_length
/-- A way holds at most as many places as there are lines. -/
theorem way_len {items : List Item} (h : Ok items) : ∀ (n : Nat) (a : Item), a ∈ items → below items a.L ≤ n → a.way.length ≤ n := by
  intro n
  induction n with
  | zero =>
    intro a ha hl
    have : 0 < below items a.L := List.countP_pos_iff.2 ⟨a, ha, by simp⟩
    omega
  | succ n ih =>
    intro a ha hl
    obtain ⟨pre, hh, hpre⟩ := h.split a ha
    rcases hh with ⟨_, hw, _⟩ | ⟨p, hp, _, _, hw, _⟩
    · rw [hw]; simp
    · obtain ⟨hpi, hlt⟩ := hpre p hp
      have := ih p hpi (by have := below_lt items p a ha hlt; omega)
      rw [hw]
      simp only [List.length_cons]
      omega
theorem whole_back (plan : List (Int × Int × Int)) (i : Nat) (hi : i < (written plan).lines.length) :
    tidemarklaw12_asking.f 5000 (written plan).lines false false ((written plan).lines.getD i z43).f0 = some ((written plan).ways.getD i [], 0, (written plan).ways.getD i []) ∧ ((written plan).ways.getD i []).length ≤ 300 := by
  obtain ⟨items, hI, hl⟩ := written_inv plan
  have hlen : items.length ≤ 300 := by rw [hl, List.length_take]; omega
  generalize written plan = s at hI hi ⊢
  have hli : i < items.length := by rw [hI.lines] at hi; simpa using hi
  have ha : items[i] ∈ items := List.getElem_mem hli
  have e1 : s.lines.getD i z43 = ⟨items[i].L, items[i].r⟩ := by rw [hI.lines]; simp [hli]
  have e2 : s.ways.getD i [] = items[i].way := by rw [hI.ways]; simp [hli]
  rw [e1, e2]
  have hone := hI.ok.one _ ha
  have hw : items[i].way.length ≤ 300 := Nat.le_trans (way_len hI.ok _ _ ha (Nat.le_refl _)) (Nat.le_trans (below_le _ _) hlen)
  refine ⟨?_, hw⟩
  unfold tidemarklaw12_asking.f backF
  rw [if_neg (by simp), if_neg (by dsimp only; omega)]
  exact back_way hI false 300 5000 items[i] [] [] 0 ha hw (by omega) (by simp; omega) (by simp)
theorem whole_undo (plan : List (Int × Int × Int)) (k : Nat) (hk : k < 4) :
    ∃ p, tidemarklaw12_asking.f 5000 (written plan).lines false true (((written plan).runs.getD k noRun).left.reverse.headD 0) = some (((written plan).runs.getD k noRun).left.reverse, 0, p) ∧ ((written plan).runs.getD k noRun).left.length ≤ 300 := by
  have hsm : ((written plan).runs.getD k noRun).left.length ≤ 300 := by
    rw [written_upto plan _ rfl]
    have := ((upto_small plan (min plan.length 300) (Nat.min_le_left _ _)).each k hk).2
    omega
  obtain ⟨items, hI, hl⟩ := written_inv plan
  have hlen : items.length ≤ 300 := by rw [hl, List.length_take]; omega
  generalize written plan = s at hI hsm ⊢
  have hmem : s.runs.getD k noRun ∈ s.runs := by
    have : k < s.runs.length := by rw [hI.four]; exact hk
    simp only [List.getD_eq_getElem?_getD, List.getElem?_eq_getElem this, Option.getD_some]
    exact List.getElem_mem this
  have hok := hI.runs _ hmem
  generalize s.runs.getD k noRun = x at hok hsm ⊢
  by_cases hne : x.left = []
  · rw [hne]
    exact ⟨[], rfl, by simp⟩
  · obtain ⟨y, t, hyt⟩ : ∃ y t, x.left.reverse = y :: t := List.exists_cons_of_ne_nil (by simpa using hne)
    have hlast : x.left = t.reverse ++ [y] := by
      have := congrArg List.reverse hyt
      simpa using this
    rcases hok with ⟨_, hx, _⟩ | ⟨a, ha, _, _, hx⟩
    · exact absurd hx hne
    · have hpos := List.length_pos_iff.2 hne
      obtain ⟨q, hq, hqL, hq2, hql, _⟩ := hI.ok.stack a ha (x.left.length - 1) (by rw [hx]; omega)
      have hyL : q.L = y := by
        rw [hqL]
        simp only [hx, hlast]
        simp
      have hqleft : q.left = x.left := by
        rw [hql, hx, show x.left.length - 1 + 1 = x.left.length from by omega, List.take_length]
      obtain ⟨p, hp⟩ := undo_left hI false 300 5000 q [] [] true 0 hq (Nat.le_trans (below_le _ _) hlen) (by omega) (by simp) (by simp) (fun _ => hq2)
      refine ⟨p, ?_, hsm⟩
      have hh : x.left.reverse.headD 0 = q.L := by rw [hyt, hyL]; rfl
      have hone := hI.ok.one _ hq
      rw [hh]
      unfold tidemarklaw12_asking.f undoF
      rw [if_pos rfl, if_neg (by omega), hp, hqleft]
      rfl
end Go.Proofs.Ytijlcahikeeigaa.Log
