/- What a plan's log keeps, step by step. -/
import Derived.Test.YtijlcahikeeigaaLogOk
namespace Go.Proofs.Ytijlcahikeeigaa.Log
open Go.RowKit Go.Proofs.Ytijlcahikeeigaa.QA
set_option linter.unusedVariables false
structure Inv (s : Log) (items : List Item) : Prop where
  lines : s.lines = items.map fun a => ⟨a.L, a.r⟩
  ways : s.ways = items.map (·.way)
  ok : Ok items
  four : s.runs.length = 4
  runs : ∀ x ∈ s.runs, RunOk items x
  pos : 0 ≤ s.lsn
  top : ∀ a ∈ items, a.L ≤ s.lsn
theorem Inv.start : Inv start [] :=
  ⟨rfl, rfl, Ok.nil, rfl, fun x hx => by
    have : x = noRun := by simpa [Log.start] using hx
    exact .inl (this ▸ ⟨rfl, rfl, rfl⟩), Int.le_refl 0, by simp⟩
theorem getD_mem_run (l : List Run) (n : Nat) (h : n < l.length) : l.getD n noRun ∈ l := by
  rw [List.getD_eq_getElem?_getD, List.getElem?_eq_getElem h]
  exact List.getElem_mem h
theorem Inv.step {s : Log} {items : List Item} (h : Inv s items) (by_ what gap : Int) : ∃ a, Inv (Log.step s by_ what gap) (items ++ [a]) ∧ a.L = s.lsn + 1 + into gap 50 := by
  have hk := into_range by_ 4 (by decide)
  have hg := into_range gap 50 (by decide)
  have hp0 := h.pos
  have hx : RunOk items (s.runs.getD (into by_ 4).toNat noRun) := h.runs _ (getD_mem_run _ _ (by rw [h.four]; omega))
  generalize hxe : s.runs.getD (into by_ 4).toNat noRun = x at hx
  obtain ⟨h1, h2, h3⟩ := item_ok (into by_ 4) what (s.lsn + 1 + into gap 50) hx h.ok
  refine ⟨item x (into by_ 4) what (s.lsn + 1 + into gap 50), ?_, rfl⟩
  have hrise : ∀ b ∈ items, b.L < s.lsn + 1 + into gap 50 := fun b hb => by have := h.top b hb; omega
  refine ⟨?_, ?_, h.ok.snoc _ hrise (show 1 ≤ s.lsn + 1 + into gap 50 by omega) h1 h2 h3, ?_, ?_, show 0 ≤ s.lsn + 1 + into gap 50 by omega, ?_⟩
  · simp only [Log.step, hxe, h.lines, List.map_append, List.map_cons, List.map_nil, item]
  · simp only [Log.step, hxe, h.ways, List.map_append, List.map_cons, List.map_nil, item, record_all]
  · simp only [Log.step, List.length_set]; exact h.four
  · intro y hy
    simp only [Log.step, hxe] at hy
    rcases List.mem_or_eq_of_mem_set hy with hy | hy
    · exact runOk_mono (h.runs y hy) fun p hp => List.mem_append_left _ hp
    · split at hy
      · exact .inl (hy ▸ ⟨rfl, rfl, rfl⟩)
      · refine .inr ⟨_, List.mem_append_right _ (List.mem_singleton.2 rfl), ?_⟩
        rw [hy]
        exact ⟨by simp only [item, record_all], by simp only [record_all]; simp, rfl⟩
  · intro a ha
    rcases List.mem_append.1 ha with ha | ha
    · exact Int.le_of_lt (hrise a ha)
    · rw [List.mem_singleton.1 ha]; exact Int.le_refl _
theorem inv_fold (plan : List (Int × Int × Int)) : ∀ (s : Log) (items : List Item), Inv s items → ∃ more, Inv (plan.foldl (fun s a => Log.step s a.1 a.2.1 a.2.2) s) (items ++ more) ∧ more.length = plan.length := by
  induction plan with
  | nil => intro s items h; exact ⟨[], by simpa using h, rfl⟩
  | cons a plan ih =>
    intro s items h
    obtain ⟨b, hb, _⟩ := h.step a.1 a.2.1 a.2.2
    obtain ⟨more, hm, hl⟩ := ih _ _ hb
    exact ⟨b :: more, by simpa using hm, by simp [hl]⟩
/-- The log that a plan writes: its items. -/
theorem written_inv (plan : List (Int × Int × Int)) : ∃ items, Inv (written plan) items ∧ items.length = (plan.take 300).length := by
  obtain ⟨more, h, hl⟩ := inv_fold (plan.take 300) start [] Inv.start
  exact ⟨more, by rw [List.nil_append] at h; exact h, hl⟩
end Go.Proofs.Ytijlcahikeeigaa.Log
