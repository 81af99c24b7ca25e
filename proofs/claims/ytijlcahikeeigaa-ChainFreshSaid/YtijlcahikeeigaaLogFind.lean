/- A log's lines rise: reading one of its places finds its own record. -/
import Derived.Test.YtijlcahikeeigaaLogInv
import Derived.Test.YtijlcahikeeigaaPureChain
namespace Go.Proofs.Ytijlcahikeeigaa.Log
open Go.RowKit Go.Proofs.Ytijlcahikeeigaa.QA
set_option linter.unusedSimpArgs false
set_option linter.unusedVariables false
set_option linter.unusedVariables false
theorem find_item : ∀ (items : List Item), items.Pairwise (fun a b => a.L < b.L) → ∀ a ∈ items,
    (items.map fun a => (⟨a.L, a.r⟩ : S43)).find? (fun y => decide (y.f0 = a.L)) = some ⟨a.L, a.r⟩ := by
  intro items
  induction items with
  | nil => intro _ a ha; cases ha
  | cons b t ih =>
    intro hp a ha
    obtain ⟨hb, ht⟩ := List.pairwise_cons.1 hp
    rcases List.mem_cons.1 ha with rfl | ha
    · simp [List.find?_cons]
    · have hne : ¬ b.L = a.L := by have := hb a ha; omega
      rw [List.map_cons, List.find?_cons]
      simp only [hne, decide_false]
      exact ih ht a ha
theorem read_item {s : Log} {items : List Item} (h : Inv s items) (all : Bool) (a : Item) (ha : a ∈ items) : Go.Proofs.Ytijlcahikeeigaa.QA.rec12 s.lines all a.L = (a.r, 0) := by
  unfold Go.Proofs.Ytijlcahikeeigaa.QA.rec12
  rw [h.lines, find_item items h.ok.rise a ha]
end Go.Proofs.Ytijlcahikeeigaa.Log
