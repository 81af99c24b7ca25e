/- ChainBacks' plain law. -/
import Derived.Test.YtijlcahikeeigaaQAx13
import Derived.Test.YtijlcahikeeigaaPureChain
namespace Go.Proofs.Ytijlcahikeeigaa.Pure
open Go.RowKit Go.Proofs.Ytijlcahikeeigaa.QA Go.Proofs.YtijlcahikeeigaaW.PrintWords Go.Proofs.YtijlcahikeeigaaW.PrintLast
theorem ChainBacks (l : List S43) (all : Bool) (last : Int) (hn : l.length ≤ 9223372036854775807) : tidemarklaw12_ChainBacks.f (4096 + l.length + 30) l all last = some true := by
  obtain ⟨r, h1, h2, l1, l2⟩ := back_is l all hn last (4096 + l.length + 30) (by omega)
  unfold tidemarklaw12_ChainBacks.f
  have ha : tidemarklaw12_asking.f (4096 + l.length + 30) l all false last = some r := by
    unfold tidemarklaw12_asking.f
    rw [if_neg (by simp)]
    exact h1
  rw [ha, h2]
  simp only [Option.bind_some]
  have hk : tidemarklaw12_known.f (4096 + l.length + 30) = some true := by
    have := known_is (4096 + l.length + 10)
    rwa [show 20 + (4096 + l.length + 10) = 4096 + l.length + 30 by omega] at this
  rw [hk, same_is r.1 (by omega) _ (by omega), same_is r.2.2 (by omega) _ (by omega)]
  simp
end Go.Proofs.Ytijlcahikeeigaa.Pure
