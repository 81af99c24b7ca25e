/-
  No cell of these rows narrows 'for every input' (looked for: loops, veiled, ifaces, maps, wideKeys, modest, calm, conditions, laid).
  DERIVED. THE GIVEN ROWS OF THIS SEAT. 4 by the template 'for every input the law returns true; each argument reads behind the call as it read before'; 0 by the template 'total and deterministic' (their statements: YtjalkjoaepbhbaaTotals.lean).
  GIVEN WITH THE SEED: the statements are not yours to turn. If you find one false, say at which input.
  Laid BY PROGRAM, IN A SANDBOX (cutbox-rows.mjs): the forced cells as the released guide's own fill.sh prints them over the translation 1c0fd8f7ff3c0a56… (all of the seat's roots in one cut). By AI agents, Wed Nov 11 2026. No macro, syntax, notation, axiom, sorry.
-/
import Derived.Test.YtjalkjoaepbhbaaChecked
import GoSem.Claim
import GoSem.ClaimJoined
import GoSem.ClaimMapViews
import Derived.JoinedTies
import Derived.KernelRfl
namespace Go.Proofs.Ytjalkjoaepbhbaa
/- THE CELL 'sum', in the pinned program and in every row, IS THE sha256 OF THE DUMP (.gsa) THAT YtjalkjoaepbhbaaProg.lean LOADS. Nothing in Lean hashes anything: it is a label: what it is worth is what the hold of that sum in a sandbox is worth. -/
noncomputable def Try.pinned : Pinned := { name := "ytjalkjoaepbhbaa", sum := "1c0fd8f7ff3c0a56b61c6a58e9d488f3b631cb42740075e5cb867c5807352501", checked := Try.checked }
namespace Rows
def none {H : Type} : Left H := { results := [], args := [] }

/-- 'tidemarklaw15.LockAll': WHATEVER THE INPUT: true; the input reads as it did. -/
def lockAllSpec : ChangeSpec := { name := "lockAll", fn := fun _ => fun
  | [d] => { results := [.lit (.bool true)], args := [d] }
  | _ => none }
def lockAllRow : OpenClaim := { program := "ytjalkjoaepbhbaa", sum := "1c0fd8f7ff3c0a56b61c6a58e9d488f3b631cb42740075e5cb867c5807352501", func := "tidemark/tidemarklaw15.LockAll", spec := "lockAll", recurses := true, apart := false }
def LockAllSaid : Prop := lockAllRow.holds Try.pinned (OpenSpec.ofChange lockAllSpec)

/-- ITS FALSE NEIGHBOUR: 'it returns false'. Refute it at one input. -/
def lockAllWrong : ChangeSpec := { name := "lockAll", fn := fun _ => fun
  | [d] => { results := [.lit (.bool false)], args := [d] }
  | _ => none }
def LockAllWrongFalsely : Prop := lockAllRow.holds Try.pinned (OpenSpec.ofChange lockAllWrong)

/-- 'tidemarklaw15.LockOne': WHATEVER THE INPUT: true; the input reads as it did. -/
def lockOneSpec : ChangeSpec := { name := "lockOne", fn := fun _ => fun
  | [d1, d2, d3] => { results := [.lit (.bool true)], args := [d1, d2, d3] }
  | _ => none }
def lockOneRow : OpenClaim := { program := "ytjalkjoaepbhbaa", sum := "1c0fd8f7ff3c0a56b61c6a58e9d488f3b631cb42740075e5cb867c5807352501", func := "tidemark/tidemarklaw15.LockOne", spec := "lockOne", recurses := true, apart := false }
def LockOneSaid : Prop := lockOneRow.holds Try.pinned (OpenSpec.ofChange lockOneSpec)

/-- ITS FALSE NEIGHBOUR: 'it returns false'. Refute it at one input. -/
def lockOneWrong : ChangeSpec := { name := "lockOne", fn := fun _ => fun
  | [d1, d2, d3] => { results := [.lit (.bool false)], args := [d1, d2, d3] }
  | _ => none }
def LockOneWrongFalsely : Prop := lockOneRow.holds Try.pinned (OpenSpec.ofChange lockOneWrong)

/-- 'tidemarklaw15.LockGoes': WHATEVER THE INPUT: true; the input reads as it did. -/
def lockGoesSpec : ChangeSpec := { name := "lockGoes", fn := fun _ => fun
  | [d1, d2, d3] => { results := [.lit (.bool true)], args := [d1, d2, d3] }
  | _ => none }
def lockGoesRow : OpenClaim := { program := "ytjalkjoaepbhbaa", sum := "1c0fd8f7ff3c0a56b61c6a58e9d488f3b631cb42740075e5cb867c5807352501", func := "tidemark/tidemarklaw15.LockGoes", spec := "lockGoes", recurses := true, apart := false }
def LockGoesSaid : Prop := lockGoesRow.holds Try.pinned (OpenSpec.ofChange lockGoesSpec)

/-- ITS FALSE NEIGHBOUR: 'it returns false'. Refute it at one input. -/
def lockGoesWrong : ChangeSpec := { name := "lockGoes", fn := fun _ => fun
  | [d1, d2, d3] => { results := [.lit (.bool false)], args := [d1, d2, d3] }
  | _ => none }
def LockGoesWrongFalsely : Prop := lockGoesRow.holds Try.pinned (OpenSpec.ofChange lockGoesWrong)

/-- 'tidemarklaw15.LockFresh': WHATEVER THE INPUT: true; the input reads as it did. -/
def lockFreshSpec : ChangeSpec := { name := "lockFresh", fn := fun _ => fun
  | [d1, d2] => { results := [.lit (.bool true)], args := [d1, d2] }
  | _ => none }
def lockFreshRow : OpenClaim := { program := "ytjalkjoaepbhbaa", sum := "1c0fd8f7ff3c0a56b61c6a58e9d488f3b631cb42740075e5cb867c5807352501", func := "tidemark/tidemarklaw15.LockFresh", spec := "lockFresh", recurses := true, apart := false }
def LockFreshSaid : Prop := lockFreshRow.holds Try.pinned (OpenSpec.ofChange lockFreshSpec)

/-- ITS FALSE NEIGHBOUR: 'it returns false'. Refute it at one input. -/
def lockFreshWrong : ChangeSpec := { name := "lockFresh", fn := fun _ => fun
  | [d1, d2] => { results := [.lit (.bool false)], args := [d1, d2] }
  | _ => none }
def LockFreshWrongFalsely : Prop := lockFreshRow.holds Try.pinned (OpenSpec.ofChange lockFreshWrong)

/- THE SECOND FORM. 'bulk': how many values and letters a reading holds, each counted each time it is reached (what is shared counts as often as it is met; a slice's spare places count too). A statement '..UptoSaid' is the law's where the arguments, and the package variables that the reading takes, are together of bulk at most 1048576: NARROWER than '..Said'. Prove '..Said' where nothing that the law and all that it calls make is longer than what came in: it says more and counts as full. Else prove '..UptoSaid'. A law counts once. -/
mutual
def uptoBulk {H : Type} : DataW H → Nat
  | .lit (.string bytes) => bytes.length + 1
  | .lit _ => 1
  | .nil => 1
  | .ptr d => uptoBulk d + 1
  | .slice elems spare => uptoBulkAll elems + uptoBulkAll spare + 1
  | .agg parts => uptoBulkAll parts + 1
  | .iface _ d => uptoBulk d + 1
  | .map entries => uptoBulkEntries entries + 1
  | .held _ => 1
def uptoBulkAll {H : Type} : List (DataW H) → Nat
  | [] => 0
  | d :: r => uptoBulk d + uptoBulkAll r
def uptoBulkEntries {H : Type} : List (Lit × DataW H) → Nat
  | [] => 0
  | x :: r => uptoBulkEntry x + uptoBulkEntries r
def uptoBulkEntry {H : Type} : Lit × DataW H → Nat
  | (.string bytes, d) => bytes.length + uptoBulk d + 1
  | (_, d) => uptoBulk d + 1
 end
def uptoSmall : (H : Type) → List (DataW H) → Bool := fun _ ds => decide (uptoBulkAll ds ≤ 1048576)
def OpenSpec.upto (s : _root_.Go.ChangeSpec) : _root_.Go.OpenSpec := { _root_.Go.OpenSpec.ofChange s with cond := some uptoSmall }

/-- 'tidemarklaw15.LockAll', WHERE WHAT IT READS IS OF BULK AT MOST 1048576: true; the input reads as it did. -/
def lockAllUptoRow : OpenClaim := { program := "ytjalkjoaepbhbaa", sum := "1c0fd8f7ff3c0a56b61c6a58e9d488f3b631cb42740075e5cb867c5807352501", func := "tidemark/tidemarklaw15.LockAll", spec := "lockAll", recurses := true, apart := false, narrowed := true }
def LockAllUptoSaid : Prop := lockAllUptoRow.holds Try.pinned (OpenSpec.upto lockAllSpec)

/-- 'tidemarklaw15.LockOne', WHERE WHAT IT READS IS OF BULK AT MOST 1048576: true; the input reads as it did. -/
def lockOneUptoRow : OpenClaim := { program := "ytjalkjoaepbhbaa", sum := "1c0fd8f7ff3c0a56b61c6a58e9d488f3b631cb42740075e5cb867c5807352501", func := "tidemark/tidemarklaw15.LockOne", spec := "lockOne", recurses := true, apart := false, narrowed := true }
def LockOneUptoSaid : Prop := lockOneUptoRow.holds Try.pinned (OpenSpec.upto lockOneSpec)

/-- 'tidemarklaw15.LockGoes', WHERE WHAT IT READS IS OF BULK AT MOST 1048576: true; the input reads as it did. -/
def lockGoesUptoRow : OpenClaim := { program := "ytjalkjoaepbhbaa", sum := "1c0fd8f7ff3c0a56b61c6a58e9d488f3b631cb42740075e5cb867c5807352501", func := "tidemark/tidemarklaw15.LockGoes", spec := "lockGoes", recurses := true, apart := false, narrowed := true }
def LockGoesUptoSaid : Prop := lockGoesUptoRow.holds Try.pinned (OpenSpec.upto lockGoesSpec)

/-- 'tidemarklaw15.LockFresh', WHERE WHAT IT READS IS OF BULK AT MOST 1048576: true; the input reads as it did. -/
def lockFreshUptoRow : OpenClaim := { program := "ytjalkjoaepbhbaa", sum := "1c0fd8f7ff3c0a56b61c6a58e9d488f3b631cb42740075e5cb867c5807352501", func := "tidemark/tidemarklaw15.LockFresh", spec := "lockFresh", recurses := true, apart := false, narrowed := true }
def LockFreshUptoSaid : Prop := lockFreshUptoRow.holds Try.pinned (OpenSpec.upto lockFreshSpec)

end Rows
end Go.Proofs.Ytjalkjoaepbhbaa
