/-
  No cell of these rows narrows 'for every input' (looked for: loops, veiled, ifaces, maps, wideKeys, modest, calm, conditions, laid).
  DERIVED. THE GIVEN ROWS OF THIS SEAT. 5 by the template 'for every input the law returns true; each argument reads behind the call as it read before'; 0 by the template 'total and deterministic' (their statements: YtijlcahikeeigaaTotals.lean).
  GIVEN WITH THE SEED: the statements are not yours to turn. If you find one false, say at which input.
  Laid BY PROGRAM, IN A SANDBOX (cutbox-rows.mjs): the forced cells as the released guide's own fill.sh prints them over the translation 268941117da71997… (all of the seat's roots in one cut). By AI agents, Wed Nov 11 2026. No macro, syntax, notation, axiom, sorry.
-/
import Derived.Test.YtijlcahikeeigaaChecked
import GoSem.Claim
import GoSem.ClaimJoined
import GoSem.ClaimMapViews
import Derived.JoinedTies
import Derived.KernelRfl
namespace Go.Proofs.Ytijlcahikeeigaa
/- THE CELL 'sum', in the pinned program and in every row, IS THE sha256 OF THE DUMP (.gsa) THAT YtijlcahikeeigaaProg.lean LOADS. Nothing in Lean hashes anything: it is a label: what it is worth is what the hold of that sum in a sandbox is worth. -/
noncomputable def Try.pinned : Pinned := { name := "ytijlcahikeeigaa", sum := "268941117da7199774971ffcbe9660e317a12208376d83e8e48bf7a8938ca2a4", checked := Try.checked }
namespace Rows
def none {H : Type} : Left H := { results := [], args := [] }

/-- 'tidemarklaw12.ChainBacks': WHATEVER THE INPUT: true; the input reads as it did. -/
def chainBacksSpec : ChangeSpec := { name := "chainBacks", fn := fun _ => fun
  | [d1, d2, d3] => { results := [.lit (.bool true)], args := [d1, d2, d3] }
  | _ => none }
def chainBacksRow : OpenClaim := { program := "ytijlcahikeeigaa", sum := "268941117da7199774971ffcbe9660e317a12208376d83e8e48bf7a8938ca2a4", func := "tidemark/tidemarklaw12.ChainBacks", spec := "chainBacks", unfollowed := true, recurses := true, apart := false }
def ChainBacksSaid : Prop := chainBacksRow.holds Try.pinned (OpenSpec.ofChange chainBacksSpec)

/-- ITS FALSE NEIGHBOUR: 'it returns false'. Refute it at one input. -/
def chainBacksWrong : ChangeSpec := { name := "chainBacks", fn := fun _ => fun
  | [d1, d2, d3] => { results := [.lit (.bool false)], args := [d1, d2, d3] }
  | _ => none }
def ChainBacksWrongFalsely : Prop := chainBacksRow.holds Try.pinned (OpenSpec.ofChange chainBacksWrong)

/-- 'tidemarklaw12.ChainUndos': WHATEVER THE INPUT: true; the input reads as it did. -/
def chainUndosSpec : ChangeSpec := { name := "chainUndos", fn := fun _ => fun
  | [d1, d2, d3] => { results := [.lit (.bool true)], args := [d1, d2, d3] }
  | _ => none }
def chainUndosRow : OpenClaim := { program := "ytijlcahikeeigaa", sum := "268941117da7199774971ffcbe9660e317a12208376d83e8e48bf7a8938ca2a4", func := "tidemark/tidemarklaw12.ChainUndos", spec := "chainUndos", unfollowed := true, recurses := true, apart := false }
def ChainUndosSaid : Prop := chainUndosRow.holds Try.pinned (OpenSpec.ofChange chainUndosSpec)

/-- ITS FALSE NEIGHBOUR: 'it returns false'. Refute it at one input. -/
def chainUndosWrong : ChangeSpec := { name := "chainUndos", fn := fun _ => fun
  | [d1, d2, d3] => { results := [.lit (.bool false)], args := [d1, d2, d3] }
  | _ => none }
def ChainUndosWrongFalsely : Prop := chainUndosRow.holds Try.pinned (OpenSpec.ofChange chainUndosWrong)

/-- 'tidemarklaw12.ChainWhole': WHATEVER THE INPUT: true; the input reads as it did. -/
def chainWholeSpec : ChangeSpec := { name := "chainWhole", fn := fun _ => fun
  | [d] => { results := [.lit (.bool true)], args := [d] }
  | _ => none }
def chainWholeRow : OpenClaim := { program := "ytijlcahikeeigaa", sum := "268941117da7199774971ffcbe9660e317a12208376d83e8e48bf7a8938ca2a4", func := "tidemark/tidemarklaw12.ChainWhole", spec := "chainWhole", unfollowed := true, recurses := true, apart := false }
def ChainWholeSaid : Prop := chainWholeRow.holds Try.pinned (OpenSpec.ofChange chainWholeSpec)

/-- ITS FALSE NEIGHBOUR: 'it returns false'. Refute it at one input. -/
def chainWholeWrong : ChangeSpec := { name := "chainWhole", fn := fun _ => fun
  | [d] => { results := [.lit (.bool false)], args := [d] }
  | _ => none }
def ChainWholeWrongFalsely : Prop := chainWholeRow.holds Try.pinned (OpenSpec.ofChange chainWholeWrong)

/-- 'tidemarklaw12.ChainEnds': WHATEVER THE INPUT: true; the input reads as it did. -/
def chainEndsSpec : ChangeSpec := { name := "chainEnds", fn := fun _ => fun
  | [d1, d2, d3] => { results := [.lit (.bool true)], args := [d1, d2, d3] }
  | _ => none }
def chainEndsRow : OpenClaim := { program := "ytijlcahikeeigaa", sum := "268941117da7199774971ffcbe9660e317a12208376d83e8e48bf7a8938ca2a4", func := "tidemark/tidemarklaw12.ChainEnds", spec := "chainEnds", unfollowed := true, recurses := true, apart := false }
def ChainEndsSaid : Prop := chainEndsRow.holds Try.pinned (OpenSpec.ofChange chainEndsSpec)

/-- ITS FALSE NEIGHBOUR: 'it returns false'. Refute it at one input. -/
def chainEndsWrong : ChangeSpec := { name := "chainEnds", fn := fun _ => fun
  | [d1, d2, d3] => { results := [.lit (.bool false)], args := [d1, d2, d3] }
  | _ => none }
def ChainEndsWrongFalsely : Prop := chainEndsRow.holds Try.pinned (OpenSpec.ofChange chainEndsWrong)

/-- 'tidemarklaw12.ChainFresh': WHATEVER THE INPUT: true; the input reads as it did. -/
def chainFreshSpec : ChangeSpec := { name := "chainFresh", fn := fun _ => fun
  | [d1, d2] => { results := [.lit (.bool true)], args := [d1, d2] }
  | _ => none }
def chainFreshRow : OpenClaim := { program := "ytijlcahikeeigaa", sum := "268941117da7199774971ffcbe9660e317a12208376d83e8e48bf7a8938ca2a4", func := "tidemark/tidemarklaw12.ChainFresh", spec := "chainFresh", unfollowed := true, recurses := true, apart := false }
def ChainFreshSaid : Prop := chainFreshRow.holds Try.pinned (OpenSpec.ofChange chainFreshSpec)

/-- ITS FALSE NEIGHBOUR: 'it returns false'. Refute it at one input. -/
def chainFreshWrong : ChangeSpec := { name := "chainFresh", fn := fun _ => fun
  | [d1, d2] => { results := [.lit (.bool false)], args := [d1, d2] }
  | _ => none }
def ChainFreshWrongFalsely : Prop := chainFreshRow.holds Try.pinned (OpenSpec.ofChange chainFreshWrong)

/- THE SECOND FORM. 'bulk': how many values and letters a reading holds, each counted each time it is reached (what is shared counts as often as it is met; a slice's spare places count too). A statement '..UptoSaid' is the law's where the arguments, and the package variables that the reading takes, are together of bulk at most 1048576: NARROWER than '..Said'. Prove '..Said' where nothing that the law and all that it calls make is longer than what came in: it says more and counts as full. Else prove '..UptoSaid'. A law counts once. -/
mutual
def uptoBulk {H : Type} : DataW H → Nat
  | .lit (.string bytes) => bytes.length + 1
  | .lit _ => 1
  | .nil => 1
  | .ptr d => uptoBulk d + 1
  | .slice elems spare => uptoBulkAll elems + uptoBulkAll spare + 1
  | .agg parts => uptoBulkAll parts + 1
  | .iface _ d => uptoBulk d + 1
  | .map entries => uptoBulkEntries entries + 1
  | .held _ => 1
def uptoBulkAll {H : Type} : List (DataW H) → Nat
  | [] => 0
  | d :: r => uptoBulk d + uptoBulkAll r
def uptoBulkEntries {H : Type} : List (Lit × DataW H) → Nat
  | [] => 0
  | x :: r => uptoBulkEntry x + uptoBulkEntries r
def uptoBulkEntry {H : Type} : Lit × DataW H → Nat
  | (.string bytes, d) => bytes.length + uptoBulk d + 1
  | (_, d) => uptoBulk d + 1
 end
def uptoSmall : (H : Type) → List (DataW H) → Bool := fun _ ds => decide (uptoBulkAll ds ≤ 1048576)
def OpenSpec.upto (s : _root_.Go.ChangeSpec) : _root_.Go.OpenSpec := { _root_.Go.OpenSpec.ofChange s with cond := some uptoSmall }

/-- 'tidemarklaw12.ChainBacks', WHERE WHAT IT READS IS OF BULK AT MOST 1048576: true; the input reads as it did. -/
def chainBacksUptoRow : OpenClaim := { program := "ytijlcahikeeigaa", sum := "268941117da7199774971ffcbe9660e317a12208376d83e8e48bf7a8938ca2a4", func := "tidemark/tidemarklaw12.ChainBacks", spec := "chainBacks", unfollowed := true, recurses := true, apart := false, narrowed := true }
def ChainBacksUptoSaid : Prop := chainBacksUptoRow.holds Try.pinned (OpenSpec.upto chainBacksSpec)

/-- 'tidemarklaw12.ChainUndos', WHERE WHAT IT READS IS OF BULK AT MOST 1048576: true; the input reads as it did. -/
def chainUndosUptoRow : OpenClaim := { program := "ytijlcahikeeigaa", sum := "268941117da7199774971ffcbe9660e317a12208376d83e8e48bf7a8938ca2a4", func := "tidemark/tidemarklaw12.ChainUndos", spec := "chainUndos", unfollowed := true, recurses := true, apart := false, narrowed := true }
def ChainUndosUptoSaid : Prop := chainUndosUptoRow.holds Try.pinned (OpenSpec.upto chainUndosSpec)

/-- 'tidemarklaw12.ChainWhole', WHERE WHAT IT READS IS OF BULK AT MOST 1048576: true; the input reads as it did. -/
def chainWholeUptoRow : OpenClaim := { program := "ytijlcahikeeigaa", sum := "268941117da7199774971ffcbe9660e317a12208376d83e8e48bf7a8938ca2a4", func := "tidemark/tidemarklaw12.ChainWhole", spec := "chainWhole", unfollowed := true, recurses := true, apart := false, narrowed := true }
def ChainWholeUptoSaid : Prop := chainWholeUptoRow.holds Try.pinned (OpenSpec.upto chainWholeSpec)

/-- 'tidemarklaw12.ChainEnds', WHERE WHAT IT READS IS OF BULK AT MOST 1048576: true; the input reads as it did. -/
def chainEndsUptoRow : OpenClaim := { program := "ytijlcahikeeigaa", sum := "268941117da7199774971ffcbe9660e317a12208376d83e8e48bf7a8938ca2a4", func := "tidemark/tidemarklaw12.ChainEnds", spec := "chainEnds", unfollowed := true, recurses := true, apart := false, narrowed := true }
def ChainEndsUptoSaid : Prop := chainEndsUptoRow.holds Try.pinned (OpenSpec.upto chainEndsSpec)

/-- 'tidemarklaw12.ChainFresh', WHERE WHAT IT READS IS OF BULK AT MOST 1048576: true; the input reads as it did. -/
def chainFreshUptoRow : OpenClaim := { program := "ytijlcahikeeigaa", sum := "268941117da7199774971ffcbe9660e317a12208376d83e8e48bf7a8938ca2a4", func := "tidemark/tidemarklaw12.ChainFresh", spec := "chainFresh", unfollowed := true, recurses := true, apart := false, narrowed := true }
def ChainFreshUptoSaid : Prop := chainFreshUptoRow.holds Try.pinned (OpenSpec.upto chainFreshSpec)

end Rows
end Go.Proofs.Ytijlcahikeeigaa
