/-
  No cell of these rows narrows 'for every input' (looked for: loops, veiled, ifaces, maps, wideKeys, modest, calm, conditions, laid).
  DERIVED. THE GIVEN ROWS OF THIS SEAT. 5 by the template 'for every input the law returns true; each argument reads behind the call as it read before'; 0 by the template 'total and deterministic' (their statements: YtolnhhafjojjeaaTotals.lean).
  GIVEN WITH THE SEED: the statements are not yours to turn. If you find one false, say at which input.
  Laid BY PROGRAM, IN A SANDBOX (cutbox-rows.mjs): the forced cells as the released guide's own fill.sh prints them over the translation 56d4dfe1bed42c25… (all of the seat's roots in one cut). By AI agents, Wed Nov 11 2026. No macro, syntax, notation, axiom, sorry.
-/
import Derived.Test.YtolnhhafjojjeaaChecked
import GoSem.Claim
import GoSem.ClaimJoined
import GoSem.ClaimMapViews
import Derived.JoinedTies
import Derived.KernelRfl
namespace Go.Proofs.Ytolnhhafjojjeaa
/- THE CELL 'sum', in the pinned program and in every row, IS THE sha256 OF THE DUMP (.gsa) THAT YtolnhhafjojjeaaProg.lean LOADS. Nothing in Lean hashes anything: it is a label: what it is worth is what the hold of that sum in a sandbox is worth. -/
noncomputable def Try.pinned : Pinned := { name := "ytolnhhafjojjeaa", sum := "56d4dfe1bed42c25b34ca2d8419088ee8df89b65c752044a7b8ed788355f3734", checked := Try.checked }
namespace Rows
def none {H : Type} : Left H := { results := [], args := [] }

/-- 'tidemarklaw03.ImageParts': WHATEVER THE INPUT: true; the input reads as it did. -/
def imagePartsSpec : ChangeSpec := { name := "imageParts", fn := fun _ => fun
  | [d1, d2] => { results := [.lit (.bool true)], args := [d1, d2] }
  | _ => none }
def imagePartsRow : OpenClaim := { program := "ytolnhhafjojjeaa", sum := "56d4dfe1bed42c25b34ca2d8419088ee8df89b65c752044a7b8ed788355f3734", func := "tidemark/tidemarklaw03.ImageParts", spec := "imageParts", apart := false }
def ImagePartsSaid : Prop := imagePartsRow.holds Try.pinned (OpenSpec.ofChange imagePartsSpec)

/-- ITS FALSE NEIGHBOUR: 'it returns false'. Refute it at one input. -/
def imagePartsWrong : ChangeSpec := { name := "imageParts", fn := fun _ => fun
  | [d1, d2] => { results := [.lit (.bool false)], args := [d1, d2] }
  | _ => none }
def ImagePartsWrongFalsely : Prop := imagePartsRow.holds Try.pinned (OpenSpec.ofChange imagePartsWrong)

/-- 'tidemarklaw03.ImageLays': WHATEVER THE INPUT: true; the input reads as it did. -/
def imageLaysSpec : ChangeSpec := { name := "imageLays", fn := fun _ => fun
  | [d1, d2, d3, d4] => { results := [.lit (.bool true)], args := [d1, d2, d3, d4] }
  | _ => none }
def imageLaysRow : OpenClaim := { program := "ytolnhhafjojjeaa", sum := "56d4dfe1bed42c25b34ca2d8419088ee8df89b65c752044a7b8ed788355f3734", func := "tidemark/tidemarklaw03.ImageLays", spec := "imageLays", apart := false }
def ImageLaysSaid : Prop := imageLaysRow.holds Try.pinned (OpenSpec.ofChange imageLaysSpec)

/-- ITS FALSE NEIGHBOUR: 'it returns false'. Refute it at one input. -/
def imageLaysWrong : ChangeSpec := { name := "imageLays", fn := fun _ => fun
  | [d1, d2, d3, d4] => { results := [.lit (.bool false)], args := [d1, d2, d3, d4] }
  | _ => none }
def ImageLaysWrongFalsely : Prop := imageLaysRow.holds Try.pinned (OpenSpec.ofChange imageLaysWrong)

/-- 'tidemarklaw03.ImageTurns': WHATEVER THE INPUT: true; the input reads as it did. -/
def imageTurnsSpec : ChangeSpec := { name := "imageTurns", fn := fun _ => fun
  | [d1, d2] => { results := [.lit (.bool true)], args := [d1, d2] }
  | _ => none }
def imageTurnsRow : OpenClaim := { program := "ytolnhhafjojjeaa", sum := "56d4dfe1bed42c25b34ca2d8419088ee8df89b65c752044a7b8ed788355f3734", func := "tidemark/tidemarklaw03.ImageTurns", spec := "imageTurns", apart := false }
def ImageTurnsSaid : Prop := imageTurnsRow.holds Try.pinned (OpenSpec.ofChange imageTurnsSpec)

/-- ITS FALSE NEIGHBOUR: 'it returns false'. Refute it at one input. -/
def imageTurnsWrong : ChangeSpec := { name := "imageTurns", fn := fun _ => fun
  | [d1, d2] => { results := [.lit (.bool false)], args := [d1, d2] }
  | _ => none }
def ImageTurnsWrongFalsely : Prop := imageTurnsRow.holds Try.pinned (OpenSpec.ofChange imageTurnsWrong)

/-- 'tidemarklaw03.ImagePieces': WHATEVER THE INPUT: true; the input reads as it did. -/
def imagePiecesSpec : ChangeSpec := { name := "imagePieces", fn := fun _ => fun
  | [d1, d2, d3] => { results := [.lit (.bool true)], args := [d1, d2, d3] }
  | _ => none }
def imagePiecesRow : OpenClaim := { program := "ytolnhhafjojjeaa", sum := "56d4dfe1bed42c25b34ca2d8419088ee8df89b65c752044a7b8ed788355f3734", func := "tidemark/tidemarklaw03.ImagePieces", spec := "imagePieces", apart := false }
def ImagePiecesSaid : Prop := imagePiecesRow.holds Try.pinned (OpenSpec.ofChange imagePiecesSpec)

/-- ITS FALSE NEIGHBOUR: 'it returns false'. Refute it at one input. -/
def imagePiecesWrong : ChangeSpec := { name := "imagePieces", fn := fun _ => fun
  | [d1, d2, d3] => { results := [.lit (.bool false)], args := [d1, d2, d3] }
  | _ => none }
def ImagePiecesWrongFalsely : Prop := imagePiecesRow.holds Try.pinned (OpenSpec.ofChange imagePiecesWrong)

/-- 'tidemarklaw03.ImageKeeps': WHATEVER THE INPUT: true; the input reads as it did. -/
def imageKeepsSpec : ChangeSpec := { name := "imageKeeps", fn := fun _ => fun
  | [d1, d2] => { results := [.lit (.bool true)], args := [d1, d2] }
  | _ => none }
def imageKeepsRow : OpenClaim := { program := "ytolnhhafjojjeaa", sum := "56d4dfe1bed42c25b34ca2d8419088ee8df89b65c752044a7b8ed788355f3734", func := "tidemark/tidemarklaw03.ImageKeeps", spec := "imageKeeps", apart := false }
def ImageKeepsSaid : Prop := imageKeepsRow.holds Try.pinned (OpenSpec.ofChange imageKeepsSpec)

/-- ITS FALSE NEIGHBOUR: 'it returns false'. Refute it at one input. -/
def imageKeepsWrong : ChangeSpec := { name := "imageKeeps", fn := fun _ => fun
  | [d1, d2] => { results := [.lit (.bool false)], args := [d1, d2] }
  | _ => none }
def ImageKeepsWrongFalsely : Prop := imageKeepsRow.holds Try.pinned (OpenSpec.ofChange imageKeepsWrong)

/- THE SECOND FORM. 'bulk': how many values and letters a reading holds, each counted each time it is reached (what is shared counts as often as it is met; a slice's spare places count too). A statement '..UptoSaid' is the law's where the arguments, and the package variables that the reading takes, are together of bulk at most 1048576: NARROWER than '..Said'. Prove '..Said' where nothing that the law and all that it calls make is longer than what came in: it says more and counts as full. Else prove '..UptoSaid'. A law counts once. -/
mutual
def uptoBulk {H : Type} : DataW H → Nat
  | .lit (.string bytes) => bytes.length + 1
  | .lit _ => 1
  | .nil => 1
  | .ptr d => uptoBulk d + 1
  | .slice elems spare => uptoBulkAll elems + uptoBulkAll spare + 1
  | .agg parts => uptoBulkAll parts + 1
  | .iface _ d => uptoBulk d + 1
  | .map entries => uptoBulkEntries entries + 1
  | .held _ => 1
def uptoBulkAll {H : Type} : List (DataW H) → Nat
  | [] => 0
  | d :: r => uptoBulk d + uptoBulkAll r
def uptoBulkEntries {H : Type} : List (Lit × DataW H) → Nat
  | [] => 0
  | x :: r => uptoBulkEntry x + uptoBulkEntries r
def uptoBulkEntry {H : Type} : Lit × DataW H → Nat
  | (.string bytes, d) => bytes.length + uptoBulk d + 1
  | (_, d) => uptoBulk d + 1
 end
def uptoSmall : (H : Type) → List (DataW H) → Bool := fun _ ds => decide (uptoBulkAll ds ≤ 1048576)
def OpenSpec.upto (s : _root_.Go.ChangeSpec) : _root_.Go.OpenSpec := { _root_.Go.OpenSpec.ofChange s with cond := some uptoSmall }

/-- 'tidemarklaw03.ImageParts', WHERE WHAT IT READS IS OF BULK AT MOST 1048576: true; the input reads as it did. -/
def imagePartsUptoRow : OpenClaim := { program := "ytolnhhafjojjeaa", sum := "56d4dfe1bed42c25b34ca2d8419088ee8df89b65c752044a7b8ed788355f3734", func := "tidemark/tidemarklaw03.ImageParts", spec := "imageParts", apart := false, narrowed := true }
def ImagePartsUptoSaid : Prop := imagePartsUptoRow.holds Try.pinned (OpenSpec.upto imagePartsSpec)

/-- 'tidemarklaw03.ImageLays', WHERE WHAT IT READS IS OF BULK AT MOST 1048576: true; the input reads as it did. -/
def imageLaysUptoRow : OpenClaim := { program := "ytolnhhafjojjeaa", sum := "56d4dfe1bed42c25b34ca2d8419088ee8df89b65c752044a7b8ed788355f3734", func := "tidemark/tidemarklaw03.ImageLays", spec := "imageLays", apart := false, narrowed := true }
def ImageLaysUptoSaid : Prop := imageLaysUptoRow.holds Try.pinned (OpenSpec.upto imageLaysSpec)

/-- 'tidemarklaw03.ImageTurns', WHERE WHAT IT READS IS OF BULK AT MOST 1048576: true; the input reads as it did. -/
def imageTurnsUptoRow : OpenClaim := { program := "ytolnhhafjojjeaa", sum := "56d4dfe1bed42c25b34ca2d8419088ee8df89b65c752044a7b8ed788355f3734", func := "tidemark/tidemarklaw03.ImageTurns", spec := "imageTurns", apart := false, narrowed := true }
def ImageTurnsUptoSaid : Prop := imageTurnsUptoRow.holds Try.pinned (OpenSpec.upto imageTurnsSpec)

/-- 'tidemarklaw03.ImagePieces', WHERE WHAT IT READS IS OF BULK AT MOST 1048576: true; the input reads as it did. -/
def imagePiecesUptoRow : OpenClaim := { program := "ytolnhhafjojjeaa", sum := "56d4dfe1bed42c25b34ca2d8419088ee8df89b65c752044a7b8ed788355f3734", func := "tidemark/tidemarklaw03.ImagePieces", spec := "imagePieces", apart := false, narrowed := true }
def ImagePiecesUptoSaid : Prop := imagePiecesUptoRow.holds Try.pinned (OpenSpec.upto imagePiecesSpec)

/-- 'tidemarklaw03.ImageKeeps', WHERE WHAT IT READS IS OF BULK AT MOST 1048576: true; the input reads as it did. -/
def imageKeepsUptoRow : OpenClaim := { program := "ytolnhhafjojjeaa", sum := "56d4dfe1bed42c25b34ca2d8419088ee8df89b65c752044a7b8ed788355f3734", func := "tidemark/tidemarklaw03.ImageKeeps", spec := "imageKeeps", apart := false, narrowed := true }
def ImageKeepsUptoSaid : Prop := imageKeepsUptoRow.holds Try.pinned (OpenSpec.upto imageKeepsSpec)

end Rows
end Go.Proofs.Ytolnhhafjojjeaa
