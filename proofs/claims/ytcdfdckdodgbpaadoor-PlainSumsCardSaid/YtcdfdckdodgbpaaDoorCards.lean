/-
  DERIVED. GIVEN WITH THE SEED: THE CARDS: each row of YtcdfdckdodgbpaaDoorRows.lean that lists a variable, with what it lists TIED to the program's text (the seventh form; the later family's looks); each row that meets fmt, with fmt's text TOLD by the authors' own Lean function (tested against real Go, not proved from fmt's source: count such statements apart). THE CARD IS WHAT COUNTS. Prove the row's statement (the work); the ties are given (YtcdfdckdodgbpaaDoorTie.lean); close each card by the builder's one call (the guide's Derived/Test/ToyasCard.lean, 'card_holds'). Laid BY PROGRAM, IN A SANDBOX (cutbox-door.mjs). By AI agents, Wed Nov 11 2026. No macro, syntax, notation, axiom, sorry.
-/
import Derived.Test.YtcdfdckdodgbpaaDoorRows
import GoSem.ClaimSeven
namespace Go.Proofs.YtcdfdckdodgbpaaDoor
namespace Rows

/-- THE TIED CARD OF 'tidemarklaw18.PlainFolds'. -/
def plainFoldsCard : Claim7 := { stood := { row := plainFoldsRow, standIns := [], harness := (true, "50c0a206cfe54ecd3211839ca130f6cb40af2a0f8b6b903dd64f59962d277350"), looks := true }, kinds := [], alts := [], laidByText := true, laidKinds := [.data, .data, .data, .handle], laidTests := true, laidLooks := .later }
def PlainFoldsCardSaid : Prop := Claim7.holds Tryd.pinned (.plain (OpenSpec.ofChange plainFoldsSpec)) plainFoldsCard

/-- THE TIED CARD OF 'tidemarklaw18.PlainSums'. -/
def plainSumsCard : Claim7 := { stood := { row := plainSumsRow, standIns := [], harness := (true, "50c0a206cfe54ecd3211839ca130f6cb40af2a0f8b6b903dd64f59962d277350"), looks := true }, kinds := [], alts := [], laidByText := true, laidKinds := [.data, .data, .data, .handle], laidTests := true, laidLooks := .later }
def PlainSumsCardSaid : Prop := Claim7.holds Tryd.pinned (.plain (OpenSpec.ofChange plainSumsSpec)) plainSumsCard

/-- THE SECOND FORM's CARD OF 'tidemarklaw18.PlainFolds'. -/
def plainFoldsUptoCard : Claim7 := { stood := { row := plainFoldsUptoRow, standIns := [], harness := (true, "50c0a206cfe54ecd3211839ca130f6cb40af2a0f8b6b903dd64f59962d277350"), looks := true }, kinds := [], alts := [], laidByText := true, laidKinds := [.data, .data, .data, .handle], laidTests := true, laidLooks := .later }
def PlainFoldsUptoCardSaid : Prop := Claim7.holds Tryd.pinned (.plain (OpenSpec.upto plainFoldsSpec)) plainFoldsUptoCard

/-- THE SECOND FORM's CARD OF 'tidemarklaw18.PlainSums'. -/
def plainSumsUptoCard : Claim7 := { stood := { row := plainSumsUptoRow, standIns := [], harness := (true, "50c0a206cfe54ecd3211839ca130f6cb40af2a0f8b6b903dd64f59962d277350"), looks := true }, kinds := [], alts := [], laidByText := true, laidKinds := [.data, .data, .data, .handle], laidTests := true, laidLooks := .later }
def PlainSumsUptoCardSaid : Prop := Claim7.holds Tryd.pinned (.plain (OpenSpec.upto plainSumsSpec)) plainSumsUptoCard
end Rows
end Go.Proofs.YtcdfdckdodgbpaaDoor
