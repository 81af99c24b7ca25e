/-
  DERIVED. GIVEN WITH THE SEED: THE CARDS: each row of YtcdfdckdodgbpaaGreatDoorRows.lean that lists a variable, with what it lists TIED to the program's text (the seventh form; the later family's looks); each row that meets fmt, with fmt's text TOLD by the authors' own Lean function (tested against real Go, not proved from fmt's source: count such statements apart). THE CARD IS WHAT COUNTS. Prove the row's statement (the work); the ties are given (YtcdfdckdodgbpaaGreatDoorTie.lean); close each card by the builder's one call (the guide's Derived/Test/ToyasCard.lean, 'card_holds'). Laid BY PROGRAM, IN A SANDBOX (cutbox-door.mjs). By AI agents, Wed Nov 11 2026. No macro, syntax, notation, axiom, sorry.
-/
import Derived.Test.YtcdfdckdodgbpaaGreatDoorRows
import GoSem.ClaimSeven
namespace Go.Proofs.YtcdfdckdodgbpaaGreatDoor
namespace Rows

/-- THE TIED CARD OF 'tidemarklaw18.PlainSerial'. -/
def plainSerialCard : Claim7 := { stood := { row := plainSerialRow, standIns := [], harness := (true, "50c56e3cfbd62f7c7f58030786611aa259e4f31652ead9dadecf880465939247"), looks := true }, kinds := [], alts := [], laidByText := true, laidKinds := [.data, .data, .data, .handle], laidTests := true, laidLooks := .later }
def PlainSerialCardSaid : Prop := Claim7.holds Tryz.pinned (.plain (OpenSpec.ofChange plainSerialSpec)) plainSerialCard

/-- THE TIED CARD OF 'tidemarklaw18.PlainApart'. -/
def plainApartCard : Claim7 := { stood := { row := plainApartRow, standIns := [], harness := (true, "50c56e3cfbd62f7c7f58030786611aa259e4f31652ead9dadecf880465939247"), looks := true }, kinds := [], alts := [], laidByText := true, laidKinds := [.data, .data, .data, .handle], laidTests := true, laidLooks := .later }
def PlainApartCardSaid : Prop := Claim7.holds Tryz.pinned (.plain (OpenSpec.ofChange plainApartSpec)) plainApartCard

/-- THE TIED CARD OF 'tidemarklaw18.PlainKeeps'. -/
def plainKeepsCard : Claim7 := { stood := { row := plainKeepsRow, standIns := [], harness := (true, "50c56e3cfbd62f7c7f58030786611aa259e4f31652ead9dadecf880465939247"), looks := true }, kinds := [], alts := [], laidByText := true, laidKinds := [.data, .data, .data, .handle], laidTests := true, laidLooks := .later }
def PlainKeepsCardSaid : Prop := Claim7.holds Tryz.pinned (.plain (OpenSpec.ofChange plainKeepsSpec)) plainKeepsCard

/-- THE SECOND FORM's CARD OF 'tidemarklaw18.PlainSerial'. -/
def plainSerialUptoCard : Claim7 := { stood := { row := plainSerialUptoRow, standIns := [], harness := (true, "50c56e3cfbd62f7c7f58030786611aa259e4f31652ead9dadecf880465939247"), looks := true }, kinds := [], alts := [], laidByText := true, laidKinds := [.data, .data, .data, .handle], laidTests := true, laidLooks := .later }
def PlainSerialUptoCardSaid : Prop := Claim7.holds Tryz.pinned (.plain (OpenSpec.upto plainSerialSpec)) plainSerialUptoCard

/-- THE SECOND FORM's CARD OF 'tidemarklaw18.PlainApart'. -/
def plainApartUptoCard : Claim7 := { stood := { row := plainApartUptoRow, standIns := [], harness := (true, "50c56e3cfbd62f7c7f58030786611aa259e4f31652ead9dadecf880465939247"), looks := true }, kinds := [], alts := [], laidByText := true, laidKinds := [.data, .data, .data, .handle], laidTests := true, laidLooks := .later }
def PlainApartUptoCardSaid : Prop := Claim7.holds Tryz.pinned (.plain (OpenSpec.upto plainApartSpec)) plainApartUptoCard

/-- THE SECOND FORM's CARD OF 'tidemarklaw18.PlainKeeps'. -/
def plainKeepsUptoCard : Claim7 := { stood := { row := plainKeepsUptoRow, standIns := [], harness := (true, "50c56e3cfbd62f7c7f58030786611aa259e4f31652ead9dadecf880465939247"), looks := true }, kinds := [], alts := [], laidByText := true, laidKinds := [.data, .data, .data, .handle], laidTests := true, laidLooks := .later }
def PlainKeepsUptoCardSaid : Prop := Claim7.holds Tryz.pinned (.plain (OpenSpec.upto plainKeepsSpec)) plainKeepsUptoCard
end Rows
end Go.Proofs.YtcdfdckdodgbpaaGreatDoor
