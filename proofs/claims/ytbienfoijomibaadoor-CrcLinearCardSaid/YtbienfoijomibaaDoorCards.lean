/-
  DERIVED. GIVEN WITH THE SEED: THE CARDS: each row of YtbienfoijomibaaDoorRows.lean that lists a variable, with what it lists TIED to the program's text (the seventh form; the later family's looks); each row that meets fmt, with fmt's text TOLD by the authors' own Lean function (tested against real Go, not proved from fmt's source: count such statements apart). THE CARD IS WHAT COUNTS. Prove the row's statement (the work); the ties are given (YtbienfoijomibaaDoorTie.lean); close each card by the builder's one call (the guide's Derived/Test/ToyasCard.lean, 'card_holds'). Laid BY PROGRAM, IN A SANDBOX (cutbox-door.mjs). By AI agents, Wed Nov 11 2026. No macro, syntax, notation, axiom, sorry.
-/
import Derived.Test.YtbienfoijomibaaDoorRows
import GoSem.ClaimSeven
namespace Go.Proofs.YtbienfoijomibaaDoor
namespace Rows

/-- THE TIED CARD OF 'tidemarklaw02.CrcSums'. -/
def crcSumsCard : Claim7 := { stood := { row := crcSumsRow, standIns := [], harness := (true, "0ebb443df33d541e4b0879be62b529fcba962e5e0c9e20ec7e4978ff96b4ecaf"), looks := false }, kinds := [], alts := [], laidByText := true, laidKinds := [.data], laidTests := true, laidLooks := .later }
def CrcSumsCardSaid : Prop := Claim7.holds Tryd.pinned (.plain (OpenSpec.ofChange crcSumsSpec)) crcSumsCard

/-- THE TIED CARD OF 'tidemarklaw02.CrcCuts'. -/
def crcCutsCard : Claim7 := { stood := { row := crcCutsRow, standIns := [], harness := (true, "0ebb443df33d541e4b0879be62b529fcba962e5e0c9e20ec7e4978ff96b4ecaf"), looks := false }, kinds := [], alts := [], laidByText := true, laidKinds := [.data], laidTests := true, laidLooks := .later }
def CrcCutsCardSaid : Prop := Claim7.holds Tryd.pinned (.plain (OpenSpec.ofChange crcCutsSpec)) crcCutsCard

/-- THE TIED CARD OF 'tidemarklaw02.CrcBursts'. -/
def crcBurstsCard : Claim7 := { stood := { row := crcBurstsRow, standIns := [], harness := (true, "0ebb443df33d541e4b0879be62b529fcba962e5e0c9e20ec7e4978ff96b4ecaf"), looks := false }, kinds := [], alts := [], laidByText := true, laidKinds := [.data], laidTests := true, laidLooks := .later }
def CrcBurstsCardSaid : Prop := Claim7.holds Tryd.pinned (.plain (OpenSpec.ofChange crcBurstsSpec)) crcBurstsCard

/-- THE TIED CARD OF 'tidemarklaw02.CrcLinear'. -/
def crcLinearCard : Claim7 := { stood := { row := crcLinearRow, standIns := [], harness := (true, "0ebb443df33d541e4b0879be62b529fcba962e5e0c9e20ec7e4978ff96b4ecaf"), looks := false }, kinds := [], alts := [], laidByText := true, laidKinds := [.data], laidTests := true, laidLooks := .later }
def CrcLinearCardSaid : Prop := Claim7.holds Tryd.pinned (.plain (OpenSpec.ofChange crcLinearSpec)) crcLinearCard

/-- THE TIED CARD OF 'tidemarklaw02.CrcKeeps'. -/
def crcKeepsCard : Claim7 := { stood := { row := crcKeepsRow, standIns := [], harness := (true, "0ebb443df33d541e4b0879be62b529fcba962e5e0c9e20ec7e4978ff96b4ecaf"), looks := false }, kinds := [], alts := [], laidByText := true, laidKinds := [.data], laidTests := true, laidLooks := .later }
def CrcKeepsCardSaid : Prop := Claim7.holds Tryd.pinned (.plain (OpenSpec.ofChange crcKeepsSpec)) crcKeepsCard

/-- THE SECOND FORM's CARD OF 'tidemarklaw02.CrcSums'. -/
def crcSumsUptoCard : Claim7 := { stood := { row := crcSumsUptoRow, standIns := [], harness := (true, "0ebb443df33d541e4b0879be62b529fcba962e5e0c9e20ec7e4978ff96b4ecaf"), looks := false }, kinds := [], alts := [], laidByText := true, laidKinds := [.data], laidTests := true, laidLooks := .later }
def CrcSumsUptoCardSaid : Prop := Claim7.holds Tryd.pinned (.plain (OpenSpec.upto crcSumsSpec)) crcSumsUptoCard

/-- THE SECOND FORM's CARD OF 'tidemarklaw02.CrcCuts'. -/
def crcCutsUptoCard : Claim7 := { stood := { row := crcCutsUptoRow, standIns := [], harness := (true, "0ebb443df33d541e4b0879be62b529fcba962e5e0c9e20ec7e4978ff96b4ecaf"), looks := false }, kinds := [], alts := [], laidByText := true, laidKinds := [.data], laidTests := true, laidLooks := .later }
def CrcCutsUptoCardSaid : Prop := Claim7.holds Tryd.pinned (.plain (OpenSpec.upto crcCutsSpec)) crcCutsUptoCard

/-- THE SECOND FORM's CARD OF 'tidemarklaw02.CrcBursts'. -/
def crcBurstsUptoCard : Claim7 := { stood := { row := crcBurstsUptoRow, standIns := [], harness := (true, "0ebb443df33d541e4b0879be62b529fcba962e5e0c9e20ec7e4978ff96b4ecaf"), looks := false }, kinds := [], alts := [], laidByText := true, laidKinds := [.data], laidTests := true, laidLooks := .later }
def CrcBurstsUptoCardSaid : Prop := Claim7.holds Tryd.pinned (.plain (OpenSpec.upto crcBurstsSpec)) crcBurstsUptoCard

/-- THE SECOND FORM's CARD OF 'tidemarklaw02.CrcLinear'. -/
def crcLinearUptoCard : Claim7 := { stood := { row := crcLinearUptoRow, standIns := [], harness := (true, "0ebb443df33d541e4b0879be62b529fcba962e5e0c9e20ec7e4978ff96b4ecaf"), looks := false }, kinds := [], alts := [], laidByText := true, laidKinds := [.data], laidTests := true, laidLooks := .later }
def CrcLinearUptoCardSaid : Prop := Claim7.holds Tryd.pinned (.plain (OpenSpec.upto crcLinearSpec)) crcLinearUptoCard

/-- THE SECOND FORM's CARD OF 'tidemarklaw02.CrcKeeps'. -/
def crcKeepsUptoCard : Claim7 := { stood := { row := crcKeepsUptoRow, standIns := [], harness := (true, "0ebb443df33d541e4b0879be62b529fcba962e5e0c9e20ec7e4978ff96b4ecaf"), looks := false }, kinds := [], alts := [], laidByText := true, laidKinds := [.data], laidTests := true, laidLooks := .later }
def CrcKeepsUptoCardSaid : Prop := Claim7.holds Tryd.pinned (.plain (OpenSpec.upto crcKeepsSpec)) crcKeepsUptoCard
end Rows
end Go.Proofs.YtbienfoijomibaaDoor
