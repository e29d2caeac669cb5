/-
  DERIVED. GIVEN WITH THE SEED: THE CARDS: each row of YtpokmmoleijbeaaGreatDoorRows.lean that lists a variable, with what it lists TIED to the program's text (the seventh form; the later family's looks); each row that meets fmt, with fmt's text TOLD by the authors' own Lean function (tested against real Go, not proved from fmt's source: count such statements apart). THE CARD IS WHAT COUNTS. Prove the row's statement (the work); the ties are given (YtpokmmoleijbeaaGreatDoorTie.lean); close each card by the builder's one call (the guide's Derived/Test/ToyasCard.lean, 'card_holds'). Laid BY PROGRAM, IN A SANDBOX (cutbox-door.mjs). By AI agents, Wed Nov 11 2026. No macro, syntax, notation, axiom, sorry.
-/
import Derived.Test.YtpokmmoleijbeaaGreatDoorRows
import GoSem.ClaimSeven
namespace Go.Proofs.YtpokmmoleijbeaaGreatDoor
namespace Rows

/-- THE TIED CARD OF 'sepallaw41.LibraryTexts'. -/
def libraryTextsCard : Claim7 := { stood := { row := libraryTextsRow, standIns := [], harness := (true, "e3c2c0e1fd184f5d67d91c7040ba59809e21b198358d100e9ddf1dc10f04c5d2"), looks := true }, kinds := [], alts := [], laidByText := true, laidKinds := [.data, .data, .data, .sentinel, .sentinel, .listed, .data, .mapped, .mapped], laidTests := true, laidLooks := .later }
def LibraryTextsCardSaid : Prop := Claim7.holds Tryz.pinned (.plain (OpenSpec.ofChange libraryTextsSpec)) libraryTextsCard

/-- THE SECOND FORM's CARD OF 'sepallaw41.LibraryTexts'. -/
def libraryTextsUptoCard : Claim7 := { stood := { row := libraryTextsUptoRow, standIns := [], harness := (true, "e3c2c0e1fd184f5d67d91c7040ba59809e21b198358d100e9ddf1dc10f04c5d2"), looks := true }, kinds := [], alts := [], laidByText := true, laidKinds := [.data, .data, .data, .sentinel, .sentinel, .listed, .data, .mapped, .mapped], laidTests := true, laidLooks := .later }
def LibraryTextsUptoCardSaid : Prop := Claim7.holds Tryz.pinned (.plain (OpenSpec.upto libraryTextsSpec)) libraryTextsUptoCard
end Rows
end Go.Proofs.YtpokmmoleijbeaaGreatDoor
