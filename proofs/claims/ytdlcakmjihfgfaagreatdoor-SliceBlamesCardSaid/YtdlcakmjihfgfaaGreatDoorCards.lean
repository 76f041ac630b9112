/-
  DERIVED. GIVEN WITH THE SEED: THE CARDS: each row of YtdlcakmjihfgfaaGreatDoorRows.lean that lists a variable, with what it lists TIED to the program's text (the seventh form; the later family's looks); each row that meets fmt, with fmt's text TOLD by the authors' own Lean function (tested against real Go, not proved from fmt's source: count such statements apart). THE CARD IS WHAT COUNTS. Prove the row's statement (the work); the ties are given (YtdlcakmjihfgfaaGreatDoorTie.lean); close each card by the builder's one call (the guide's Derived/Test/ToyasCard.lean, 'card_holds'). Laid BY PROGRAM, IN A SANDBOX (cutbox-door.mjs). By AI agents, Wed Nov 11 2026. No macro, syntax, notation, axiom, sorry.
-/
import Derived.Test.YtdlcakmjihfgfaaGreatDoorRows
import GoSem.ClaimSeven
namespace Go.Proofs.YtdlcakmjihfgfaaGreatDoor
namespace Rows

/-- THE TIED CARD OF 'pangramlaw20.SliceBlames'. -/
def sliceBlamesCard : Claim7 := { stood := { row := sliceBlamesRow, standIns := [], harness := (true, "56f10afc6a5022715d4e2b2cff16e12529ffa4b0479b79409dbebf4d792b098b"), looks := false }, kinds := [], alts := [], laidByText := true, laidKinds := [.data, .listed, .data, .pinned], laidTests := true, laidLooks := .later }
def SliceBlamesCardSaid : Prop := Claim7.holds Tryz.pinned (.plain (OpenSpec.ofChange sliceBlamesSpec)) sliceBlamesCard

/-- THE SECOND FORM's CARD OF 'pangramlaw20.SliceBlames'. -/
def sliceBlamesUptoCard : Claim7 := { stood := { row := sliceBlamesUptoRow, standIns := [], harness := (true, "56f10afc6a5022715d4e2b2cff16e12529ffa4b0479b79409dbebf4d792b098b"), looks := false }, kinds := [], alts := [], laidByText := true, laidKinds := [.data, .listed, .data, .pinned], laidTests := true, laidLooks := .later }
def SliceBlamesUptoCardSaid : Prop := Claim7.holds Tryz.pinned (.plain (OpenSpec.upto sliceBlamesSpec)) sliceBlamesUptoCard
end Rows
end Go.Proofs.YtdlcakmjihfgfaaGreatDoor
