/-
  DERIVED. GIVEN WITH THE SEED: THE CARDS: each row of YtdlcakmjihfgfaaDoorRows.lean that lists a variable, with what it lists TIED to the program's text (the seventh form; the later family's looks); each row that meets fmt, with fmt's text TOLD by the authors' own Lean function (tested against real Go, not proved from fmt's source: count such statements apart). THE CARD IS WHAT COUNTS. Prove the row's statement (the work); the ties are given (YtdlcakmjihfgfaaDoorTie.lean); close each card by the builder's one call (the guide's Derived/Test/ToyasCard.lean, 'card_holds'). Laid BY PROGRAM, IN A SANDBOX (cutbox-door.mjs). By AI agents, Wed Nov 11 2026. No macro, syntax, notation, axiom, sorry.
-/
import Derived.Test.YtdlcakmjihfgfaaDoorRows
import GoSem.ClaimSeven
namespace Go.Proofs.YtdlcakmjihfgfaaDoor
namespace Rows

/-- THE TIED CARD OF 'pangramlaw20.SliceMarks'. -/
def sliceMarksCard : Claim7 := { stood := { row := sliceMarksRow, standIns := [], harness := (true, "e087ec63d464efb145c8977b7548878e3488c5589be6bc0f8420a063d5b7fdd8"), looks := false }, kinds := [], alts := [], laidByText := true, laidKinds := [.data, .pinned], laidTests := true, laidLooks := .later }
def SliceMarksCardSaid : Prop := Claim7.holds Tryd.pinned (.plain (OpenSpec.ofChange sliceMarksSpec)) sliceMarksCard

/-- THE TIED CARD OF 'pangramlaw20.SliceBack'. -/
def sliceBackCard : Claim7 := { stood := { row := sliceBackRow, standIns := [], harness := (true, "e087ec63d464efb145c8977b7548878e3488c5589be6bc0f8420a063d5b7fdd8"), looks := false }, kinds := [], alts := [], laidByText := true, laidKinds := [.data, .pinned], laidTests := true, laidLooks := .later }
def SliceBackCardSaid : Prop := Claim7.holds Tryd.pinned (.plain (OpenSpec.ofChange sliceBackSpec)) sliceBackCard

/-- THE TIED CARD OF 'pangramlaw20.SliceOf'. -/
def sliceOfCard : Claim7 := { stood := { row := sliceOfRow, standIns := [], harness := (true, "e087ec63d464efb145c8977b7548878e3488c5589be6bc0f8420a063d5b7fdd8"), looks := false }, kinds := [], alts := [], laidByText := true, laidKinds := [.data, .pinned], laidTests := true, laidLooks := .later }
def SliceOfCardSaid : Prop := Claim7.holds Tryd.pinned (.plain (OpenSpec.ofChange sliceOfSpec)) sliceOfCard

/-- THE SECOND FORM's CARD OF 'pangramlaw20.SliceMarks'. -/
def sliceMarksUptoCard : Claim7 := { stood := { row := sliceMarksUptoRow, standIns := [], harness := (true, "e087ec63d464efb145c8977b7548878e3488c5589be6bc0f8420a063d5b7fdd8"), looks := false }, kinds := [], alts := [], laidByText := true, laidKinds := [.data, .pinned], laidTests := true, laidLooks := .later }
def SliceMarksUptoCardSaid : Prop := Claim7.holds Tryd.pinned (.plain (OpenSpec.upto sliceMarksSpec)) sliceMarksUptoCard

/-- THE SECOND FORM's CARD OF 'pangramlaw20.SliceBack'. -/
def sliceBackUptoCard : Claim7 := { stood := { row := sliceBackUptoRow, standIns := [], harness := (true, "e087ec63d464efb145c8977b7548878e3488c5589be6bc0f8420a063d5b7fdd8"), looks := false }, kinds := [], alts := [], laidByText := true, laidKinds := [.data, .pinned], laidTests := true, laidLooks := .later }
def SliceBackUptoCardSaid : Prop := Claim7.holds Tryd.pinned (.plain (OpenSpec.upto sliceBackSpec)) sliceBackUptoCard

/-- THE SECOND FORM's CARD OF 'pangramlaw20.SliceOf'. -/
def sliceOfUptoCard : Claim7 := { stood := { row := sliceOfUptoRow, standIns := [], harness := (true, "e087ec63d464efb145c8977b7548878e3488c5589be6bc0f8420a063d5b7fdd8"), looks := false }, kinds := [], alts := [], laidByText := true, laidKinds := [.data, .pinned], laidTests := true, laidLooks := .later }
def SliceOfUptoCardSaid : Prop := Claim7.holds Tryd.pinned (.plain (OpenSpec.upto sliceOfSpec)) sliceOfUptoCard
end Rows
end Go.Proofs.YtdlcakmjihfgfaaDoor
