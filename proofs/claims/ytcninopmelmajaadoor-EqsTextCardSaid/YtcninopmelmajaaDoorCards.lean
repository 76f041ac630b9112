/-
  DERIVED. GIVEN WITH THE SEED: THE CARDS: each row of YtcninopmelmajaaDoorRows.lean that lists a variable, with what it lists TIED to the program's text (the seventh form; the later family's looks); each row that meets fmt, with fmt's text TOLD by the authors' own Lean function (tested against real Go, not proved from fmt's source: count such statements apart). THE CARD IS WHAT COUNTS. Prove the row's statement (the work); the ties are given (YtcninopmelmajaaDoorTie.lean); close each card by the builder's one call (the guide's Derived/Test/ToyasCard.lean, 'card_holds'). Laid BY PROGRAM, IN A SANDBOX (cutbox-door.mjs). By AI agents, Wed Nov 11 2026. No macro, syntax, notation, axiom, sorry.
-/
import Derived.Test.YtcninopmelmajaaDoorRows
import GoSem.ClaimSeven
namespace Go.Proofs.YtcninopmelmajaaDoor
namespace Rows

/-- THE TIED CARD OF 'pangramlaw17.EqsText'. -/
def eqsTextCard : Claim7 := { stood := { row := eqsTextRow, standIns := [], harness := (true, "81231709f27d3577cb3e2061488b112cf9bc60588cfa7e7e0e7212411c48053d"), looks := false }, kinds := [], alts := [], laidByText := true, laidKinds := [.listed, .data], laidTests := true, laidLooks := .later }
def EqsTextCardSaid : Prop := Claim7.holds Tryd.pinned (.plain (OpenSpec.ofChange eqsTextSpec)) eqsTextCard

/-- THE SECOND FORM's CARD OF 'pangramlaw17.EqsText'. -/
def eqsTextUptoCard : Claim7 := { stood := { row := eqsTextUptoRow, standIns := [], harness := (true, "81231709f27d3577cb3e2061488b112cf9bc60588cfa7e7e0e7212411c48053d"), looks := false }, kinds := [], alts := [], laidByText := true, laidKinds := [.listed, .data], laidTests := true, laidLooks := .later }
def EqsTextUptoCardSaid : Prop := Claim7.holds Tryd.pinned (.plain (OpenSpec.upto eqsTextSpec)) eqsTextUptoCard
end Rows
end Go.Proofs.YtcninopmelmajaaDoor
