/-
  DERIVED. GIVEN WITH THE SEED: THE CARDS: each row of YtcninopmelmajaaGreatDoorRows.lean that lists a variable, with what it lists TIED to the program's text (the seventh form; the later family's looks); each row that meets fmt, with fmt's text TOLD by the authors' own Lean function (tested against real Go, not proved from fmt's source: count such statements apart). THE CARD IS WHAT COUNTS. Prove the row's statement (the work); the ties are given (YtcninopmelmajaaGreatDoorTie.lean); close each card by the builder's one call (the guide's Derived/Test/ToyasCard.lean, 'card_holds'). Laid BY PROGRAM, IN A SANDBOX (cutbox-door.mjs). By AI agents, Wed Nov 11 2026. No macro, syntax, notation, axiom, sorry.
-/
import Derived.Test.YtcninopmelmajaaGreatDoorRows
import GoSem.ClaimSeven
namespace Go.Proofs.YtcninopmelmajaaGreatDoor
namespace Rows

/-- THE TIED CARD OF 'pangramlaw18.CountCounts'. -/
def countCountsCard : Claim7 := { stood := { row := countCountsRow, standIns := [], harness := (true, "f4a3129ce09264a941a413d51d70ff4ceb526ffa3bcb415d4cad5f2aa84cc2dc"), looks := false }, kinds := [], alts := [], laidByText := true, laidKinds := [.listed, .data], laidTests := true, laidLooks := .later }
def CountCountsCardSaid : Prop := Claim7.holds Tryz.pinned (.plain (OpenSpec.ofChange countCountsSpec)) countCountsCard

/-- THE TIED CARD OF 'pangramlaw17.EqsOf'. -/
def eqsOfCard : Claim7 := { stood := { row := eqsOfRow, standIns := [], harness := (true, "f4a3129ce09264a941a413d51d70ff4ceb526ffa3bcb415d4cad5f2aa84cc2dc"), looks := false }, kinds := [], alts := [], laidByText := true, laidKinds := [.listed, .data], laidTests := true, laidLooks := .later }
def EqsOfCardSaid : Prop := Claim7.holds Tryz.pinned (.plain (OpenSpec.ofChange eqsOfSpec)) eqsOfCard

/-- THE TIED CARD OF 'pangramlaw17.EqsMany'. -/
def eqsManyCard : Claim7 := { stood := { row := eqsManyRow, standIns := [], harness := (true, "f4a3129ce09264a941a413d51d70ff4ceb526ffa3bcb415d4cad5f2aa84cc2dc"), looks := false }, kinds := [], alts := [], laidByText := true, laidKinds := [.listed, .data], laidTests := true, laidLooks := .later }
def EqsManyCardSaid : Prop := Claim7.holds Tryz.pinned (.plain (OpenSpec.ofChange eqsManySpec)) eqsManyCard

/-- THE TIED CARD OF 'pangramlaw17.EqsNames'. -/
def eqsNamesCard : Claim7 := { stood := { row := eqsNamesRow, standIns := [], harness := (true, "f4a3129ce09264a941a413d51d70ff4ceb526ffa3bcb415d4cad5f2aa84cc2dc"), looks := false }, kinds := [], alts := [], laidByText := true, laidKinds := [.listed, .data], laidTests := true, laidLooks := .later }
def EqsNamesCardSaid : Prop := Claim7.holds Tryz.pinned (.plain (OpenSpec.ofChange eqsNamesSpec)) eqsNamesCard

/-- THE TIED CARD OF 'pangramlaw18.CountAgrees'. -/
def countAgreesCard : Claim7 := { stood := { row := countAgreesRow, standIns := [], harness := (true, "f4a3129ce09264a941a413d51d70ff4ceb526ffa3bcb415d4cad5f2aa84cc2dc"), looks := false }, kinds := [], alts := [], laidByText := true, laidKinds := [.listed, .data], laidTests := true, laidLooks := .later }
def CountAgreesCardSaid : Prop := Claim7.holds Tryz.pinned (.plain (OpenSpec.ofChange countAgreesSpec)) countAgreesCard

/-- THE SECOND FORM's CARD OF 'pangramlaw18.CountCounts'. -/
def countCountsUptoCard : Claim7 := { stood := { row := countCountsUptoRow, standIns := [], harness := (true, "f4a3129ce09264a941a413d51d70ff4ceb526ffa3bcb415d4cad5f2aa84cc2dc"), looks := false }, kinds := [], alts := [], laidByText := true, laidKinds := [.listed, .data], laidTests := true, laidLooks := .later }
def CountCountsUptoCardSaid : Prop := Claim7.holds Tryz.pinned (.plain (OpenSpec.upto countCountsSpec)) countCountsUptoCard

/-- THE SECOND FORM's CARD OF 'pangramlaw17.EqsOf'. -/
def eqsOfUptoCard : Claim7 := { stood := { row := eqsOfUptoRow, standIns := [], harness := (true, "f4a3129ce09264a941a413d51d70ff4ceb526ffa3bcb415d4cad5f2aa84cc2dc"), looks := false }, kinds := [], alts := [], laidByText := true, laidKinds := [.listed, .data], laidTests := true, laidLooks := .later }
def EqsOfUptoCardSaid : Prop := Claim7.holds Tryz.pinned (.plain (OpenSpec.upto eqsOfSpec)) eqsOfUptoCard

/-- THE SECOND FORM's CARD OF 'pangramlaw17.EqsMany'. -/
def eqsManyUptoCard : Claim7 := { stood := { row := eqsManyUptoRow, standIns := [], harness := (true, "f4a3129ce09264a941a413d51d70ff4ceb526ffa3bcb415d4cad5f2aa84cc2dc"), looks := false }, kinds := [], alts := [], laidByText := true, laidKinds := [.listed, .data], laidTests := true, laidLooks := .later }
def EqsManyUptoCardSaid : Prop := Claim7.holds Tryz.pinned (.plain (OpenSpec.upto eqsManySpec)) eqsManyUptoCard

/-- THE SECOND FORM's CARD OF 'pangramlaw17.EqsNames'. -/
def eqsNamesUptoCard : Claim7 := { stood := { row := eqsNamesUptoRow, standIns := [], harness := (true, "f4a3129ce09264a941a413d51d70ff4ceb526ffa3bcb415d4cad5f2aa84cc2dc"), looks := false }, kinds := [], alts := [], laidByText := true, laidKinds := [.listed, .data], laidTests := true, laidLooks := .later }
def EqsNamesUptoCardSaid : Prop := Claim7.holds Tryz.pinned (.plain (OpenSpec.upto eqsNamesSpec)) eqsNamesUptoCard

/-- THE SECOND FORM's CARD OF 'pangramlaw18.CountAgrees'. -/
def countAgreesUptoCard : Claim7 := { stood := { row := countAgreesUptoRow, standIns := [], harness := (true, "f4a3129ce09264a941a413d51d70ff4ceb526ffa3bcb415d4cad5f2aa84cc2dc"), looks := false }, kinds := [], alts := [], laidByText := true, laidKinds := [.listed, .data], laidTests := true, laidLooks := .later }
def CountAgreesUptoCardSaid : Prop := Claim7.holds Tryz.pinned (.plain (OpenSpec.upto countAgreesSpec)) countAgreesUptoCard
end Rows
end Go.Proofs.YtcninopmelmajaaGreatDoor
