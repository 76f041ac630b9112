/-
  DERIVED. GIVEN WITH THE SEED: THE CARDS: each row of YtggidhgifaekbaaDoorRows.lean that lists a variable, with what it lists TIED to the program's text (the seventh form; the later family's looks); each row that meets fmt, with fmt's text TOLD by the authors' own Lean function (tested against real Go, not proved from fmt's source: count such statements apart). THE CARD IS WHAT COUNTS. Prove the row's statement (the work); the ties are given (YtggidhgifaekbaaDoorTie.lean); close each card by the builder's one call (the guide's Derived/Test/ToyasCard.lean, 'card_holds'). Laid BY PROGRAM, IN A SANDBOX (cutbox-door.mjs). By AI agents, Wed Nov 11 2026. No macro, syntax, notation, axiom, sorry.
-/
import Derived.Test.YtggidhgifaekbaaDoorRows
import GoSem.ClaimSeven
namespace Go.Proofs.YtggidhgifaekbaaDoor
namespace Rows

/-- THE TIED CARD OF 'pangramlaw03.TypesPrint'. -/
def typesPrintCard : Claim7 := { stood := { row := typesPrintRow, standIns := [], harness := (true, "519d6b4b7662006c27a210b6d420aa442d5d15267794efd9aac45ccf5cde4f65"), looks := false }, kinds := [], alts := [], laidByText := true, laidKinds := [.data, .data, .data], laidTests := true, laidLooks := .later }
def TypesPrintCardSaid : Prop := Claim7.holds Tryd.pinned (.plain (OpenSpec.ofChange typesPrintSpec)) typesPrintCard

/-- THE TIED CARD OF 'pangramlaw03.TypesArrows'. -/
def typesArrowsCard : Claim7 := { stood := { row := typesArrowsRow, standIns := [], harness := (true, "519d6b4b7662006c27a210b6d420aa442d5d15267794efd9aac45ccf5cde4f65"), looks := false }, kinds := [], alts := [], laidByText := true, laidKinds := [.data, .data, .data], laidTests := true, laidLooks := .later }
def TypesArrowsCardSaid : Prop := Claim7.holds Tryd.pinned (.plain (OpenSpec.ofChange typesArrowsSpec)) typesArrowsCard

/-- THE TIED CARD OF 'pangramlaw05.TermApplies'. -/
def termAppliesCard : Claim7 := { stood := { row := termAppliesRow, standIns := [], harness := (true, "519d6b4b7662006c27a210b6d420aa442d5d15267794efd9aac45ccf5cde4f65"), looks := false }, kinds := [], alts := [], laidByText := true, laidKinds := [.listed, .data], laidTests := true, laidLooks := .later }
def TermAppliesCardSaid : Prop := Claim7.holds Tryd.pinned (.plain (OpenSpec.ofChange termAppliesSpec)) termAppliesCard

/-- THE TIED CARD OF 'pangramlaw05.TermRight'. -/
def termRightCard : Claim7 := { stood := { row := termRightRow, standIns := [], harness := (true, "519d6b4b7662006c27a210b6d420aa442d5d15267794efd9aac45ccf5cde4f65"), looks := false }, kinds := [], alts := [], laidByText := true, laidKinds := [.listed, .data], laidTests := true, laidLooks := .later }
def TermRightCardSaid : Prop := Claim7.holds Tryd.pinned (.plain (OpenSpec.ofChange termRightSpec)) termRightCard

/-- THE TIED CARD OF 'pangramlaw03.TypesCanon'. -/
def typesCanonCard : Claim7 := { stood := { row := typesCanonRow, standIns := [], harness := (true, "519d6b4b7662006c27a210b6d420aa442d5d15267794efd9aac45ccf5cde4f65"), looks := false }, kinds := [], alts := [], laidByText := true, laidKinds := [.data, .data, .data], laidTests := true, laidLooks := .later }
def TypesCanonCardSaid : Prop := Claim7.holds Tryd.pinned (.plain (OpenSpec.ofChange typesCanonSpec)) typesCanonCard

/-- THE TIED CARD OF 'pangramlaw10.SubstSolves'. -/
def substSolvesCard : Claim7 := { stood := { row := substSolvesRow, standIns := [], harness := (true, "519d6b4b7662006c27a210b6d420aa442d5d15267794efd9aac45ccf5cde4f65"), looks := false }, kinds := [], alts := [], laidByText := true, laidKinds := [.data, .data, .data], laidTests := true, laidLooks := .later }
def SubstSolvesCardSaid : Prop := Claim7.holds Tryd.pinned (.plain (OpenSpec.ofChange substSolvesSpec)) substSolvesCard

/-- THE TIED CARD OF 'pangramlaw03.TypesRight'. -/
def typesRightCard : Claim7 := { stood := { row := typesRightRow, standIns := [], harness := (true, "519d6b4b7662006c27a210b6d420aa442d5d15267794efd9aac45ccf5cde4f65"), looks := false }, kinds := [], alts := [], laidByText := true, laidKinds := [.data, .data, .data], laidTests := true, laidLooks := .later }
def TypesRightCardSaid : Prop := Claim7.holds Tryd.pinned (.plain (OpenSpec.ofChange typesRightSpec)) typesRightCard

/-- THE TIED CARD OF 'pangramlaw10.SubstAlike'. -/
def substAlikeCard : Claim7 := { stood := { row := substAlikeRow, standIns := [], harness := (true, "519d6b4b7662006c27a210b6d420aa442d5d15267794efd9aac45ccf5cde4f65"), looks := false }, kinds := [], alts := [], laidByText := true, laidKinds := [.data, .data, .data], laidTests := true, laidLooks := .later }
def SubstAlikeCardSaid : Prop := Claim7.holds Tryd.pinned (.plain (OpenSpec.ofChange substAlikeSpec)) substAlikeCard

/-- THE TIED CARD OF 'pangramlaw10.SubstRules'. -/
def substRulesCard : Claim7 := { stood := { row := substRulesRow, standIns := [], harness := (true, "519d6b4b7662006c27a210b6d420aa442d5d15267794efd9aac45ccf5cde4f65"), looks := false }, kinds := [], alts := [], laidByText := true, laidKinds := [.data, .data, .data], laidTests := true, laidLooks := .later }
def SubstRulesCardSaid : Prop := Claim7.holds Tryd.pinned (.plain (OpenSpec.ofChange substRulesSpec)) substRulesCard

/-- THE TIED CARD OF 'pangramlaw10.SubstApplies'. -/
def substAppliesCard : Claim7 := { stood := { row := substAppliesRow, standIns := [], harness := (true, "519d6b4b7662006c27a210b6d420aa442d5d15267794efd9aac45ccf5cde4f65"), looks := false }, kinds := [], alts := [], laidByText := true, laidKinds := [.data, .data, .data], laidTests := true, laidLooks := .later }
def SubstAppliesCardSaid : Prop := Claim7.holds Tryd.pinned (.plain (OpenSpec.ofChange substAppliesSpec)) substAppliesCard

/-- THE TIED CARD OF 'pangramlaw10.SubstThen'. -/
def substThenCard : Claim7 := { stood := { row := substThenRow, standIns := [], harness := (true, "519d6b4b7662006c27a210b6d420aa442d5d15267794efd9aac45ccf5cde4f65"), looks := false }, kinds := [], alts := [], laidByText := true, laidKinds := [.data, .data, .data], laidTests := true, laidLooks := .later }
def SubstThenCardSaid : Prop := Claim7.holds Tryd.pinned (.plain (OpenSpec.ofChange substThenSpec)) substThenCard

/-- THE SECOND FORM's CARD OF 'pangramlaw03.TypesPrint'. -/
def typesPrintUptoCard : Claim7 := { stood := { row := typesPrintUptoRow, standIns := [], harness := (true, "519d6b4b7662006c27a210b6d420aa442d5d15267794efd9aac45ccf5cde4f65"), looks := false }, kinds := [], alts := [], laidByText := true, laidKinds := [.data, .data, .data], laidTests := true, laidLooks := .later }
def TypesPrintUptoCardSaid : Prop := Claim7.holds Tryd.pinned (.plain (OpenSpec.upto typesPrintSpec)) typesPrintUptoCard

/-- THE SECOND FORM's CARD OF 'pangramlaw03.TypesArrows'. -/
def typesArrowsUptoCard : Claim7 := { stood := { row := typesArrowsUptoRow, standIns := [], harness := (true, "519d6b4b7662006c27a210b6d420aa442d5d15267794efd9aac45ccf5cde4f65"), looks := false }, kinds := [], alts := [], laidByText := true, laidKinds := [.data, .data, .data], laidTests := true, laidLooks := .later }
def TypesArrowsUptoCardSaid : Prop := Claim7.holds Tryd.pinned (.plain (OpenSpec.upto typesArrowsSpec)) typesArrowsUptoCard

/-- THE SECOND FORM's CARD OF 'pangramlaw05.TermApplies'. -/
def termAppliesUptoCard : Claim7 := { stood := { row := termAppliesUptoRow, standIns := [], harness := (true, "519d6b4b7662006c27a210b6d420aa442d5d15267794efd9aac45ccf5cde4f65"), looks := false }, kinds := [], alts := [], laidByText := true, laidKinds := [.listed, .data], laidTests := true, laidLooks := .later }
def TermAppliesUptoCardSaid : Prop := Claim7.holds Tryd.pinned (.plain (OpenSpec.upto termAppliesSpec)) termAppliesUptoCard

/-- THE SECOND FORM's CARD OF 'pangramlaw05.TermRight'. -/
def termRightUptoCard : Claim7 := { stood := { row := termRightUptoRow, standIns := [], harness := (true, "519d6b4b7662006c27a210b6d420aa442d5d15267794efd9aac45ccf5cde4f65"), looks := false }, kinds := [], alts := [], laidByText := true, laidKinds := [.listed, .data], laidTests := true, laidLooks := .later }
def TermRightUptoCardSaid : Prop := Claim7.holds Tryd.pinned (.plain (OpenSpec.upto termRightSpec)) termRightUptoCard

/-- THE SECOND FORM's CARD OF 'pangramlaw03.TypesCanon'. -/
def typesCanonUptoCard : Claim7 := { stood := { row := typesCanonUptoRow, standIns := [], harness := (true, "519d6b4b7662006c27a210b6d420aa442d5d15267794efd9aac45ccf5cde4f65"), looks := false }, kinds := [], alts := [], laidByText := true, laidKinds := [.data, .data, .data], laidTests := true, laidLooks := .later }
def TypesCanonUptoCardSaid : Prop := Claim7.holds Tryd.pinned (.plain (OpenSpec.upto typesCanonSpec)) typesCanonUptoCard

/-- THE SECOND FORM's CARD OF 'pangramlaw10.SubstSolves'. -/
def substSolvesUptoCard : Claim7 := { stood := { row := substSolvesUptoRow, standIns := [], harness := (true, "519d6b4b7662006c27a210b6d420aa442d5d15267794efd9aac45ccf5cde4f65"), looks := false }, kinds := [], alts := [], laidByText := true, laidKinds := [.data, .data, .data], laidTests := true, laidLooks := .later }
def SubstSolvesUptoCardSaid : Prop := Claim7.holds Tryd.pinned (.plain (OpenSpec.upto substSolvesSpec)) substSolvesUptoCard

/-- THE SECOND FORM's CARD OF 'pangramlaw03.TypesRight'. -/
def typesRightUptoCard : Claim7 := { stood := { row := typesRightUptoRow, standIns := [], harness := (true, "519d6b4b7662006c27a210b6d420aa442d5d15267794efd9aac45ccf5cde4f65"), looks := false }, kinds := [], alts := [], laidByText := true, laidKinds := [.data, .data, .data], laidTests := true, laidLooks := .later }
def TypesRightUptoCardSaid : Prop := Claim7.holds Tryd.pinned (.plain (OpenSpec.upto typesRightSpec)) typesRightUptoCard

/-- THE SECOND FORM's CARD OF 'pangramlaw10.SubstAlike'. -/
def substAlikeUptoCard : Claim7 := { stood := { row := substAlikeUptoRow, standIns := [], harness := (true, "519d6b4b7662006c27a210b6d420aa442d5d15267794efd9aac45ccf5cde4f65"), looks := false }, kinds := [], alts := [], laidByText := true, laidKinds := [.data, .data, .data], laidTests := true, laidLooks := .later }
def SubstAlikeUptoCardSaid : Prop := Claim7.holds Tryd.pinned (.plain (OpenSpec.upto substAlikeSpec)) substAlikeUptoCard

/-- THE SECOND FORM's CARD OF 'pangramlaw10.SubstRules'. -/
def substRulesUptoCard : Claim7 := { stood := { row := substRulesUptoRow, standIns := [], harness := (true, "519d6b4b7662006c27a210b6d420aa442d5d15267794efd9aac45ccf5cde4f65"), looks := false }, kinds := [], alts := [], laidByText := true, laidKinds := [.data, .data, .data], laidTests := true, laidLooks := .later }
def SubstRulesUptoCardSaid : Prop := Claim7.holds Tryd.pinned (.plain (OpenSpec.upto substRulesSpec)) substRulesUptoCard

/-- THE SECOND FORM's CARD OF 'pangramlaw10.SubstApplies'. -/
def substAppliesUptoCard : Claim7 := { stood := { row := substAppliesUptoRow, standIns := [], harness := (true, "519d6b4b7662006c27a210b6d420aa442d5d15267794efd9aac45ccf5cde4f65"), looks := false }, kinds := [], alts := [], laidByText := true, laidKinds := [.data, .data, .data], laidTests := true, laidLooks := .later }
def SubstAppliesUptoCardSaid : Prop := Claim7.holds Tryd.pinned (.plain (OpenSpec.upto substAppliesSpec)) substAppliesUptoCard

/-- THE SECOND FORM's CARD OF 'pangramlaw10.SubstThen'. -/
def substThenUptoCard : Claim7 := { stood := { row := substThenUptoRow, standIns := [], harness := (true, "519d6b4b7662006c27a210b6d420aa442d5d15267794efd9aac45ccf5cde4f65"), looks := false }, kinds := [], alts := [], laidByText := true, laidKinds := [.data, .data, .data], laidTests := true, laidLooks := .later }
def SubstThenUptoCardSaid : Prop := Claim7.holds Tryd.pinned (.plain (OpenSpec.upto substThenSpec)) substThenUptoCard
end Rows
end Go.Proofs.YtggidhgifaekbaaDoor
