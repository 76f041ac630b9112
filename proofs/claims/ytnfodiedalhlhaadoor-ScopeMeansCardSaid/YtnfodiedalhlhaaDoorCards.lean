/-
  DERIVED. GIVEN WITH THE SEED: THE CARDS: each row of YtnfodiedalhlhaaDoorRows.lean that lists a variable, with what it lists TIED to the program's text (the seventh form; the later family's looks); each row that meets fmt, with fmt's text TOLD by the authors' own Lean function (tested against real Go, not proved from fmt's source: count such statements apart). THE CARD IS WHAT COUNTS. Prove the row's statement (the work); the ties are given (YtnfodiedalhlhaaDoorTie.lean); close each card by the builder's one call (the guide's Derived/Test/ToyasCard.lean, 'card_holds'). Laid BY PROGRAM, IN A SANDBOX (cutbox-door.mjs). By AI agents, Wed Nov 11 2026. No macro, syntax, notation, axiom, sorry.
-/
import Derived.Test.YtnfodiedalhlhaaDoorRows
import GoSem.ClaimSeven
namespace Go.Proofs.YtnfodiedalhlhaaDoor
namespace Rows

/-- THE TIED CARD OF 'pangramlaw08.ScopeText'. -/
def scopeTextCard : Claim7 := { stood := { row := scopeTextRow, standIns := [], harness := (true, "d900359c906a030d6bad2cdba350d3011f0876e9a2c4594d10ef3570c5e7281c"), looks := false }, kinds := [], alts := [], laidByText := true, laidKinds := [.listed, .data], laidTests := true, laidLooks := .later }
def ScopeTextCardSaid : Prop := Claim7.holds Tryd.pinned (.plain (OpenSpec.ofChange scopeTextSpec)) scopeTextCard

/-- THE TIED CARD OF 'pangramlaw08.ScopeResolves'. -/
def scopeResolvesCard : Claim7 := { stood := { row := scopeResolvesRow, standIns := [], harness := (true, "d900359c906a030d6bad2cdba350d3011f0876e9a2c4594d10ef3570c5e7281c"), looks := false }, kinds := [], alts := [], laidByText := true, laidKinds := [.listed, .data], laidTests := true, laidLooks := .later }
def ScopeResolvesCardSaid : Prop := Claim7.holds Tryd.pinned (.plain (OpenSpec.ofChange scopeResolvesSpec)) scopeResolvesCard

/-- THE TIED CARD OF 'pangramlaw08.ScopeAlike'. -/
def scopeAlikeCard : Claim7 := { stood := { row := scopeAlikeRow, standIns := [], harness := (true, "d900359c906a030d6bad2cdba350d3011f0876e9a2c4594d10ef3570c5e7281c"), looks := false }, kinds := [], alts := [], laidByText := true, laidKinds := [.listed, .data], laidTests := true, laidLooks := .later }
def ScopeAlikeCardSaid : Prop := Claim7.holds Tryd.pinned (.plain (OpenSpec.ofChange scopeAlikeSpec)) scopeAlikeCard

/-- THE TIED CARD OF 'pangramlaw08.ScopeRenames'. -/
def scopeRenamesCard : Claim7 := { stood := { row := scopeRenamesRow, standIns := [], harness := (true, "d900359c906a030d6bad2cdba350d3011f0876e9a2c4594d10ef3570c5e7281c"), looks := false }, kinds := [], alts := [], laidByText := true, laidKinds := [.listed, .data], laidTests := true, laidLooks := .later }
def ScopeRenamesCardSaid : Prop := Claim7.holds Tryd.pinned (.plain (OpenSpec.ofChange scopeRenamesSpec)) scopeRenamesCard

/-- THE TIED CARD OF 'pangramlaw08.ScopeMeans'. -/
def scopeMeansCard : Claim7 := { stood := { row := scopeMeansRow, standIns := [], harness := (true, "d900359c906a030d6bad2cdba350d3011f0876e9a2c4594d10ef3570c5e7281c"), looks := false }, kinds := [], alts := [], laidByText := true, laidKinds := [.listed, .data], laidTests := true, laidLooks := .later }
def ScopeMeansCardSaid : Prop := Claim7.holds Tryd.pinned (.plain (OpenSpec.ofChange scopeMeansSpec)) scopeMeansCard

/-- THE TIED CARD OF 'pangramlaw18.CountDoubles'. -/
def countDoublesCard : Claim7 := { stood := { row := countDoublesRow, standIns := [], harness := (true, "d900359c906a030d6bad2cdba350d3011f0876e9a2c4594d10ef3570c5e7281c"), looks := false }, kinds := [], alts := [], laidByText := true, laidKinds := [.listed, .data], laidTests := true, laidLooks := .later }
def CountDoublesCardSaid : Prop := Claim7.holds Tryd.pinned (.plain (OpenSpec.ofChange countDoublesSpec)) countDoublesCard

/-- THE TIED CARD OF 'pangramlaw18.CountBounds'. -/
def countBoundsCard : Claim7 := { stood := { row := countBoundsRow, standIns := [], harness := (true, "d900359c906a030d6bad2cdba350d3011f0876e9a2c4594d10ef3570c5e7281c"), looks := false }, kinds := [], alts := [], laidByText := true, laidKinds := [.listed, .data], laidTests := true, laidLooks := .later }
def CountBoundsCardSaid : Prop := Claim7.holds Tryd.pinned (.plain (OpenSpec.ofChange countBoundsSpec)) countBoundsCard

/-- THE TIED CARD OF 'pangramlaw18.CountNames'. -/
def countNamesCard : Claim7 := { stood := { row := countNamesRow, standIns := [], harness := (true, "d900359c906a030d6bad2cdba350d3011f0876e9a2c4594d10ef3570c5e7281c"), looks := false }, kinds := [], alts := [], laidByText := true, laidKinds := [.listed, .data], laidTests := true, laidLooks := .later }
def CountNamesCardSaid : Prop := Claim7.holds Tryd.pinned (.plain (OpenSpec.ofChange countNamesSpec)) countNamesCard

/-- THE SECOND FORM's CARD OF 'pangramlaw08.ScopeText'. -/
def scopeTextUptoCard : Claim7 := { stood := { row := scopeTextUptoRow, standIns := [], harness := (true, "d900359c906a030d6bad2cdba350d3011f0876e9a2c4594d10ef3570c5e7281c"), looks := false }, kinds := [], alts := [], laidByText := true, laidKinds := [.listed, .data], laidTests := true, laidLooks := .later }
def ScopeTextUptoCardSaid : Prop := Claim7.holds Tryd.pinned (.plain (OpenSpec.upto scopeTextSpec)) scopeTextUptoCard

/-- THE SECOND FORM's CARD OF 'pangramlaw08.ScopeResolves'. -/
def scopeResolvesUptoCard : Claim7 := { stood := { row := scopeResolvesUptoRow, standIns := [], harness := (true, "d900359c906a030d6bad2cdba350d3011f0876e9a2c4594d10ef3570c5e7281c"), looks := false }, kinds := [], alts := [], laidByText := true, laidKinds := [.listed, .data], laidTests := true, laidLooks := .later }
def ScopeResolvesUptoCardSaid : Prop := Claim7.holds Tryd.pinned (.plain (OpenSpec.upto scopeResolvesSpec)) scopeResolvesUptoCard

/-- THE SECOND FORM's CARD OF 'pangramlaw08.ScopeAlike'. -/
def scopeAlikeUptoCard : Claim7 := { stood := { row := scopeAlikeUptoRow, standIns := [], harness := (true, "d900359c906a030d6bad2cdba350d3011f0876e9a2c4594d10ef3570c5e7281c"), looks := false }, kinds := [], alts := [], laidByText := true, laidKinds := [.listed, .data], laidTests := true, laidLooks := .later }
def ScopeAlikeUptoCardSaid : Prop := Claim7.holds Tryd.pinned (.plain (OpenSpec.upto scopeAlikeSpec)) scopeAlikeUptoCard

/-- THE SECOND FORM's CARD OF 'pangramlaw08.ScopeRenames'. -/
def scopeRenamesUptoCard : Claim7 := { stood := { row := scopeRenamesUptoRow, standIns := [], harness := (true, "d900359c906a030d6bad2cdba350d3011f0876e9a2c4594d10ef3570c5e7281c"), looks := false }, kinds := [], alts := [], laidByText := true, laidKinds := [.listed, .data], laidTests := true, laidLooks := .later }
def ScopeRenamesUptoCardSaid : Prop := Claim7.holds Tryd.pinned (.plain (OpenSpec.upto scopeRenamesSpec)) scopeRenamesUptoCard

/-- THE SECOND FORM's CARD OF 'pangramlaw08.ScopeMeans'. -/
def scopeMeansUptoCard : Claim7 := { stood := { row := scopeMeansUptoRow, standIns := [], harness := (true, "d900359c906a030d6bad2cdba350d3011f0876e9a2c4594d10ef3570c5e7281c"), looks := false }, kinds := [], alts := [], laidByText := true, laidKinds := [.listed, .data], laidTests := true, laidLooks := .later }
def ScopeMeansUptoCardSaid : Prop := Claim7.holds Tryd.pinned (.plain (OpenSpec.upto scopeMeansSpec)) scopeMeansUptoCard

/-- THE SECOND FORM's CARD OF 'pangramlaw18.CountDoubles'. -/
def countDoublesUptoCard : Claim7 := { stood := { row := countDoublesUptoRow, standIns := [], harness := (true, "d900359c906a030d6bad2cdba350d3011f0876e9a2c4594d10ef3570c5e7281c"), looks := false }, kinds := [], alts := [], laidByText := true, laidKinds := [.listed, .data], laidTests := true, laidLooks := .later }
def CountDoublesUptoCardSaid : Prop := Claim7.holds Tryd.pinned (.plain (OpenSpec.upto countDoublesSpec)) countDoublesUptoCard

/-- THE SECOND FORM's CARD OF 'pangramlaw18.CountBounds'. -/
def countBoundsUptoCard : Claim7 := { stood := { row := countBoundsUptoRow, standIns := [], harness := (true, "d900359c906a030d6bad2cdba350d3011f0876e9a2c4594d10ef3570c5e7281c"), looks := false }, kinds := [], alts := [], laidByText := true, laidKinds := [.listed, .data], laidTests := true, laidLooks := .later }
def CountBoundsUptoCardSaid : Prop := Claim7.holds Tryd.pinned (.plain (OpenSpec.upto countBoundsSpec)) countBoundsUptoCard

/-- THE SECOND FORM's CARD OF 'pangramlaw18.CountNames'. -/
def countNamesUptoCard : Claim7 := { stood := { row := countNamesUptoRow, standIns := [], harness := (true, "d900359c906a030d6bad2cdba350d3011f0876e9a2c4594d10ef3570c5e7281c"), looks := false }, kinds := [], alts := [], laidByText := true, laidKinds := [.listed, .data], laidTests := true, laidLooks := .later }
def CountNamesUptoCardSaid : Prop := Claim7.holds Tryd.pinned (.plain (OpenSpec.upto countNamesSpec)) countNamesUptoCard
end Rows
end Go.Proofs.YtnfodiedalhlhaaDoor
