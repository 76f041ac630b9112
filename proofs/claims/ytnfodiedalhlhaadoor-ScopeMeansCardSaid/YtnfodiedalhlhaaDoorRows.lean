/-
  NARROWER THAN 'FOR EVERY INPUT', by the rows' own cells (each row's printed sentence says how): ScopeText: laid · ScopeResolves: loops, laid · ScopeAlike: loops, laid · ScopeRenames: loops, laid · ScopeMeans: loops, laid · CountDoubles: laid · CountBounds: laid · CountNames: loops, laid.
  DERIVED. THE GIVEN ROWS OF THIS SEAT. 8 by the template 'for every input the law returns true; each argument reads behind the call as it read before'; 0 by the template 'total and deterministic' (their statements: YtnfodiedalhlhaaDoorTotals.lean).
  GIVEN WITH THE SEED: the statements are not yours to turn. If you find one false, say at which input.
  Laid BY PROGRAM, IN A SANDBOX (cutbox-rows.mjs): the forced cells as the released guide's own fill.sh prints them over the translation f94de40351568aff… (all of the seat's roots in one cut). By AI agents, Wed Nov 11 2026. No macro, syntax, notation, axiom, sorry.
-/
import Derived.Test.YtnfodiedalhlhaaDoorChecked
import GoSem.Claim
import GoSem.ClaimJoined
import GoSem.ClaimMapViews
import Derived.JoinedTies
import Derived.KernelRfl
namespace Go.Proofs.YtnfodiedalhlhaaDoor
/- THE CELL 'sum', in the pinned program and in every row, IS THE sha256 OF THE DUMP (.gsa) THAT YtnfodiedalhlhaaDoorProg.lean LOADS. Nothing in Lean hashes anything: it is a label: what it is worth is what the hold of that sum in a sandbox is worth. -/
noncomputable def Tryd.pinned : Pinned := { name := "ytnfodiedalhlhaadoor", sum := "f94de40351568aff769ba9d99b8968c3d72d141e92f020cf66575afe11baa519", checked := Tryd.checked }
namespace Rows
def none {H : Type} : Left H := { results := [], args := [] }

/- WHAT THE LISTED PACKAGE-LEVEL VARIABLES READ AS WHEN THE CALL BEGINS. Each datum BY PROGRAM (the guide's laid-datum.mjs) off the statement by which the dump's own 'gosem.cut.vars' lays the variable. In a bare row this is a premise. The card (YtnfodiedalhlhaaDoorCards.lean) ties it to the program's text. -/
def laid_unicode_White_Space {H : Type} : DataW H := .ptr (.agg [.slice [.agg [.lit (.int .u16 9), .lit (.int .u16 13), .lit (.int .u16 1)], .agg [.lit (.int .u16 32), .lit (.int .u16 133), .lit (.int .u16 101)], .agg [.lit (.int .u16 160), .lit (.int .u16 5760), .lit (.int .u16 5600)], .agg [.lit (.int .u16 8192), .lit (.int .u16 8202), .lit (.int .u16 1)], .agg [.lit (.int .u16 8232), .lit (.int .u16 8233), .lit (.int .u16 1)], .agg [.lit (.int .u16 8239), .lit (.int .u16 8287), .lit (.int .u16 48)], .agg [.lit (.int .u16 12288), .lit (.int .u16 12288), .lit (.int .u16 1)]] [], .nil, .lit (.int .i64 2)])
def laid_strings_asciiSpace {H : Type} : DataW H := .agg [.lit (.int .u8 0), .lit (.int .u8 0), .lit (.int .u8 0), .lit (.int .u8 0), .lit (.int .u8 0), .lit (.int .u8 0), .lit (.int .u8 0), .lit (.int .u8 0), .lit (.int .u8 0), .lit (.int .u8 1), .lit (.int .u8 1), .lit (.int .u8 1), .lit (.int .u8 1), .lit (.int .u8 1), .lit (.int .u8 0), .lit (.int .u8 0), .lit (.int .u8 0), .lit (.int .u8 0), .lit (.int .u8 0), .lit (.int .u8 0), .lit (.int .u8 0), .lit (.int .u8 0), .lit (.int .u8 0), .lit (.int .u8 0), .lit (.int .u8 0), .lit (.int .u8 0), .lit (.int .u8 0), .lit (.int .u8 0), .lit (.int .u8 0), .lit (.int .u8 0), .lit (.int .u8 0), .lit (.int .u8 0), .lit (.int .u8 1), .lit (.int .u8 0), .lit (.int .u8 0), .lit (.int .u8 0), .lit (.int .u8 0), .lit (.int .u8 0), .lit (.int .u8 0), .lit (.int .u8 0), .lit (.int .u8 0), .lit (.int .u8 0), .lit (.int .u8 0), .lit (.int .u8 0), .lit (.int .u8 0), .lit (.int .u8 0), .lit (.int .u8 0), .lit (.int .u8 0), .lit (.int .u8 0), .lit (.int .u8 0), .lit (.int .u8 0), .lit (.int .u8 0), .lit (.int .u8 0), .lit (.int .u8 0), .lit (.int .u8 0), .lit (.int .u8 0), .lit (.int .u8 0), .lit (.int .u8 0), .lit (.int .u8 0), .lit (.int .u8 0), .lit (.int .u8 0), .lit (.int .u8 0), .lit (.int .u8 0), .lit (.int .u8 0), .lit (.int .u8 0), .lit (.int .u8 0), .lit (.int .u8 0), .lit (.int .u8 0), .lit (.int .u8 0), .lit (.int .u8 0), .lit (.int .u8 0), .lit (.int .u8 0), .lit (.int .u8 0), .lit (.int .u8 0), .lit (.int .u8 0), .lit (.int .u8 0), .lit (.int .u8 0), .lit (.int .u8 0), .lit (.int .u8 0), .lit (.int .u8 0), .lit (.int .u8 0), .lit (.int .u8 0), .lit (.int .u8 0), .lit (.int .u8 0), .lit (.int .u8 0), .lit (.int .u8 0), .lit (.int .u8 0), .lit (.int .u8 0), .lit (.int .u8 0), .lit (.int .u8 0), .lit (.int .u8 0), .lit (.int .u8 0), .lit (.int .u8 0), .lit (.int .u8 0), .lit (.int .u8 0), .lit (.int .u8 0), .lit (.int .u8 0), .lit (.int .u8 0), .lit (.int .u8 0), .lit (.int .u8 0), .lit (.int .u8 0), .lit (.int .u8 0), .lit (.int .u8 0), .lit (.int .u8 0), .lit (.int .u8 0), .lit (.int .u8 0), .lit (.int .u8 0), .lit (.int .u8 0), .lit (.int .u8 0), .lit (.int .u8 0), .lit (.int .u8 0), .lit (.int .u8 0), .lit (.int .u8 0), .lit (.int .u8 0), .lit (.int .u8 0), .lit (.int .u8 0), .lit (.int .u8 0), .lit (.int .u8 0), .lit (.int .u8 0), .lit (.int .u8 0), .lit (.int .u8 0), .lit (.int .u8 0), .lit (.int .u8 0), .lit (.int .u8 0), .lit (.int .u8 0), .lit (.int .u8 0), .lit (.int .u8 0), .lit (.int .u8 0), .lit (.int .u8 0), .lit (.int .u8 0), .lit (.int .u8 0), .lit (.int .u8 0), .lit (.int .u8 0), .lit (.int .u8 0), .lit (.int .u8 0), .lit (.int .u8 0), .lit (.int .u8 0), .lit (.int .u8 0), .lit (.int .u8 0), .lit (.int .u8 0), .lit (.int .u8 0), .lit (.int .u8 0), .lit (.int .u8 0), .lit (.int .u8 0), .lit (.int .u8 0), .lit (.int .u8 0), .lit (.int .u8 0), .lit (.int .u8 0), .lit (.int .u8 0), .lit (.int .u8 0), .lit (.int .u8 0), .lit (.int .u8 0), .lit (.int .u8 0), .lit (.int .u8 0), .lit (.int .u8 0), .lit (.int .u8 0), .lit (.int .u8 0), .lit (.int .u8 0), .lit (.int .u8 0), .lit (.int .u8 0), .lit (.int .u8 0), .lit (.int .u8 0), .lit (.int .u8 0), .lit (.int .u8 0), .lit (.int .u8 0), .lit (.int .u8 0), .lit (.int .u8 0), .lit (.int .u8 0), .lit (.int .u8 0), .lit (.int .u8 0), .lit (.int .u8 0), .lit (.int .u8 0), .lit (.int .u8 0), .lit (.int .u8 0), .lit (.int .u8 0), .lit (.int .u8 0), .lit (.int .u8 0), .lit (.int .u8 0), .lit (.int .u8 0), .lit (.int .u8 0), .lit (.int .u8 0), .lit (.int .u8 0), .lit (.int .u8 0), .lit (.int .u8 0), .lit (.int .u8 0), .lit (.int .u8 0), .lit (.int .u8 0), .lit (.int .u8 0), .lit (.int .u8 0), .lit (.int .u8 0), .lit (.int .u8 0), .lit (.int .u8 0), .lit (.int .u8 0), .lit (.int .u8 0), .lit (.int .u8 0), .lit (.int .u8 0), .lit (.int .u8 0), .lit (.int .u8 0), .lit (.int .u8 0), .lit (.int .u8 0), .lit (.int .u8 0), .lit (.int .u8 0), .lit (.int .u8 0), .lit (.int .u8 0), .lit (.int .u8 0), .lit (.int .u8 0), .lit (.int .u8 0), .lit (.int .u8 0), .lit (.int .u8 0), .lit (.int .u8 0), .lit (.int .u8 0), .lit (.int .u8 0), .lit (.int .u8 0), .lit (.int .u8 0), .lit (.int .u8 0), .lit (.int .u8 0), .lit (.int .u8 0), .lit (.int .u8 0), .lit (.int .u8 0), .lit (.int .u8 0), .lit (.int .u8 0), .lit (.int .u8 0), .lit (.int .u8 0), .lit (.int .u8 0), .lit (.int .u8 0), .lit (.int .u8 0), .lit (.int .u8 0), .lit (.int .u8 0), .lit (.int .u8 0), .lit (.int .u8 0), .lit (.int .u8 0), .lit (.int .u8 0), .lit (.int .u8 0), .lit (.int .u8 0), .lit (.int .u8 0), .lit (.int .u8 0), .lit (.int .u8 0), .lit (.int .u8 0), .lit (.int .u8 0), .lit (.int .u8 0), .lit (.int .u8 0), .lit (.int .u8 0), .lit (.int .u8 0), .lit (.int .u8 0), .lit (.int .u8 0), .lit (.int .u8 0), .lit (.int .u8 0), .lit (.int .u8 0), .lit (.int .u8 0), .lit (.int .u8 0), .lit (.int .u8 0), .lit (.int .u8 0), .lit (.int .u8 0), .lit (.int .u8 0), .lit (.int .u8 0), .lit (.int .u8 0)]

/-- 'pangramlaw08.ScopeText': WHATEVER THE INPUT: true; the input reads as it did. -/
def scopeTextSpec : ChangeSpec := { name := "scopeText", fn := fun _ => fun
  | [d] => { results := [.lit (.bool true)], args := [d] }
  | _ => none }
def scopeTextRow : OpenClaim := { program := "ytnfodiedalhlhaadoor", sum := "f94de40351568aff769ba9d99b8968c3d72d141e92f020cf66575afe11baa519", func := "pangram/pangramlaw08.ScopeText", spec := "scopeText", unfollowed := true, recurses := true, named := ["strings.asciiSpace", "unicode.White_Space"], apart := false, laid := [("unicode.White_Space", laid_unicode_White_Space), ("strings.asciiSpace", laid_strings_asciiSpace)] }
def ScopeTextSaid : Prop := scopeTextRow.holds Tryd.pinned (OpenSpec.ofChange scopeTextSpec)

/-- ITS FALSE NEIGHBOUR: 'it returns false'. Refute it at one input. -/
def scopeTextWrong : ChangeSpec := { name := "scopeText", fn := fun _ => fun
  | [d] => { results := [.lit (.bool false)], args := [d] }
  | _ => none }
def ScopeTextWrongFalsely : Prop := scopeTextRow.holds Tryd.pinned (OpenSpec.ofChange scopeTextWrong)

/-- 'pangramlaw08.ScopeResolves': WHATEVER THE INPUT: true; the input reads as it did. -/
def scopeResolvesSpec : ChangeSpec := { name := "scopeResolves", fn := fun _ => fun
  | [d] => { results := [.lit (.bool true)], args := [d] }
  | _ => none }
def scopeResolvesRow : OpenClaim := { program := "ytnfodiedalhlhaadoor", sum := "f94de40351568aff769ba9d99b8968c3d72d141e92f020cf66575afe11baa519", func := "pangram/pangramlaw08.ScopeResolves", spec := "scopeResolves", unfollowed := true, recurses := true, named := ["strings.asciiSpace", "unicode.White_Space"], loops := true, apart := false, laid := [("unicode.White_Space", laid_unicode_White_Space), ("strings.asciiSpace", laid_strings_asciiSpace)] }
def ScopeResolvesSaid : Prop := scopeResolvesRow.holds Tryd.pinned (OpenSpec.ofChange scopeResolvesSpec)

/-- ITS FALSE NEIGHBOUR: 'it returns false'. Refute it at one input. -/
def scopeResolvesWrong : ChangeSpec := { name := "scopeResolves", fn := fun _ => fun
  | [d] => { results := [.lit (.bool false)], args := [d] }
  | _ => none }
def ScopeResolvesWrongFalsely : Prop := scopeResolvesRow.holds Tryd.pinned (OpenSpec.ofChange scopeResolvesWrong)

/-- 'pangramlaw08.ScopeAlike': WHATEVER THE INPUT: true; the input reads as it did. -/
def scopeAlikeSpec : ChangeSpec := { name := "scopeAlike", fn := fun _ => fun
  | [d1, d2] => { results := [.lit (.bool true)], args := [d1, d2] }
  | _ => none }
def scopeAlikeRow : OpenClaim := { program := "ytnfodiedalhlhaadoor", sum := "f94de40351568aff769ba9d99b8968c3d72d141e92f020cf66575afe11baa519", func := "pangram/pangramlaw08.ScopeAlike", spec := "scopeAlike", unfollowed := true, recurses := true, named := ["strings.asciiSpace", "unicode.White_Space"], loops := true, apart := false, laid := [("unicode.White_Space", laid_unicode_White_Space), ("strings.asciiSpace", laid_strings_asciiSpace)] }
def ScopeAlikeSaid : Prop := scopeAlikeRow.holds Tryd.pinned (OpenSpec.ofChange scopeAlikeSpec)

/-- ITS FALSE NEIGHBOUR: 'it returns false'. Refute it at one input. -/
def scopeAlikeWrong : ChangeSpec := { name := "scopeAlike", fn := fun _ => fun
  | [d1, d2] => { results := [.lit (.bool false)], args := [d1, d2] }
  | _ => none }
def ScopeAlikeWrongFalsely : Prop := scopeAlikeRow.holds Tryd.pinned (OpenSpec.ofChange scopeAlikeWrong)

/-- 'pangramlaw08.ScopeRenames': WHATEVER THE INPUT: true; the input reads as it did. -/
def scopeRenamesSpec : ChangeSpec := { name := "scopeRenames", fn := fun _ => fun
  | [d1, d2] => { results := [.lit (.bool true)], args := [d1, d2] }
  | _ => none }
def scopeRenamesRow : OpenClaim := { program := "ytnfodiedalhlhaadoor", sum := "f94de40351568aff769ba9d99b8968c3d72d141e92f020cf66575afe11baa519", func := "pangram/pangramlaw08.ScopeRenames", spec := "scopeRenames", unfollowed := true, recurses := true, named := ["strings.asciiSpace", "unicode.White_Space"], loops := true, apart := false, laid := [("unicode.White_Space", laid_unicode_White_Space), ("strings.asciiSpace", laid_strings_asciiSpace)] }
def ScopeRenamesSaid : Prop := scopeRenamesRow.holds Tryd.pinned (OpenSpec.ofChange scopeRenamesSpec)

/-- ITS FALSE NEIGHBOUR: 'it returns false'. Refute it at one input. -/
def scopeRenamesWrong : ChangeSpec := { name := "scopeRenames", fn := fun _ => fun
  | [d1, d2] => { results := [.lit (.bool false)], args := [d1, d2] }
  | _ => none }
def ScopeRenamesWrongFalsely : Prop := scopeRenamesRow.holds Tryd.pinned (OpenSpec.ofChange scopeRenamesWrong)

/-- 'pangramlaw08.ScopeMeans': WHATEVER THE INPUT: true; the input reads as it did. -/
def scopeMeansSpec : ChangeSpec := { name := "scopeMeans", fn := fun _ => fun
  | [d1, d2] => { results := [.lit (.bool true)], args := [d1, d2] }
  | _ => none }
def scopeMeansRow : OpenClaim := { program := "ytnfodiedalhlhaadoor", sum := "f94de40351568aff769ba9d99b8968c3d72d141e92f020cf66575afe11baa519", func := "pangram/pangramlaw08.ScopeMeans", spec := "scopeMeans", unfollowed := true, recurses := true, named := ["strings.asciiSpace", "unicode.White_Space"], loops := true, apart := false, laid := [("unicode.White_Space", laid_unicode_White_Space), ("strings.asciiSpace", laid_strings_asciiSpace)] }
def ScopeMeansSaid : Prop := scopeMeansRow.holds Tryd.pinned (OpenSpec.ofChange scopeMeansSpec)

/-- ITS FALSE NEIGHBOUR: 'it returns false'. Refute it at one input. -/
def scopeMeansWrong : ChangeSpec := { name := "scopeMeans", fn := fun _ => fun
  | [d1, d2] => { results := [.lit (.bool false)], args := [d1, d2] }
  | _ => none }
def ScopeMeansWrongFalsely : Prop := scopeMeansRow.holds Tryd.pinned (OpenSpec.ofChange scopeMeansWrong)

/-- 'pangramlaw18.CountDoubles': WHATEVER THE INPUT: true; the input reads as it did. -/
def countDoublesSpec : ChangeSpec := { name := "countDoubles", fn := fun _ => fun
  | [d] => { results := [.lit (.bool true)], args := [d] }
  | _ => none }
def countDoublesRow : OpenClaim := { program := "ytnfodiedalhlhaadoor", sum := "f94de40351568aff769ba9d99b8968c3d72d141e92f020cf66575afe11baa519", func := "pangram/pangramlaw18.CountDoubles", spec := "countDoubles", unfollowed := true, recurses := true, named := ["strings.asciiSpace", "unicode.White_Space"], apart := false, laid := [("unicode.White_Space", laid_unicode_White_Space), ("strings.asciiSpace", laid_strings_asciiSpace)] }
def CountDoublesSaid : Prop := countDoublesRow.holds Tryd.pinned (OpenSpec.ofChange countDoublesSpec)

/-- ITS FALSE NEIGHBOUR: 'it returns false'. Refute it at one input. -/
def countDoublesWrong : ChangeSpec := { name := "countDoubles", fn := fun _ => fun
  | [d] => { results := [.lit (.bool false)], args := [d] }
  | _ => none }
def CountDoublesWrongFalsely : Prop := countDoublesRow.holds Tryd.pinned (OpenSpec.ofChange countDoublesWrong)

/-- 'pangramlaw18.CountBounds': WHATEVER THE INPUT: true; the input reads as it did. -/
def countBoundsSpec : ChangeSpec := { name := "countBounds", fn := fun _ => fun
  | [d1, d2] => { results := [.lit (.bool true)], args := [d1, d2] }
  | _ => none }
def countBoundsRow : OpenClaim := { program := "ytnfodiedalhlhaadoor", sum := "f94de40351568aff769ba9d99b8968c3d72d141e92f020cf66575afe11baa519", func := "pangram/pangramlaw18.CountBounds", spec := "countBounds", unfollowed := true, recurses := true, named := ["strings.asciiSpace", "unicode.White_Space"], apart := false, laid := [("unicode.White_Space", laid_unicode_White_Space), ("strings.asciiSpace", laid_strings_asciiSpace)] }
def CountBoundsSaid : Prop := countBoundsRow.holds Tryd.pinned (OpenSpec.ofChange countBoundsSpec)

/-- ITS FALSE NEIGHBOUR: 'it returns false'. Refute it at one input. -/
def countBoundsWrong : ChangeSpec := { name := "countBounds", fn := fun _ => fun
  | [d1, d2] => { results := [.lit (.bool false)], args := [d1, d2] }
  | _ => none }
def CountBoundsWrongFalsely : Prop := countBoundsRow.holds Tryd.pinned (OpenSpec.ofChange countBoundsWrong)

/-- 'pangramlaw18.CountNames': WHATEVER THE INPUT: true; the input reads as it did. -/
def countNamesSpec : ChangeSpec := { name := "countNames", fn := fun _ => fun
  | [d1, d2] => { results := [.lit (.bool true)], args := [d1, d2] }
  | _ => none }
def countNamesRow : OpenClaim := { program := "ytnfodiedalhlhaadoor", sum := "f94de40351568aff769ba9d99b8968c3d72d141e92f020cf66575afe11baa519", func := "pangram/pangramlaw18.CountNames", spec := "countNames", unfollowed := true, recurses := true, named := ["strings.asciiSpace", "unicode.White_Space"], loops := true, apart := false, laid := [("unicode.White_Space", laid_unicode_White_Space), ("strings.asciiSpace", laid_strings_asciiSpace)] }
def CountNamesSaid : Prop := countNamesRow.holds Tryd.pinned (OpenSpec.ofChange countNamesSpec)

/-- ITS FALSE NEIGHBOUR: 'it returns false'. Refute it at one input. -/
def countNamesWrong : ChangeSpec := { name := "countNames", fn := fun _ => fun
  | [d1, d2] => { results := [.lit (.bool false)], args := [d1, d2] }
  | _ => none }
def CountNamesWrongFalsely : Prop := countNamesRow.holds Tryd.pinned (OpenSpec.ofChange countNamesWrong)

/- THE SECOND FORM. 'bulk': how many values and letters a reading holds, each counted each time it is reached (what is shared counts as often as it is met; a slice's spare places count too). A statement '..UptoSaid' is the law's where the arguments, and the package variables that the reading takes, are together of bulk at most 1048576: NARROWER than '..Said'. Prove '..Said' where nothing that the law and all that it calls make is longer than what came in: it says more and counts as full. Else prove '..UptoSaid'. A law counts once. -/
mutual
def uptoBulk {H : Type} : DataW H → Nat
  | .lit (.string bytes) => bytes.length + 1
  | .lit _ => 1
  | .nil => 1
  | .ptr d => uptoBulk d + 1
  | .slice elems spare => uptoBulkAll elems + uptoBulkAll spare + 1
  | .agg parts => uptoBulkAll parts + 1
  | .iface _ d => uptoBulk d + 1
  | .map entries => uptoBulkEntries entries + 1
  | .held _ => 1
def uptoBulkAll {H : Type} : List (DataW H) → Nat
  | [] => 0
  | d :: r => uptoBulk d + uptoBulkAll r
def uptoBulkEntries {H : Type} : List (Lit × DataW H) → Nat
  | [] => 0
  | x :: r => uptoBulkEntry x + uptoBulkEntries r
def uptoBulkEntry {H : Type} : Lit × DataW H → Nat
  | (.string bytes, d) => bytes.length + uptoBulk d + 1
  | (_, d) => uptoBulk d + 1
 end
def uptoSmall : (H : Type) → List (DataW H) → Bool := fun _ ds => decide (uptoBulkAll ds ≤ 1048576)
def OpenSpec.upto (s : _root_.Go.ChangeSpec) : _root_.Go.OpenSpec := { _root_.Go.OpenSpec.ofChange s with cond := some uptoSmall }

/-- 'pangramlaw08.ScopeText', WHERE WHAT IT READS IS OF BULK AT MOST 1048576: true; the input reads as it did. -/
def scopeTextUptoRow : OpenClaim := { program := "ytnfodiedalhlhaadoor", sum := "f94de40351568aff769ba9d99b8968c3d72d141e92f020cf66575afe11baa519", func := "pangram/pangramlaw08.ScopeText", spec := "scopeText", unfollowed := true, recurses := true, named := ["strings.asciiSpace", "unicode.White_Space"], apart := false, laid := [("unicode.White_Space", laid_unicode_White_Space), ("strings.asciiSpace", laid_strings_asciiSpace)], narrowed := true }
def ScopeTextUptoSaid : Prop := scopeTextUptoRow.holds Tryd.pinned (OpenSpec.upto scopeTextSpec)

/-- 'pangramlaw08.ScopeResolves', WHERE WHAT IT READS IS OF BULK AT MOST 1048576: true; the input reads as it did. -/
def scopeResolvesUptoRow : OpenClaim := { program := "ytnfodiedalhlhaadoor", sum := "f94de40351568aff769ba9d99b8968c3d72d141e92f020cf66575afe11baa519", func := "pangram/pangramlaw08.ScopeResolves", spec := "scopeResolves", unfollowed := true, recurses := true, named := ["strings.asciiSpace", "unicode.White_Space"], loops := true, apart := false, laid := [("unicode.White_Space", laid_unicode_White_Space), ("strings.asciiSpace", laid_strings_asciiSpace)], narrowed := true }
def ScopeResolvesUptoSaid : Prop := scopeResolvesUptoRow.holds Tryd.pinned (OpenSpec.upto scopeResolvesSpec)

/-- 'pangramlaw08.ScopeAlike', WHERE WHAT IT READS IS OF BULK AT MOST 1048576: true; the input reads as it did. -/
def scopeAlikeUptoRow : OpenClaim := { program := "ytnfodiedalhlhaadoor", sum := "f94de40351568aff769ba9d99b8968c3d72d141e92f020cf66575afe11baa519", func := "pangram/pangramlaw08.ScopeAlike", spec := "scopeAlike", unfollowed := true, recurses := true, named := ["strings.asciiSpace", "unicode.White_Space"], loops := true, apart := false, laid := [("unicode.White_Space", laid_unicode_White_Space), ("strings.asciiSpace", laid_strings_asciiSpace)], narrowed := true }
def ScopeAlikeUptoSaid : Prop := scopeAlikeUptoRow.holds Tryd.pinned (OpenSpec.upto scopeAlikeSpec)

/-- 'pangramlaw08.ScopeRenames', WHERE WHAT IT READS IS OF BULK AT MOST 1048576: true; the input reads as it did. -/
def scopeRenamesUptoRow : OpenClaim := { program := "ytnfodiedalhlhaadoor", sum := "f94de40351568aff769ba9d99b8968c3d72d141e92f020cf66575afe11baa519", func := "pangram/pangramlaw08.ScopeRenames", spec := "scopeRenames", unfollowed := true, recurses := true, named := ["strings.asciiSpace", "unicode.White_Space"], loops := true, apart := false, laid := [("unicode.White_Space", laid_unicode_White_Space), ("strings.asciiSpace", laid_strings_asciiSpace)], narrowed := true }
def ScopeRenamesUptoSaid : Prop := scopeRenamesUptoRow.holds Tryd.pinned (OpenSpec.upto scopeRenamesSpec)

/-- 'pangramlaw08.ScopeMeans', WHERE WHAT IT READS IS OF BULK AT MOST 1048576: true; the input reads as it did. -/
def scopeMeansUptoRow : OpenClaim := { program := "ytnfodiedalhlhaadoor", sum := "f94de40351568aff769ba9d99b8968c3d72d141e92f020cf66575afe11baa519", func := "pangram/pangramlaw08.ScopeMeans", spec := "scopeMeans", unfollowed := true, recurses := true, named := ["strings.asciiSpace", "unicode.White_Space"], loops := true, apart := false, laid := [("unicode.White_Space", laid_unicode_White_Space), ("strings.asciiSpace", laid_strings_asciiSpace)], narrowed := true }
def ScopeMeansUptoSaid : Prop := scopeMeansUptoRow.holds Tryd.pinned (OpenSpec.upto scopeMeansSpec)

/-- 'pangramlaw18.CountDoubles', WHERE WHAT IT READS IS OF BULK AT MOST 1048576: true; the input reads as it did. -/
def countDoublesUptoRow : OpenClaim := { program := "ytnfodiedalhlhaadoor", sum := "f94de40351568aff769ba9d99b8968c3d72d141e92f020cf66575afe11baa519", func := "pangram/pangramlaw18.CountDoubles", spec := "countDoubles", unfollowed := true, recurses := true, named := ["strings.asciiSpace", "unicode.White_Space"], apart := false, laid := [("unicode.White_Space", laid_unicode_White_Space), ("strings.asciiSpace", laid_strings_asciiSpace)], narrowed := true }
def CountDoublesUptoSaid : Prop := countDoublesUptoRow.holds Tryd.pinned (OpenSpec.upto countDoublesSpec)

/-- 'pangramlaw18.CountBounds', WHERE WHAT IT READS IS OF BULK AT MOST 1048576: true; the input reads as it did. -/
def countBoundsUptoRow : OpenClaim := { program := "ytnfodiedalhlhaadoor", sum := "f94de40351568aff769ba9d99b8968c3d72d141e92f020cf66575afe11baa519", func := "pangram/pangramlaw18.CountBounds", spec := "countBounds", unfollowed := true, recurses := true, named := ["strings.asciiSpace", "unicode.White_Space"], apart := false, laid := [("unicode.White_Space", laid_unicode_White_Space), ("strings.asciiSpace", laid_strings_asciiSpace)], narrowed := true }
def CountBoundsUptoSaid : Prop := countBoundsUptoRow.holds Tryd.pinned (OpenSpec.upto countBoundsSpec)

/-- 'pangramlaw18.CountNames', WHERE WHAT IT READS IS OF BULK AT MOST 1048576: true; the input reads as it did. -/
def countNamesUptoRow : OpenClaim := { program := "ytnfodiedalhlhaadoor", sum := "f94de40351568aff769ba9d99b8968c3d72d141e92f020cf66575afe11baa519", func := "pangram/pangramlaw18.CountNames", spec := "countNames", unfollowed := true, recurses := true, named := ["strings.asciiSpace", "unicode.White_Space"], loops := true, apart := false, laid := [("unicode.White_Space", laid_unicode_White_Space), ("strings.asciiSpace", laid_strings_asciiSpace)], narrowed := true }
def CountNamesUptoSaid : Prop := countNamesUptoRow.holds Tryd.pinned (OpenSpec.upto countNamesSpec)

end Rows
end Go.Proofs.YtnfodiedalhlhaaDoor
