/-
  No cell of these rows narrows 'for every input' (looked for: loops, veiled, ifaces, maps, wideKeys, modest, calm, conditions, laid).
  DERIVED. THE GIVEN ROWS OF THIS SEAT. 5 by the template 'for every input the law returns true; each argument reads behind the call as it read before'; 0 by the template 'total and deterministic' (their statements: YtemoohepiogdgaaTotals.lean).
  GIVEN WITH THE SEED: the statements are not yours to turn. If you find one false, say at which input.
  Laid BY PROGRAM, IN A SANDBOX (cutbox-rows.mjs): the forced cells as the released guide's own fill.sh prints them over the translation 8d6e32cd72ebf5f2… (all of the seat's roots in one cut). By AI agents, Wed Nov 11 2026. No macro, syntax, notation, axiom, sorry.
-/
import Derived.Test.YtemoohepiogdgaaChecked
import GoSem.Claim
import GoSem.ClaimJoined
import GoSem.ClaimMapViews
import Derived.JoinedTies
import Derived.KernelRfl
namespace Go.Proofs.Ytemoohepiogdgaa
/- THE CELL 'sum', in the pinned program and in every row, IS THE sha256 OF THE DUMP (.gsa) THAT YtemoohepiogdgaaProg.lean LOADS. Nothing in Lean hashes anything: it is a label: what it is worth is what the hold of that sum in a sandbox is worth. -/
noncomputable def Try.pinned : Pinned := { name := "ytemoohepiogdgaa", sum := "8d6e32cd72ebf5f28c985abad593361dec8e2f42809eeacd395cc5bb66518e0e", checked := Try.checked }
namespace Rows
def none {H : Type} : Left H := { results := [], args := [] }

/-- 'pangramlaw01.SpanMerges': WHATEVER THE INPUT: true; the input reads as it did. -/
def spanMergesSpec : ChangeSpec := { name := "spanMerges", fn := fun _ => fun
  | [d1, d2] => { results := [.lit (.bool true)], args := [d1, d2] }
  | _ => none }
def spanMergesRow : OpenClaim := { program := "ytemoohepiogdgaa", sum := "8d6e32cd72ebf5f28c985abad593361dec8e2f42809eeacd395cc5bb66518e0e", func := "pangram/pangramlaw01.SpanMerges", spec := "spanMerges", unfollowed := true, recurses := true, apart := false }
def SpanMergesSaid : Prop := spanMergesRow.holds Try.pinned (OpenSpec.ofChange spanMergesSpec)

/-- ITS FALSE NEIGHBOUR: 'it returns false'. Refute it at one input. -/
def spanMergesWrong : ChangeSpec := { name := "spanMerges", fn := fun _ => fun
  | [d1, d2] => { results := [.lit (.bool false)], args := [d1, d2] }
  | _ => none }
def SpanMergesWrongFalsely : Prop := spanMergesRow.holds Try.pinned (OpenSpec.ofChange spanMergesWrong)

/-- 'pangramlaw01.SpanOrder': WHATEVER THE INPUT: true; the input reads as it did. -/
def spanOrderSpec : ChangeSpec := { name := "spanOrder", fn := fun _ => fun
  | [d1, d2] => { results := [.lit (.bool true)], args := [d1, d2] }
  | _ => none }
def spanOrderRow : OpenClaim := { program := "ytemoohepiogdgaa", sum := "8d6e32cd72ebf5f28c985abad593361dec8e2f42809eeacd395cc5bb66518e0e", func := "pangram/pangramlaw01.SpanOrder", spec := "spanOrder", unfollowed := true, recurses := true, apart := false }
def SpanOrderSaid : Prop := spanOrderRow.holds Try.pinned (OpenSpec.ofChange spanOrderSpec)

/-- ITS FALSE NEIGHBOUR: 'it returns false'. Refute it at one input. -/
def spanOrderWrong : ChangeSpec := { name := "spanOrder", fn := fun _ => fun
  | [d1, d2] => { results := [.lit (.bool false)], args := [d1, d2] }
  | _ => none }
def SpanOrderWrongFalsely : Prop := spanOrderRow.holds Try.pinned (OpenSpec.ofChange spanOrderWrong)

/-- 'pangramlaw01.SpanWithin': WHATEVER THE INPUT: true; the input reads as it did. -/
def spanWithinSpec : ChangeSpec := { name := "spanWithin", fn := fun _ => fun
  | [d1, d2] => { results := [.lit (.bool true)], args := [d1, d2] }
  | _ => none }
def spanWithinRow : OpenClaim := { program := "ytemoohepiogdgaa", sum := "8d6e32cd72ebf5f28c985abad593361dec8e2f42809eeacd395cc5bb66518e0e", func := "pangram/pangramlaw01.SpanWithin", spec := "spanWithin", unfollowed := true, recurses := true, apart := false }
def SpanWithinSaid : Prop := spanWithinRow.holds Try.pinned (OpenSpec.ofChange spanWithinSpec)

/-- ITS FALSE NEIGHBOUR: 'it returns false'. Refute it at one input. -/
def spanWithinWrong : ChangeSpec := { name := "spanWithin", fn := fun _ => fun
  | [d1, d2] => { results := [.lit (.bool false)], args := [d1, d2] }
  | _ => none }
def SpanWithinWrongFalsely : Prop := spanWithinRow.holds Try.pinned (OpenSpec.ofChange spanWithinWrong)

/-- 'pangramlaw01.SpanBytes': WHATEVER THE INPUT: true; the input reads as it did. -/
def spanBytesSpec : ChangeSpec := { name := "spanBytes", fn := fun _ => fun
  | [d1, d2] => { results := [.lit (.bool true)], args := [d1, d2] }
  | _ => none }
def spanBytesRow : OpenClaim := { program := "ytemoohepiogdgaa", sum := "8d6e32cd72ebf5f28c985abad593361dec8e2f42809eeacd395cc5bb66518e0e", func := "pangram/pangramlaw01.SpanBytes", spec := "spanBytes", unfollowed := true, recurses := true, apart := false }
def SpanBytesSaid : Prop := spanBytesRow.holds Try.pinned (OpenSpec.ofChange spanBytesSpec)

/-- ITS FALSE NEIGHBOUR: 'it returns false'. Refute it at one input. -/
def spanBytesWrong : ChangeSpec := { name := "spanBytes", fn := fun _ => fun
  | [d1, d2] => { results := [.lit (.bool false)], args := [d1, d2] }
  | _ => none }
def SpanBytesWrongFalsely : Prop := spanBytesRow.holds Try.pinned (OpenSpec.ofChange spanBytesWrong)

/-- 'pangramlaw01.SpanPlaces': WHATEVER THE INPUT: true; the input reads as it did. -/
def spanPlacesSpec : ChangeSpec := { name := "spanPlaces", fn := fun _ => fun
  | [d1, d2] => { results := [.lit (.bool true)], args := [d1, d2] }
  | _ => none }
def spanPlacesRow : OpenClaim := { program := "ytemoohepiogdgaa", sum := "8d6e32cd72ebf5f28c985abad593361dec8e2f42809eeacd395cc5bb66518e0e", func := "pangram/pangramlaw01.SpanPlaces", spec := "spanPlaces", inPlace := ["internal/bytealg.CountString", "internal/bytealg.IndexByteString", "internal/bytealg.IndexString"], unfollowed := true, recurses := true, named := ["internal/bytealg.MaxLen"], apart := false }
def SpanPlacesSaid : Prop := spanPlacesRow.holds Try.pinned (OpenSpec.ofChange spanPlacesSpec)

/-- ITS FALSE NEIGHBOUR: 'it returns false'. Refute it at one input. -/
def spanPlacesWrong : ChangeSpec := { name := "spanPlaces", fn := fun _ => fun
  | [d1, d2] => { results := [.lit (.bool false)], args := [d1, d2] }
  | _ => none }
def SpanPlacesWrongFalsely : Prop := spanPlacesRow.holds Try.pinned (OpenSpec.ofChange spanPlacesWrong)

/- THE SECOND FORM. 'bulk': how many values and letters a reading holds, each counted each time it is reached (what is shared counts as often as it is met; a slice's spare places count too). A statement '..UptoSaid' is the law's where the arguments, and the package variables that the reading takes, are together of bulk at most 1048576: NARROWER than '..Said'. Prove '..Said' where nothing that the law and all that it calls make is longer than what came in: it says more and counts as full. Else prove '..UptoSaid'. A law counts once. -/
mutual
def uptoBulk {H : Type} : DataW H → Nat
  | .lit (.string bytes) => bytes.length + 1
  | .lit _ => 1
  | .nil => 1
  | .ptr d => uptoBulk d + 1
  | .slice elems spare => uptoBulkAll elems + uptoBulkAll spare + 1
  | .agg parts => uptoBulkAll parts + 1
  | .iface _ d => uptoBulk d + 1
  | .map entries => uptoBulkEntries entries + 1
  | .held _ => 1
def uptoBulkAll {H : Type} : List (DataW H) → Nat
  | [] => 0
  | d :: r => uptoBulk d + uptoBulkAll r
def uptoBulkEntries {H : Type} : List (Lit × DataW H) → Nat
  | [] => 0
  | x :: r => uptoBulkEntry x + uptoBulkEntries r
def uptoBulkEntry {H : Type} : Lit × DataW H → Nat
  | (.string bytes, d) => bytes.length + uptoBulk d + 1
  | (_, d) => uptoBulk d + 1
 end
def uptoSmall : (H : Type) → List (DataW H) → Bool := fun _ ds => decide (uptoBulkAll ds ≤ 1048576)
def OpenSpec.upto (s : _root_.Go.ChangeSpec) : _root_.Go.OpenSpec := { _root_.Go.OpenSpec.ofChange s with cond := some uptoSmall }

/-- 'pangramlaw01.SpanMerges', WHERE WHAT IT READS IS OF BULK AT MOST 1048576: true; the input reads as it did. -/
def spanMergesUptoRow : OpenClaim := { program := "ytemoohepiogdgaa", sum := "8d6e32cd72ebf5f28c985abad593361dec8e2f42809eeacd395cc5bb66518e0e", func := "pangram/pangramlaw01.SpanMerges", spec := "spanMerges", unfollowed := true, recurses := true, apart := false, narrowed := true }
def SpanMergesUptoSaid : Prop := spanMergesUptoRow.holds Try.pinned (OpenSpec.upto spanMergesSpec)

/-- 'pangramlaw01.SpanOrder', WHERE WHAT IT READS IS OF BULK AT MOST 1048576: true; the input reads as it did. -/
def spanOrderUptoRow : OpenClaim := { program := "ytemoohepiogdgaa", sum := "8d6e32cd72ebf5f28c985abad593361dec8e2f42809eeacd395cc5bb66518e0e", func := "pangram/pangramlaw01.SpanOrder", spec := "spanOrder", unfollowed := true, recurses := true, apart := false, narrowed := true }
def SpanOrderUptoSaid : Prop := spanOrderUptoRow.holds Try.pinned (OpenSpec.upto spanOrderSpec)

/-- 'pangramlaw01.SpanWithin', WHERE WHAT IT READS IS OF BULK AT MOST 1048576: true; the input reads as it did. -/
def spanWithinUptoRow : OpenClaim := { program := "ytemoohepiogdgaa", sum := "8d6e32cd72ebf5f28c985abad593361dec8e2f42809eeacd395cc5bb66518e0e", func := "pangram/pangramlaw01.SpanWithin", spec := "spanWithin", unfollowed := true, recurses := true, apart := false, narrowed := true }
def SpanWithinUptoSaid : Prop := spanWithinUptoRow.holds Try.pinned (OpenSpec.upto spanWithinSpec)

/-- 'pangramlaw01.SpanBytes', WHERE WHAT IT READS IS OF BULK AT MOST 1048576: true; the input reads as it did. -/
def spanBytesUptoRow : OpenClaim := { program := "ytemoohepiogdgaa", sum := "8d6e32cd72ebf5f28c985abad593361dec8e2f42809eeacd395cc5bb66518e0e", func := "pangram/pangramlaw01.SpanBytes", spec := "spanBytes", unfollowed := true, recurses := true, apart := false, narrowed := true }
def SpanBytesUptoSaid : Prop := spanBytesUptoRow.holds Try.pinned (OpenSpec.upto spanBytesSpec)

/-- 'pangramlaw01.SpanPlaces', WHERE WHAT IT READS IS OF BULK AT MOST 1048576: true; the input reads as it did. -/
def spanPlacesUptoRow : OpenClaim := { program := "ytemoohepiogdgaa", sum := "8d6e32cd72ebf5f28c985abad593361dec8e2f42809eeacd395cc5bb66518e0e", func := "pangram/pangramlaw01.SpanPlaces", spec := "spanPlaces", inPlace := ["internal/bytealg.CountString", "internal/bytealg.IndexByteString", "internal/bytealg.IndexString"], unfollowed := true, recurses := true, named := ["internal/bytealg.MaxLen"], apart := false, narrowed := true }
def SpanPlacesUptoSaid : Prop := spanPlacesUptoRow.holds Try.pinned (OpenSpec.upto spanPlacesSpec)

end Rows
end Go.Proofs.Ytemoohepiogdgaa
