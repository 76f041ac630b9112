/-
  What the rows' condition on listed variables gives: strings.asciiSpace holds its table; a world that meets it (the door's own). No condition.
-/
import Derived.Test.YtggidhgifaekbaaDoorRows
import Derived.Test.YtggidhgifaekbaaDoorLexKw
import Derived.Test.YtggidhgifaekbaaDoorLaw
import Derived.LaidMore
import Derived.Stop.Joined
import Derived.LaidLaws
import Derived.Lib.LaidTab
import Derived.Stop.LaidErr
namespace Go.Proofs.YtggidhgifaekbaaDoor
open Go.ChangeShapes Go.WideShapes Go.ChangeAt Go.RowKit

def doorSteps : Nat := 48
def laidL : List (String × DataW Unit) := [("unicode.White_Space", Rows.laid_unicode_White_Space), ("strings.asciiSpace", Rows.laid_strings_asciiSpace)]
set_option maxRecDepth 100000 in
theorem ascii_data : (Rows.laid_strings_asciiSpace : DataW Unit) = Lib.tabData .u8 Lib.asciiSpaceTab := by rfl
set_option maxRecDepth 100000 in
theorem door_met (os : Os) (args : Array Value) : laidMetH Tryd.prog laidL ((World.doorLaid Tryd.prog doorSteps os).forCall (fun _ _ => 0) ⟨#[], args, []⟩).memory :=
  laidMetH_of_parts3 (fuel := 8) (laidMet_of_run' 8 (by kernel_rfl) (by kernel_rfl)) (by kernel_rfl) (by kernel_rfl)
set_option maxRecDepth 100000 in
theorem spaces_of_laid {W : World} (h : laidMetH Tryd.prog laidL W) : Lx.Spaces W := by
  rw [MakeChecks.laidMetH_plain _ _ _ (by kernel_rfl)] at h
  have h2 := laidMet.tail h
  rw [ascii_data] at h2
  exact Lib.tabIs_of_head (g := 0) (n := 256) (by kernel_rfl) (by kernel_rfl) (t := 144) (e := 5) Tryd.underlying144 Tryd.underlying5 (by kernel_rfl) (by kernel_rfl) h2
end Go.Proofs.YtggidhgifaekbaaDoor
