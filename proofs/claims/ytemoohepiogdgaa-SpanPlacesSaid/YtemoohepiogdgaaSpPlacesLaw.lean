/-
  The law SpanPlaces: it returns true. Condition: the text's length is in range.
-/
import Derived.Test.YtemoohepiogdgaaSpAwake
import Derived.Test.YtemoohepiogdgaaSpPlace
namespace Go.Proofs.Ytemoohepiogdgaa
open Go.RowKit Go.Shelf SpanPlain

set_option maxHeartbeats 1000000 in
theorem spanPlaces_all (s : ByteArray) (i : Int) (w : World) (hs : s.size ≤ 9223372036854775807) :
    Calls Try.prog 7 #[.string s, .int .i64 i] w fun e w' => e = .returned (.bool true) ∧ Quiet0 w w' := by
  have HA : Hid (∀ W, Calls Try.prog 8 #[] W fun e w' => e = .returned (.bool true) ∧ Quiet0 W w') := fun W => awakeS_any W
  by_cases h300 : 300 < s.size
  · have h300' : (300 : Int) < (s.size : Int) := by omega
    go_enter Try.func7, Try.ntmps7
    go_wp2_with fail
    refine (HA.out _).mono ?_; rintro e w1 ⟨rfl, hq⟩
    go_wp2_with fail
    go_ret
    exact ⟨rfl, hq⟩
  · have h300' : ¬ (300 : Int) < (s.size : Int) := by omega
    have HP1 := Lib.hid (place_any s i w (by omega))
    have HP2 := Lib.hid (refPlace_any s i w (by omega))
    unfold PlacePost at HP1 HP2
    generalize ((lineN s (aheadN s.size i) : Nat) : Int) + 1 = ln at *
    generalize ((aheadN s.size i : Nat) : Int) - Lib.lastIdx s 10 (aheadN s.size i) = cl at *
    go_enter Try.func7, Try.ntmps7
    go_wp2_with fail
    refine HP1.out.mono ?_; rintro e w1 ⟨rfl, rfl⟩
    go_wp2_with fail
    refine HP2.out.mono ?_; rintro e w1 ⟨rfl, rfl⟩
    go_wp2_with fail
    refine (HA.out _).mono ?_; rintro e w1 ⟨rfl, hq⟩
    go_wp2_with fail
    go_ret
    exact ⟨rfl, hq⟩
end Go.Proofs.Ytemoohepiogdgaa
