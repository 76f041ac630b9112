/-
  types.Print. Conditions: as TyText's.
-/
import Derived.Test.YtggidhgifaekbaaDoorTyText5
namespace Go.Proofs.YtggidhgifaekbaaDoor
open Go.RowKit

def printT (k n : Int) (ps : Fo) : List UInt8 := if rightT k n ps then txt k n ps.texts else []
set_option maxHeartbeats 1000000 in
theorem print_of (k n : Int) (ps : Fo) (HTX : TText k n ps) (w : World) (o : Option Addr) (len cap : Nat) (hs : Slc w o len ps) (hsz : ps.size ≤ 1000) (ht : Pow10 w) :
    Calls Tryd.prog 17 #[tyv k n o len cap] w fun e w' => e = .returned (.string (tb (printT k n ps))) ∧ Quiet0 w w' := by
  have HS := Lib.hid hs
  have HT := Lib.hid ht
  have HX := Lib.hid HTX
  obtain ⟨W0, hW0⟩ : ∃ W0, W0 = w.alloc (.cells #[.int .i64 k, .int .i64 n, .slice o len cap] 24) := ⟨_, rfl⟩
  have hq0 : Quiet0 w W0 := by rw [hW0]; exact Quiet0.alloc _ _
  have HQ0 := Lib.hid hq0
  have HR := Lib.hid (right_any k n ps W0 o len cap (hs.stay hq0))
  obtain ⟨a0, a1, a2⟩ := box_cells w k n o len cap 24 W0 (by rw [hW0]; exact Quiet0.refl _)
  clear hs ht HTX hq0
  unfold printT
  cases hr : rightT k n ps
  · rw [hr] at HR
    have e : tb (if false = true then txt k n ps.texts else []) = ⟨#[]⟩ := rfl
    rw [e]
    unfold tyv at *
    go_enter Tryd.func17, Tryd.ntmps17
    go_wp2_with fail
    rw [← hW0]
    refine HR.out.mono ?_; rintro e w1 ⟨rfl, hq1⟩
    have HQ1 := Lib.hid hq1
    clear hq1
    go_wp2_with fail
    go_ret
    exact ⟨rfl, HQ0.out.trans HQ1.out⟩
  · have hp : Fo.plain k n ps.length = true ∧ ps.right = true := by
      simpa [rightT] using hr
    have HP := Lib.hid hp
    rw [hr] at HR
    have e : (if true = true then txt k n ps.texts else []) = txt k n ps.texts := rfl
    rw [e]
    have HX2 : Hid (∀ W, Quiet0 w W → Calls Tryd.prog 70 #[tyv k n o len cap] W fun e w' => e = .returned (.string (tb (txt k n ps.texts))) ∧ Quiet0 W w') :=
      fun W hq => HX.out W o len cap (HS.out.stay hq) HP.out.1 HP.out.2 hsz (HT.out.stay hq)
    generalize tb (txt k n ps.texts) = s at *
    unfold tyv at *
    clear hp e
    go_enter Tryd.func17, Tryd.ntmps17
    go_wp2_with fail
    rw [← hW0]
    refine HR.out.mono ?_; rintro e w1 ⟨rfl, hq1⟩
    have HQ1 := Lib.hid hq1
    have b0 := hq1.at a0
    have b1 := hq1.at a1
    have b2 := hq1.at a2
    clear hq1
    go_wp2_with fail
    refine (HX2.out _ (HQ0.out.trans HQ1.out)).mono ?_; rintro e w2 ⟨rfl, hq2⟩
    go_wp2_with fail
    go_ret
    exact ⟨rfl, (HQ0.out.trans HQ1.out).trans hq2⟩
theorem print_any (k n : Int) (ps : Fo) (w : World) (o : Option Addr) (len cap : Nat) (hs : Slc w o len ps) (hsz : ps.size ≤ 1000) (ht : Pow10 w) :
    Calls Tryd.prog 17 #[tyv k n o len cap] w fun e w' => e = .returned (.string (tb (printT k n ps))) ∧ Quiet0 w w' :=
  print_of k n ps (text_any k n ps) w o len cap hs hsz ht
end Go.Proofs.YtggidhgifaekbaaDoor
