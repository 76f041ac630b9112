/-
  The reference's Text of a variable, of int and bool. Conditions: as TyText's; no table is read.
-/
import Derived.Test.YtggidhgifaekbaaDoorTyRefName
import Derived.Test.YtggidhgifaekbaaDoorTyText
namespace Go.Proofs.YtggidhgifaekbaaDoor
open Go.RowKit

def TRefText (k n : Int) (ps : Fo) : Prop := ∀ (w : World) (o : Option Addr) (len cap : Nat), Slc w o len ps → Fo.plain k n ps.length = true → ps.right = true → ps.size ≤ 1000 →
  Calls Tryd.prog 18 #[tyv k n o len cap] w fun e w' => e = .returned (.string (tb (txt k n ps.texts))) ∧ Quiet0 w w'
set_option maxHeartbeats 1000000 in
theorem refText_123 (k n : Int) (ps : Fo) (hk : k = 1 ∨ k = 2 ∨ k = 3) : TRefText k n ps := by
  intro w o len cap hs hp hr hsz
  have HN := Lib.hid (refName_any n)
  clear hs hp hr hsz
  unfold tyv
  rcases hk with rfl | rfl | rfl
  · have e : txt 1 n ps.texts = nameL n := rfl
    rw [e]
    generalize tb (nameL n) = s at *
    go_enter Tryd.func18, Tryd.ntmps18
    go_wp2_with fail
    refine (HN.out _).mono ?_; rintro e w1 ⟨rfl, hq⟩
    go_wp2_with fail
    go_ret
    exact ⟨rfl, (Quiet0.alloc _ _).trans hq⟩
  · have e : tb (txt 2 n ps.texts) = ⟨#[105, 110, 116]⟩ := rfl
    rw [e]
    go_enter Tryd.func18, Tryd.ntmps18
    go_wp2_with fail
    go_ret
    exact ⟨rfl, Quiet0.alloc _ _⟩
  · have e : tb (txt 3 n ps.texts) = ⟨#[98, 111, 111, 108]⟩ := rfl
    rw [e]
    go_enter Tryd.func18, Tryd.ntmps18
    go_wp2_with fail
    go_ret
    exact ⟨rfl, Quiet0.alloc _ _⟩
end Go.Proofs.YtggidhgifaekbaaDoor
