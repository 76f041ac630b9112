/-
  types.Vars, whole. Conditions: as TyVars'.
-/
import Derived.Test.YtdlcakmjihfgfaaDoorTyVars
namespace Go.Proofs.YtdlcakmjihfgfaaDoor
open Go.RowKit Go.Maps

theorem At.lt {w : World} : ∀ (f : Fo) (b off : Nat), At w b off f → AtIn (fun k => k < w.heap.size) w b off f
  | .nil, _, _, _ => trivial
  | .cons k n ps r, b, off, h => by
    obtain ⟨h1, h2, ⟨o, len, cap, h3, h4, h4', h5⟩, h6⟩ := h
    refine ⟨World.block_lt_of_cell? w _ h1, h1, h2, ⟨o, len, cap, h3, h4, h4', fun hl => ?_⟩, At.lt r b (off + 3) h6⟩
    obtain ⟨b', off', ho, ha⟩ := h5 hl
    exact ⟨b', off', ho, At.lt ps b' off' ha⟩
theorem Slc.lt {w : World} {o : Option Addr} {len : Nat} {f : Fo} (h : Slc w o len f) : SlcIn (fun k => k < w.heap.size) w o len f := by
  refine ⟨h.1, h.2.1, fun hl => ?_⟩
  obtain ⟨b, off, ho, ha⟩ := h.2.2 hl
  exact ⟨b, off, ho, At.lt f b off ha⟩
/-- a row of integers as a value: owned, and new -/
def IntRow (B : Nat) (w : World) (vo : Value) (l : List Int) : Prop := w.ownsRow 0 3 1 vo l.length (ints l) ∧ ∀ g, vo.ownBlock = some g → B ≤ g
theorem vars_cons (k n : Int) (ps r : Fo) (l : List Int) : Fo.vars l (.cons k n ps r) = Fo.vars (Fo.vars (varStep l k n ps) ps) r := rfl
end Go.Proofs.YtdlcakmjihfgfaaDoor
