/-
  A map from int to int that a call has made: what it holds at each key; look-up and store. Condition: keys and what is stored are in range.
-/
import Derived.Test.YtdlcakmjihfgfaaDoorTyMem
import Derived.Maps.OwnOps
import Derived.Maps.Views
namespace Go.Proofs.YtdlcakmjihfgfaaDoor
open Go.RowKit Go.Maps

def wfI (n : Int) : Prop := (Lit.int .i64 n).wf = true
theorem wfI_of {n : Int} (h0 : -9223372036854775808 ≤ n) (h1 : n ≤ 9223372036854775807) : wfI n := WalkArith.wf_i64 (by omega)
theorem lawK : Keyed Tryd.prog 3 := int_keyed Tryd.underlying3
theorem zeroE (w : World) : (zeroValue 3).run Tryd.prog w = .ok (.int .i64 0) w := by kernel_rfl
/-- all numbers in a row of types are in range -/
def wfF (f : Fo) : Prop := allF wfI f
def MapOf (w : World) (b n : Nat) (p : Int → Int) : Prop :=
  ∃ D : DataW Unit, w.ownsMap Tryd.prog 3 (plainElem Tryd.prog 3) b n D ∧ IsMap D ∧ ∀ v, wfI v → D.atKey (.int .i64 v) (.lit (.int .i64 0)) = .lit (.int .i64 (p v))
theorem MapOf.made (w : World) : MapOf (w.alloc (.map #[] 0)) w.heap.size 0 (fun _ => 0) :=
  ⟨.map [], World.ownsMap_made _ _ _ _, ⟨_, rfl⟩, fun _ _ => rfl⟩
theorem MapOf.lt {w : World} {b n : Nat} {p : Int → Int} (h : MapOf w b n p) : b < w.heap.size := by
  obtain ⟨D, h, _⟩ := h
  exact h.lt
theorem MapOf.fr {w w' : World} {b n : Nat} {p : Int → Int} {S : Nat → Prop} (h : MapOf w b n p) (hf : Fr S w w') (hb : ¬ S b) : MapOf w' b n p := by
  have hlt := h.lt
  obtain ⟨D, ⟨es, clock, hh, F, hs, hD⟩, hm, ha⟩ := h
  exact ⟨D, ⟨es, clock, (hf.block b hlt hb).trans hh, F, hs, hD⟩, hm, ha⟩
theorem MapOf.stay {w w' : World} {b n : Nat} {p : Int → Int} (h : MapOf w b n p) (hq : Quiet0 w w') : MapOf w' b n p := h.fr hq (fun h => h)
theorem MapOf.cong {w : World} {b n : Nat} {p q : Int → Int} (h : MapOf w b n p) (he : ∀ v, wfI v → p v = q v) : MapOf w b n q := by
  obtain ⟨D, h1, h2, h3⟩ := h
  exact ⟨D, h1, h2, fun v hv => by rw [h3 v hv, he v hv]⟩
end Go.Proofs.YtdlcakmjihfgfaaDoor
