/-
  A map from int to types that a call has made: what it holds at each key; look-up and store. Condition: keys are in range.
-/
import Derived.Test.YtdlcakmjihfgfaaDoorTyMap
import Derived.Maps.OwnSet
namespace Go.Proofs.YtdlcakmjihfgfaaDoor
open Go.RowKit Go.Maps

def heldR (v : Value) : Option (DataW Value × List MemPlace) := some (.held v, [])
def zeroT : Value := .agg #[.int .i64 0, .int .i64 0, .slice none 0 0]
theorem zeroTy (w : World) : (zeroValue 63).run Tryd.prog w = .ok zeroT w := by kernel_rfl
def MapT (w : World) (b n : Nat) (q : Int → Option Value) : Prop :=
  ∃ D : DataW Value, w.ownsMap Tryd.prog 3 heldR b n D ∧ IsMap D ∧ ∀ v, wfI v → has D (.int .i64 v) = (q v).isSome ∧ D.atKey (.int .i64 v) (.held zeroT) = .held ((q v).getD zeroT)
theorem MapT.made (w : World) : MapT (w.alloc (.map #[] 0)) w.heap.size 0 (fun _ => none) :=
  ⟨.map [], World.ownsMap_made _ _ _ _, ⟨_, rfl⟩, fun _ _ => ⟨rfl, rfl⟩⟩
theorem MapT.lt {w : World} {b n : Nat} {q : Int → Option Value} (h : MapT w b n q) : b < w.heap.size := by
  obtain ⟨D, h, _⟩ := h
  exact h.lt
theorem MapT.fr {w w' : World} {b n : Nat} {q : Int → Option Value} {S : Nat → Prop} (h : MapT w b n q) (hf : Fr S w w') (hb : ¬ S b) : MapT w' b n q := by
  have hlt := h.lt
  obtain ⟨D, ⟨es, clock, hh, F, hs, hD⟩, hm, ha⟩ := h
  exact ⟨D, ⟨es, clock, (hf.block b hlt hb).trans hh, F, hs, hD⟩, hm, ha⟩
theorem MapT.stay {w w' : World} {b n : Nat} {q : Int → Option Value} (h : MapT w b n q) (hq : Quiet0 w w') : MapT w' b n q := h.fr hq (fun h => h)
end Go.Proofs.YtdlcakmjihfgfaaDoor
