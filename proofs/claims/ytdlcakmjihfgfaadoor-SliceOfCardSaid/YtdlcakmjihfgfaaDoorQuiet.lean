/-
  Worlds in which all that was there is as it was ('Quiet0'). No condition.
-/
import Derived.Test.YtdlcakmjihfgfaaDoorMem2
namespace Go.Proofs.YtdlcakmjihfgfaaDoor
open Go.RowKit

def Quiet0 (w w' : World) : Prop := Fr (fun _ => False) w w'
theorem Quiet0.refl (w : World) : Quiet0 w w := Fr.refl _ w
theorem Quiet0.trans {a b c : World} (h : Quiet0 a b) (k : Quiet0 b c) : Quiet0 a c := Fr.trans h k
theorem Quiet0.alloc (w : World) (o : Obj) : Quiet0 w (w.alloc o) := Fr.alloc _ w o
theorem Quiet0.below {w w' : World} (h : Quiet0 w w') : Below w.heap.size w w' := Fr.below h (Nat.le_refl _) (fun _ h => h.elim)
theorem Quiet0.of_below {w w' : World} (h : Below w.heap.size w w') : Quiet0 w w' := Fr.of_below h (fun _ hk _ => hk)
theorem Quiet0.drewN (w : World) (n : Nat) : Quiet0 w (w.drewN n) := Fr.drewN _ w n
theorem Quiet0.drew (w : World) : Quiet0 w w.drew := Fr.drew _ w
theorem Quiet0.at {w w' : World} (h : Quiet0 w w') {b off : Nat} {v : Value} (hc : w.cell? ⟨b, off, none⟩ = some v) : w'.cell? ⟨b, off, none⟩ = some v :=
  (h.cellb (World.block_lt_of_cell? w _ hc) (fun h => h)).trans hc
end Go.Proofs.YtdlcakmjihfgfaaDoor
