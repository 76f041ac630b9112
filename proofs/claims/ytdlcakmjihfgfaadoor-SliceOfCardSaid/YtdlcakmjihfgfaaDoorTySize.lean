/-
  The program's Size, Has and Depth. Conditions: the types lie in memory as told; there are few of them.
-/
import Derived.Test.YtdlcakmjihfgfaaDoorTyEach
import Derived.OneCell
namespace Go.Proofs.YtdlcakmjihfgfaaDoor
open Go.RowKit Go.Shelf

/-- a captured variable -/
def Box1 (w : World) (c : Nat) (v : Value) (t : TypeId) : Prop := w.heap[c]? = some (.cells #[v] t (0, 0))
theorem Box1.alloc {w : World} {c : Nat} {v : Value} {t : TypeId} (h : Box1 w c v t) (o : Obj) : Box1 (w.alloc o) c v t := by
  unfold Box1 at *
  rw [Below.heap_alloc _ _ _ (lt_of_block h)]; exact h
theorem Box1.new (w : World) (v : Value) (t : TypeId) : Box1 (w.alloc (.cells #[v] t)) w.heap.size v t := heap_alloc_new w _
theorem Quiet0.setCell_new {w0 w : World} (h : Quiet0 w0 w) {p : Addr} (hp : w0.heap.size ≤ p.block) (u : Value) : Quiet0 w0 (w.setCell p u) :=
  Fr.trans' h (Fr.setCell (fun k => k = p.block) w p u rfl) (fun i hi e => by omega)
def SizeJ (w0 : World) (c : Nat) (m : Nat) (_ : Unit) (W : World) : Prop := Box1 W c (.int .i64 (m : Nat)) 3 ∧ Quiet0 w0 W
/-- types.Has -/
def hasStep (v : Int) (s : Bool) (k n : Int) (_ : Fo) : Bool := s || ((k == 1) && (n == v))
def HasJ (w0 : World) (c d : Nat) (v : Int) (_ : Nat) (s : Bool) (W : World) : Prop := Box1 W c (.bool s) 4 ∧ Box1 W d (.int .i64 v) 3 ∧ Quiet0 w0 W
def hasT (v k n : Int) (ps : Fo) : Bool := foldF (hasStep v) (hasStep v false k n ps) ps
end Go.Proofs.YtdlcakmjihfgfaaDoor
