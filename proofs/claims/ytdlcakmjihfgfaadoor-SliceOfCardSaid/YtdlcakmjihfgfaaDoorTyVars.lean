/-
  types.Vars. Conditions: the types lie in memory as told; their numbers are in range; there are few of them.
-/
import Derived.Test.YtdlcakmjihfgfaaDoorTySize
import Derived.Test.YtdlcakmjihfgfaaDoorTyMap
import Derived.Test.YtdlcakmjihfgfaaDoorTyChange
namespace Go.Proofs.YtdlcakmjihfgfaaDoor
open Go.RowKit Go.Maps

theorem elemInt : Elem Tryd.prog 27 3 (.int .i64 0) 1 8 :=
  ⟨Tryd.underlying27, by kernel_rfl, by decide, by decide⟩
def varStep (l : List Int) (k n : Int) (_ : Fo) : List Int := if k == 1 && !inB l n then l ++ [n] else l
theorem vars_fold : ∀ (f : Fo) (l : List Int), foldF varStep l f = Fo.vars l f
  | .nil, l => rfl
  | .cons k n ps r, l => by
    show foldF varStep (foldF varStep (varStep l k n ps) ps) r = _
    rw [vars_fold ps, vars_fold r]; rfl
def seenP (l : List Int) (v : Int) : Int := if inB l v then 1 else 0
def ints (l : List Int) : List Value := l.map (Value.int .i64)
def VarsS (co bm : Nat) (W : World) (k : Nat) : Prop := k = co ∨ k = bm ∨ ∃ vo, Box1 W co vo 27 ∧ vo.ownBlock = some k
theorem Box1.inj {w : World} {c : Nat} {v u : Value} {t t' : TypeId} (h : Box1 w c v t) (h' : Box1 w c u t') : v = u := by
  unfold Box1 at *
  rw [h] at h'
  injection h' with h'
  injection h' with h1 h2 h3
  have := congrArg (fun a : Array Value => a[0]?) h1
  simpa using this
theorem Box1.back {w : World} {c : Nat} {v u : Value} {t t' : TypeId} {o : Obj} (h : Box1 w c v t) (h' : Box1 (w.alloc o) c u t') : Box1 w c u t' := by
  have := lt_of_block h
  unfold Box1 at *
  rw [Below.heap_alloc _ _ _ this] at h'; exact h'
theorem Box1.fr {w w' : World} {c : Nat} {v : Value} {t : TypeId} {S : Nat → Prop} (h : Box1 w c v t) (hf : Fr S w w') (hS : ¬ S c) : Box1 w' c v t := by
  have := lt_of_block h
  unfold Box1 at *
  rw [hf.block c this hS]; exact h
theorem inB_snoc (l : List Int) (n v : Int) : inB (l ++ [n]) v = (inB l v || v == n) := by
  unfold inB; rw [Bool.eq_iff_iff]; simp
end Go.Proofs.YtdlcakmjihfgfaaDoor
