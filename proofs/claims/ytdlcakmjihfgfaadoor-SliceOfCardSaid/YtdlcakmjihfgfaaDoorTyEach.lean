/-
  each: a type, and all that it is made of, handed to a function; with it Size and Has. Conditions: the types lie in memory as told; there are few of them.
-/
import Derived.Test.YtdlcakmjihfgfaaDoorTyRight2
namespace Go.Proofs.YtdlcakmjihfgfaaDoor
open Go.RowKit Go.Shelf

def foldF {σ : Type} (step : σ → Int → Int → Fo → σ) : σ → Fo → σ
  | s, .nil => s
  | s, .cons k n ps r => foldF step (foldF step (step s k n ps) ps) r
/-- what a function that is handed to each does: m types have come, the state is s -/
structure EachK (g : Nat) (lb : Array Value) (N : Nat) (w0 : World) (G : Int → Prop) (S : World → Nat → Prop) {σ : Type} (step : σ → Int → Int → Fo → σ) (J : Nat → σ → World → Prop) : Prop where
  quiet : ∀ m s W, J m s W → Quiet0 w0 W
  alloc : ∀ m s W o, J m s W → J m s (W.alloc o)
  low : ∀ m s W, J m s W → ∀ k, S W k → k < W.heap.size
  back : ∀ m s W o k, J m s W → S (W.alloc o) k → S W k
  call : ∀ m s k n ps (W : World) (o : Option Addr) (len cap : Nat), m < N → J m s W → Slc w0 o len ps → G n →
    Calls Tryd.prog g (#[tyv k n o len cap] ++ lb) W fun e W' => e = .returned (.tuple #[]) ∧ J (m + 1) (step s k n ps) W' ∧ Fr (S W) W W'

section
variable {g : Nat} {lb : Array Value} {N : Nat} {w0 : World} {G : Int → Prop} {S : World → Nat → Prop} {σ : Type} {step : σ → Int → Int → Fo → σ} {J : Nat → σ → World → Prop}
end
end Go.Proofs.YtdlcakmjihfgfaaDoor
