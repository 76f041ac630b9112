/-
  Equations in memory; slices.IndexFunc and ContainsFunc on them. Conditions: the rows lie in memory as told.
-/
import Derived.Test.YtdlcakmjihfgfaaDoorSuMem
import Derived.Test.YtdlcakmjihfgfaaDoorTyRight
namespace Go.Proofs.YtdlcakmjihfgfaaDoor
open Go.RowKit Go.Maps

/-- an equation: two types, and a span -/
abbrev Eqn := (Int × Int × Fo) × (Int × Int × Fo) × Int × Int
def eqv (t : Eqn) (o1 : Option Addr) (l1 c1 : Nat) (o2 : Option Addr) (l2 c2 : Nat) : Value :=
  .agg #[.int .i64 t.1.1, .int .i64 t.1.2.1, .slice o1 l1 c1, .int .i64 t.2.1.1, .int .i64 t.2.1.2.1, .slice o2 l2 c2, .int .i64 t.2.2.1, .int .i64 t.2.2.2]
def EqsAt (w : World) (o : Option Addr) (l : List Eqn) : Prop := ∀ i t, l[i]? = some t → ∃ b off o1 l1 c1 o2 l2 c2, o = some ⟨b, off, none⟩ ∧
  w.cell? ⟨b, off + i * 8, none⟩ = some (.int .i64 t.1.1) ∧ w.cell? ⟨b, off + i * 8 + 1, none⟩ = some (.int .i64 t.1.2.1) ∧ w.cell? ⟨b, off + i * 8 + 2, none⟩ = some (.slice o1 l1 c1) ∧
  w.cell? ⟨b, off + i * 8 + 3, none⟩ = some (.int .i64 t.2.1.1) ∧ w.cell? ⟨b, off + i * 8 + 4, none⟩ = some (.int .i64 t.2.1.2.1) ∧ w.cell? ⟨b, off + i * 8 + 5, none⟩ = some (.slice o2 l2 c2) ∧
  w.cell? ⟨b, off + i * 8 + 6, none⟩ = some (.int .i64 t.2.2.1) ∧ w.cell? ⟨b, off + i * 8 + 7, none⟩ = some (.int .i64 t.2.2.2) ∧ Slc w o1 l1 t.1.2.2 ∧ Slc w o2 l2 t.2.1.2.2
theorem EqsAt.stay {w w' : World} {o : Option Addr} {l : List Eqn} (h : EqsAt w o l) (hq : Quiet0 w w') : EqsAt w' o l := by
  intro i t ht
  obtain ⟨b, off, o1, l1, c1, o2, l2, c2, h0, a0, a1, a2, a3, a4, a5, a6, a7, s1, s2⟩ := h i t ht
  exact ⟨b, off, o1, l1, c1, o2, l2, c2, h0, hq.at a0, hq.at a1, hq.at a2, hq.at a3, hq.at a4, hq.at a5, hq.at a6, hq.at a7, s1.stay hq, s2.stay hq⟩
def idxE (p : Eqn → Bool) : List Eqn → Nat → Int
  | [], _ => -1
  | t :: r, i => if p t then i else idxE p r (i + 1)
theorem idxE_any (p : Eqn → Bool) : ∀ (l : List Eqn) (i : Nat), decide (0 ≤ idxE p l i) = l.any p
  | [], i => rfl
  | t :: r, i => by
    unfold idxE
    rw [List.any_cons]
    cases h : p t
    · simp only [Bool.false_eq_true, if_false, Bool.false_or]; exact idxE_any p r (i + 1)
    · simp
def PredEq (g : Nat) (lb : Array Value) (w0 : World) (l : List Eqn) (p : Eqn → Bool) : Prop := ∀ t ∈ l, ∀ (W : World) (o1 : Option Addr) (l1 c1 : Nat) (o2 : Option Addr) (l2 c2 : Nat), Quiet0 w0 W → Slc W o1 l1 t.1.2.2 → Slc W o2 l2 t.2.1.2.2 →
  Calls Tryd.prog g (#[eqv t o1 l1 c1 o2 l2 c2] ++ lb) W fun e W' => e = .returned (.bool (p t)) ∧ Quiet0 W W'
end Go.Proofs.YtdlcakmjihfgfaaDoor
