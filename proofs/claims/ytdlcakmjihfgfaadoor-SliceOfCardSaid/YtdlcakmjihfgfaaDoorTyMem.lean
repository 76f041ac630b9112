/-
  Types as they lie in memory: a row of types, each with a slice of its parts. No condition.
-/
import Derived.Test.YtdlcakmjihfgfaaDoorProg
import Derived.Test.YtdlcakmjihfgfaaDoorQuiet
import Derived.Test.YtdlcakmjihfgfaaDoorTyPlain
namespace Go.Proofs.YtdlcakmjihfgfaaDoor
open Go.RowKit

/-- types in a row from an address on -/
def At (w : World) : Nat → Nat → Fo → Prop
  | _, _, .nil => True
  | b, off, .cons k n ps r => w.cell? ⟨b, off, none⟩ = some (.int .i64 k) ∧ w.cell? ⟨b, off + 1, none⟩ = some (.int .i64 n) ∧
      (∃ o len cap, w.cell? ⟨b, off + 2, none⟩ = some (.slice o len cap) ∧ len = ps.length ∧ len ≤ maxLen ∧ (0 < len → ∃ b' off', o = some ⟨b', off', none⟩ ∧ At w b' off' ps)) ∧ At w b (off + 3) r
/-- a slice's types -/
def Slc (w : World) (o : Option Addr) (len : Nat) (f : Fo) : Prop := len = f.length ∧ len ≤ maxLen ∧ (0 < len → ∃ b off, o = some ⟨b, off, none⟩ ∧ At w b off f)
theorem Slc.nil (w : World) (o : Option Addr) : Slc w o 0 .nil := ⟨rfl, Nat.zero_le _, fun h => absurd h (Nat.lt_irrefl _)⟩
theorem At.stay {w w' : World} (hq : Quiet0 w w') : ∀ (f : Fo) (b off : Nat), At w b off f → At w' b off f
  | .nil, _, _, _ => trivial
  | .cons k n ps r, b, off, h => by
    obtain ⟨h1, h2, ⟨o, len, cap, h3, h4, h4', h5⟩, h6⟩ := h
    refine ⟨hq.at h1, hq.at h2, ⟨o, len, cap, hq.at h3, h4, h4', fun hl => ?_⟩, At.stay hq r b (off + 3) h6⟩
    obtain ⟨b', off', ho, ha⟩ := h5 hl
    exact ⟨b', off', ho, At.stay hq ps b' off' ha⟩
theorem Slc.stay {w w' : World} {o : Option Addr} {len : Nat} {f : Fo} (h : Slc w o len f) (hq : Quiet0 w w') : Slc w' o len f := by
  refine ⟨h.1, h.2.1, fun hl => ?_⟩
  obtain ⟨b, off, ho, ha⟩ := h.2.2 hl
  exact ⟨b, off, ho, At.stay hq f b off ha⟩
theorem At.nth {w : World} : ∀ (f : Fo) (b off i : Nat), At w b off f → i < f.length → ∃ k n ps o len cap, f.drop i = .cons k n ps (f.drop (i + 1)) ∧ f.get i = some (k, n, ps) ∧
    w.cell? ⟨b, off + i * 3, none⟩ = some (.int .i64 k) ∧ w.cell? ⟨b, off + i * 3 + 1, none⟩ = some (.int .i64 n) ∧ w.cell? ⟨b, off + i * 3 + 2, none⟩ = some (.slice o len cap) ∧ Slc w o len ps
  | .nil, _, _, _, _, h => by simp [Fo.length] at h
  | .cons k n ps r, b, off, 0, h, _ => by
    obtain ⟨h1, h2, ⟨o, len, cap, h3, h4, h4', h5⟩, h6⟩ := h
    exact ⟨k, n, ps, o, len, cap, by simp [Fo.drop, Fo.drop_zero], rfl, by simpa using h1, by simpa using h2, by simpa using h3, h4, h4', h5⟩
  | .cons k n ps r, b, off, i + 1, h, hi => by
    obtain ⟨_, _, _, h6⟩ := h
    obtain ⟨k', n', ps', o, len, cap, e1, e2, c1, c2, c3, hs⟩ := At.nth r b (off + 3) i h6 (by simp [Fo.length] at hi; omega)
    refine ⟨k', n', ps', o, len, cap, by simp only [Fo.drop]; rw [e1], e2, ?_, ?_, ?_, hs⟩
    · rw [show off + (i + 1) * 3 = off + 3 + i * 3 from by omega]; exact c1
    · rw [show off + (i + 1) * 3 = off + 3 + i * 3 from by omega]; exact c2
    · rw [show off + (i + 1) * 3 = off + 3 + i * 3 from by omega]; exact c3
/-- the type at a place of a slice -/
theorem Slc.nth {w : World} {o : Option Addr} {len : Nat} {f : Fo} (h : Slc w o len f) {i : Nat} (hi : i < len) : ∃ b off k n ps o' len' cap', o = some ⟨b, off, none⟩ ∧ f.drop i = .cons k n ps (f.drop (i + 1)) ∧ f.get i = some (k, n, ps) ∧
    w.cell? ⟨b, off + i * 3, none⟩ = some (.int .i64 k) ∧ w.cell? ⟨b, off + i * 3 + 1, none⟩ = some (.int .i64 n) ∧ w.cell? ⟨b, off + i * 3 + 2, none⟩ = some (.slice o' len' cap') ∧ Slc w o' len' ps := by
  obtain ⟨b, off, rfl, ha⟩ := h.2.2 (by omega)
  obtain ⟨k, n, ps, o', len', cap', h1⟩ := At.nth f b off i ha (by have := h.1; omega)
  exact ⟨b, off, k, n, ps, o', len', cap', rfl, h1⟩
/-- a type as a value -/
def tyv (k n : Int) (o : Option Addr) (len cap : Nat) : Value := .agg #[.int .i64 k, .int .i64 n, .slice o len cap]
theorem box_cells (w : World) (k n : Int) (o : Option Addr) (len cap : Nat) (t : TypeId) (W : World) (hW : Quiet0 (w.alloc (.cells #[.int .i64 k, .int .i64 n, .slice o len cap] t)) W) :
    W.cell? ⟨w.heap.size, 0, none⟩ = some (.int .i64 k) ∧ W.cell? ⟨w.heap.size, 1, none⟩ = some (.int .i64 n) ∧ W.cell? ⟨w.heap.size, 2, none⟩ = some (.slice o len cap) := by
  refine ⟨hW.at ?_, hW.at ?_, hW.at ?_⟩ <;> (rw [cell_of_row _ _ _ _ _ (0, 0) (heap_alloc_new w _)]; rfl)
end Go.Proofs.YtdlcakmjihfgfaaDoor
