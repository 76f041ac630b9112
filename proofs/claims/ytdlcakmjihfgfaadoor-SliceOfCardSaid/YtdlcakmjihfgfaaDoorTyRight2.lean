/-
  Whether a type is: the program's Right and the reference's Right, by induction over the type. Condition: the types lie in memory as told.
-/
import Derived.Test.YtdlcakmjihfgfaaDoorTyRight
import Derived.Shelf.Abstract
namespace Go.Proofs.YtdlcakmjihfgfaaDoor
open Go.RowKit Go.Shelf

/-- why a type isn't, but for its parts -/
theorem not_plain {k n : Int} {m : Nat} (h : Fo.plain k n m = false) : (k = 1 ∧ (n < 0 ∨ 1073741824 ≤ n ∨ 0 < m)) ∨ (k ≠ 1 ∧ n ≠ 0) ∨ (n = 0 ∧ (k = 2 ∨ k = 3) ∧ 0 < m) ∨ (n = 0 ∧ k = 4 ∧ m ≠ 2) ∨ (n = 0 ∧ k = 5 ∧ (m < 2 ∨ 8 < m)) ∨ (n = 0 ∧ (k < 1 ∨ 5 < k)) := by
  unfold Fo.plain at h
  by_cases k1 : k = 1
  · subst k1; simp at h; omega
  by_cases hn : n = 0
  · subst hn
    by_cases k2 : k = 2
    · subst k2; simp at h; omega
    by_cases k3 : k = 3
    · subst k3; simp at h; omega
    by_cases k4 : k = 4
    · subst k4; simp at h; omega
    by_cases k5 : k = 5
    · subst k5; simp at h; omega
    omega
  · omega
theorem is_plain {k n : Int} {m : Nat} (h : Fo.plain k n m = true) : (k = 1 ∧ 0 ≤ n ∧ n < 1073741824 ∧ m = 0) ∨ (n = 0 ∧ k = 2 ∧ m = 0) ∨ (n = 0 ∧ k = 3 ∧ m = 0) ∨ (n = 0 ∧ k = 4 ∧ m = 2) ∨ (n = 0 ∧ k = 5 ∧ 2 ≤ m ∧ m ≤ 8) := by
  unfold Fo.plain at h
  by_cases k1 : k = 1
  · subst k1; simp at h; omega
  by_cases k2 : k = 2
  · subst k2; simp at h; omega
  by_cases k3 : k = 3
  · subst k3; simp at h; omega
  by_cases k4 : k = 4
  · subst k4; simp at h; omega
  by_cases k5 : k = 5
  · subst k5; simp at h; omega
  · simp [k1, k2, k3, k4, k5] at h
end Go.Proofs.YtdlcakmjihfgfaaDoor
