/-
  Small facts for laws: rows of one and of two types, blocks, frames. No condition.
-/
import Derived.Test.YtdlcakmjihfgfaaDoorTyArrow
import Derived.Test.YtdlcakmjihfgfaaDoorBlk
import Derived.Deep.DeepCutAuto
import Derived.Deep.RegionHeld3
import Derived.Deep.AppendLies
namespace Go.Proofs.YtdlcakmjihfgfaaDoor
open Go.RowKit

theorem slc1 {W : World} {b : Nat} {k n : Int} {o : Option Addr} {len cap : Nat} {ps : Fo} (hb : W.heap[b]? = some (.cells #[.int .i64 k, .int .i64 n, .slice o len cap] 63 (0, 0))) (h1 : Slc W o len ps) : Slc W (some ⟨b, 0, none⟩) 1 (.cons k n ps .nil) :=
  ⟨rfl, by decide, fun _ => ⟨_, 0, rfl, by rw [cell_of_row _ _ _ _ _ (0, 0) hb]; rfl, by rw [cell_of_row _ _ _ _ _ (0, 0) hb]; rfl, ⟨o, len, cap, by rw [cell_of_row _ _ _ _ _ (0, 0) hb]; rfl, h1.1, h1.2.1, h1.2.2⟩, trivial⟩⟩
theorem slc2 {W : World} {b : Nat} {k1 n1 : Int} {o1 : Option Addr} {l1 c1 : Nat} {p1 : Fo} {k2 n2 : Int} {o2 : Option Addr} {l2 c2 : Nat} {p2 : Fo}
    (hb : W.heap[b]? = some (.cells #[.int .i64 k1, .int .i64 n1, .slice o1 l1 c1, .int .i64 k2, .int .i64 n2, .slice o2 l2 c2] 63 (0, 0))) (h1 : Slc W o1 l1 p1) (h2 : Slc W o2 l2 p2) :
    Slc W (some ⟨b, 0, none⟩) 2 (.cons k1 n1 p1 (.cons k2 n2 p2 .nil)) :=
  ⟨rfl, by decide, fun _ => ⟨b, 0, rfl, by rw [cell_of_row _ _ _ _ _ (0, 0) hb]; rfl, by rw [cell_of_row _ _ _ _ _ (0, 0) hb]; rfl, ⟨o1, l1, c1, by rw [cell_of_row _ _ _ _ _ (0, 0) hb]; rfl, h1.1, h1.2.1, h1.2.2⟩,
    by rw [cell_of_row _ _ _ _ _ (0, 0) hb]; rfl, by rw [cell_of_row _ _ _ _ _ (0, 0) hb]; rfl, ⟨o2, l2, c2, by rw [cell_of_row _ _ _ _ _ (0, 0) hb]; rfl, h2.1, h2.2.1, h2.2.2⟩, trivial⟩⟩
theorem box_use {w : World} {b : Nat} {a0 a1 a2 : Value} {t : TypeId} {G : Prop} (h : w.heap[b]? = some (.cells #[a0, a1, a2] t (0, 0)))
    (k : w.cell? ⟨b, 0, none⟩ = some a0 → w.cell? ⟨b, 1, none⟩ = some a1 → w.cell? ⟨b, 2, none⟩ = some a2 → w.frozen? ⟨b, 0, none⟩ = false → w.frozen? ⟨b, 1, none⟩ = false → w.frozen? ⟨b, 2, none⟩ = false → w.heap[b]? = some (.cells #[a0, a1, a2] t (0, 0)) → G) : G := by
  obtain ⟨z0, z1, z2, y0, y1, y2⟩ := box_cells3 h
  exact k z0 z1 z2 y0 y1 y2 h
theorem box5_use {w : World} {b : Nat} {a0 a1 a2 a3 a4 : Value} {t : TypeId} {G : Prop} (h : w.heap[b]? = some (.cells #[a0, a1, a2, a3, a4] t (0, 0)))
    (k : w.cell? ⟨b, 0, none⟩ = some a0 → w.cell? ⟨b, 1, none⟩ = some a1 → w.cell? ⟨b, 2, none⟩ = some a2 → w.cell? ⟨b, 3, none⟩ = some a3 → w.cell? ⟨b, 4, none⟩ = some a4 →
      w.frozen? ⟨b, 0, none⟩ = false → w.frozen? ⟨b, 1, none⟩ = false → w.frozen? ⟨b, 2, none⟩ = false → w.frozen? ⟨b, 3, none⟩ = false → w.frozen? ⟨b, 4, none⟩ = false → w.heap[b]? = some (.cells #[a0, a1, a2, a3, a4] t (0, 0)) → G) : G := by
  refine k ?_ ?_ ?_ ?_ ?_ ?_ ?_ ?_ ?_ ?_ h
  all_goals first | (rw [cell_of_row _ _ _ _ _ (0, 0) h]; rfl) | simp [World.frozen?, h]
theorem put_end {W0 w5 : World} {d : Nat} {a0 a1 a2 : Value} {o5 : Option Addr} {cp5 : Nat} {PS : Fo} {R : Nat → Prop}
    (hz : w5.heap[d]? = some (.cells #[a0, a1, a2] 63 (0, 0))) (hs : SlcIn R w5 o5 2 PS) (hd : ∀ k, R k → k ≠ d) (hf : Fr (fun k => W0.heap.size ≤ k) W0 w5) (hdd : W0.heap.size ≤ d) :
    ∃ d' o cp, Value.pointer (some ⟨d, 0, none⟩) = Value.pointer (some ⟨d', 0, none⟩) ∧ (put3 w5 d (.int .i64 4) (.int .i64 0) (.slice o5 2 cp5)).heap[d']? = some (.cells #[.int .i64 4, .int .i64 0, .slice o 2 cp] 63 (0, 0)) ∧ Slc (put3 w5 d (.int .i64 4) (.int .i64 0) (.slice o5 2 cp5)) o 2 PS ∧ Quiet0 W0 (put3 w5 d (.int .i64 4) (.int .i64 0) (.slice o5 2 cp5)) := by
  refine ⟨d, o5, cp5, rfl, box_set2 (box_set1 (box_set0 hz)), (hs.fr (T := R) (put3_fr w5 d _ _ _) (fun k _ hk => ⟨hk, hd k hk⟩)).slc, ?_⟩
  exact Fr.trans' (hf.mono (fun k hk h => by omega)) (put3_fr w5 d _ _ _) (fun i hi h => by omega)
end Go.Proofs.YtdlcakmjihfgfaaDoor
