/-
  Tokens held against each other (the reference's Same, at equal rows), and the law's awake. Conditions: the rows' cells are as told; strings.asciiSpace holds what its initialiser lays.
-/
import Derived.Test.YtaojlionebkcoaaDoorLexWords
import Derived.Laws.StructEq
import Derived.StillTailTactics
import Derived.BigQuiet
namespace Go.Proofs.YtaojlionebkcoaaDoor
open Go.RowKit

/-- tokens' cells from the head of block g on -/
def TokAt (w : World) (g : Nat) (ts : List Tok) : Prop := ∀ i t, ts[i]? = some t → w.cell? ⟨g, i * 4, none⟩ = some (.int .i64 (t.kind : Nat)) ∧ w.cell? ⟨g, i * 4 + 1, none⟩ = some (.string (toBA t.text)) ∧ w.cell? ⟨g, i * 4 + 2, none⟩ = some (.int .i64 (t.fr : Nat)) ∧ w.cell? ⟨g, i * 4 + 3, none⟩ = some (.int .i64 (t.to : Nat))
theorem rowCells_at : ∀ (ts : List Tok) (i j : Nat) (t : Tok), ts[i]? = some t → j < 4 → (rowCells ts)[i * 4 + j]? = (tokCells t)[j]?
  | [], i, j, t, h, _ => by simp at h
  | a :: ts, 0, j, t, h, hj => by
    simp at h
    subst h
    simp only [rowCells, List.flatMap_cons, Nat.zero_mul, Nat.zero_add]
    exact List.getElem?_append_left (by simp [tokCells]; omega)
  | a :: ts, i + 1, j, t, h, hj => by
    have ih := rowCells_at ts i j t (by simpa using h) hj
    simp only [rowCells, List.flatMap_cons] at ih ⊢
    rw [List.getElem?_append_right (by simp [tokCells]; omega), ← ih]
    congr 1
    simp [tokCells]; omega
theorem TokRow.at {w : World} {B : Nat} {g n c : Nat} {ts : List Tok} (h : TokRow w B (.slice (some ⟨g, 0, none⟩) n c) ts) : TokAt w g ts := by
  intro i t hi
  have key : ∀ j u, j < 4 → (tokCells t)[j]? = some u → w.cell? ⟨g, i * 4 + j, none⟩ = some u := by
    intro j u hj hu
    have h1 := rowCells_at ts i j t hi hj
    have h2 := h.1.cells (g := g) rfl (i * 4 + j) u (by rw [h1, hu])
    simpa [Addr.add_lit] using h2
  exact ⟨by simpa using key 0 _ (by omega) rfl, key 1 _ (by omega) rfl, key 2 _ (by omega) rfl, key 3 _ (by omega) rfl⟩
theorem TokRow.lt {w : World} {B : Nat} {g n c : Nat} {ts : List Tok} (h : TokRow w B (.slice (some ⟨g, 0, none⟩) n c) ts) : B ≤ g ∧ g < w.heap.size := ⟨h.2 g rfl, (World.ownsRow.lt h.1 g rfl).2⟩
theorem TokAt.stay {w w' : World} {g : Nat} {ts : List Tok} (h : TokAt w g ts) (hg : g < w.heap.size) (hq : Quiet0 w w') : TokAt w' g ts := by
  intro i t hi
  obtain ⟨h1, h2, h3, h4⟩ := h i t hi
  exact ⟨(hq.cellb hg (fun h => h)).trans h1, (hq.cellb hg (fun h => h)).trans h2, (hq.cellb hg (fun h => h)).trans h3, (hq.cellb hg (fun h => h)).trans h4⟩

theorem eqTok (d : Nat) (w : World) (k f t : Int) (s : ByteArray) : (Op.equalIn (d + 1 + 1 + 1) 34 (.agg #[.int .i64 k, .string s, .int .i64 f, .int .i64 t]) (.agg #[.int .i64 k, .string s, .int .i64 f, .int .i64 t])).run Tryd.prog w = .ok true w := by
  have e32 : ∀ (xs ys : Array Value) (w : World), (Op.equalIn (d + 1 + 1) 32 (.agg xs) (.agg ys)).run Tryd.prog w = (Op.eqFields (d + 1) xs ys (Tryd.prog.fieldsOf 32).toList).run Tryd.prog w :=
    fun xs ys w => run_equalIn_agg w (d + 1) 32 xs ys (by kernel_rfl) (by kernel_rfl)
  have e34 : ∀ (xs ys : Array Value) (w : World), (Op.equalIn (d + 1 + 1 + 1) 34 (.agg xs) (.agg ys)).run Tryd.prog w = (Op.eqFields (d + 1 + 1) xs ys (Tryd.prog.fieldsOf 34).toList).run Tryd.prog w :=
    fun xs ys w => run_equalIn_agg w (d + 1 + 1) 34 xs ys (by kernel_rfl) (by kernel_rfl)
  simp only [Program.fieldsOf, Tryd.underlying32, Tryd.underlying34] at e32 e34
  have u3 := Tryd.underlying3
  have a3 := Tryd.isAgg3
  have z3 := Tryd.sizeOf3
  have u9 := Tryd.underlying9
  have a9 := Tryd.isAgg9
  have z9 := Tryd.sizeOf9
  have a32 := Tryd.isAgg32
  have z32 := Tryd.sizeOf32
  rw [e34]
  clear e34
  go_simp
theorem neqTok (w : World) (k f t : Int) (s : ByteArray) : (binOp .neq 34 (.agg #[.int .i64 k, .string s, .int .i64 f, .int .i64 t]) (.agg #[.int .i64 k, .string s, .int .i64 f, .int .i64 t])).run Tryd.prog w = .ok (.bool false) w := by
  rw [run_neq_struct]
  have h := eqTok 9997 w k f t s
  rw [show (9997 + 1 + 1 + 1 : Nat) = 10000 from rfl] at h
  rw [h]; rfl

set_option maxHeartbeats 1000000 in
theorem refSame_yes (g1 g2 n c1 c2 : Nat) (ts : List Tok) (w : World) (h1 : TokAt w g1 ts) (h2 : TokAt w g2 ts) (hn : n = ts.length) (hb : n ≤ 100001) :
    Calls Tryd.prog 10 #[.slice (some ⟨g1, 0, none⟩) n c1, .slice (some ⟨g2, 0, none⟩) n c2] w fun e w' => e = .returned (.bool true) ∧ Quiet0 w w' := by
  have H1 := Lib.hid h1
  have H2 := Lib.hid h2
  have HN := Lib.hid hn
  clear h1 h2 hn
  go_enter Tryd.func10, Tryd.ntmps10
  go_wp2_with fail
  go_loopw [5] (fun t wr => ∃ (i q : Nat), t = .int .i64 i ∧ i ≤ n ∧ wr = w.drewN q) (fun t _ => n - (intOf t).toNat)
  case atStart => exact ⟨0, 0, rfl, Nat.zero_le _, rfl⟩
  case round =>
    obtain ⟨i, q, rfl, hi, hw⟩ := hrel
    have HW := Lib.hid hw
    clear hw
    by_cases hlt : i < n
    · have hlt' : (i : Int) < n := by omega
      obtain ⟨t, ht⟩ : ∃ t, ts[i]? = some t := ⟨_, List.getElem?_eq_getElem (by have := HN.out; omega)⟩
      have hq : Quiet0 w wr := by rw [HW.out]; exact Fr.drewN _ _ _
      obtain ⟨a0, a1, a2, a3⟩ := H1.out i t ht
      obtain ⟨b0, b1, b2, b3⟩ := H2.out i t ht
      have c0 : wr.cell? ⟨g1, i * 4, none⟩ = some (.int .i64 (t.kind : Nat)) := by rw [HW.out]; exact a0
      have c1 : wr.cell? ⟨g1, i * 4 + 1, none⟩ = some (.string (toBA t.text)) := by rw [HW.out]; exact a1
      have c2 : wr.cell? ⟨g1, i * 4 + 2, none⟩ = some (.int .i64 (t.fr : Nat)) := by rw [HW.out]; exact a2
      have c3 : wr.cell? ⟨g1, i * 4 + 3, none⟩ = some (.int .i64 (t.to : Nat)) := by rw [HW.out]; exact a3
      have d0 : wr.cell? ⟨g2, i * 4, none⟩ = some (.int .i64 (t.kind : Nat)) := by rw [HW.out]; exact b0
      have d1 : wr.cell? ⟨g2, i * 4 + 1, none⟩ = some (.string (toBA t.text)) := by rw [HW.out]; exact b1
      have d2 : wr.cell? ⟨g2, i * 4 + 2, none⟩ = some (.int .i64 (t.fr : Nat)) := by rw [HW.out]; exact b2
      have d3 : wr.cell? ⟨g2, i * 4 + 3, none⟩ = some (.int .i64 (t.to : Nat)) := by rw [HW.out]; exact b3
      have hne := fun W => neqTok W (t.kind : Nat) (t.fr : Nat) (t.to : Nat) (toBA t.text)
      clear a0 a1 a2 a3 b0 b1 b2 b3 ht hq
      go_wp2_with fail
      go_quiet (fail)
      go_wp2_with fail
      go_roundw
      case rel => exact ⟨i + 1, _, by go_num, by omega, by rw [HW.out, World.drewN_drewN]⟩
      case measure => simp [intOf]; omega
    · have hlt' : ¬ (i : Int) < n := by omega
      go_wp2_with fail
      go_ret
      exact ⟨rfl, by rw [HW.out]; exact Fr.drewN _ _ _⟩
end Go.Proofs.YtaojlionebkcoaaDoor
