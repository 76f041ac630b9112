/-
  The laws' awake of chapter 20. No condition.
-/
import Derived.Test.YtdlcakmjihfgfaaDoorSlMarked
namespace Go.Proofs.YtdlcakmjihfgfaaDoor
open Go.RowKit Go.Shelf SpanPlain

theorem sl_one {w : World} {b : Nat} {x y : Int} (h : w.heap[b]? = some (.cells #[.int .i64 x, .int .i64 y] 41 (0, 0))) : SpAt (fun _ => True) w (some ⟨b, 0, none⟩) [(x, y)] := by
  intro j t ht
  have hj : j = 0 := by
    have := (List.getElem?_eq_some_iff.1 ht).1
    simpa using this
  subst hj
  simp at ht
  subst ht
  exact ⟨b, 0, rfl, trivial, by rw [cell_of_row _ _ _ _ _ (0, 0) h]; rfl, by rw [cell_of_row _ _ _ _ _ (0, 0) h]; rfl⟩
theorem wake_mark : eachF ⟨#[102, 32, 120]⟩ markF (clipN (ByteArray.mk #[102, 32, 120]).size (rmerge [(2, 3)])) 0 ByteArray.empty = ⟨#[102, 32, 194, 171, 120, 194, 187]⟩ := by decide +kernel
theorem wake_skel : eachF ⟨#[102, 32, 120]⟩ skelF (clipN (ByteArray.mk #[102, 32, 120]).size (rmerge [(2, 3)])) 0 ByteArray.empty = ⟨#[46, 46, 120]⟩ := by decide +kernel
set_option maxHeartbeats 1000000 in
theorem awakeSl_any (w : World) : Calls Tryd.prog 6 #[] w fun e w' => e = .returned (.bool true) ∧ Quiet0 w w' := by
  have H1 : Hid (∀ W b, W.heap[b]? = some (.cells #[.int .i64 2, .int .i64 3] 41 (0, 0)) → Calls Tryd.prog 7 #[.string ⟨#[102, 32, 120]⟩, .slice (some ⟨b, 0, none⟩) 1 1] W fun e w' => e = .returned (.string ⟨#[102, 32, 194, 171, 120, 194, 187]⟩) ∧ Quiet0 W w') := by
    intro W b h
    have := marked_any ⟨#[102, 32, 120]⟩ [(2, 3)] (some ⟨b, 0, none⟩) 1 W _ (sl_one h) (by decide) (by decide)
    rw [wake_mark] at this; exact this
  have H2 : Hid (∀ W b, W.heap[b]? = some (.cells #[.int .i64 2, .int .i64 3] 41 (0, 0)) → Calls Tryd.prog 9 #[.string ⟨#[102, 32, 120]⟩, .slice (some ⟨b, 0, none⟩) 1 1] W fun e w' => e = .returned (.string ⟨#[46, 46, 120]⟩) ∧ Quiet0 W w') := by
    intro W b h
    have := skeleton_any ⟨#[102, 32, 120]⟩ [(2, 3)] (some ⟨b, 0, none⟩) 1 W _ (sl_one h) (by decide) (by decide)
    rw [wake_skel] at this; exact this
  obtain ⟨W0, hW0⟩ : ∃ W0, W0 = w.alloc (.cells #[.int .i64 2, .int .i64 3] 41) := ⟨_, rfl⟩
  have HB0 : Hid (W0.heap[w.heap.size]? = some (.cells #[.int .i64 2, .int .i64 3] 41 (0, 0))) := by rw [hW0]; exact heap_alloc_new w _
  obtain ⟨W1, hW1⟩ : ∃ W1, W1 = W0.alloc (.cells #[.int .i64 2, .int .i64 3] 41) := ⟨_, rfl⟩
  have HB1 : Hid (W1.heap[W0.heap.size]? = some (.cells #[.int .i64 2, .int .i64 3] 41 (0, 0))) := by rw [hW1]; exact heap_alloc_new W0 _
  have HQ1 : Hid (Quiet0 w W1) := by rw [hW1, hW0]; exact (Quiet0.alloc _ _).trans (Quiet0.alloc _ _)
  have HB2 : Hid (W1.heap[w.heap.size]? = some (.cells #[.int .i64 2, .int .i64 3] 41 (0, 0))) := by rw [hW1]; exact blk_after (Quiet0.alloc _ _) HB0.out
  have HZ0 : Hid (W0.heap.size = w.heap.size + 1) := by show _ = _; rw [hW0]; simp
  have hW1' : W1 = (w.alloc (.cells #[.int .i64 2, .int .i64 3] 41)).alloc (.cells #[.int .i64 2, .int .i64 3] 41) := by rw [hW1, hW0]
  rw [HZ0.out] at HB1
  clear hW1 hW0
  go_enter Tryd.func6, Tryd.ntmps6
  go_wp2_with fail
  rw [← hW1']
  clear hW1'
  refine (H1.out _ _ HB1.out).mono ?_; rintro e w2 ⟨rfl, hq2⟩
  have hb2 := blk_after hq2 HB2.out
  have d0 : w2.cell? ⟨w.heap.size, 0, none⟩ = some (.int .i64 2) := by rw [cell_of_row _ _ _ _ _ (0, 0) hb2]; rfl
  have d1 : w2.cell? ⟨w.heap.size, 1, none⟩ = some (.int .i64 3) := by rw [cell_of_row _ _ _ _ _ (0, 0) hb2]; rfl
  have HQ2 := Lib.hid (HQ1.out.trans hq2)
  clear hb2 hq2
  obtain ⟨W3, hW3⟩ : ∃ W3, W3 = w2.alloc (.cells #[.int .i64 2, .int .i64 3] 41) := ⟨_, rfl⟩
  have HB3 : Hid (W3.heap[w2.heap.size]? = some (.cells #[.int .i64 2, .int .i64 3] 41 (0, 0))) := by rw [hW3]; exact heap_alloc_new w2 _
  have HQ3 : Hid (Quiet0 w W3) := by rw [hW3]; exact HQ2.out.trans (Quiet0.alloc _ _)
  go_wp2_with fail
  rw [← hW3]
  clear hW3
  refine (H2.out _ _ HB3.out).mono ?_; rintro e w4 ⟨rfl, hq4⟩
  have HQ4 := Lib.hid (HQ3.out.trans hq4)
  clear hq4
  go_wp2_with fail
  go_ret
  exact ⟨rfl, HQ4.out⟩
end Go.Proofs.YtdlcakmjihfgfaaDoor
