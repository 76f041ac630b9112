/-
  The laws' awake of chapter 01. No condition.
-/
import Derived.Test.YtemoohepiogdgaaSpRMerge
import Derived.Test.YtemoohepiogdgaaSpRef
namespace Go.Proofs.Ytemoohepiogdgaa
open Go.RowKit Go.Shelf SpanPlain

theorem sp_block {w : World} {b : Nat} {l : List Sp} {cs : Array Value} {z : Nat × Nat} (h : w.heap[b]? = some (.cells cs 25 z)) (hc : cs.toList = flat l) : SpAt (fun _ => True) w (some ⟨b, 0, none⟩) l := by
  intro j t ht
  have := flat_get l j t ht
  rw [← hc] at this
  refine ⟨b, 0, rfl, trivial, ?_, ?_⟩
  · rw [Nat.zero_add, cell_of_row _ _ _ _ _ z h]; simpa using this.1
  · rw [Nat.zero_add, cell_of_row _ _ _ _ _ z h]; simpa using this.2
set_option maxHeartbeats 1000000 in
theorem awakeS_any (w : World) : Calls Try.prog 8 #[] w fun e w' => e = .returned (.bool true) ∧ Quiet0 w w' := by
  obtain ⟨W0, hW0⟩ : ∃ W0, W0 = w.alloc (.cells #[.int .i64 2, .int .i64 4, .int .i64 0, .int .i64 1, .int .i64 3, .int .i64 6, .int .i64 6, .int .i64 7] 25) := ⟨_, rfl⟩
  have HQ0 : Hid (Quiet0 w W0) := by rw [hW0]; exact Quiet0.alloc _ _
  have HS : Hid (SpAt (fun _ => True) W0 (some ⟨w.heap.size, 0, none⟩) [(2, 4), (0, 1), (3, 6), (6, 7)]) := by rw [hW0]; exact sp_block (heap_alloc_new w _) rfl
  have HM : Hid (Calls Try.prog 10 #[.slice (some ⟨w.heap.size, 0, none⟩) 4 4] W0 (SpPost W0 [(0, 1), (2, 7)])) := by
    have h := merge_any _ _ 4 W0 _ HS.out (by simp)
    rw [show rmerge [(2, 4), (0, 1), (3, 6), (6, 7)] = [(0, 1), (2, 7)] from by decide] at h
    exact h
  go_enter Try.func8, Try.ntmps8
  go_wp2_with fail
  rw [← hW0]
  refine HM.out.mono ?_; rintro e w1 ⟨v, rfl, hr, hq⟩
  obtain ⟨o1, c1, rfl, _⟩ := hr.form
  have HR := Lib.hid hr.slc
  have HQ1 := Lib.hid (HQ0.out.trans hq)
  clear hr hq hW0
  obtain ⟨W2, hW2⟩ : ∃ W2, W2 = w1.alloc (.cells #[.int .i64 0, .int .i64 1, .int .i64 2, .int .i64 7] 25) := ⟨_, rfl⟩
  have HQ2 : Hid (Quiet0 w1 W2) := by rw [hW2]; exact Quiet0.alloc _ _
  have HS2 : Hid (SpAt (fun _ => True) W2 (some ⟨w1.heap.size, 0, none⟩) [(0, 1), (2, 7)]) := by rw [hW2]; exact sp_block (heap_alloc_new w1 _) rfl
  have HE : Hid (Calls Try.prog 9 #[.slice o1 2 c1, .slice (some ⟨w1.heap.size, 0, none⟩) 2 2] W2 fun e w' => e = .returned (.bool true) ∧ Quiet0 W2 w') := by
    have h := refSameS_any [(0, 1), (2, 7)] [(0, 1), (2, 7)] o1 c1 _ 2 W2 _ _ (HR.out.stay HQ2.out) HS2.out (by simp) (by simp)
    rw [show decide ([((0 : Int), (1 : Int)), (2, 7)] = [(0, 1), (2, 7)]) = true from by simp] at h
    exact h
  go_wp2_with fail
  rw [← hW2]
  refine HE.out.mono ?_; rintro e w3 ⟨rfl, hq3⟩
  clear hW2
  go_wp2_with fail
  go_ret
  exact ⟨rfl, (HQ1.out.trans HQ2.out).trans hq3⟩
end Go.Proofs.Ytemoohepiogdgaa
