/-
  span.Right, span.Has, span.Join, and the document's Same, Has, Join. Conditions: the spans lie in memory as told; there are few.
-/
import Derived.Test.YtemoohepiogdgaaSpHas
import Derived.Shelf.Abstract
namespace Go.Proofs.Ytemoohepiogdgaa
open Go.RowKit Go.Shelf SpanPlain

def rightP (n : Int) (t : Sp) : Bool := decide (t.1 < 0) || decide (n < t.2) || decide (t.2 < t.1)
theorem rightC_any (n : Int) (b : Nat) (t : Sp) (w : World) (hc : w.cell? ⟨b, 0, none⟩ = some (.int .i64 n)) : Calls Try.prog 30 #[spv t, .pointer (some ⟨b, 0, none⟩)] w fun e w' => e = .returned (.bool (rightP n t)) ∧ Quiet0 w w' := by
  obtain ⟨x, y⟩ := t
  have hb := World.block_lt_of_cell? w _ hc
  have hb' : b < w.heap.size := hb
  have HQ := Lib.hid (Quiet0.alloc w (.cells #[.int .i64 x, .int .i64 y] 25))
  have hc2 : (w.alloc (.cells #[.int .i64 x, .int .i64 y] 25)).cell? ⟨b, 0, none⟩ = some (.int .i64 n) := (Quiet0.alloc w _).at hc
  unfold rightP
  go_enter Try.func30, Try.ntmps30
  by_cases h1 : x < 0
  · go_wp2_with fail
    all_goals (go_ret; exact ⟨by first | (simp_all; done) | (simp_all; omega), HQ.out⟩)
  · by_cases h2 : n < y
    · go_wp2_with fail
      all_goals (go_ret; exact ⟨by first | (simp_all; done) | (simp_all; omega), HQ.out⟩)
    · go_wp2_with fail
      all_goals (go_ret; exact ⟨by first | (simp_all; done) | (simp_all; omega), HQ.out⟩)
theorem rightS_any (n : Int) (l : List Sp) (o : Option Addr) (cap : Nat) (w : World) (R : Nat → Prop) (hs : SpAt R w o l) (hz : l.length ≤ 1000000) :
    Calls Try.prog 12 #[.int .i64 n, .slice o l.length cap] w fun e w' => e = .returned (.bool (!l.any (rightP n))) ∧ Quiet0 w w' := by
  obtain ⟨W0, hW0⟩ : ∃ W0, W0 = w.alloc (.cells #[.int .i64 n] 3) := ⟨_, rfl⟩
  have hq0 : Quiet0 w W0 := by rw [hW0]; exact Quiet0.alloc _ _
  have hb : W0.cell? ⟨w.heap.size, 0, none⟩ = some (.int .i64 n) := by
    rw [hW0, cell_of_row _ _ _ _ _ (0, 0) (heap_alloc_new w _)]; rfl
  have HC := Lib.hid (containsS_any 30 #[.pointer (some ⟨w.heap.size, 0, none⟩)] (rightP n) (enters_of Try.func30 (by kernel_rfl) rfl) l o cap W0 R (hs.stay hq0) (fun t _ W hq => rightC_any n w.heap.size t W (hq.at hb)) hz)
  have HQ0 := Lib.hid hq0
  clear hs hb hq0
  generalize l.any (rightP n) = r at *
  go_enter Try.func12, Try.ntmps12
  go_wp2_with fail
  rw [← hW0]
  refine HC.out.mono ?_; rintro e w1 ⟨rfl, hq⟩
  clear hW0
  go_wp2_with fail
  all_goals (go_ret; exact ⟨by simp_all, HQ0.out.trans hq⟩)
theorem hasC_any (n : Int) (b : Nat) (t : Sp) (w : World) (hc : w.cell? ⟨b, 0, none⟩ = some (.int .i64 n)) : Calls Try.prog 33 #[spv t, .pointer (some ⟨b, 0, none⟩)] w fun e w' => e = .returned (.bool (hasP n t)) ∧ Quiet0 w w' := by
  obtain ⟨x, y⟩ := t
  have hb := World.block_lt_of_cell? w _ hc
  have hb' : b < w.heap.size := hb
  have HQ := Lib.hid (Quiet0.alloc w (.cells #[.int .i64 x, .int .i64 y] 25))
  have hc2 : (w.alloc (.cells #[.int .i64 x, .int .i64 y] 25)).cell? ⟨b, 0, none⟩ = some (.int .i64 n) := (Quiet0.alloc w _).at hc
  unfold hasP
  go_enter Try.func33, Try.ntmps33
  by_cases h1 : x ≤ n
  · go_wp2_with fail
    all_goals (go_ret; exact ⟨by first | (simp_all; done) | (simp_all; omega), HQ.out⟩)
  · go_wp2_with fail
    all_goals (go_ret; exact ⟨by first | (simp_all; done) | (simp_all; omega), HQ.out⟩)
theorem hasS_any (n : Int) (l : List Sp) (o : Option Addr) (cap : Nat) (w : World) (R : Nat → Prop) (hs : SpAt R w o l) (hz : l.length ≤ 1000000) :
    Calls Try.prog 17 #[.int .i64 n, .slice o l.length cap] w fun e w' => e = .returned (.bool (l.any (hasP n))) ∧ Quiet0 w w' := by
  obtain ⟨W0, hW0⟩ : ∃ W0, W0 = w.alloc (.cells #[.int .i64 n] 3) := ⟨_, rfl⟩
  have hq0 : Quiet0 w W0 := by rw [hW0]; exact Quiet0.alloc _ _
  have hb : W0.cell? ⟨w.heap.size, 0, none⟩ = some (.int .i64 n) := by
    rw [hW0, cell_of_row _ _ _ _ _ (0, 0) (heap_alloc_new w _)]; rfl
  have HC := Lib.hid (containsS_any 33 #[.pointer (some ⟨w.heap.size, 0, none⟩)] (hasP n) (enters_of Try.func33 (by kernel_rfl) rfl) l o cap W0 R (hs.stay hq0) (fun t _ W hq => hasC_any n w.heap.size t W (hq.at hb)) hz)
  have HQ0 := Lib.hid hq0
  clear hs hb hq0
  generalize l.any (hasP n) = r at *
  go_enter Try.func17, Try.ntmps17
  go_wp2_with fail
  rw [← hW0]
  refine HC.out.mono ?_; rintro e w1 ⟨rfl, hq⟩
  clear hW0
  go_wp2_with fail
  all_goals (go_ret; exact ⟨by simp_all, HQ0.out.trans hq⟩)
end Go.Proofs.Ytemoohepiogdgaa
