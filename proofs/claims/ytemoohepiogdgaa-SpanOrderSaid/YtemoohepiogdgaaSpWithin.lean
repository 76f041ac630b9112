/-
  span.Within. Conditions: the spans lie in memory as told; there are few.
-/
import Derived.Test.YtemoohepiogdgaaSpMerge
import Derived.Test.YtemoohepiogdgaaBlk
import Derived.Shelf.Abstract
namespace Go.Proofs.Ytemoohepiogdgaa
open Go.RowKit Go.Shelf SpanPlain

def inP (s t : Sp) : Bool := decide (t.1 ≤ s.1) && decide (s.2 ≤ t.2)
def outP (lb : List Sp) (s : Sp) : Bool := !lb.any (inP s)
theorem inC_any (s : Sp) (b : Nat) (t : Sp) (w : World) (h0 : w.cell? ⟨b, 0, none⟩ = some (.int .i64 s.1)) (h1 : w.cell? ⟨b, 1, none⟩ = some (.int .i64 s.2)) : Calls Try.prog 32 #[spv t, .pointer (some ⟨b, 0, none⟩)] w fun e w' => e = .returned (.bool (inP s t)) ∧ Quiet0 w w' := by
  obtain ⟨x, y⟩ := t
  obtain ⟨u, v⟩ := s
  have hb := World.block_lt_of_cell? w _ h0
  have hb' : b < w.heap.size := hb
  have HQ := Lib.hid (Quiet0.alloc w (.cells #[.int .i64 x, .int .i64 y] 25))
  have hc2 : (w.alloc (.cells #[.int .i64 x, .int .i64 y] 25)).cell? ⟨b, 0, none⟩ = some (.int .i64 u) := (Quiet0.alloc w _).at h0
  have hc3 : (w.alloc (.cells #[.int .i64 x, .int .i64 y] 25)).cell? ⟨b, 1, none⟩ = some (.int .i64 v) := (Quiet0.alloc w _).at h1
  unfold inP
  go_enter Try.func32, Try.ntmps32
  by_cases k1 : x ≤ u
  · go_wp2_with fail
    all_goals (go_ret; exact ⟨by first | (simp_all; done) | (simp_all; omega), HQ.out⟩)
  · go_wp2_with fail
    all_goals (go_ret; exact ⟨by first | (simp_all; done) | (simp_all; omega), HQ.out⟩)
theorem outC_any (s : Sp) (b : Nat) (lb : List Sp) (o : Option Addr) (cap : Nat) (R : Nat → Prop) (w : World) (hc : w.cell? ⟨b, 0, none⟩ = some (.slice o lb.length cap)) (hs : SpAt R w o lb) (hz : lb.length ≤ 1000000) :
    Calls Try.prog 31 #[spv s, .pointer (some ⟨b, 0, none⟩)] w fun e w' => e = .returned (.bool (outP lb s)) ∧ Quiet0 w w' := by
  obtain ⟨x, y⟩ := s
  obtain ⟨W0, hW0⟩ : ∃ W0, W0 = w.alloc (.cells #[.int .i64 x, .int .i64 y] 25) := ⟨_, rfl⟩
  have hq0 : Quiet0 w W0 := by rw [hW0]; exact Quiet0.alloc _ _
  have b0 : W0.cell? ⟨w.heap.size, 0, none⟩ = some (.int .i64 x) := by
    rw [hW0, cell_of_row _ _ _ _ _ (0, 0) (heap_alloc_new w _)]; rfl
  have b1 : W0.cell? ⟨w.heap.size, 1, none⟩ = some (.int .i64 y) := by
    rw [hW0, cell_of_row _ _ _ _ _ (0, 0) (heap_alloc_new w _)]; rfl
  have c0 : W0.cell? ⟨b, 0, none⟩ = some (.slice o lb.length cap) := hq0.at hc
  have HC := Lib.hid (containsS_any 32 #[.pointer (some ⟨w.heap.size, 0, none⟩)] (inP (x, y)) (enters_of Try.func32 (by kernel_rfl) rfl) lb o cap W0 R (hs.stay hq0) (fun t _ W hq => inC_any (x, y) w.heap.size t W (hq.at b0) (hq.at b1)) hz)
  have HQ0 := Lib.hid hq0
  unfold outP
  clear hs b0 b1 hq0 hc
  generalize lb.any (inP (x, y)) = r at *
  go_enter Try.func31, Try.ntmps31
  go_upto_region 1 with fail
  rw [← hW0]
  clear hW0
  go_wp2_with fail
  refine HC.out.mono ?_; rintro e w1 ⟨rfl, hq⟩
  go_wp2_with fail
  all_goals (go_ret; exact ⟨by simp_all, HQ0.out.trans hq⟩)
set_option maxHeartbeats 1000000 in
theorem withinS_any (a b : List Sp) (o : Option Addr) (cap : Nat) (p : Option Addr) (pc : Nat) (w : World) (R T : Nat → Prop) (hs : SpAt R w o a) (ht : SpAt T w p b) (hz : a.length ≤ 100000) (hz' : b.length ≤ 100000) (hma : (rmerge a).length ≤ 1000000) (hmb : (rmerge b).length ≤ 1000000) :
    Calls Try.prog 13 #[.slice o a.length cap, .slice p b.length pc] w fun e w' => e = .returned (.bool (!(rmerge a).any (outP (rmerge b)))) ∧ Quiet0 w w' := by
  obtain ⟨W0, hW0⟩ : ∃ W0, W0 = w.alloc (.cells #[.slice p b.length pc] 22) := ⟨_, rfl⟩
  have hq0 : Quiet0 w W0 := by rw [hW0]; exact Quiet0.alloc _ _
  have hb0 : W0.heap[w.heap.size]? = some (.cells #[.slice p b.length pc] 22 (0, 0)) := by rw [hW0]; exact heap_alloc_new w _
  have b0 : W0.cell? ⟨w.heap.size, 0, none⟩ = some (.slice p b.length pc) := by rw [cell_of_row _ _ _ _ _ (0, 0) hb0]; rfl
  have HM1 := Lib.hid (merge_any b p pc W0 T (ht.stay hq0) hz')
  have HM2 : Hid (∀ W, Quiet0 w W → Calls Try.prog 10 #[.slice o a.length cap] W (SpPost W (rmerge a))) := fun W hq => merge_any a o cap W R (hs.stay hq) hz
  have HQ0 := Lib.hid hq0
  have HB0 := Lib.hid hb0
  obtain ⟨r, hr⟩ : ∃ r, (rmerge a).any (outP (rmerge b)) = r := ⟨_, rfl⟩
  have HRR := Lib.hid hr
  rw [hr]
  clear hs ht hb0 hq0 hr
  go_enter Try.func13, Try.ntmps13
  have hsz0 : W0.heap.size = w.heap.size + 1 := by rw [hW0]; simp
  have HZ0 := Lib.hid hsz0
  go_upto_region 1 with fail
  rw [← hW0]
  clear hW0 hsz0
  go_wp2_with fail
  refine HM1.out.mono ?_; rintro e w1 ⟨v1, rfl, hr1, hq1⟩
  obtain ⟨o1, c1, rfl, _⟩ := hr1.form
  have hb1 := blk_after hq1 HB0.out
  have e0 : w1.cell? ⟨w.heap.size, 0, none⟩ = some (.slice p b.length pc) := by rw [cell_of_row _ _ _ _ _ (0, 0) hb1]; rfl
  have z0 : w1.frozen? ⟨w.heap.size, 0, none⟩ = false := by simp [World.frozen?, hb1]
  have HB1 := Lib.hid hb1
  have HR1 := Lib.hid hr1
  have HQ1 := Lib.hid hq1
  clear hb1 hr1 hq1 b0
  generalize hnb : w.heap.size = nb at *
  have HNB := Lib.hid hnb
  clear hnb
  go_upto_region 2 with fail
  obtain ⟨W2, hW2⟩ : ∃ W2, W2 = w1.setCell ⟨nb, 0, none⟩ (.slice o1 (rmerge b).length c1) := ⟨_, rfl⟩
  rw [← hW2]
  have hf2 : Fr (fun k => k = nb) w1 W2 := by rw [hW2]; exact Fr.setCell _ _ _ _ rfl
  have hb2 : W2.heap[nb]? = some (.cells #[.slice o1 (rmerge b).length c1] 22 (0, 0)) := by rw [hW2]; exact set_block HB1.out
  have hs2 : SpAt (fun _ => True) W2 o1 (rmerge b) := HR1.out.slc.fr hf2 (fun k _ h => ⟨trivial, fun e => by have h' : W0.heap.size ≤ k := h; have := HZ0.out; omega⟩)
  have hq2 : Quiet0 w W2 := Fr.trans' (HQ0.out.trans HQ1.out) hf2 (fun k hk e => by have := HNB.out; omega)
  have HB2 := Lib.hid hb2
  have HS2 := Lib.hid hs2
  have HQ2 := Lib.hid hq2
  clear hW2 hf2 hb2 hs2 hq2 e0 z0
  go_wp2_with fail
  refine (HM2.out _ HQ2.out).mono ?_; rintro e w3 ⟨v3, rfl, hr3, hq3⟩
  obtain ⟨o3, c3, rfl, _⟩ := hr3.form
  have c0 : w3.cell? ⟨nb, 0, none⟩ = some (.slice o1 (rmerge b).length c1) := by rw [cell_of_row _ _ _ _ _ (0, 0) (blk_after hq3 HB2.out)]; rfl
  have hC := (containsS_any 31 #[.pointer (some ⟨nb, 0, none⟩)] (outP (rmerge b)) (enters_of Try.func31 (by kernel_rfl) rfl) (rmerge a) o3 c3 w3 _ hr3.slc (fun t _ W hq => outC_any t nb (rmerge b) o1 c1 _ W (hq.at c0) (HS2.out.stay (hq3.trans hq)) hmb) hma)
  have HQ3 := Lib.hid (HQ2.out.trans hq3)
  rw [HRR.out] at hC
  have HC := Lib.hid hC
  clear hr3 hq3 c0 hC
  go_wp2_with fail
  refine HC.out.mono ?_; rintro e w4 ⟨rfl, hq4⟩
  go_wp2_with fail
  all_goals (go_ret; exact ⟨by simp_all, HQ3.out.trans hq4⟩)
end Go.Proofs.Ytemoohepiogdgaa
