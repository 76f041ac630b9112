/-
  types.Shift from 0 on. Conditions: the type lies in memory as told; its numbers are below what is told; it is small.
-/
import Derived.Test.YtggidhgifaekbaaDoorTyCanon
import Derived.Deep.DeepCutAuto
namespace Go.Proofs.YtggidhgifaekbaaDoor
open Go.RowKit Go.Maps

def shiftP (by' : Int) (n : Int) : Int := if n + by' < 1073741824 then n + by' else n
def shiftG (tt : Int) (n : Int) : Prop := 0 ≤ n ∧ n < tt ∧ n < 1073741824
theorem eg_shift : ∀ args w, (callFunc 83 args).run Tryd.prog w = .ok (.enter 83 args) w := enters_of Tryd.func83 (by kernel_rfl) rfl
set_option maxHeartbeats 1000000 in
theorem shift1_any (w0 : World) (ca cb cc : Nat) (tt by' : Int) (h1 : Box1 w0 ca (.int .i64 0) 3) (h2 : Box1 w0 cb (.int .i64 tt) 3) (h3 : Box1 w0 cc (.int .i64 by') 3) (hb0 : 0 ≤ by') (hb1 : by' < 1073741824) :
    DoK 83 #[.pointer (some ⟨ca, 0, none⟩), .pointer (some ⟨cb, 0, none⟩), .pointer (some ⟨cc, 0, none⟩)] w0 (shiftG tt) (shiftP by') := by
  intro n W hn hq
  obtain ⟨n0, n1, n2⟩ := hn
  have c1 := cell_of_one (h1.fr hq (fun h => h))
  have c2 := cell_of_one (h2.fr hq (fun h => h))
  have c3 := cell_of_one (h3.fr hq (fun h => h))
  have q1 : ¬ n < 0 := by omega
  have q2 : ¬ tt ≤ n := by omega
  have q3 : ¬ (1073741824 : Int) ≤ by' := by omega
  have q4 : ¬ by' ≤ -1073741824 := by omega
  have hw : IntKind.i64.wrap (n + by') = n + by' := IntWalk.i64_in _ (by omega)
  have HK1 := Lib.hid (known_any n)
  rw [show (decide ((0 : Int) ≤ n) && decide (n < 1073741824)) = true from by simp; omega] at HK1
  have HK2 := Lib.hid (known_any (n + by'))
  clear h1 h2 h3
  unfold shiftP
  by_cases hlt : n + by' < 1073741824
  · rw [show (decide ((0 : Int) ≤ n + by') && decide (n + by' < 1073741824)) = true from by simp; omega] at HK2
    rw [if_pos hlt]
    clear hlt
    go_enter Tryd.func83, Tryd.ntmps83
    go_wp2_with fail
    refine (HK1.out _).mono ?_; rintro e w1 ⟨rfl, rfl⟩
    go_wp2_with fail
    refine (HK2.out _).mono ?_; rintro e w1 ⟨rfl, rfl⟩
    go_wp2_with fail
    go_ret
    exact ⟨rfl, Quiet0.refl _⟩
  · rw [show (decide ((0 : Int) ≤ n + by') && decide (n + by' < 1073741824)) = false from by simp; omega] at HK2
    rw [if_neg hlt]
    clear hlt
    go_enter Tryd.func83, Tryd.ntmps83
    go_wp2_with fail
    refine (HK1.out _).mono ?_; rintro e w1 ⟨rfl, rfl⟩
    go_wp2_with fail
    refine (HK2.out _).mono ?_; rintro e w1 ⟨rfl, rfl⟩
    go_wp2_with fail
    go_ret
    exact ⟨rfl, Quiet0.refl _⟩
set_option maxHeartbeats 2000000 in
set_option maxRecDepth 100000 in
theorem shift_any (k n tt by' : Int) (ps : Fo) (w : World) (o : Option Addr) (len cap : Nat) (hs : Slc w o len ps) (hn : shiftG tt n) (hw : allF (shiftG tt) ps) (hb0 : 0 ≤ by') (hb1 : by' < 1073741824) (hsz : ps.size ≤ 100000) :
    Calls Tryd.prog 37 #[tyv k n o len cap, .int .i64 0, .int .i64 tt, .int .i64 by'] w fun e w' => ∃ o' cap', e = .returned (tyv k (newN (shiftP by') k n) o' len cap') ∧ SlcIn (fun b => w.heap.size ≤ b) w' o' len (ps.change (shiftP by')) ∧ Quiet0 w w' := by
  obtain ⟨W1, hW1⟩ : ∃ W1, W1 = ((((w.alloc (.cells #[.int .i64 k, .int .i64 n, .slice o len cap] 24)).alloc (.cells #[.int .i64 0] 3)).alloc (.cells #[.int .i64 tt] 3)).alloc (.cells #[.int .i64 by'] 3)).alloc (.cells #[.int .i64 0, .int .i64 0, .slice none 0 0] 24) := ⟨_, rfl⟩
  have HQ1 : Hid (Quiet0 w W1) := by rw [hW1]; exact ((((Quiet0.alloc _ _).trans (Quiet0.alloc _ _)).trans (Quiet0.alloc _ _)).trans (Quiet0.alloc _ _)).trans (Quiet0.alloc _ _)
  have s1 : (w.alloc (.cells #[.int .i64 k, .int .i64 n, .slice o len cap] 24)).heap.size = w.heap.size + 1 := by simp
  have s2 : ((w.alloc (.cells #[.int .i64 k, .int .i64 n, .slice o len cap] 24)).alloc (.cells #[.int .i64 0] 3)).heap.size = w.heap.size + 1 + 1 := by simp
  have s3 : (((w.alloc (.cells #[.int .i64 k, .int .i64 n, .slice o len cap] 24)).alloc (.cells #[.int .i64 0] 3)).alloc (.cells #[.int .i64 tt] 3)).heap.size = w.heap.size + 1 + 1 + 1 := by simp
  have s4 : ((((w.alloc (.cells #[.int .i64 k, .int .i64 n, .slice o len cap] 24)).alloc (.cells #[.int .i64 0] 3)).alloc (.cells #[.int .i64 tt] 3)).alloc (.cells #[.int .i64 by'] 3)).heap.size = w.heap.size + 1 + 1 + 1 + 1 := by simp
  have hb0' : W1.heap[w.heap.size]? = some (.cells #[.int .i64 k, .int .i64 n, .slice o len cap] 24 (0, 0)) := by
    rw [hW1]; exact box_after (heap_alloc_new w _) ((((Quiet0.alloc _ _).trans (Quiet0.alloc _ _)).trans (Quiet0.alloc _ _)).trans (Quiet0.alloc _ _))
  have HB1 : Hid (W1.heap[w.heap.size + 1 + 1 + 1 + 1]? = some (.cells #[.int .i64 0, .int .i64 0, .slice none 0 0] 24 (0, 0))) := by
    rw [hW1, ← s4]; exact heap_alloc_new _ _
  have x1 : Box1 W1 (w.heap.size + 1) (.int .i64 0) 3 := by
    rw [hW1, ← s1]; exact (Box1.new _ _ _).fr (((Quiet0.alloc _ _).trans (Quiet0.alloc _ _)).trans (Quiet0.alloc _ _)) (fun h => h)
  have x2 : Box1 W1 (w.heap.size + 1 + 1) (.int .i64 tt) 3 := by
    rw [hW1, ← s2]; exact (Box1.new _ _ _).fr ((Quiet0.alloc _ _).trans (Quiet0.alloc _ _)) (fun h => h)
  have x3 : Box1 W1 (w.heap.size + 1 + 1 + 1) (.int .i64 by') 3 := by
    rw [hW1, ← s3]; exact (Box1.new _ _ _).fr (Quiet0.alloc _ _) (fun h => h)
  have HD := Lib.hid (change_any eg_shift (shift1_any W1 (w.heap.size + 1) (w.heap.size + 1 + 1) (w.heap.size + 1 + 1 + 1) tt by' x1 x2 x3 hb0 hb1) k n ps W1 o len cap (Quiet0.refl _) (hs.stay HQ1.out) (by omega) hn hw)
  obtain ⟨a0, a1, a2, _, _, _⟩ := box_cells3 hb0'
  have hz1 : w.heap.size + 1 + 1 + 1 + 1 < W1.heap.size := by rw [hW1]; simp
  obtain ⟨P, hP⟩ : ∃ P, P = shiftP by' := ⟨_, rfl⟩
  rw [← hP] at HD ⊢
  generalize newN P k n = n' at *
  clear hs hn hw s1 s2 s3 s4 x1 x2 x3 hb0' hP
  unfold tyv at *
  go_enter Tryd.func37, Tryd.ntmps37
  generalize hB : w.heap.size = B at *
  go_upto_region 1 with fail
  rw [← hW1]
  clear hW1
  go_wp2_with fail
  refine HD.out.mono ?_; rintro e w4 ⟨o2, cap2, rfl, hs4, hq4⟩
  have hbb := box_after HB1.out hq4
  have HB4 := Lib.hid hbb
  obtain ⟨d0, d1, d2, y0, y1, y2⟩ := box_cells3 hbb
  have HS4 := Lib.hid hs4
  have HQ4 := Lib.hid hq4
  clear hs4 hq4 hbb a0 a1 a2
  go_wp2_with fail
  clear d0 d1 d2 y0 y1 y2
  have hf := put3_fr w4 (B + 1 + 1 + 1 + 1) (.int .i64 k) (.int .i64 n') (.slice o2 len cap2)
  obtain ⟨f0, f1, f2⟩ := put3_cells (a := .int .i64 k) (b := .int .i64 n') (c := .slice o2 len cap2) HB4.out
  change bodyPost _ _ _ _ _ (put3 w4 (B + 1 + 1 + 1 + 1) (.int .i64 k) (.int .i64 n') (.slice o2 len cap2))
  generalize put3 w4 (B + 1 + 1 + 1 + 1) (.int .i64 k) (.int .i64 n') (.slice o2 len cap2) = wf at *
  refine bodyPost_ret (by simp [results, Tryd.results37, go_sem, f0, f1, f2]; rfl) rfl ?_
  refine ⟨o2, cap2, rfl, HS4.out.fr hf ?_, ?_⟩
  · intro j _ hj
    have hj' : W1.heap.size ≤ j := hj
    exact ⟨by have := HQ1.out.size; omega, by omega⟩
  · exact Fr.trans' (Fr.trans' HQ1.out HQ4.out (fun _ _ h => h)) hf (fun i hi h => by have h' : i = B + 1 + 1 + 1 + 1 := h; omega)
end Go.Proofs.YtggidhgifaekbaaDoor
