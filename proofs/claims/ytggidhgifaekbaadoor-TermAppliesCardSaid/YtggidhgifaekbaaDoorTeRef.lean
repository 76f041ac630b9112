/-
  Depth of a term, by the reference and by the program; the law's bound (room, Great). Conditions: the term lies in memory as told; where numbers are added up, there are few terms.
-/
import Derived.Test.YtggidhgifaekbaaDoorTeMem
import Derived.Test.YtggidhgifaekbaaDoorTyRef
import Derived.Test.YtggidhgifaekbaaDoorTyAux
namespace Go.Proofs.YtggidhgifaekbaaDoor
open Go.RowKit

theorem box9 (w : World) (h : Nd) (o1 : Option Addr) (l1 c1 : Nat) (o2 : Option Addr) (l2 c2 : Nat) (t : TypeId) (W : World) (hq : Quiet0 (w.alloc (.cells (cells9 h o1 l1 c1 o2 l2 c2) t)) W) : Cells9 W w.heap.size 0 h o1 l1 c1 o2 l2 c2 :=
  (cells9_new w h o1 l1 c1 o2 l2 c2 t).fr hq (fun h => h)
/-- ref.Depth -/
def RDepthT (h : Nd) (ps : To) : Prop := ∀ (w : World) (R : Nat → Prop) (o1 : Option Addr) (l1 c1 : Nat) (o2 : Option Addr) (l2 c2 : Nat), TSlc R w o2 l2 ps → ps.size ≤ 1000000 →
  Calls Tryd.prog 30 #[tmv h o1 l1 c1 o2 l2 c2] w fun e w' => e = .returned (.int .i64 ((ps.depth + 1 : Nat) : Int)) ∧ Quiet0 w w'
set_option maxHeartbeats 1000000 in
theorem refDepthT_any (h : Nd) (ps : To) : RDepthT h ps := by
  refine To.ind' (T := RDepthT) ?_ h ps
  intro h ps ih w R o1 l1 c1 o2 l2 c2 hs hsz
  have HS := Lib.hid hs
  have IH := Lib.hid ih
  have hl := hs.1
  have hll := To.length_le ps
  rw [← hl] at hll
  have HL := Lib.hid hl
  have hdp := To.depth_le ps
  clear hs ih hl
  unfold tmv
  go_enter Tryd.func30, Tryd.ntmps30
  go_wp2_with fail
  obtain ⟨W0, hW0⟩ : ∃ W0, W0 = w.alloc (.cells (cells9 h o1 l1 c1 o2 l2 c2) 35) := ⟨_, rfl⟩
  have HB : Hid (∀ W, Quiet0 W0 W → W.cell? ⟨w.heap.size, 6, none⟩ = some (.slice o2 l2 c2)) := by
    intro W hq; rw [hW0] at hq; exact (box9 w h o1 l1 c1 o2 l2 c2 _ W hq).2.2.2.2.2.2.1
  have HQ0 : Hid (Quiet0 w W0) := by rw [hW0]; exact Quiet0.alloc _ _
  change Code.wp _ _ _ _ (w.alloc (.cells (cells9 h o1 l1 c1 o2 l2 c2) 35))
  rw [← hW0]
  clear hW0
  generalize w.heap.size = nb at *
  go_loopw [3, 4] (fun s t wr => ∃ (i m : Nat), t = .int .i64 i ∧ s = .int .i64 m ∧ i ≤ l2 ∧ 1 ≤ m ∧ max m ((ps.drop i).depth + 1) = ps.depth + 1 ∧ Quiet0 W0 wr) (fun _ t _ => l2 - (intOf t).toNat)
  case atStart => exact ⟨0, 1, rfl, rfl, Nat.zero_le _, Nat.le_refl _, by rw [To.drop_zero]; omega, Quiet0.refl _⟩
  case round =>
    obtain ⟨i, m, rfl, rfl, hi, hm1, hm, hq⟩ := hrel
    have HM := Lib.hid hm
    have HQ := Lib.hid hq
    have cc := HB.out wr hq
    have hmb : m ≤ 1000001 := by omega
    clear hm hq
    by_cases hlt : i < l2
    · have hlt' : (i : Int) < l2 := by omega
      obtain ⟨b, off, hd, qs, p1, m1, d1, p2, m2, d2, rfl, hd1, hg, hRb, ⟨e0, e1, e2, e3, e4, e5, e6, e7, e8⟩, hs1, ht1⟩ := (HS.out.stay (HQ0.out.trans HQ.out)).nth hlt
      have hsq := To.size_get ps i hd qs hg
      have hqd := To.depth_le qs
      have hqs : qs.depth ≤ 1000001 := by omega
      have HC := Lib.hid (IH.out i hd qs hg wr R p1 m1 d1 p2 m2 d2 ht1 (by omega))
      have HD : Hid (max (max m (qs.depth + 1 + 1)) ((ps.drop (i + 1)).depth + 1) = ps.depth + 1) := by
        have := HM.out; rw [hd1] at this; simp only [To.depth] at this; show _ = _; omega
      unfold tmv at HC
      clear hd1 hg hs1 ht1 hsq hqd hRb
      by_cases hgt : m < qs.depth + 1 + 1
      · have hgt' : (m : Int) < (qs.depth : Int) + 1 + 1 := by omega
        go_wp2_with fail
        refine HC.out.mono ?_; rintro e w1 ⟨rfl, hq1⟩
        have HQ1 := Lib.hid (HQ.out.trans hq1)
        clear hq1
        go_wp2_with fail
        go_roundw
        case rel => exact ⟨i + 1, qs.depth + 1 + 1, by go_num, by go_num, by omega, by omega, by have := HD.out; omega, HQ1.out⟩
        case measure => simp [intOf]; omega
      · have hgt' : ¬ (m : Int) < (qs.depth : Int) + 1 + 1 := by omega
        go_wp2_with fail
        refine HC.out.mono ?_; rintro e w1 ⟨rfl, hq1⟩
        have HQ1 := Lib.hid (HQ.out.trans hq1)
        clear hq1
        go_wp2_with fail
        go_roundw
        case rel => exact ⟨i + 1, m, by go_num, rfl, by omega, by omega, by have := HD.out; omega, HQ1.out⟩
        case measure => simp [intOf]; omega
    · have hlt' : ¬ (i : Int) < l2 := by omega
      go_wp2_with fail
      go_ret
      refine ⟨ret_int (a := (m : Nat)) ?_, HQ0.out.trans HQ.out⟩
      have := HM.out
      rw [To.drop_end ps i (by have := HL.out; omega)] at this
      simp only [To.depth] at this
      omega
end Go.Proofs.YtggidhgifaekbaaDoor
