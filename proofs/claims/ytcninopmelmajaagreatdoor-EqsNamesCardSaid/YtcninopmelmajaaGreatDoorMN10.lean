/-
  Texts laid together (TeRSound2, TeRSound3, TeRSound4, TeRSound5, TeRSound6, TeRSound7, TeRSound8, TeRSound9, TeRSound10, TeRSoundlo, TeRSoundhi, TeRRight, ScRes): laws and walks, with their conditions.
-/
import Derived.Test.YtcninopmelmajaaGreatDoorMN9
set_option maxHeartbeats 8000000
set_option maxRecDepth 1000000
namespace Go.Proofs.YtcninopmelmajaaGreatDoor
open Go.Lib (hid)
section
open Go.RowKit Go.Shelf
theorem refSound_2 (nm : ByteArray) (n tk tn : Int) (tp : Fo) (fr en : Int) (w : World) (o1 : Option Addr) (l1 c1 : Nat) (o2 : Option Addr) (l2 c2 : Nat) (hw : wfI n)
    (SC : SndC ⟨2, nm, n, tk, tn, tp, fr, en⟩ (w.alloc (.cells (cells9 ⟨2, nm, n, tk, tn, tp, fr, en⟩ o1 l1 c1 o2 l2 c2) 29)) o1 l1 c1 o2 l2 c2 w.heap.size) :
    Calls Tryz.prog 34 #[tmv ⟨2, nm, n, tk, tn, tp, fr, en⟩ o1 l1 c1 o2 l2 c2] w fun e w' => e = .returned (.bool (soundB ⟨2, nm, n, tk, tn, tp, fr, en⟩ l2)) /\ Quiet0 w w' := by
 have HSC := hid SC
 have HW := hid hw
 have HN : Hid (∀ W, Calls Tryz.prog 54 #[.int .i64 2] W fun e w' => e = .returned (.bool false) /\ Quiet0 W w') := SC.named
 obtain ⟨W0, hW0⟩ : ∃ W0, W0 = w.alloc (.cells (cells9 ⟨2, nm, n, tk, tn, tp, fr, en⟩ o1 l1 c1 o2 l2 c2) 29) := ⟨_, rfl⟩
 have HQ0 : Hid (Quiet0 w W0) := by rw [hW0]; exact Quiet0.alloc _ _
 clear SC hw
 rw [<- hW0] at HSC
 unfold tmv
 go_enter Tryz.func34, Tryz.ntmps34
 go_upto_region 1 with fail
 change Code.wp _ _ _ _ (w.alloc (.cells (cells9 ⟨2, nm, n, tk, tn, tp, fr, en⟩ o1 l1 c1 o2 l2 c2) 29))
 rw [<- hW0]
 clear hW0
 generalize w.heap.size = B at *
 obtain ⟨x0, x1, x2, x3, x4, x5, x6, x7, x8⟩ := HSC.out.box W0 (Quiet0.refl _)
 dsimp only at x0 x1 x2 x3 x4 x5 x6 x7 x8
 go_quiet (fail)
 go_wp2_with fail
 refine (HN.out _).mono ?_; rintro e w1 ⟨rfl, hq1⟩
 have HQ1 : Hid (Quiet0 W0 w1) := Quiet0.trans (Fr.drewN _ _ _) hq1
 clear x0 x1 x2 x3 x4 x5 x6 x7 x8 hq1
 obtain ⟨x0, x1, x2, x3, x4, x5, x6, x7, x8⟩ := HSC.out.box w1 HQ1.out
 dsimp only at x0 x1 x2 x3 x4 x5 x6 x7 x8
 go_wp2_with fail
 refine (HN.out _).mono ?_; rintro e w3 ⟨rfl, hq3⟩
 have HQ3 := hid (HQ1.out.trans hq3)
 clear x0 x1 x2 x3 x4 x5 x6 x7 x8 hq3
 obtain ⟨x0, x1, x2, x3, x4, x5, x6, x7, x8⟩ := HSC.out.box w3 HQ3.out
 dsimp only at x0 x1 x2 x3 x4 x5 x6 x7 x8
 cases hA : nm.toList.isEmpty
 ·have e3 : nm.toList.isEmpty = false := hA
  go_wp2_with fail
  go_ret
  exact ⟨by simp [soundB, namedB, kName, hA], HQ0.out.trans HQ3.out⟩
 ·have e3 : nm.toList.isEmpty = true := hA
  have HNA := hid hA
  clear hA
  have HSM := hid HSC.out.same
  cases hT : sameT tk tn tp 0 0 .nil
  ·rw [hT] at HSM
   go_wp2_with fail
   refine (HSM.out _ HQ3.out).mono ?_; rintro e w4 ⟨rfl, hq4⟩
   go_wp2_with fail
   go_ret
   exact ⟨by simp [soundB, typedB, hT], HQ0.out.trans (HQ3.out.trans hq4)⟩
  ·rw [hT] at HSM
   have HTY := hid hT
   clear hT
   go_wp2_with fail
   refine (HSM.out _ HQ3.out).mono ?_; rintro e w4 ⟨rfl, hq4⟩
   have HQ4 := hid (HQ3.out.trans hq4)
   clear x0 x1 x2 x3 x4 x5 x6 x7 x8 hq4
   obtain ⟨x0, x1, x2, x3, x4, x5, x6, x7, x8⟩ := HSC.out.box w4 HQ4.out
   dsimp only at x0 x1 x2 x3 x4 x5 x6 x7 x8
   by_cases hn : n < 0
   ·go_wp2_with fail
    go_ret
    exact ⟨by simp [soundB]; omega, HQ0.out.trans HQ4.out⟩
   ·by_cases ht : 999999999 < n
    ·go_wp2_with fail
     go_ret
     exact ⟨by simp [soundB, kTop]; omega, HQ0.out.trans HQ4.out⟩
    ·have hwn : n <= 9223372036854775807 := by have := HW.out; unfold wfI at this; simp only [Lit.wf, IntKind.min, IntKind.max, IntKind.signed, IntKind.bits, Bool.and_eq_true, decide_eq_true_eq, if_true] at this; omega
     go_wp2_with fail
     all_goals
      go_ret
      refine ⟨?_, HQ0.out.trans HQ4.out⟩
      have h1 := HNA.out
      have h2 := HTY.out
      refine congrArg (fun b => Ending.returned (Value.bool b)) ?_
      rw [Bool.eq_iff_iff]
      simp [soundB, namedB, typedB, kName, kTop, kLeast, kMost, h1, h2]
      omega
end
section
open Go.RowKit Go.Shelf
theorem refSound_3 (nm : ByteArray) (n tk tn : Int) (tp : Fo) (fr en : Int) (w : World) (o1 : Option Addr) (l1 c1 : Nat) (o2 : Option Addr) (l2 c2 : Nat) (hw : wfI n)
    (SC : SndC ⟨3, nm, n, tk, tn, tp, fr, en⟩ (w.alloc (.cells (cells9 ⟨3, nm, n, tk, tn, tp, fr, en⟩ o1 l1 c1 o2 l2 c2) 29)) o1 l1 c1 o2 l2 c2 w.heap.size) :
    Calls Tryz.prog 34 #[tmv ⟨3, nm, n, tk, tn, tp, fr, en⟩ o1 l1 c1 o2 l2 c2] w fun e w' => e = .returned (.bool (soundB ⟨3, nm, n, tk, tn, tp, fr, en⟩ l2)) /\ Quiet0 w w' := by
 have HSC := hid SC
 have HW := hid hw
 have HN : Hid (∀ W, Calls Tryz.prog 54 #[.int .i64 3] W fun e w' => e = .returned (.bool false) /\ Quiet0 W w') := SC.named
 obtain ⟨W0, hW0⟩ : ∃ W0, W0 = w.alloc (.cells (cells9 ⟨3, nm, n, tk, tn, tp, fr, en⟩ o1 l1 c1 o2 l2 c2) 29) := ⟨_, rfl⟩
 have HQ0 : Hid (Quiet0 w W0) := by rw [hW0]; exact Quiet0.alloc _ _
 clear SC hw
 rw [<- hW0] at HSC
 unfold tmv
 go_enter Tryz.func34, Tryz.ntmps34
 go_upto_region 1 with fail
 change Code.wp _ _ _ _ (w.alloc (.cells (cells9 ⟨3, nm, n, tk, tn, tp, fr, en⟩ o1 l1 c1 o2 l2 c2) 29))
 rw [<- hW0]
 clear hW0
 generalize w.heap.size = B at *
 obtain ⟨x0, x1, x2, x3, x4, x5, x6, x7, x8⟩ := HSC.out.box W0 (Quiet0.refl _)
 dsimp only at x0 x1 x2 x3 x4 x5 x6 x7 x8
 go_quiet (fail)
 go_wp2_with fail
 refine (HN.out _).mono ?_; rintro e w1 ⟨rfl, hq1⟩
 have HQ1 : Hid (Quiet0 W0 w1) := Quiet0.trans (Fr.drewN _ _ _) hq1
 clear x0 x1 x2 x3 x4 x5 x6 x7 x8 hq1
 obtain ⟨x0, x1, x2, x3, x4, x5, x6, x7, x8⟩ := HSC.out.box w1 HQ1.out
 dsimp only at x0 x1 x2 x3 x4 x5 x6 x7 x8
 go_wp2_with fail
 refine (HN.out _).mono ?_; rintro e w3 ⟨rfl, hq3⟩
 have HQ3 := hid (HQ1.out.trans hq3)
 clear x0 x1 x2 x3 x4 x5 x6 x7 x8 hq3
 obtain ⟨x0, x1, x2, x3, x4, x5, x6, x7, x8⟩ := HSC.out.box w3 HQ3.out
 dsimp only at x0 x1 x2 x3 x4 x5 x6 x7 x8
 cases hA : nm.toList.isEmpty
 ·have e3 : nm.toList.isEmpty = false := hA
  go_wp2_with fail
  go_ret
  exact ⟨by simp [soundB, namedB, kName, hA], HQ0.out.trans HQ3.out⟩
 ·have e3 : nm.toList.isEmpty = true := hA
  have HNA := hid hA
  clear hA
  have HSM := hid HSC.out.same
  cases hT : sameT tk tn tp 0 0 .nil
  ·rw [hT] at HSM
   go_wp2_with fail
   refine (HSM.out _ HQ3.out).mono ?_; rintro e w4 ⟨rfl, hq4⟩
   go_wp2_with fail
   go_ret
   exact ⟨by simp [soundB, typedB, hT], HQ0.out.trans (HQ3.out.trans hq4)⟩
  ·rw [hT] at HSM
   have HTY := hid hT
   clear hT
   go_wp2_with fail
   refine (HSM.out _ HQ3.out).mono ?_; rintro e w4 ⟨rfl, hq4⟩
   have HQ4 := hid (HQ3.out.trans hq4)
   clear x0 x1 x2 x3 x4 x5 x6 x7 x8 hq4
   obtain ⟨x0, x1, x2, x3, x4, x5, x6, x7, x8⟩ := HSC.out.box w4 HQ4.out
   dsimp only at x0 x1 x2 x3 x4 x5 x6 x7 x8
   by_cases hn : n < 0
   ·go_wp2_with fail
    go_ret
    exact ⟨by simp [soundB]; omega, HQ0.out.trans HQ4.out⟩
   ·by_cases ht : 1 < n
    ·go_wp2_with fail
     go_ret
     exact ⟨by simp [soundB, kTop]; omega, HQ0.out.trans HQ4.out⟩
    ·have hwn : n <= 9223372036854775807 := by have := HW.out; unfold wfI at this; simp only [Lit.wf, IntKind.min, IntKind.max, IntKind.signed, IntKind.bits, Bool.and_eq_true, decide_eq_true_eq, if_true] at this; omega
     go_wp2_with fail
     all_goals
      go_ret
      refine ⟨?_, HQ0.out.trans HQ4.out⟩
      have h1 := HNA.out
      have h2 := HTY.out
      refine congrArg (fun b => Ending.returned (Value.bool b)) ?_
      rw [Bool.eq_iff_iff]
      simp [soundB, namedB, typedB, kName, kTop, kLeast, kMost, h1, h2]
      omega
end
section
open Go.RowKit Go.Shelf
theorem refSound_4 (nm : ByteArray) (n tk tn : Int) (tp : Fo) (fr en : Int) (w : World) (o1 : Option Addr) (l1 c1 : Nat) (o2 : Option Addr) (l2 c2 : Nat) (hw : wfI n)
    (SC : SndC ⟨4, nm, n, tk, tn, tp, fr, en⟩ (w.alloc (.cells (cells9 ⟨4, nm, n, tk, tn, tp, fr, en⟩ o1 l1 c1 o2 l2 c2) 29)) o1 l1 c1 o2 l2 c2 w.heap.size) :
    Calls Tryz.prog 34 #[tmv ⟨4, nm, n, tk, tn, tp, fr, en⟩ o1 l1 c1 o2 l2 c2] w fun e w' => e = .returned (.bool (soundB ⟨4, nm, n, tk, tn, tp, fr, en⟩ l2)) /\ Quiet0 w w' := by
 have HSC := hid SC
 have HW := hid hw
 have HN : Hid (∀ W, Calls Tryz.prog 54 #[.int .i64 4] W fun e w' => e = .returned (.bool true) /\ Quiet0 W w') := SC.named
 obtain ⟨W0, hW0⟩ : ∃ W0, W0 = w.alloc (.cells (cells9 ⟨4, nm, n, tk, tn, tp, fr, en⟩ o1 l1 c1 o2 l2 c2) 29) := ⟨_, rfl⟩
 have HQ0 : Hid (Quiet0 w W0) := by rw [hW0]; exact Quiet0.alloc _ _
 clear SC hw
 rw [<- hW0] at HSC
 unfold tmv
 go_enter Tryz.func34, Tryz.ntmps34
 go_upto_region 1 with fail
 change Code.wp _ _ _ _ (w.alloc (.cells (cells9 ⟨4, nm, n, tk, tn, tp, fr, en⟩ o1 l1 c1 o2 l2 c2) 29))
 rw [<- hW0]
 clear hW0
 generalize w.heap.size = B at *
 obtain ⟨x0, x1, x2, x3, x4, x5, x6, x7, x8⟩ := HSC.out.box W0 (Quiet0.refl _)
 dsimp only at x0 x1 x2 x3 x4 x5 x6 x7 x8
 go_quiet (fail)
 go_wp2_with fail
 refine (HN.out _).mono ?_; rintro e w1 ⟨rfl, hq1⟩
 have HQ1 : Hid (Quiet0 W0 w1) := Quiet0.trans (Fr.drewN _ _ _) hq1
 clear x0 x1 x2 x3 x4 x5 x6 x7 x8 hq1
 obtain ⟨x0, x1, x2, x3, x4, x5, x6, x7, x8⟩ := HSC.out.box w1 HQ1.out
 dsimp only at x0 x1 x2 x3 x4 x5 x6 x7 x8
 cases hA : Lx.nameB nm.data.toList
 ·have HNM := hid HSC.out.name
  rw [hA] at HNM
  go_wp2_with fail
  refine (HNM.out _).mono ?_; rintro e w2 ⟨rfl, hq2⟩
  go_wp2_with fail
  go_ret
  exact ⟨by simp [soundB, namedB, kName, hA], HQ0.out.trans (HQ1.out.trans hq2)⟩
 ·have HNM := hid HSC.out.name
  rw [hA] at HNM
  have HNA := hid hA
  clear hA
  go_wp2_with fail
  refine (HNM.out _).mono ?_; rintro e w2 ⟨rfl, hq2⟩
  have HQ2 := hid (HQ1.out.trans hq2)
  clear x0 x1 x2 x3 x4 x5 x6 x7 x8 hq2
  go_wp2_with fail
  refine (HN.out _).mono ?_; rintro e w3 ⟨rfl, hq3⟩
  have HQ3 := hid (HQ2.out.trans hq3)
  clear hq3
  obtain ⟨x0, x1, x2, x3, x4, x5, x6, x7, x8⟩ := HSC.out.box w3 HQ3.out
  dsimp only at x0 x1 x2 x3 x4 x5 x6 x7 x8
  have HSM := hid HSC.out.same
  cases hT : sameT tk tn tp 0 0 .nil
  ·rw [hT] at HSM
   go_wp2_with fail
   refine (HSM.out _ HQ3.out).mono ?_; rintro e w4 ⟨rfl, hq4⟩
   go_wp2_with fail
   go_ret
   exact ⟨by simp [soundB, typedB, hT], HQ0.out.trans (HQ3.out.trans hq4)⟩
  ·rw [hT] at HSM
   have HTY := hid hT
   clear hT
   go_wp2_with fail
   refine (HSM.out _ HQ3.out).mono ?_; rintro e w4 ⟨rfl, hq4⟩
   have HQ4 := hid (HQ3.out.trans hq4)
   clear x0 x1 x2 x3 x4 x5 x6 x7 x8 hq4
   obtain ⟨x0, x1, x2, x3, x4, x5, x6, x7, x8⟩ := HSC.out.box w4 HQ4.out
   dsimp only at x0 x1 x2 x3 x4 x5 x6 x7 x8
   by_cases hn : n < 0
   ·go_wp2_with fail
    go_ret
    exact ⟨by simp [soundB]; omega, HQ0.out.trans HQ4.out⟩
   ·by_cases ht : 0 < n
    ·go_wp2_with fail
     go_ret
     exact ⟨by simp [soundB, kTop]; omega, HQ0.out.trans HQ4.out⟩
    ·have hwn : n <= 9223372036854775807 := by have := HW.out; unfold wfI at this; simp only [Lit.wf, IntKind.min, IntKind.max, IntKind.signed, IntKind.bits, Bool.and_eq_true, decide_eq_true_eq, if_true] at this; omega
     go_wp2_with fail
     all_goals
      go_ret
      refine ⟨?_, HQ0.out.trans HQ4.out⟩
      have h1 := HNA.out
      have h2 := HTY.out
      refine congrArg (fun b => Ending.returned (Value.bool b)) ?_
      rw [Bool.eq_iff_iff]
      simp [soundB, namedB, typedB, kName, kTop, kLeast, kMost, h1, h2]
      omega
end
section
open Go.RowKit Go.Shelf
theorem refSound_5 (nm : ByteArray) (n tk tn : Int) (tp : Fo) (fr en : Int) (w : World) (o1 : Option Addr) (l1 c1 : Nat) (o2 : Option Addr) (l2 c2 : Nat) (hw : wfI n)
    (SC : SndC ⟨5, nm, n, tk, tn, tp, fr, en⟩ (w.alloc (.cells (cells9 ⟨5, nm, n, tk, tn, tp, fr, en⟩ o1 l1 c1 o2 l2 c2) 29)) o1 l1 c1 o2 l2 c2 w.heap.size) :
    Calls Tryz.prog 34 #[tmv ⟨5, nm, n, tk, tn, tp, fr, en⟩ o1 l1 c1 o2 l2 c2] w fun e w' => e = .returned (.bool (soundB ⟨5, nm, n, tk, tn, tp, fr, en⟩ l2)) /\ Quiet0 w w' := by
 have HSC := hid SC
 have HW := hid hw
 have HN : Hid (∀ W, Calls Tryz.prog 54 #[.int .i64 5] W fun e w' => e = .returned (.bool false) /\ Quiet0 W w') := SC.named
 obtain ⟨W0, hW0⟩ : ∃ W0, W0 = w.alloc (.cells (cells9 ⟨5, nm, n, tk, tn, tp, fr, en⟩ o1 l1 c1 o2 l2 c2) 29) := ⟨_, rfl⟩
 have HQ0 : Hid (Quiet0 w W0) := by rw [hW0]; exact Quiet0.alloc _ _
 clear SC hw
 rw [<- hW0] at HSC
 unfold tmv
 go_enter Tryz.func34, Tryz.ntmps34
 go_upto_region 1 with fail
 change Code.wp _ _ _ _ (w.alloc (.cells (cells9 ⟨5, nm, n, tk, tn, tp, fr, en⟩ o1 l1 c1 o2 l2 c2) 29))
 rw [<- hW0]
 clear hW0
 generalize w.heap.size = B at *
 obtain ⟨x0, x1, x2, x3, x4, x5, x6, x7, x8⟩ := HSC.out.box W0 (Quiet0.refl _)
 dsimp only at x0 x1 x2 x3 x4 x5 x6 x7 x8
 go_quiet (fail)
 go_wp2_with fail
 refine (HN.out _).mono ?_; rintro e w1 ⟨rfl, hq1⟩
 have HQ1 : Hid (Quiet0 W0 w1) := Quiet0.trans (Fr.drewN _ _ _) hq1
 clear x0 x1 x2 x3 x4 x5 x6 x7 x8 hq1
 obtain ⟨x0, x1, x2, x3, x4, x5, x6, x7, x8⟩ := HSC.out.box w1 HQ1.out
 dsimp only at x0 x1 x2 x3 x4 x5 x6 x7 x8
 go_wp2_with fail
 refine (HN.out _).mono ?_; rintro e w3 ⟨rfl, hq3⟩
 have HQ3 := hid (HQ1.out.trans hq3)
 clear x0 x1 x2 x3 x4 x5 x6 x7 x8 hq3
 obtain ⟨x0, x1, x2, x3, x4, x5, x6, x7, x8⟩ := HSC.out.box w3 HQ3.out
 dsimp only at x0 x1 x2 x3 x4 x5 x6 x7 x8
 cases hA : nm.toList.isEmpty
 ·have e3 : nm.toList.isEmpty = false := hA
  go_wp2_with fail
  go_ret
  exact ⟨by simp [soundB, namedB, kName, hA], HQ0.out.trans HQ3.out⟩
 ·have e3 : nm.toList.isEmpty = true := hA
  have HNA := hid hA
  clear hA
  have HSM := hid HSC.out.same
  cases hT : sameT tk tn tp 0 0 .nil
  ·rw [hT] at HSM
   go_wp2_with fail
   refine (HSM.out _ HQ3.out).mono ?_; rintro e w4 ⟨rfl, hq4⟩
   go_wp2_with fail
   go_ret
   exact ⟨by simp [soundB, typedB, hT], HQ0.out.trans (HQ3.out.trans hq4)⟩
  ·rw [hT] at HSM
   have HTY := hid hT
   clear hT
   go_wp2_with fail
   refine (HSM.out _ HQ3.out).mono ?_; rintro e w4 ⟨rfl, hq4⟩
   have HQ4 := hid (HQ3.out.trans hq4)
   clear x0 x1 x2 x3 x4 x5 x6 x7 x8 hq4
   obtain ⟨x0, x1, x2, x3, x4, x5, x6, x7, x8⟩ := HSC.out.box w4 HQ4.out
   dsimp only at x0 x1 x2 x3 x4 x5 x6 x7 x8
   by_cases hn : n < 0
   ·go_wp2_with fail
    go_ret
    exact ⟨by simp [soundB]; omega, HQ0.out.trans HQ4.out⟩
   ·by_cases ht : 0 < n
    ·go_wp2_with fail
     go_ret
     exact ⟨by simp [soundB, kTop]; omega, HQ0.out.trans HQ4.out⟩
    ·have hwn : n <= 9223372036854775807 := by have := HW.out; unfold wfI at this; simp only [Lit.wf, IntKind.min, IntKind.max, IntKind.signed, IntKind.bits, Bool.and_eq_true, decide_eq_true_eq, if_true] at this; omega
     go_wp2_with fail
     all_goals
      go_ret
      refine ⟨?_, HQ0.out.trans HQ4.out⟩
      have h1 := HNA.out
      have h2 := HTY.out
      refine congrArg (fun b => Ending.returned (Value.bool b)) ?_
      rw [Bool.eq_iff_iff]
      simp [soundB, namedB, typedB, kName, kTop, kLeast, kMost, h1, h2]
      omega
end
section
open Go.RowKit Go.Shelf
theorem refSound_6 (nm : ByteArray) (n tk tn : Int) (tp : Fo) (fr en : Int) (w : World) (o1 : Option Addr) (l1 c1 : Nat) (o2 : Option Addr) (l2 c2 : Nat) (hw : wfI n)
    (SC : SndC ⟨6, nm, n, tk, tn, tp, fr, en⟩ (w.alloc (.cells (cells9 ⟨6, nm, n, tk, tn, tp, fr, en⟩ o1 l1 c1 o2 l2 c2) 29)) o1 l1 c1 o2 l2 c2 w.heap.size) :
    Calls Tryz.prog 34 #[tmv ⟨6, nm, n, tk, tn, tp, fr, en⟩ o1 l1 c1 o2 l2 c2] w fun e w' => e = .returned (.bool (soundB ⟨6, nm, n, tk, tn, tp, fr, en⟩ l2)) /\ Quiet0 w w' := by
 have HSC := hid SC
 have HW := hid hw
 have HN : Hid (∀ W, Calls Tryz.prog 54 #[.int .i64 6] W fun e w' => e = .returned (.bool true) /\ Quiet0 W w') := SC.named
 obtain ⟨W0, hW0⟩ : ∃ W0, W0 = w.alloc (.cells (cells9 ⟨6, nm, n, tk, tn, tp, fr, en⟩ o1 l1 c1 o2 l2 c2) 29) := ⟨_, rfl⟩
 have HQ0 : Hid (Quiet0 w W0) := by rw [hW0]; exact Quiet0.alloc _ _
 clear SC hw
 rw [<- hW0] at HSC
 unfold tmv
 go_enter Tryz.func34, Tryz.ntmps34
 go_upto_region 1 with fail
 change Code.wp _ _ _ _ (w.alloc (.cells (cells9 ⟨6, nm, n, tk, tn, tp, fr, en⟩ o1 l1 c1 o2 l2 c2) 29))
 rw [<- hW0]
 clear hW0
 generalize w.heap.size = B at *
 obtain ⟨x0, x1, x2, x3, x4, x5, x6, x7, x8⟩ := HSC.out.box W0 (Quiet0.refl _)
 dsimp only at x0 x1 x2 x3 x4 x5 x6 x7 x8
 go_quiet (fail)
 go_wp2_with fail
 refine (HN.out _).mono ?_; rintro e w1 ⟨rfl, hq1⟩
 have HQ1 : Hid (Quiet0 W0 w1) := Quiet0.trans (Fr.drewN _ _ _) hq1
 clear x0 x1 x2 x3 x4 x5 x6 x7 x8 hq1
 obtain ⟨x0, x1, x2, x3, x4, x5, x6, x7, x8⟩ := HSC.out.box w1 HQ1.out
 dsimp only at x0 x1 x2 x3 x4 x5 x6 x7 x8
 cases hA : Lx.nameB nm.data.toList
 ·have HNM := hid HSC.out.name
  rw [hA] at HNM
  go_wp2_with fail
  refine (HNM.out _).mono ?_; rintro e w2 ⟨rfl, hq2⟩
  go_wp2_with fail
  go_ret
  exact ⟨by simp [soundB, namedB, kName, hA], HQ0.out.trans (HQ1.out.trans hq2)⟩
 ·have HNM := hid HSC.out.name
  rw [hA] at HNM
  have HNA := hid hA
  clear hA
  go_wp2_with fail
  refine (HNM.out _).mono ?_; rintro e w2 ⟨rfl, hq2⟩
  have HQ2 := hid (HQ1.out.trans hq2)
  clear x0 x1 x2 x3 x4 x5 x6 x7 x8 hq2
  go_wp2_with fail
  refine (HN.out _).mono ?_; rintro e w3 ⟨rfl, hq3⟩
  have HQ3 := hid (HQ2.out.trans hq3)
  clear hq3
  obtain ⟨x0, x1, x2, x3, x4, x5, x6, x7, x8⟩ := HSC.out.box w3 HQ3.out
  dsimp only at x0 x1 x2 x3 x4 x5 x6 x7 x8
  have HSM := hid HSC.out.same
  cases hT : sameT tk tn tp 0 0 .nil
  ·rw [hT] at HSM
   go_wp2_with fail
   refine (HSM.out _ HQ3.out).mono ?_; rintro e w4 ⟨rfl, hq4⟩
   go_wp2_with fail
   go_ret
   exact ⟨by simp [soundB, typedB, hT], HQ0.out.trans (HQ3.out.trans hq4)⟩
  ·rw [hT] at HSM
   have HTY := hid hT
   clear hT
   go_wp2_with fail
   refine (HSM.out _ HQ3.out).mono ?_; rintro e w4 ⟨rfl, hq4⟩
   have HQ4 := hid (HQ3.out.trans hq4)
   clear x0 x1 x2 x3 x4 x5 x6 x7 x8 hq4
   obtain ⟨x0, x1, x2, x3, x4, x5, x6, x7, x8⟩ := HSC.out.box w4 HQ4.out
   dsimp only at x0 x1 x2 x3 x4 x5 x6 x7 x8
   by_cases hn : n < 0
   ·go_wp2_with fail
    go_ret
    exact ⟨by simp [soundB]; omega, HQ0.out.trans HQ4.out⟩
   ·by_cases ht : 0 < n
    ·go_wp2_with fail
     go_ret
     exact ⟨by simp [soundB, kTop]; omega, HQ0.out.trans HQ4.out⟩
    ·have hwn : n <= 9223372036854775807 := by have := HW.out; unfold wfI at this; simp only [Lit.wf, IntKind.min, IntKind.max, IntKind.signed, IntKind.bits, Bool.and_eq_true, decide_eq_true_eq, if_true] at this; omega
     go_wp2_with fail
     all_goals
      go_ret
      refine ⟨?_, HQ0.out.trans HQ4.out⟩
      have h1 := HNA.out
      have h2 := HTY.out
      refine congrArg (fun b => Ending.returned (Value.bool b)) ?_
      rw [Bool.eq_iff_iff]
      simp [soundB, namedB, typedB, kName, kTop, kLeast, kMost, h1, h2]
      omega
end
section
open Go.RowKit Go.Shelf
theorem refSound_7 (nm : ByteArray) (n tk tn : Int) (tp : Fo) (fr en : Int) (w : World) (o1 : Option Addr) (l1 c1 : Nat) (o2 : Option Addr) (l2 c2 : Nat) (hw : wfI n)
    (SC : SndC ⟨7, nm, n, tk, tn, tp, fr, en⟩ (w.alloc (.cells (cells9 ⟨7, nm, n, tk, tn, tp, fr, en⟩ o1 l1 c1 o2 l2 c2) 29)) o1 l1 c1 o2 l2 c2 w.heap.size) :
    Calls Tryz.prog 34 #[tmv ⟨7, nm, n, tk, tn, tp, fr, en⟩ o1 l1 c1 o2 l2 c2] w fun e w' => e = .returned (.bool (soundB ⟨7, nm, n, tk, tn, tp, fr, en⟩ l2)) /\ Quiet0 w w' := by
 have HSC := hid SC
 have HW := hid hw
 have HN : Hid (∀ W, Calls Tryz.prog 54 #[.int .i64 7] W fun e w' => e = .returned (.bool true) /\ Quiet0 W w') := SC.named
 obtain ⟨W0, hW0⟩ : ∃ W0, W0 = w.alloc (.cells (cells9 ⟨7, nm, n, tk, tn, tp, fr, en⟩ o1 l1 c1 o2 l2 c2) 29) := ⟨_, rfl⟩
 have HQ0 : Hid (Quiet0 w W0) := by rw [hW0]; exact Quiet0.alloc _ _
 clear SC hw
 rw [<- hW0] at HSC
 unfold tmv
 go_enter Tryz.func34, Tryz.ntmps34
 go_upto_region 1 with fail
 change Code.wp _ _ _ _ (w.alloc (.cells (cells9 ⟨7, nm, n, tk, tn, tp, fr, en⟩ o1 l1 c1 o2 l2 c2) 29))
 rw [<- hW0]
 clear hW0
 generalize w.heap.size = B at *
 obtain ⟨x0, x1, x2, x3, x4, x5, x6, x7, x8⟩ := HSC.out.box W0 (Quiet0.refl _)
 dsimp only at x0 x1 x2 x3 x4 x5 x6 x7 x8
 go_quiet (fail)
 go_wp2_with fail
 refine (HN.out _).mono ?_; rintro e w1 ⟨rfl, hq1⟩
 have HQ1 : Hid (Quiet0 W0 w1) := Quiet0.trans (Fr.drewN _ _ _) hq1
 clear x0 x1 x2 x3 x4 x5 x6 x7 x8 hq1
 obtain ⟨x0, x1, x2, x3, x4, x5, x6, x7, x8⟩ := HSC.out.box w1 HQ1.out
 dsimp only at x0 x1 x2 x3 x4 x5 x6 x7 x8
 cases hA : Lx.nameB nm.data.toList
 ·have HNM := hid HSC.out.name
  rw [hA] at HNM
  go_wp2_with fail
  refine (HNM.out _).mono ?_; rintro e w2 ⟨rfl, hq2⟩
  go_wp2_with fail
  go_ret
  exact ⟨by simp [soundB, namedB, kName, hA], HQ0.out.trans (HQ1.out.trans hq2)⟩
 ·have HNM := hid HSC.out.name
  rw [hA] at HNM
  have HNA := hid hA
  clear hA
  go_wp2_with fail
  refine (HNM.out _).mono ?_; rintro e w2 ⟨rfl, hq2⟩
  have HQ2 := hid (HQ1.out.trans hq2)
  clear x0 x1 x2 x3 x4 x5 x6 x7 x8 hq2
  go_wp2_with fail
  refine (HN.out _).mono ?_; rintro e w3 ⟨rfl, hq3⟩
  have HQ3 := hid (HQ2.out.trans hq3)
  clear hq3
  obtain ⟨x0, x1, x2, x3, x4, x5, x6, x7, x8⟩ := HSC.out.box w3 HQ3.out
  dsimp only at x0 x1 x2 x3 x4 x5 x6 x7 x8
  have HSM := hid HSC.out.same
  cases hT : sameT tk tn tp 0 0 .nil
  ·rw [hT] at HSM
   go_wp2_with fail
   refine (HSM.out _ HQ3.out).mono ?_; rintro e w4 ⟨rfl, hq4⟩
   go_wp2_with fail
   go_ret
   exact ⟨by simp [soundB, typedB, hT], HQ0.out.trans (HQ3.out.trans hq4)⟩
  ·rw [hT] at HSM
   have HTY := hid hT
   clear hT
   go_wp2_with fail
   refine (HSM.out _ HQ3.out).mono ?_; rintro e w4 ⟨rfl, hq4⟩
   have HQ4 := hid (HQ3.out.trans hq4)
   clear x0 x1 x2 x3 x4 x5 x6 x7 x8 hq4
   obtain ⟨x0, x1, x2, x3, x4, x5, x6, x7, x8⟩ := HSC.out.box w4 HQ4.out
   dsimp only at x0 x1 x2 x3 x4 x5 x6 x7 x8
   by_cases hn : n < 0
   ·go_wp2_with fail
    go_ret
    exact ⟨by simp [soundB]; omega, HQ0.out.trans HQ4.out⟩
   ·by_cases ht : 0 < n
    ·go_wp2_with fail
     go_ret
     exact ⟨by simp [soundB, kTop]; omega, HQ0.out.trans HQ4.out⟩
    ·have hwn : n <= 9223372036854775807 := by have := HW.out; unfold wfI at this; simp only [Lit.wf, IntKind.min, IntKind.max, IntKind.signed, IntKind.bits, Bool.and_eq_true, decide_eq_true_eq, if_true] at this; omega
     go_wp2_with fail
     all_goals
      go_ret
      refine ⟨?_, HQ0.out.trans HQ4.out⟩
      have h1 := HNA.out
      have h2 := HTY.out
      refine congrArg (fun b => Ending.returned (Value.bool b)) ?_
      rw [Bool.eq_iff_iff]
      simp [soundB, namedB, typedB, kName, kTop, kLeast, kMost, h1, h2]
      omega
end
section
open Go.RowKit Go.Shelf
theorem refSound_8 (nm : ByteArray) (n tk tn : Int) (tp : Fo) (fr en : Int) (w : World) (o1 : Option Addr) (l1 c1 : Nat) (o2 : Option Addr) (l2 c2 : Nat) (hw : wfI n)
    (SC : SndC ⟨8, nm, n, tk, tn, tp, fr, en⟩ (w.alloc (.cells (cells9 ⟨8, nm, n, tk, tn, tp, fr, en⟩ o1 l1 c1 o2 l2 c2) 29)) o1 l1 c1 o2 l2 c2 w.heap.size) :
    Calls Tryz.prog 34 #[tmv ⟨8, nm, n, tk, tn, tp, fr, en⟩ o1 l1 c1 o2 l2 c2] w fun e w' => e = .returned (.bool (soundB ⟨8, nm, n, tk, tn, tp, fr, en⟩ l2)) /\ Quiet0 w w' := by
 have HSC := hid SC
 have HW := hid hw
 have HN : Hid (∀ W, Calls Tryz.prog 54 #[.int .i64 8] W fun e w' => e = .returned (.bool false) /\ Quiet0 W w') := SC.named
 obtain ⟨W0, hW0⟩ : ∃ W0, W0 = w.alloc (.cells (cells9 ⟨8, nm, n, tk, tn, tp, fr, en⟩ o1 l1 c1 o2 l2 c2) 29) := ⟨_, rfl⟩
 have HQ0 : Hid (Quiet0 w W0) := by rw [hW0]; exact Quiet0.alloc _ _
 clear SC hw
 rw [<- hW0] at HSC
 unfold tmv
 go_enter Tryz.func34, Tryz.ntmps34
 go_upto_region 1 with fail
 change Code.wp _ _ _ _ (w.alloc (.cells (cells9 ⟨8, nm, n, tk, tn, tp, fr, en⟩ o1 l1 c1 o2 l2 c2) 29))
 rw [<- hW0]
 clear hW0
 generalize w.heap.size = B at *
 obtain ⟨x0, x1, x2, x3, x4, x5, x6, x7, x8⟩ := HSC.out.box W0 (Quiet0.refl _)
 dsimp only at x0 x1 x2 x3 x4 x5 x6 x7 x8
 go_quiet (fail)
 go_wp2_with fail
 refine (HN.out _).mono ?_; rintro e w1 ⟨rfl, hq1⟩
 have HQ1 : Hid (Quiet0 W0 w1) := Quiet0.trans (Fr.drewN _ _ _) hq1
 clear x0 x1 x2 x3 x4 x5 x6 x7 x8 hq1
 obtain ⟨x0, x1, x2, x3, x4, x5, x6, x7, x8⟩ := HSC.out.box w1 HQ1.out
 dsimp only at x0 x1 x2 x3 x4 x5 x6 x7 x8
 go_wp2_with fail
 refine (HN.out _).mono ?_; rintro e w3 ⟨rfl, hq3⟩
 have HQ3 := hid (HQ1.out.trans hq3)
 clear x0 x1 x2 x3 x4 x5 x6 x7 x8 hq3
 obtain ⟨x0, x1, x2, x3, x4, x5, x6, x7, x8⟩ := HSC.out.box w3 HQ3.out
 dsimp only at x0 x1 x2 x3 x4 x5 x6 x7 x8
 cases hA : nm.toList.isEmpty
 ·have e3 : nm.toList.isEmpty = false := hA
  go_wp2_with fail
  go_ret
  exact ⟨by simp [soundB, namedB, kName, hA], HQ0.out.trans HQ3.out⟩
 ·have e3 : nm.toList.isEmpty = true := hA
  have HNA := hid hA
  clear hA
  have HSM := hid HSC.out.same
  cases hT : sameT tk tn tp 0 0 .nil
  ·rw [hT] at HSM
   go_wp2_with fail
   refine (HSM.out _ HQ3.out).mono ?_; rintro e w4 ⟨rfl, hq4⟩
   go_wp2_with fail
   go_ret
   exact ⟨by simp [soundB, typedB, hT], HQ0.out.trans (HQ3.out.trans hq4)⟩
  ·rw [hT] at HSM
   have HTY := hid hT
   clear hT
   go_wp2_with fail
   refine (HSM.out _ HQ3.out).mono ?_; rintro e w4 ⟨rfl, hq4⟩
   have HQ4 := hid (HQ3.out.trans hq4)
   clear x0 x1 x2 x3 x4 x5 x6 x7 x8 hq4
   obtain ⟨x0, x1, x2, x3, x4, x5, x6, x7, x8⟩ := HSC.out.box w4 HQ4.out
   dsimp only at x0 x1 x2 x3 x4 x5 x6 x7 x8
   by_cases hn : n < 0
   ·go_wp2_with fail
    go_ret
    exact ⟨by simp [soundB]; omega, HQ0.out.trans HQ4.out⟩
   ·by_cases ht : 0 < n
    ·go_wp2_with fail
     go_ret
     exact ⟨by simp [soundB, kTop]; omega, HQ0.out.trans HQ4.out⟩
    ·have hwn : n <= 9223372036854775807 := by have := HW.out; unfold wfI at this; simp only [Lit.wf, IntKind.min, IntKind.max, IntKind.signed, IntKind.bits, Bool.and_eq_true, decide_eq_true_eq, if_true] at this; omega
     go_wp2_with fail
     all_goals
      go_ret
      refine ⟨?_, HQ0.out.trans HQ4.out⟩
      have h1 := HNA.out
      have h2 := HTY.out
      refine congrArg (fun b => Ending.returned (Value.bool b)) ?_
      rw [Bool.eq_iff_iff]
      simp [soundB, namedB, typedB, kName, kTop, kLeast, kMost, h1, h2]
      omega
end
section
open Go.RowKit Go.Shelf
theorem refSound_9 (nm : ByteArray) (n tk tn : Int) (tp : Fo) (fr en : Int) (w : World) (o1 : Option Addr) (l1 c1 : Nat) (o2 : Option Addr) (l2 c2 : Nat) (hw : wfI n)
    (SC : SndC ⟨9, nm, n, tk, tn, tp, fr, en⟩ (w.alloc (.cells (cells9 ⟨9, nm, n, tk, tn, tp, fr, en⟩ o1 l1 c1 o2 l2 c2) 29)) o1 l1 c1 o2 l2 c2 w.heap.size) :
    Calls Tryz.prog 34 #[tmv ⟨9, nm, n, tk, tn, tp, fr, en⟩ o1 l1 c1 o2 l2 c2] w fun e w' => e = .returned (.bool (soundB ⟨9, nm, n, tk, tn, tp, fr, en⟩ l2)) /\ Quiet0 w w' := by
 have HSC := hid SC
 have HW := hid hw
 have HN : Hid (∀ W, Calls Tryz.prog 54 #[.int .i64 9] W fun e w' => e = .returned (.bool false) /\ Quiet0 W w') := SC.named
 obtain ⟨W0, hW0⟩ : ∃ W0, W0 = w.alloc (.cells (cells9 ⟨9, nm, n, tk, tn, tp, fr, en⟩ o1 l1 c1 o2 l2 c2) 29) := ⟨_, rfl⟩
 have HQ0 : Hid (Quiet0 w W0) := by rw [hW0]; exact Quiet0.alloc _ _
 clear SC hw
 rw [<- hW0] at HSC
 unfold tmv
 go_enter Tryz.func34, Tryz.ntmps34
 go_upto_region 1 with fail
 change Code.wp _ _ _ _ (w.alloc (.cells (cells9 ⟨9, nm, n, tk, tn, tp, fr, en⟩ o1 l1 c1 o2 l2 c2) 29))
 rw [<- hW0]
 clear hW0
 generalize w.heap.size = B at *
 obtain ⟨x0, x1, x2, x3, x4, x5, x6, x7, x8⟩ := HSC.out.box W0 (Quiet0.refl _)
 dsimp only at x0 x1 x2 x3 x4 x5 x6 x7 x8
 go_quiet (fail)
 go_wp2_with fail
 refine (HN.out _).mono ?_; rintro e w1 ⟨rfl, hq1⟩
 have HQ1 : Hid (Quiet0 W0 w1) := Quiet0.trans (Fr.drewN _ _ _) hq1
 clear x0 x1 x2 x3 x4 x5 x6 x7 x8 hq1
 obtain ⟨x0, x1, x2, x3, x4, x5, x6, x7, x8⟩ := HSC.out.box w1 HQ1.out
 dsimp only at x0 x1 x2 x3 x4 x5 x6 x7 x8
 go_wp2_with fail
 refine (HN.out _).mono ?_; rintro e w3 ⟨rfl, hq3⟩
 have HQ3 := hid (HQ1.out.trans hq3)
 clear x0 x1 x2 x3 x4 x5 x6 x7 x8 hq3
 obtain ⟨x0, x1, x2, x3, x4, x5, x6, x7, x8⟩ := HSC.out.box w3 HQ3.out
 dsimp only at x0 x1 x2 x3 x4 x5 x6 x7 x8
 cases hA : nm.toList.isEmpty
 ·have e3 : nm.toList.isEmpty = false := hA
  go_wp2_with fail
  go_ret
  exact ⟨by simp [soundB, namedB, kName, hA], HQ0.out.trans HQ3.out⟩
 ·have e3 : nm.toList.isEmpty = true := hA
  have HNA := hid hA
  clear hA
  have HSM := hid HSC.out.same
  cases hT : sameT tk tn tp 0 0 .nil
  ·rw [hT] at HSM
   go_wp2_with fail
   refine (HSM.out _ HQ3.out).mono ?_; rintro e w4 ⟨rfl, hq4⟩
   go_wp2_with fail
   go_ret
   exact ⟨by simp [soundB, typedB, hT], HQ0.out.trans (HQ3.out.trans hq4)⟩
  ·rw [hT] at HSM
   have HTY := hid hT
   clear hT
   go_wp2_with fail
   refine (HSM.out _ HQ3.out).mono ?_; rintro e w4 ⟨rfl, hq4⟩
   have HQ4 := hid (HQ3.out.trans hq4)
   clear x0 x1 x2 x3 x4 x5 x6 x7 x8 hq4
   obtain ⟨x0, x1, x2, x3, x4, x5, x6, x7, x8⟩ := HSC.out.box w4 HQ4.out
   dsimp only at x0 x1 x2 x3 x4 x5 x6 x7 x8
   by_cases hn : n < 0
   ·go_wp2_with fail
    go_ret
    exact ⟨by simp [soundB]; omega, HQ0.out.trans HQ4.out⟩
   ·by_cases ht : 0 < n
    ·go_wp2_with fail
     go_ret
     exact ⟨by simp [soundB, kTop]; omega, HQ0.out.trans HQ4.out⟩
    ·have hwn : n <= 9223372036854775807 := by have := HW.out; unfold wfI at this; simp only [Lit.wf, IntKind.min, IntKind.max, IntKind.signed, IntKind.bits, Bool.and_eq_true, decide_eq_true_eq, if_true] at this; omega
     go_wp2_with fail
     all_goals
      go_ret
      refine ⟨?_, HQ0.out.trans HQ4.out⟩
      have h1 := HNA.out
      have h2 := HTY.out
      refine congrArg (fun b => Ending.returned (Value.bool b)) ?_
      rw [Bool.eq_iff_iff]
      simp [soundB, namedB, typedB, kName, kTop, kLeast, kMost, h1, h2]
      omega
end
section
open Go.RowKit Go.Shelf
theorem refSound_10 (nm : ByteArray) (n tk tn : Int) (tp : Fo) (fr en : Int) (w : World) (o1 : Option Addr) (l1 c1 : Nat) (o2 : Option Addr) (l2 c2 : Nat) (hw : wfI n)
    (SC : SndC ⟨10, nm, n, tk, tn, tp, fr, en⟩ (w.alloc (.cells (cells9 ⟨10, nm, n, tk, tn, tp, fr, en⟩ o1 l1 c1 o2 l2 c2) 29)) o1 l1 c1 o2 l2 c2 w.heap.size) :
    Calls Tryz.prog 34 #[tmv ⟨10, nm, n, tk, tn, tp, fr, en⟩ o1 l1 c1 o2 l2 c2] w fun e w' => e = .returned (.bool (soundB ⟨10, nm, n, tk, tn, tp, fr, en⟩ l2)) /\ Quiet0 w w' := by
 have HSC := hid SC
 have HW := hid hw
 have HN : Hid (∀ W, Calls Tryz.prog 54 #[.int .i64 10] W fun e w' => e = .returned (.bool false) /\ Quiet0 W w') := SC.named
 obtain ⟨W0, hW0⟩ : ∃ W0, W0 = w.alloc (.cells (cells9 ⟨10, nm, n, tk, tn, tp, fr, en⟩ o1 l1 c1 o2 l2 c2) 29) := ⟨_, rfl⟩
 have HQ0 : Hid (Quiet0 w W0) := by rw [hW0]; exact Quiet0.alloc _ _
 clear SC hw
 rw [<- hW0] at HSC
 unfold tmv
 go_enter Tryz.func34, Tryz.ntmps34
 go_upto_region 1 with fail
 change Code.wp _ _ _ _ (w.alloc (.cells (cells9 ⟨10, nm, n, tk, tn, tp, fr, en⟩ o1 l1 c1 o2 l2 c2) 29))
 rw [<- hW0]
 clear hW0
 generalize w.heap.size = B at *
 obtain ⟨x0, x1, x2, x3, x4, x5, x6, x7, x8⟩ := HSC.out.box W0 (Quiet0.refl _)
 dsimp only at x0 x1 x2 x3 x4 x5 x6 x7 x8
 go_quiet (fail)
 go_wp2_with fail
 refine (HN.out _).mono ?_; rintro e w1 ⟨rfl, hq1⟩
 have HQ1 : Hid (Quiet0 W0 w1) := Quiet0.trans (Fr.drewN _ _ _) hq1
 clear x0 x1 x2 x3 x4 x5 x6 x7 x8 hq1
 obtain ⟨x0, x1, x2, x3, x4, x5, x6, x7, x8⟩ := HSC.out.box w1 HQ1.out
 dsimp only at x0 x1 x2 x3 x4 x5 x6 x7 x8
 go_wp2_with fail
 refine (HN.out _).mono ?_; rintro e w3 ⟨rfl, hq3⟩
 have HQ3 := hid (HQ1.out.trans hq3)
 clear x0 x1 x2 x3 x4 x5 x6 x7 x8 hq3
 obtain ⟨x0, x1, x2, x3, x4, x5, x6, x7, x8⟩ := HSC.out.box w3 HQ3.out
 dsimp only at x0 x1 x2 x3 x4 x5 x6 x7 x8
 cases hA : nm.toList.isEmpty
 ·have e3 : nm.toList.isEmpty = false := hA
  go_wp2_with fail
  go_ret
  exact ⟨by simp [soundB, namedB, kName, hA], HQ0.out.trans HQ3.out⟩
 ·have e3 : nm.toList.isEmpty = true := hA
  have HNA := hid hA
  clear hA
  have HRI := hid HSC.out.right
  have HVA := hid HSC.out.vars
  cases hT : rightT tk tn tp
  ·rw [hT] at HRI
   go_wp2_with fail
   refine (HRI.out _ HQ3.out).mono ?_; rintro e w4 ⟨rfl, hq4⟩
   go_wp2_with fail
   go_ret
   exact ⟨by simp [soundB, typedB, closedT, hT], HQ0.out.trans (HQ3.out.trans hq4)⟩
  ·rw [hT] at HRI
   have HRT := hid hT
   clear hT
   obtain ⟨L, hL⟩ : ∃ L, Fo.vars [] (.cons tk tn tp .nil) = L := ⟨_, rfl⟩
   dsimp only at HVA
   rw [hL] at HVA
   go_wp2_with fail
   refine (HRI.out _ HQ3.out).mono ?_; rintro e w4 ⟨rfl, hq4⟩
   have HQ4 := hid (HQ3.out.trans hq4)
   clear x0 x1 x2 x3 x4 x5 x6 x7 x8 hq4
   obtain ⟨x0, x1, x2, x3, x4, x5, x6, x7, x8⟩ := HSC.out.box w4 HQ4.out
   dsimp only at x0 x1 x2 x3 x4 x5 x6 x7 x8
   by_cases hl : L.length = 0
   ·have hl' : ¬ (0 : Int) < (L.length : Int) := by omega
    have HTY : Hid ((rightT tk tn tp && (Fo.vars [] (.cons tk tn tp .nil)).isEmpty) = true) := by
     show _ = _
     rw [HRT.out, hL, List.eq_nil_of_length_eq_zero hl]; rfl
    clear hL
    go_wp2_with fail
    refine (HVA.out _ HQ4.out).mono ?_; rintro e w5 ⟨va, vc, rfl, hq5⟩
    have HQ5 := hid (HQ4.out.trans hq5)
    clear x0 x1 x2 x3 x4 x5 x6 x7 x8 hq5
    obtain ⟨x0, x1, x2, x3, x4, x5, x6, x7, x8⟩ := HSC.out.box w5 HQ5.out
    dsimp only at x0 x1 x2 x3 x4 x5 x6 x7 x8
    by_cases hn : n < 0
    ·go_wp2_with fail
     go_ret
     exact ⟨by simp [soundB]; omega, HQ0.out.trans HQ5.out⟩
    ·by_cases ht : 0 < n
     ·go_wp2_with fail
      go_ret
      exact ⟨by simp [soundB, kTop]; omega, HQ0.out.trans HQ5.out⟩
     ·have hwn : n <= 9223372036854775807 := by have := HW.out; unfold wfI at this; simp only [Lit.wf, IntKind.min, IntKind.max, IntKind.signed, IntKind.bits, Bool.and_eq_true, decide_eq_true_eq, if_true] at this; omega
      go_wp2_with fail
      all_goals
       go_ret
       refine ⟨?_, HQ0.out.trans HQ5.out⟩
       have h1 := HNA.out
       have h2 := HTY.out
       refine congrArg (fun b => Ending.returned (Value.bool b)) ?_
       rw [Bool.eq_iff_iff]
       simp [soundB, namedB, typedB, closedT, kName, kTop, kLeast, kMost, h1, h2]
       omega
   ·have hl' : (0 : Int) < (L.length : Int) := by omega
    have hLE : L.isEmpty = false := by cases L <;> simp at hl ⊢
    have HLL := hid hL
    clear hL
    go_wp2_with fail
    refine (HVA.out _ HQ4.out).mono ?_; rintro e w5 ⟨va, vc, rfl, hq5⟩
    go_wp2_with fail
    go_ret
    have hL := HLL.out
    exact ⟨by simp [soundB, typedB, closedT, hL, hLE], HQ0.out.trans (HQ4.out.trans hq5)⟩
end
section
open Go.RowKit Go.Shelf
theorem refSound_lo (k : Int) (hk : k < 1) (nm : ByteArray) (n tk tn : Int) (tp : Fo) (fr en : Int) (w : World) (o1 : Option Addr) (l1 c1 : Nat) (o2 : Option Addr) (l2 c2 : Nat)
    (SC : SndC ⟨k, nm, n, tk, tn, tp, fr, en⟩ (w.alloc (.cells (cells9 ⟨k, nm, n, tk, tn, tp, fr, en⟩ o1 l1 c1 o2 l2 c2) 29)) o1 l1 c1 o2 l2 c2 w.heap.size) :
    Calls Tryz.prog 34 #[tmv ⟨k, nm, n, tk, tn, tp, fr, en⟩ o1 l1 c1 o2 l2 c2] w fun e w' => e = .returned (.bool (soundB ⟨k, nm, n, tk, tn, tp, fr, en⟩ l2)) /\ Quiet0 w w' := by
 have HSC := hid SC
 have e : soundB ⟨k, nm, n, tk, tn, tp, fr, en⟩ l2 = false := by
  unfold soundB
  simp
  omega
 rw [e]
 clear e
 have b1 : (k == 1) = false := by simp; omega
 have b2 : (k == 2) = false := by simp; omega
 have b3 : (k == 3) = false := by simp; omega
 have b4 : (k == 4) = false := by simp; omega
 have b5 : (k == 5) = false := by simp; omega
 have b6 : (k == 6) = false := by simp; omega
 have b7 : (k == 7) = false := by simp; omega
 have b8 : (k == 8) = false := by simp; omega
 have b9 : (k == 9) = false := by simp; omega
 have b10 : (k == 10) = false := by simp; omega
 have b3' : ¬ (3 : Int) < k := by omega
 have HN : Hid (∀ W, Calls Tryz.prog 54 #[.int .i64 k] W fun e w' => e = .returned (.bool false) /\ Quiet0 W w') := by
  have h := SC.named
  have e : kName k = false := by unfold kName; rw [b1, b4, b6, b7]; rfl
  dsimp only at h
  rw [e] at h
  exact h
 obtain ⟨W0, hW0⟩ : ∃ W0, W0 = w.alloc (.cells (cells9 ⟨k, nm, n, tk, tn, tp, fr, en⟩ o1 l1 c1 o2 l2 c2) 29) := ⟨_, rfl⟩
 have HQ0 : Hid (Quiet0 w W0) := by rw [hW0]; exact Quiet0.alloc _ _
 clear SC
 rw [<- hW0] at HSC
 unfold tmv
 go_enter Tryz.func34, Tryz.ntmps34
 go_upto_region 1 with fail
 change Code.wp _ _ _ _ (w.alloc (.cells (cells9 ⟨k, nm, n, tk, tn, tp, fr, en⟩ o1 l1 c1 o2 l2 c2) 29))
 rw [<- hW0]
 clear hW0
 generalize w.heap.size = B at *
 obtain ⟨x0, x1, x2, x3, x4, x5, x6, x7, x8⟩ := HSC.out.box W0 (Quiet0.refl _)
 dsimp only at x0 x1 x2 x3 x4 x5 x6 x7 x8
 go_quiet (fail)
 go_wp2_with fail
 refine (HN.out _).mono ?_; rintro e w1 ⟨rfl, hq1⟩
 have HQ1 : Hid (Quiet0 W0 w1) := Quiet0.trans (Fr.drewN _ _ _) hq1
 clear x0 x1 x2 x3 x4 x5 x6 x7 x8 hq1
 obtain ⟨x0, x1, x2, x3, x4, x5, x6, x7, x8⟩ := HSC.out.box w1 HQ1.out
 dsimp only at x0 x1 x2 x3 x4 x5 x6 x7 x8
 go_wp2_with fail
 refine (HN.out _).mono ?_; rintro e w3 ⟨rfl, hq3⟩
 have HQ3 := hid (HQ1.out.trans hq3)
 clear x0 x1 x2 x3 x4 x5 x6 x7 x8 hq3
 obtain ⟨x0, x1, x2, x3, x4, x5, x6, x7, x8⟩ := HSC.out.box w3 HQ3.out
 dsimp only at x0 x1 x2 x3 x4 x5 x6 x7 x8
 cases hA : nm.toList.isEmpty
 ·have e3 : nm.toList.isEmpty = false := hA
  go_wp2_with fail
  go_ret
  exact ⟨rfl, HQ0.out.trans HQ3.out⟩
 ·have e3 : nm.toList.isEmpty = true := hA
  clear hA
  have HSM := hid HSC.out.same
  cases hT : sameT tk tn tp 0 0 .nil
  ·rw [hT] at HSM
   go_wp2_with fail
   refine (HSM.out _ HQ3.out).mono ?_; rintro e w4 ⟨rfl, hq4⟩
   go_wp2_with fail
   go_ret
   exact ⟨rfl, HQ0.out.trans (HQ3.out.trans hq4)⟩
  ·rw [hT] at HSM
   clear hT
   go_wp2_with fail
   refine (HSM.out _ HQ3.out).mono ?_; rintro e w4 ⟨rfl, hq4⟩
   have HQ4 := hid (HQ3.out.trans hq4)
   clear x0 x1 x2 x3 x4 x5 x6 x7 x8 hq4
   obtain ⟨x0, x1, x2, x3, x4, x5, x6, x7, x8⟩ := HSC.out.box w4 HQ4.out
   dsimp only at x0 x1 x2 x3 x4 x5 x6 x7 x8
   by_cases hn : n < 0
   ·go_wp2_with fail
    go_ret
    exact ⟨rfl, HQ0.out.trans HQ4.out⟩
   ·by_cases ht : 0 < n
    ·go_wp2_with fail
     go_ret
     exact ⟨rfl, HQ0.out.trans HQ4.out⟩
    ·go_wp2_with fail
     go_ret
     exact ⟨rfl, HQ0.out.trans HQ4.out⟩
end
section
open Go.RowKit Go.Shelf
theorem refSound_hi (k : Int) (hk : 10 < k) (nm : ByteArray) (n tk tn : Int) (tp : Fo) (fr en : Int) (w : World) (o1 : Option Addr) (l1 c1 : Nat) (o2 : Option Addr) (l2 c2 : Nat)
    (SC : SndC ⟨k, nm, n, tk, tn, tp, fr, en⟩ (w.alloc (.cells (cells9 ⟨k, nm, n, tk, tn, tp, fr, en⟩ o1 l1 c1 o2 l2 c2) 29)) o1 l1 c1 o2 l2 c2 w.heap.size) :
    Calls Tryz.prog 34 #[tmv ⟨k, nm, n, tk, tn, tp, fr, en⟩ o1 l1 c1 o2 l2 c2] w fun e w' => e = .returned (.bool (soundB ⟨k, nm, n, tk, tn, tp, fr, en⟩ l2)) /\ Quiet0 w w' := by
 have HSC := hid SC
 have e : soundB ⟨k, nm, n, tk, tn, tp, fr, en⟩ l2 = false := by
  unfold soundB
  simp
  omega
 rw [e]
 clear e
 have b1 : (k == 1) = false := by simp; omega
 have b2 : (k == 2) = false := by simp; omega
 have b3 : (k == 3) = false := by simp; omega
 have b4 : (k == 4) = false := by simp; omega
 have b5 : (k == 5) = false := by simp; omega
 have b6 : (k == 6) = false := by simp; omega
 have b7 : (k == 7) = false := by simp; omega
 have b8 : (k == 8) = false := by simp; omega
 have b9 : (k == 9) = false := by simp; omega
 have b10 : (k == 10) = false := by simp; omega
 have b3' : (3 : Int) < k := by omega
 have HN : Hid (∀ W, Calls Tryz.prog 54 #[.int .i64 k] W fun e w' => e = .returned (.bool false) /\ Quiet0 W w') := by
  have h := SC.named
  have e : kName k = false := by unfold kName; rw [b1, b4, b6, b7]; rfl
  dsimp only at h
  rw [e] at h
  exact h
 obtain ⟨W0, hW0⟩ : ∃ W0, W0 = w.alloc (.cells (cells9 ⟨k, nm, n, tk, tn, tp, fr, en⟩ o1 l1 c1 o2 l2 c2) 29) := ⟨_, rfl⟩
 have HQ0 : Hid (Quiet0 w W0) := by rw [hW0]; exact Quiet0.alloc _ _
 clear SC
 rw [<- hW0] at HSC
 unfold tmv
 go_enter Tryz.func34, Tryz.ntmps34
 go_upto_region 1 with fail
 change Code.wp _ _ _ _ (w.alloc (.cells (cells9 ⟨k, nm, n, tk, tn, tp, fr, en⟩ o1 l1 c1 o2 l2 c2) 29))
 rw [<- hW0]
 clear hW0
 generalize w.heap.size = B at *
 obtain ⟨x0, x1, x2, x3, x4, x5, x6, x7, x8⟩ := HSC.out.box W0 (Quiet0.refl _)
 dsimp only at x0 x1 x2 x3 x4 x5 x6 x7 x8
 go_quiet (fail)
 go_wp2_with fail
 refine (HN.out _).mono ?_; rintro e w1 ⟨rfl, hq1⟩
 have HQ1 : Hid (Quiet0 W0 w1) := Quiet0.trans (Fr.drewN _ _ _) hq1
 clear x0 x1 x2 x3 x4 x5 x6 x7 x8 hq1
 obtain ⟨x0, x1, x2, x3, x4, x5, x6, x7, x8⟩ := HSC.out.box w1 HQ1.out
 dsimp only at x0 x1 x2 x3 x4 x5 x6 x7 x8
 go_wp2_with fail
 refine (HN.out _).mono ?_; rintro e w3 ⟨rfl, hq3⟩
 have HQ3 := hid (HQ1.out.trans hq3)
 clear x0 x1 x2 x3 x4 x5 x6 x7 x8 hq3
 obtain ⟨x0, x1, x2, x3, x4, x5, x6, x7, x8⟩ := HSC.out.box w3 HQ3.out
 dsimp only at x0 x1 x2 x3 x4 x5 x6 x7 x8
 cases hA : nm.toList.isEmpty
 ·have e3 : nm.toList.isEmpty = false := hA
  go_wp2_with fail
  go_ret
  exact ⟨rfl, HQ0.out.trans HQ3.out⟩
 ·have e3 : nm.toList.isEmpty = true := hA
  clear hA
  have HSM := hid HSC.out.same
  cases hT : sameT tk tn tp 0 0 .nil
  ·rw [hT] at HSM
   go_wp2_with fail
   refine (HSM.out _ HQ3.out).mono ?_; rintro e w4 ⟨rfl, hq4⟩
   go_wp2_with fail
   go_ret
   exact ⟨rfl, HQ0.out.trans (HQ3.out.trans hq4)⟩
  ·rw [hT] at HSM
   clear hT
   go_wp2_with fail
   refine (HSM.out _ HQ3.out).mono ?_; rintro e w4 ⟨rfl, hq4⟩
   have HQ4 := hid (HQ3.out.trans hq4)
   clear x0 x1 x2 x3 x4 x5 x6 x7 x8 hq4
   obtain ⟨x0, x1, x2, x3, x4, x5, x6, x7, x8⟩ := HSC.out.box w4 HQ4.out
   dsimp only at x0 x1 x2 x3 x4 x5 x6 x7 x8
   by_cases hn : n < 0
   ·go_wp2_with fail
    go_ret
    exact ⟨rfl, HQ0.out.trans HQ4.out⟩
   ·by_cases ht : 0 < n
    ·go_wp2_with fail
     go_ret
     exact ⟨rfl, HQ0.out.trans HQ4.out⟩
    ·go_wp2_with fail
     go_ret
     exact ⟨rfl, HQ0.out.trans HQ4.out⟩
end
section
open Go.RowKit Go.Shelf
def GoodR (h : Nd) : Prop := h.nm.size <= 100000 /\ h.tp.size <= 100000 /\ wfI h.n
theorem refSoundT_any (h : Nd) (w : World) (R : Nat -> Prop) (o1 : Option Addr) (l1 c1 : Nat) (o2 : Option Addr) (l2 c2 : Nat) (hs : SlcIn R w o1 l1 h.tp) (hg : GoodR h) :
    Calls Tryz.prog 34 #[tmv h o1 l1 c1 o2 l2 c2] w fun e w' => e = .returned (.bool (soundB h l2)) /\ Quiet0 w w' := by
 have SC := sndC_of h w R o1 l1 c1 o2 l2 c2 hs hg.1 hg.2.1
 have hw := hg.2.2
 obtain ⟨k, nm, n, tk, tn, tp, fr, en⟩ := h
 by_cases h1 : k < 1
 ·exact refSound_lo k h1 nm n tk tn tp fr en w o1 l1 c1 o2 l2 c2 SC
 ·by_cases h2 : 10 < k
  ·exact refSound_hi k h2 nm n tk tn tp fr en w o1 l1 c1 o2 l2 c2 SC
  ·have hk : k = 1 ∨ k = 2 ∨ k = 3 ∨ k = 4 ∨ k = 5 ∨ k = 6 ∨ k = 7 ∨ k = 8 ∨ k = 9 ∨ k = 10 := by omega
   rcases hk with rfl | rfl | rfl | rfl | rfl | rfl | rfl | rfl | rfl | rfl
   ·exact refSound_1 nm n tk tn tp fr en w o1 l1 c1 o2 l2 c2 hw SC
   ·exact refSound_2 nm n tk tn tp fr en w o1 l1 c1 o2 l2 c2 hw SC
   ·exact refSound_3 nm n tk tn tp fr en w o1 l1 c1 o2 l2 c2 hw SC
   ·exact refSound_4 nm n tk tn tp fr en w o1 l1 c1 o2 l2 c2 hw SC
   ·exact refSound_5 nm n tk tn tp fr en w o1 l1 c1 o2 l2 c2 hw SC
   ·exact refSound_6 nm n tk tn tp fr en w o1 l1 c1 o2 l2 c2 hw SC
   ·exact refSound_7 nm n tk tn tp fr en w o1 l1 c1 o2 l2 c2 hw SC
   ·exact refSound_8 nm n tk tn tp fr en w o1 l1 c1 o2 l2 c2 hw SC
   ·exact refSound_9 nm n tk tn tp fr en w o1 l1 c1 o2 l2 c2 hw SC
   ·exact refSound_10 nm n tk tn tp fr en w o1 l1 c1 o2 l2 c2 hw SC
abbrev allS (f : To) : Bool := f.flat.all sndX
theorem allS_cons (h : Nd) (ps r : To) : allS (.cons h ps r) = ((soundB h ps.length && allS ps) && allS r) := by
 simp [allS, To.flat, List.all_append, Bool.and_assoc, sndX]
theorem allS_one (h : Nd) (ps : To) : allS (.cons h ps .nil) = (soundB h ps.length && allS ps) := by
 rw [allS_cons]; simp [allS, To.flat]
def RRightT (h : Nd) (ps : To) : Prop := ∀ (w : World) (R : Nat -> Prop) (o1 : Option Addr) (l1 c1 : Nat) (o2 : Option Addr) (l2 c2 : Nat), SlcIn R w o1 l1 h.tp -> TSlc R w o2 l2 ps -> GoodR h -> allT GoodR ps ->
 Calls Tryz.prog 13 #[tmv h o1 l1 c1 o2 l2 c2] w fun e w' => e = .returned (.bool (allS (.cons h ps .nil))) /\ Quiet0 w w'
theorem refRightT_any (h : Nd) (ps : To) : RRightT h ps := by
 refine To.ind' (T := RRightT) ?_ h ps
 intro h ps ih w R o1 l1 c1 o2 l2 c2 hs1 hs hgh hgp
 have HS := hid hs
 have IH := hid ih
 have HL := hid hs.1
 have HG := hid hgp
 have hmx := hs.2.1
 unfold maxLen at hmx
 obtain ⟨W0, hW0⟩ : ∃ W0, W0 = w.alloc (.cells (cells9 h o1 l1 c1 o2 l2 c2) 29) := ⟨_, rfl⟩
 have HB : Hid (∀ W, Quiet0 W0 W -> W.cell? ⟨w.heap.size, 6, none⟩ = some (.slice o2 l2 c2)) := by
  intro W hq; rw [hW0] at hq; exact (box9 w h o1 l1 c1 o2 l2 c2 _ W hq).2.2.2.2.2.2.1
 have hq0 : Quiet0 w W0 := by rw [hW0]; exact Quiet0.alloc _ _
 have HQ0 := hid hq0
 have HSO := hid (refSoundT_any h W0 R o1 l1 c1 o2 l2 c2 (hs1.stay hq0) hgh)
 obtain ⟨res, hres⟩ : ∃ res, res = allS (.cons h ps .nil) := ⟨_, rfl⟩
 have HRES : Hid (res = (soundB h l2 && allS ps)) := by show _ = _; rw [hres, allS_one, HL.out]
 rw [<- hres]
 clear hs1 hs ih hgh hgp hres hq0
 unfold tmv at HSO ⊢
 go_enter Tryz.func13, Tryz.ntmps13
 go_wp2_with fail
 change Calls _ _ _ (w.alloc (.cells (cells9 h o1 l1 c1 o2 l2 c2) 29)) _
 rw [<- hW0]
 clear hW0
 generalize w.heap.size = nb at *
 cases hb : soundB h l2
 ·have HR0 : Hid (res = false) := by show _ = _; rw [HRES.out, hb]; rfl
  rw [hb] at HSO
  clear hb
  refine HSO.out.mono ?_; rintro e w1 ⟨rfl, hq1⟩
  go_wp2_with fail
  go_ret
  exact ⟨by rw [HR0.out]; rfl, HQ0.out.trans hq1⟩
 ·have HR0 : Hid (res = allS ps) := by show _ = _; rw [HRES.out, hb]; rfl
  rw [hb] at HSO
  clear hb
  refine HSO.out.mono ?_; rintro e w1 ⟨rfl, hq1⟩
  have HQ1 := hid hq1
  clear hq1
  go_wp2_with fail
  go_loopw [3] (fun t wr => ∃ (i : Nat), t = .int .i64 i /\ i <= l2 /\ res = allS (ps.drop i) /\ Quiet0 W0 wr) (fun t _ => l2 - (intOf t).toNat)
  case atStart => exact ⟨0, rfl, Nat.zero_le _, by rw [To.drop_zero]; exact HR0.out, HQ1.out⟩
  case round =>
   obtain ⟨i, rfl, hi, hr, hq⟩ := hrel
   have HR := hid hr
   have HQ := hid hq
   have cc := HB.out wr hq
   clear hr hq
   by_cases hlt : i < l2
   ·have hlt' : (i : Int) < l2 := by omega
    obtain ⟨b, off, hd, qs, p1, m1, d1, p2, m2, d2, rfl, hd1, hg, hRb, ⟨e0, e1, e2, e3, e4, e5, e6, e7, e8⟩, hs1, ht1⟩ := (HS.out.stay (HQ0.out.trans HQ.out)).nth hlt
    have hgg := allT_get ps i hd qs HG.out hg
    have HC := hid (IH.out i hd qs hg wr R p1 m1 d1 p2 m2 d2 hs1 ht1 hgg.1 hgg.2)
    have HN : Hid (res = (allS (.cons hd qs .nil) && allS (ps.drop (i + 1)))) := by
     show _ = _
     rw [HR.out, hd1, allS_cons, allS_one]
    unfold tmv at HC
    clear hd1 hg hs1 ht1 hRb hgg
    cases hb : allS (.cons hd qs .nil)
    ·have HF : Hid (res = false) := by show _ = _; rw [HN.out, hb]; rfl
     rw [hb] at HC
     clear hb
     go_wp2_with fail
     refine HC.out.mono ?_; rintro e w2 ⟨rfl, hq2⟩
     go_wp2_with fail
     go_ret
     exact ⟨by rw [HF.out]; rfl, HQ0.out.trans (HQ.out.trans hq2)⟩
    ·have HF : Hid (res = allS (ps.drop (i + 1))) := by show _ = _; rw [HN.out, hb]; rfl
     rw [hb] at HC
     clear hb
     go_wp2_with fail
     refine HC.out.mono ?_; rintro e w2 ⟨rfl, hq2⟩
     have HQ2 := hid (HQ.out.trans hq2)
     clear hq2
     go_wp2_with fail
     go_roundw
     case rel => exact ⟨i + 1, by go_num, by omega, HF.out, HQ2.out⟩
     case measure => simp [intOf]; omega
   ·have hlt' : ¬ (i : Int) < l2 := by omega
    have HY : Hid (res = true) := by
     show _ = _
     rw [HR.out, To.drop_end ps i (by have := HL.out; omega)]; rfl
    go_wp2_with fail
    go_ret
    exact ⟨by rw [HY.out]; rfl, HQ0.out.trans HQ.out⟩
end
section
open Go.RowKit Go.Shelf
namespace Sc
def resH (h : Nd) (ps : To) : Nd := (wk1 (fun (s : Unit) _ _ => s) rsO () [] h ps).2.1
def resP (h : Nd) (ps : To) : To := (wk1 (fun (s : Unit) _ _ => s) rsO () [] h ps).2.2
theorem resH_tp (h : Nd) (ps : To) : (resH h ps).tp = h.tp := wk1_tp _ _ rsO_tp _ _ _ _
def TmQ (w : World) (g : Nd) (gs : To) (x : Ending) (w' : World) : Prop := ∃ o1 l1 c1 o2 l2 c2, x = .returned (tmv g o1 l1 c1 o2 l2 c2) /\ SlcIn (fun b => w.heap.size <= b) w' o1 l1 g.tp /\ TSlc (fun b => w.heap.size <= b) w' o2 l2 gs /\ Quiet0 w w'
theorem resolved_any (h : Nd) (ps : To) (w : World) (R : Nat -> Prop) (o1 : Option Addr) (l1 c1 : Nat) (o2 : Option Addr) (l2 c2 : Nat) (hs1 : SlcIn R w o1 l1 h.tp) (hs : TSlc R w o2 l2 ps) (hz : ps.size <= 100000) (hv : varOk h ps) (hav : allV ps) (ht : h.tp.size <= 1000000) (hat : allT (fun h => h.tp.size <= 1000000) ps) :
    Calls Tryz.prog 64 #[tmv h o1 l1 c1 o2 l2 c2] w (TmQ w (resH h ps) (resP h ps)) := by
 obtain ⟨W0, hW0⟩ : ∃ W0, W0 = (w.alloc (.cells (cells9 h o1 l1 c1 o2 l2 c2) 29)).alloc (.cells zero9 29) := ⟨_, rfl⟩
 have HQ0 : Hid (Quiet0 w W0) := by rw [hW0]; exact (Quiet0.alloc _ _).trans (Quiet0.alloc _ _)
 have hb0 : W0.heap[w.heap.size]? = some (.cells (cells9 h o1 l1 c1 o2 l2 c2) 29 (0, 0)) := by
  rw [hW0, Below.heap_alloc _ _ _ (by simp)]; exact heap_alloc_new w _
 have hb1 : W0.heap[w.heap.size + 1]? = some (.cells zero9 29 (0, 0)) := by
  rw [hW0]
  have := heap_alloc_new (w.alloc (.cells (cells9 h o1 l1 c1 o2 l2 c2) 29)) (.cells zero9 29)
  simpa using this
 have hz0 : W0.heap.size = w.heap.size + 2 := by rw [hW0]; simp
 have HB1 := hid hb1
 have HC := hid (copyT_any h ps W0 R o1 l1 c1 o2 l2 c2 (hs1.stay HQ0.out) (hs.stay HQ0.out) ht hat (by omega))
 have HW : Hid (∀ (w1 : World) (q1 : Option Addr) (e1 : Nat) (q2 : Option Addr) (e2 : Nat), SlcIn (fun b => W0.heap.size <= b) w1 q1 l1 h.tp -> TSlc (fun b => W0.heap.size <= b) w1 q2 l2 ps -> Calls Tryz.prog 92 #[tmv h q1 l1 e1 q2 l2 e2, .slice none 0 0, .func (.func 96) #[] #[]] w1 (WkQ (fun k => W0.heap.size <= k /\ k < w1.heap.size) (fun (s : Unit) _ _ => s) rsO (UJ w1.heap.size) 0 () (fun _ => False) [] h ps q1 l1 e1 l2 w1)) := fun w1 q1 e1 q2 e2 g1 g2 =>
  walkT_any (F := 96) (lb := #[]) (R := fun k => W0.heap.size <= k /\ k < w1.heap.size) (L0 := w1.heap.size) eg_res (resDo_any _ _) (fun k hk => hk.2) rsO_tp h ps 0 () (fun _ => False) w1 (fun _ => False) [] q1 l1 e1 q2 l2 e2 none 0 0 ⟨Nat.le_refl _, fun _ h => h⟩ (NmIn.nil _ _ _) (Nat.le_refl _) (fun _ h => h.elim) (by omega) (g1.mono (fun k hk h => ⟨h, hk⟩)) (g2.mono (fun k hk h => ⟨h, hk⟩)) hv hav
 have HZ0 := hid hz0
 obtain ⟨⟨a0, a1, a2, a3, a4, a5, a6, a7, a8⟩, _⟩ := block9 hb0
 clear hb0 hb1 hs1 hs hv hav ht hat hz0
 unfold tmv at HC HW ⊢
 go_enter Tryz.func64, Tryz.ntmps64
 go_upto_region 1 with fail
 change Code.wp _ _ _ _ ((w.alloc (.cells (cells9 h o1 l1 c1 o2 l2 c2) 29)).alloc (.cells zero9 29))
 rw [<- hW0]
 clear hW0
 generalize hB : w.heap.size = B at *
 have HBE := hid hB
 clear hB
 go_wp2_with fail
 refine HC.out.mono ?_; rintro x w1 ⟨q1, e1, q2, e2, rfl, hk1, hk2, hq1⟩
 have HWC := hid (HW.out w1 q1 e1 q2 e2 hk1 hk2)
 have HK1 := hid hk1
 have HQ1 := hid hq1
 clear hk1 hk2 hq1 a0 a1 a2 a3 a4 a5 a6 a7 a8
 go_wp2_with fail
 refine HWC.out.mono ?_; rintro x w2 ⟨r2, f2, D2, E2, rfl, hj, hto, hE, hf, _⟩
 have hq2 : Quiet0 w1 w2 := hf
 have hb2 := blk_fr (HQ1.out.trans hq2) (fun h => h) HB1.out
 have HB2 := hid hb2
 obtain ⟨⟨z0, z1, z2, z3, z4, z5, z6, z7, z8⟩, t0, t1, t2, t3, t4, t5, t6, t7, t8⟩ := block9 hb2
 have HG1 : Hid (SlcIn (fun b => W0.heap.size <= b) w2 q1 l1 (resH h ps).tp) := by show SlcIn _ _ _ _ _; rw [resH_tp]; exact HK1.out.stay hq2
 have HG2 : Hid (TSlc (fun b => W0.heap.size <= b) w2 r2 l2 (resP h ps)) := hto.tslc (fun k _ hk => hk.1) (fun k hk => by have := (hE k hk).1; have := HQ1.out.size; omega)
 have HQ2 := hid (HQ0.out.trans (HQ1.out.trans hq2))
 have hgh : (wk1 (fun (s : Unit) _ _ => s) rsO () [] h ps).2.1 = resH h ps := rfl
 rw [hgh]
 clear hj hto hE hf hq2 hb2 hgh
 generalize resH h ps = g at *
 unfold tmv
 go_wp2_with fail
 have hff := put9_fr w2 (B + 1) (.int .i64 g.k) (.string g.nm) (.int .i64 g.n) (.int .i64 g.tk) (.int .i64 g.tn) (.slice q1 l1 e1) (.slice r2 l2 f2) (.int .i64 g.fr) (.int .i64 g.en)
 have hbf := put9_block (a0 := .int .i64 g.k) (a1 := .string g.nm) (a2 := .int .i64 g.n) (a3 := .int .i64 g.tk) (a4 := .int .i64 g.tn) (a5 := .slice q1 l1 e1) (a6 := .slice r2 l2 f2) (a7 := .int .i64 g.fr) (a8 := .int .i64 g.en) HB2.out
 change bodyPost _ _ _ _ _ (put9 w2 (B + 1) (.int .i64 g.k) (.string g.nm) (.int .i64 g.n) (.int .i64 g.tk) (.int .i64 g.tn) (.slice q1 l1 e1) (.slice r2 l2 f2) (.int .i64 g.fr) (.int .i64 g.en))
 clear z0 z1 z2 z3 z4 z5 z6 z7 z8 t0 t1 t2 t3 t4 t5 t6 t7 t8
 generalize put9 w2 (B + 1) (.int .i64 g.k) (.string g.nm) (.int .i64 g.n) (.int .i64 g.tk) (.int .i64 g.tn) (.slice q1 l1 e1) (.slice r2 l2 f2) (.int .i64 g.fr) (.int .i64 g.en) = wf at *
 obtain ⟨⟨x0, x1, x2, x3, x4, x5, x6, x7, x8⟩, _⟩ := block9 hbf
 have HFIN : Hid (TmQ w g (resP h ps) (.returned (.agg #[.int .i64 g.k, .string g.nm, .int .i64 g.n, .int .i64 g.tk, .int .i64 g.tn, .slice q1 l1 e1, .slice r2 l2 f2, .int .i64 g.fr, .int .i64 g.en])) wf) := by
  have hB := HBE.out
  have hz0 := HZ0.out
  have key : ∀ k, W0.heap.size <= k -> w.heap.size <= k /\ ¬ k = B + 1 := fun k hk => by omega
  exact ⟨q1, l1, e1, r2, l2, f2, rfl, HG1.out.fr hff (fun k _ hk => key k hk), HG2.out.fr hff (fun k _ hk => key k hk), HQ2.out.trans' hff (fun k hk h => by omega)⟩
 clear hff hbf
 refine bodyPost_ret (by simp [results, Tryz.results64, go_sem, x0, x1, x2, x3, x4, x5, x6, x7, x8]; rfl) rfl ?_
 exact HFIN.out
end Sc
end
end Go.Proofs.YtcninopmelmajaaGreatDoor
