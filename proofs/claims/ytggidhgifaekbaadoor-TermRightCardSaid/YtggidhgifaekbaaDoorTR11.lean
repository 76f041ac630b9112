/-
  Texts laid together (TeRSound2, TeRSound3, TeRSound4, TeRSound5, TeRSound6, TeRSound7, TeRSound8, TeRSound9, TeRSound10, TeRSoundlo, TeRSoundhi, TeRRight, App): what each one proves, and its conditions, stands at its head.
-/
import Derived.Deep.AppendLies
import Derived.Test.YtggidhgifaekbaaDoorTR1
import Derived.Test.YtggidhgifaekbaaDoorTR2
import Derived.Test.YtggidhgifaekbaaDoorTR3
import Derived.Test.YtggidhgifaekbaaDoorTR4
import Derived.Test.YtggidhgifaekbaaDoorTR5
import Derived.Test.YtggidhgifaekbaaDoorTR6
import Derived.Test.YtggidhgifaekbaaDoorTR7
import Derived.Test.YtggidhgifaekbaaDoorTR8
import Derived.Test.YtggidhgifaekbaaDoorTR9
import Derived.Test.YtggidhgifaekbaaDoorTR10
section
/-
  ref.sound of a head of kind 2. Conditions: its callees', in one hypothesis; the number is a Go int.
-/
namespace Go.Proofs.YtggidhgifaekbaaDoor
open Go.RowKit Go.Shelf

set_option maxHeartbeats 4000000 in
set_option maxRecDepth 100000 in
theorem refSound_2 (nm : ByteArray) (n tk tn : Int) (tp : Fo) (fr en : Int) (w : World) (o1 : Option Addr) (l1 c1 : Nat) (o2 : Option Addr) (l2 c2 : Nat) (hw : wfI n)
    (SC : SndC ⟨2, nm, n, tk, tn, tp, fr, en⟩ (w.alloc (.cells (cells9 ⟨2, nm, n, tk, tn, tp, fr, en⟩ o1 l1 c1 o2 l2 c2) 35)) o1 l1 c1 o2 l2 c2 w.heap.size) :
    Calls Tryd.prog 77 #[tmv ⟨2, nm, n, tk, tn, tp, fr, en⟩ o1 l1 c1 o2 l2 c2] w fun e w' => e = .returned (.bool (soundB ⟨2, nm, n, tk, tn, tp, fr, en⟩ l2)) ∧ Quiet0 w w' := by
  have HSC := Lib.hid SC
  have HW := Lib.hid hw
  have HN : Hid (∀ W, Calls Tryd.prog 116 #[.int .i64 2] W fun e w' => e = .returned (.bool false) ∧ Quiet0 W w') := SC.named
  obtain ⟨W0, hW0⟩ : ∃ W0, W0 = w.alloc (.cells (cells9 ⟨2, nm, n, tk, tn, tp, fr, en⟩ o1 l1 c1 o2 l2 c2) 35) := ⟨_, rfl⟩
  have HQ0 : Hid (Quiet0 w W0) := by rw [hW0]; exact Quiet0.alloc _ _
  clear SC hw
  rw [← hW0] at HSC
  unfold tmv
  go_enter Tryd.func77, Tryd.ntmps77
  go_upto_region 1 with fail
  change Code.wp _ _ _ _ (w.alloc (.cells (cells9 ⟨2, nm, n, tk, tn, tp, fr, en⟩ o1 l1 c1 o2 l2 c2) 35))
  rw [← hW0]
  clear hW0
  generalize w.heap.size = B at *
  obtain ⟨x0, x1, x2, x3, x4, x5, x6, x7, x8⟩ := HSC.out.box W0 (Quiet0.refl _)
  dsimp only at x0 x1 x2 x3 x4 x5 x6 x7 x8
  go_quiet (fail)
  go_wp2_with fail
  refine (HN.out _).mono ?_; rintro e w1 ⟨rfl, hq1⟩
  have HQ1 : Hid (Quiet0 W0 w1) := Quiet0.trans (Fr.drewN _ _ _) hq1
  clear x0 x1 x2 x3 x4 x5 x6 x7 x8 hq1
  obtain ⟨x0, x1, x2, x3, x4, x5, x6, x7, x8⟩ := HSC.out.box w1 HQ1.out
  dsimp only at x0 x1 x2 x3 x4 x5 x6 x7 x8
  go_wp2_with fail
  refine (HN.out _).mono ?_; rintro e w3 ⟨rfl, hq3⟩
  have HQ3 := Lib.hid (HQ1.out.trans hq3)
  clear x0 x1 x2 x3 x4 x5 x6 x7 x8 hq3
  obtain ⟨x0, x1, x2, x3, x4, x5, x6, x7, x8⟩ := HSC.out.box w3 HQ3.out
  dsimp only at x0 x1 x2 x3 x4 x5 x6 x7 x8
  cases hA : nm.toList.isEmpty
  · have e3 : nm.toList.isEmpty = false := hA
    go_wp2_with fail
    go_ret
    exact ⟨by simp [soundB, namedB, kName, hA], HQ0.out.trans HQ3.out⟩
  · have e3 : nm.toList.isEmpty = true := hA
    have HNA := Lib.hid hA
    clear hA
    have HSM := Lib.hid HSC.out.same
    cases hT : sameT tk tn tp 0 0 .nil
    · rw [hT] at HSM
      go_wp2_with fail
      refine (HSM.out _ HQ3.out).mono ?_; rintro e w4 ⟨rfl, hq4⟩
      go_wp2_with fail
      go_ret
      exact ⟨by simp [soundB, typedB, hT], HQ0.out.trans (HQ3.out.trans hq4)⟩
    · rw [hT] at HSM
      have HTY := Lib.hid hT
      clear hT
      go_wp2_with fail
      refine (HSM.out _ HQ3.out).mono ?_; rintro e w4 ⟨rfl, hq4⟩
      have HQ4 := Lib.hid (HQ3.out.trans hq4)
      clear x0 x1 x2 x3 x4 x5 x6 x7 x8 hq4
      obtain ⟨x0, x1, x2, x3, x4, x5, x6, x7, x8⟩ := HSC.out.box w4 HQ4.out
      dsimp only at x0 x1 x2 x3 x4 x5 x6 x7 x8
      by_cases hn : n < 0
      · go_wp2_with fail
        go_ret
        exact ⟨by simp [soundB]; omega, HQ0.out.trans HQ4.out⟩
      · by_cases ht : 999999999 < n
        · go_wp2_with fail
          go_ret
          exact ⟨by simp [soundB, kTop]; omega, HQ0.out.trans HQ4.out⟩
        · have hwn : n ≤ 9223372036854775807 := by have := HW.out; unfold wfI at this; simp only [Lit.wf, IntKind.min, IntKind.max, IntKind.signed, IntKind.bits, Bool.and_eq_true, decide_eq_true_eq, if_true] at this; omega
          go_wp2_with fail
          all_goals
            go_ret
            refine ⟨?_, HQ0.out.trans HQ4.out⟩
            have h1 := HNA.out
            have h2 := HTY.out
            refine congrArg (fun b => Ending.returned (Value.bool b)) ?_
            rw [Bool.eq_iff_iff]
            simp [soundB, namedB, typedB, kName, kTop, kLeast, kMost, h1, h2]
            omega
end Go.Proofs.YtggidhgifaekbaaDoor
end
section
/-
  ref.sound of a head of kind 3. Conditions: its callees', in one hypothesis; the number is a Go int.
-/
namespace Go.Proofs.YtggidhgifaekbaaDoor
open Go.RowKit Go.Shelf

set_option maxHeartbeats 4000000 in
set_option maxRecDepth 100000 in
theorem refSound_3 (nm : ByteArray) (n tk tn : Int) (tp : Fo) (fr en : Int) (w : World) (o1 : Option Addr) (l1 c1 : Nat) (o2 : Option Addr) (l2 c2 : Nat) (hw : wfI n)
    (SC : SndC ⟨3, nm, n, tk, tn, tp, fr, en⟩ (w.alloc (.cells (cells9 ⟨3, nm, n, tk, tn, tp, fr, en⟩ o1 l1 c1 o2 l2 c2) 35)) o1 l1 c1 o2 l2 c2 w.heap.size) :
    Calls Tryd.prog 77 #[tmv ⟨3, nm, n, tk, tn, tp, fr, en⟩ o1 l1 c1 o2 l2 c2] w fun e w' => e = .returned (.bool (soundB ⟨3, nm, n, tk, tn, tp, fr, en⟩ l2)) ∧ Quiet0 w w' := by
  have HSC := Lib.hid SC
  have HW := Lib.hid hw
  have HN : Hid (∀ W, Calls Tryd.prog 116 #[.int .i64 3] W fun e w' => e = .returned (.bool false) ∧ Quiet0 W w') := SC.named
  obtain ⟨W0, hW0⟩ : ∃ W0, W0 = w.alloc (.cells (cells9 ⟨3, nm, n, tk, tn, tp, fr, en⟩ o1 l1 c1 o2 l2 c2) 35) := ⟨_, rfl⟩
  have HQ0 : Hid (Quiet0 w W0) := by rw [hW0]; exact Quiet0.alloc _ _
  clear SC hw
  rw [← hW0] at HSC
  unfold tmv
  go_enter Tryd.func77, Tryd.ntmps77
  go_upto_region 1 with fail
  change Code.wp _ _ _ _ (w.alloc (.cells (cells9 ⟨3, nm, n, tk, tn, tp, fr, en⟩ o1 l1 c1 o2 l2 c2) 35))
  rw [← hW0]
  clear hW0
  generalize w.heap.size = B at *
  obtain ⟨x0, x1, x2, x3, x4, x5, x6, x7, x8⟩ := HSC.out.box W0 (Quiet0.refl _)
  dsimp only at x0 x1 x2 x3 x4 x5 x6 x7 x8
  go_quiet (fail)
  go_wp2_with fail
  refine (HN.out _).mono ?_; rintro e w1 ⟨rfl, hq1⟩
  have HQ1 : Hid (Quiet0 W0 w1) := Quiet0.trans (Fr.drewN _ _ _) hq1
  clear x0 x1 x2 x3 x4 x5 x6 x7 x8 hq1
  obtain ⟨x0, x1, x2, x3, x4, x5, x6, x7, x8⟩ := HSC.out.box w1 HQ1.out
  dsimp only at x0 x1 x2 x3 x4 x5 x6 x7 x8
  go_wp2_with fail
  refine (HN.out _).mono ?_; rintro e w3 ⟨rfl, hq3⟩
  have HQ3 := Lib.hid (HQ1.out.trans hq3)
  clear x0 x1 x2 x3 x4 x5 x6 x7 x8 hq3
  obtain ⟨x0, x1, x2, x3, x4, x5, x6, x7, x8⟩ := HSC.out.box w3 HQ3.out
  dsimp only at x0 x1 x2 x3 x4 x5 x6 x7 x8
  cases hA : nm.toList.isEmpty
  · have e3 : nm.toList.isEmpty = false := hA
    go_wp2_with fail
    go_ret
    exact ⟨by simp [soundB, namedB, kName, hA], HQ0.out.trans HQ3.out⟩
  · have e3 : nm.toList.isEmpty = true := hA
    have HNA := Lib.hid hA
    clear hA
    have HSM := Lib.hid HSC.out.same
    cases hT : sameT tk tn tp 0 0 .nil
    · rw [hT] at HSM
      go_wp2_with fail
      refine (HSM.out _ HQ3.out).mono ?_; rintro e w4 ⟨rfl, hq4⟩
      go_wp2_with fail
      go_ret
      exact ⟨by simp [soundB, typedB, hT], HQ0.out.trans (HQ3.out.trans hq4)⟩
    · rw [hT] at HSM
      have HTY := Lib.hid hT
      clear hT
      go_wp2_with fail
      refine (HSM.out _ HQ3.out).mono ?_; rintro e w4 ⟨rfl, hq4⟩
      have HQ4 := Lib.hid (HQ3.out.trans hq4)
      clear x0 x1 x2 x3 x4 x5 x6 x7 x8 hq4
      obtain ⟨x0, x1, x2, x3, x4, x5, x6, x7, x8⟩ := HSC.out.box w4 HQ4.out
      dsimp only at x0 x1 x2 x3 x4 x5 x6 x7 x8
      by_cases hn : n < 0
      · go_wp2_with fail
        go_ret
        exact ⟨by simp [soundB]; omega, HQ0.out.trans HQ4.out⟩
      · by_cases ht : 1 < n
        · go_wp2_with fail
          go_ret
          exact ⟨by simp [soundB, kTop]; omega, HQ0.out.trans HQ4.out⟩
        · have hwn : n ≤ 9223372036854775807 := by have := HW.out; unfold wfI at this; simp only [Lit.wf, IntKind.min, IntKind.max, IntKind.signed, IntKind.bits, Bool.and_eq_true, decide_eq_true_eq, if_true] at this; omega
          go_wp2_with fail
          all_goals
            go_ret
            refine ⟨?_, HQ0.out.trans HQ4.out⟩
            have h1 := HNA.out
            have h2 := HTY.out
            refine congrArg (fun b => Ending.returned (Value.bool b)) ?_
            rw [Bool.eq_iff_iff]
            simp [soundB, namedB, typedB, kName, kTop, kLeast, kMost, h1, h2]
            omega
end Go.Proofs.YtggidhgifaekbaaDoor
end
section
/-
  ref.sound of a head of kind 4. Conditions: its callees', in one hypothesis; the number is a Go int.
-/
namespace Go.Proofs.YtggidhgifaekbaaDoor
open Go.RowKit Go.Shelf

set_option maxHeartbeats 4000000 in
set_option maxRecDepth 100000 in
theorem refSound_4 (nm : ByteArray) (n tk tn : Int) (tp : Fo) (fr en : Int) (w : World) (o1 : Option Addr) (l1 c1 : Nat) (o2 : Option Addr) (l2 c2 : Nat) (hw : wfI n)
    (SC : SndC ⟨4, nm, n, tk, tn, tp, fr, en⟩ (w.alloc (.cells (cells9 ⟨4, nm, n, tk, tn, tp, fr, en⟩ o1 l1 c1 o2 l2 c2) 35)) o1 l1 c1 o2 l2 c2 w.heap.size) :
    Calls Tryd.prog 77 #[tmv ⟨4, nm, n, tk, tn, tp, fr, en⟩ o1 l1 c1 o2 l2 c2] w fun e w' => e = .returned (.bool (soundB ⟨4, nm, n, tk, tn, tp, fr, en⟩ l2)) ∧ Quiet0 w w' := by
  have HSC := Lib.hid SC
  have HW := Lib.hid hw
  have HN : Hid (∀ W, Calls Tryd.prog 116 #[.int .i64 4] W fun e w' => e = .returned (.bool true) ∧ Quiet0 W w') := SC.named
  obtain ⟨W0, hW0⟩ : ∃ W0, W0 = w.alloc (.cells (cells9 ⟨4, nm, n, tk, tn, tp, fr, en⟩ o1 l1 c1 o2 l2 c2) 35) := ⟨_, rfl⟩
  have HQ0 : Hid (Quiet0 w W0) := by rw [hW0]; exact Quiet0.alloc _ _
  clear SC hw
  rw [← hW0] at HSC
  unfold tmv
  go_enter Tryd.func77, Tryd.ntmps77
  go_upto_region 1 with fail
  change Code.wp _ _ _ _ (w.alloc (.cells (cells9 ⟨4, nm, n, tk, tn, tp, fr, en⟩ o1 l1 c1 o2 l2 c2) 35))
  rw [← hW0]
  clear hW0
  generalize w.heap.size = B at *
  obtain ⟨x0, x1, x2, x3, x4, x5, x6, x7, x8⟩ := HSC.out.box W0 (Quiet0.refl _)
  dsimp only at x0 x1 x2 x3 x4 x5 x6 x7 x8
  go_quiet (fail)
  go_wp2_with fail
  refine (HN.out _).mono ?_; rintro e w1 ⟨rfl, hq1⟩
  have HQ1 : Hid (Quiet0 W0 w1) := Quiet0.trans (Fr.drewN _ _ _) hq1
  clear x0 x1 x2 x3 x4 x5 x6 x7 x8 hq1
  obtain ⟨x0, x1, x2, x3, x4, x5, x6, x7, x8⟩ := HSC.out.box w1 HQ1.out
  dsimp only at x0 x1 x2 x3 x4 x5 x6 x7 x8
  cases hA : Lx.nameB nm.data.toList
  · have HNM := Lib.hid HSC.out.name
    rw [hA] at HNM
    go_wp2_with fail
    refine (HNM.out _).mono ?_; rintro e w2 ⟨rfl, hq2⟩
    go_wp2_with fail
    go_ret
    exact ⟨by simp [soundB, namedB, kName, hA], HQ0.out.trans (HQ1.out.trans hq2)⟩
  · have HNM := Lib.hid HSC.out.name
    rw [hA] at HNM
    have HNA := Lib.hid hA
    clear hA
    go_wp2_with fail
    refine (HNM.out _).mono ?_; rintro e w2 ⟨rfl, hq2⟩
    have HQ2 := Lib.hid (HQ1.out.trans hq2)
    clear x0 x1 x2 x3 x4 x5 x6 x7 x8 hq2
    go_wp2_with fail
    refine (HN.out _).mono ?_; rintro e w3 ⟨rfl, hq3⟩
    have HQ3 := Lib.hid (HQ2.out.trans hq3)
    clear hq3
    obtain ⟨x0, x1, x2, x3, x4, x5, x6, x7, x8⟩ := HSC.out.box w3 HQ3.out
    dsimp only at x0 x1 x2 x3 x4 x5 x6 x7 x8
    have HSM := Lib.hid HSC.out.same
    cases hT : sameT tk tn tp 0 0 .nil
    · rw [hT] at HSM
      go_wp2_with fail
      refine (HSM.out _ HQ3.out).mono ?_; rintro e w4 ⟨rfl, hq4⟩
      go_wp2_with fail
      go_ret
      exact ⟨by simp [soundB, typedB, hT], HQ0.out.trans (HQ3.out.trans hq4)⟩
    · rw [hT] at HSM
      have HTY := Lib.hid hT
      clear hT
      go_wp2_with fail
      refine (HSM.out _ HQ3.out).mono ?_; rintro e w4 ⟨rfl, hq4⟩
      have HQ4 := Lib.hid (HQ3.out.trans hq4)
      clear x0 x1 x2 x3 x4 x5 x6 x7 x8 hq4
      obtain ⟨x0, x1, x2, x3, x4, x5, x6, x7, x8⟩ := HSC.out.box w4 HQ4.out
      dsimp only at x0 x1 x2 x3 x4 x5 x6 x7 x8
      by_cases hn : n < 0
      · go_wp2_with fail
        go_ret
        exact ⟨by simp [soundB]; omega, HQ0.out.trans HQ4.out⟩
      · by_cases ht : 0 < n
        · go_wp2_with fail
          go_ret
          exact ⟨by simp [soundB, kTop]; omega, HQ0.out.trans HQ4.out⟩
        · have hwn : n ≤ 9223372036854775807 := by have := HW.out; unfold wfI at this; simp only [Lit.wf, IntKind.min, IntKind.max, IntKind.signed, IntKind.bits, Bool.and_eq_true, decide_eq_true_eq, if_true] at this; omega
          go_wp2_with fail
          all_goals
            go_ret
            refine ⟨?_, HQ0.out.trans HQ4.out⟩
            have h1 := HNA.out
            have h2 := HTY.out
            refine congrArg (fun b => Ending.returned (Value.bool b)) ?_
            rw [Bool.eq_iff_iff]
            simp [soundB, namedB, typedB, kName, kTop, kLeast, kMost, h1, h2]
            omega
end Go.Proofs.YtggidhgifaekbaaDoor
end
section
/-
  ref.sound of a head of kind 5. Conditions: its callees', in one hypothesis; the number is a Go int.
-/
namespace Go.Proofs.YtggidhgifaekbaaDoor
open Go.RowKit Go.Shelf

set_option maxHeartbeats 4000000 in
set_option maxRecDepth 100000 in
theorem refSound_5 (nm : ByteArray) (n tk tn : Int) (tp : Fo) (fr en : Int) (w : World) (o1 : Option Addr) (l1 c1 : Nat) (o2 : Option Addr) (l2 c2 : Nat) (hw : wfI n)
    (SC : SndC ⟨5, nm, n, tk, tn, tp, fr, en⟩ (w.alloc (.cells (cells9 ⟨5, nm, n, tk, tn, tp, fr, en⟩ o1 l1 c1 o2 l2 c2) 35)) o1 l1 c1 o2 l2 c2 w.heap.size) :
    Calls Tryd.prog 77 #[tmv ⟨5, nm, n, tk, tn, tp, fr, en⟩ o1 l1 c1 o2 l2 c2] w fun e w' => e = .returned (.bool (soundB ⟨5, nm, n, tk, tn, tp, fr, en⟩ l2)) ∧ Quiet0 w w' := by
  have HSC := Lib.hid SC
  have HW := Lib.hid hw
  have HN : Hid (∀ W, Calls Tryd.prog 116 #[.int .i64 5] W fun e w' => e = .returned (.bool false) ∧ Quiet0 W w') := SC.named
  obtain ⟨W0, hW0⟩ : ∃ W0, W0 = w.alloc (.cells (cells9 ⟨5, nm, n, tk, tn, tp, fr, en⟩ o1 l1 c1 o2 l2 c2) 35) := ⟨_, rfl⟩
  have HQ0 : Hid (Quiet0 w W0) := by rw [hW0]; exact Quiet0.alloc _ _
  clear SC hw
  rw [← hW0] at HSC
  unfold tmv
  go_enter Tryd.func77, Tryd.ntmps77
  go_upto_region 1 with fail
  change Code.wp _ _ _ _ (w.alloc (.cells (cells9 ⟨5, nm, n, tk, tn, tp, fr, en⟩ o1 l1 c1 o2 l2 c2) 35))
  rw [← hW0]
  clear hW0
  generalize w.heap.size = B at *
  obtain ⟨x0, x1, x2, x3, x4, x5, x6, x7, x8⟩ := HSC.out.box W0 (Quiet0.refl _)
  dsimp only at x0 x1 x2 x3 x4 x5 x6 x7 x8
  go_quiet (fail)
  go_wp2_with fail
  refine (HN.out _).mono ?_; rintro e w1 ⟨rfl, hq1⟩
  have HQ1 : Hid (Quiet0 W0 w1) := Quiet0.trans (Fr.drewN _ _ _) hq1
  clear x0 x1 x2 x3 x4 x5 x6 x7 x8 hq1
  obtain ⟨x0, x1, x2, x3, x4, x5, x6, x7, x8⟩ := HSC.out.box w1 HQ1.out
  dsimp only at x0 x1 x2 x3 x4 x5 x6 x7 x8
  go_wp2_with fail
  refine (HN.out _).mono ?_; rintro e w3 ⟨rfl, hq3⟩
  have HQ3 := Lib.hid (HQ1.out.trans hq3)
  clear x0 x1 x2 x3 x4 x5 x6 x7 x8 hq3
  obtain ⟨x0, x1, x2, x3, x4, x5, x6, x7, x8⟩ := HSC.out.box w3 HQ3.out
  dsimp only at x0 x1 x2 x3 x4 x5 x6 x7 x8
  cases hA : nm.toList.isEmpty
  · have e3 : nm.toList.isEmpty = false := hA
    go_wp2_with fail
    go_ret
    exact ⟨by simp [soundB, namedB, kName, hA], HQ0.out.trans HQ3.out⟩
  · have e3 : nm.toList.isEmpty = true := hA
    have HNA := Lib.hid hA
    clear hA
    have HSM := Lib.hid HSC.out.same
    cases hT : sameT tk tn tp 0 0 .nil
    · rw [hT] at HSM
      go_wp2_with fail
      refine (HSM.out _ HQ3.out).mono ?_; rintro e w4 ⟨rfl, hq4⟩
      go_wp2_with fail
      go_ret
      exact ⟨by simp [soundB, typedB, hT], HQ0.out.trans (HQ3.out.trans hq4)⟩
    · rw [hT] at HSM
      have HTY := Lib.hid hT
      clear hT
      go_wp2_with fail
      refine (HSM.out _ HQ3.out).mono ?_; rintro e w4 ⟨rfl, hq4⟩
      have HQ4 := Lib.hid (HQ3.out.trans hq4)
      clear x0 x1 x2 x3 x4 x5 x6 x7 x8 hq4
      obtain ⟨x0, x1, x2, x3, x4, x5, x6, x7, x8⟩ := HSC.out.box w4 HQ4.out
      dsimp only at x0 x1 x2 x3 x4 x5 x6 x7 x8
      by_cases hn : n < 0
      · go_wp2_with fail
        go_ret
        exact ⟨by simp [soundB]; omega, HQ0.out.trans HQ4.out⟩
      · by_cases ht : 0 < n
        · go_wp2_with fail
          go_ret
          exact ⟨by simp [soundB, kTop]; omega, HQ0.out.trans HQ4.out⟩
        · have hwn : n ≤ 9223372036854775807 := by have := HW.out; unfold wfI at this; simp only [Lit.wf, IntKind.min, IntKind.max, IntKind.signed, IntKind.bits, Bool.and_eq_true, decide_eq_true_eq, if_true] at this; omega
          go_wp2_with fail
          all_goals
            go_ret
            refine ⟨?_, HQ0.out.trans HQ4.out⟩
            have h1 := HNA.out
            have h2 := HTY.out
            refine congrArg (fun b => Ending.returned (Value.bool b)) ?_
            rw [Bool.eq_iff_iff]
            simp [soundB, namedB, typedB, kName, kTop, kLeast, kMost, h1, h2]
            omega
end Go.Proofs.YtggidhgifaekbaaDoor
end
section
/-
  ref.sound of a head of kind 6. Conditions: its callees', in one hypothesis; the number is a Go int.
-/
namespace Go.Proofs.YtggidhgifaekbaaDoor
open Go.RowKit Go.Shelf

set_option maxHeartbeats 4000000 in
set_option maxRecDepth 100000 in
theorem refSound_6 (nm : ByteArray) (n tk tn : Int) (tp : Fo) (fr en : Int) (w : World) (o1 : Option Addr) (l1 c1 : Nat) (o2 : Option Addr) (l2 c2 : Nat) (hw : wfI n)
    (SC : SndC ⟨6, nm, n, tk, tn, tp, fr, en⟩ (w.alloc (.cells (cells9 ⟨6, nm, n, tk, tn, tp, fr, en⟩ o1 l1 c1 o2 l2 c2) 35)) o1 l1 c1 o2 l2 c2 w.heap.size) :
    Calls Tryd.prog 77 #[tmv ⟨6, nm, n, tk, tn, tp, fr, en⟩ o1 l1 c1 o2 l2 c2] w fun e w' => e = .returned (.bool (soundB ⟨6, nm, n, tk, tn, tp, fr, en⟩ l2)) ∧ Quiet0 w w' := by
  have HSC := Lib.hid SC
  have HW := Lib.hid hw
  have HN : Hid (∀ W, Calls Tryd.prog 116 #[.int .i64 6] W fun e w' => e = .returned (.bool true) ∧ Quiet0 W w') := SC.named
  obtain ⟨W0, hW0⟩ : ∃ W0, W0 = w.alloc (.cells (cells9 ⟨6, nm, n, tk, tn, tp, fr, en⟩ o1 l1 c1 o2 l2 c2) 35) := ⟨_, rfl⟩
  have HQ0 : Hid (Quiet0 w W0) := by rw [hW0]; exact Quiet0.alloc _ _
  clear SC hw
  rw [← hW0] at HSC
  unfold tmv
  go_enter Tryd.func77, Tryd.ntmps77
  go_upto_region 1 with fail
  change Code.wp _ _ _ _ (w.alloc (.cells (cells9 ⟨6, nm, n, tk, tn, tp, fr, en⟩ o1 l1 c1 o2 l2 c2) 35))
  rw [← hW0]
  clear hW0
  generalize w.heap.size = B at *
  obtain ⟨x0, x1, x2, x3, x4, x5, x6, x7, x8⟩ := HSC.out.box W0 (Quiet0.refl _)
  dsimp only at x0 x1 x2 x3 x4 x5 x6 x7 x8
  go_quiet (fail)
  go_wp2_with fail
  refine (HN.out _).mono ?_; rintro e w1 ⟨rfl, hq1⟩
  have HQ1 : Hid (Quiet0 W0 w1) := Quiet0.trans (Fr.drewN _ _ _) hq1
  clear x0 x1 x2 x3 x4 x5 x6 x7 x8 hq1
  obtain ⟨x0, x1, x2, x3, x4, x5, x6, x7, x8⟩ := HSC.out.box w1 HQ1.out
  dsimp only at x0 x1 x2 x3 x4 x5 x6 x7 x8
  cases hA : Lx.nameB nm.data.toList
  · have HNM := Lib.hid HSC.out.name
    rw [hA] at HNM
    go_wp2_with fail
    refine (HNM.out _).mono ?_; rintro e w2 ⟨rfl, hq2⟩
    go_wp2_with fail
    go_ret
    exact ⟨by simp [soundB, namedB, kName, hA], HQ0.out.trans (HQ1.out.trans hq2)⟩
  · have HNM := Lib.hid HSC.out.name
    rw [hA] at HNM
    have HNA := Lib.hid hA
    clear hA
    go_wp2_with fail
    refine (HNM.out _).mono ?_; rintro e w2 ⟨rfl, hq2⟩
    have HQ2 := Lib.hid (HQ1.out.trans hq2)
    clear x0 x1 x2 x3 x4 x5 x6 x7 x8 hq2
    go_wp2_with fail
    refine (HN.out _).mono ?_; rintro e w3 ⟨rfl, hq3⟩
    have HQ3 := Lib.hid (HQ2.out.trans hq3)
    clear hq3
    obtain ⟨x0, x1, x2, x3, x4, x5, x6, x7, x8⟩ := HSC.out.box w3 HQ3.out
    dsimp only at x0 x1 x2 x3 x4 x5 x6 x7 x8
    have HSM := Lib.hid HSC.out.same
    cases hT : sameT tk tn tp 0 0 .nil
    · rw [hT] at HSM
      go_wp2_with fail
      refine (HSM.out _ HQ3.out).mono ?_; rintro e w4 ⟨rfl, hq4⟩
      go_wp2_with fail
      go_ret
      exact ⟨by simp [soundB, typedB, hT], HQ0.out.trans (HQ3.out.trans hq4)⟩
    · rw [hT] at HSM
      have HTY := Lib.hid hT
      clear hT
      go_wp2_with fail
      refine (HSM.out _ HQ3.out).mono ?_; rintro e w4 ⟨rfl, hq4⟩
      have HQ4 := Lib.hid (HQ3.out.trans hq4)
      clear x0 x1 x2 x3 x4 x5 x6 x7 x8 hq4
      obtain ⟨x0, x1, x2, x3, x4, x5, x6, x7, x8⟩ := HSC.out.box w4 HQ4.out
      dsimp only at x0 x1 x2 x3 x4 x5 x6 x7 x8
      by_cases hn : n < 0
      · go_wp2_with fail
        go_ret
        exact ⟨by simp [soundB]; omega, HQ0.out.trans HQ4.out⟩
      · by_cases ht : 0 < n
        · go_wp2_with fail
          go_ret
          exact ⟨by simp [soundB, kTop]; omega, HQ0.out.trans HQ4.out⟩
        · have hwn : n ≤ 9223372036854775807 := by have := HW.out; unfold wfI at this; simp only [Lit.wf, IntKind.min, IntKind.max, IntKind.signed, IntKind.bits, Bool.and_eq_true, decide_eq_true_eq, if_true] at this; omega
          go_wp2_with fail
          all_goals
            go_ret
            refine ⟨?_, HQ0.out.trans HQ4.out⟩
            have h1 := HNA.out
            have h2 := HTY.out
            refine congrArg (fun b => Ending.returned (Value.bool b)) ?_
            rw [Bool.eq_iff_iff]
            simp [soundB, namedB, typedB, kName, kTop, kLeast, kMost, h1, h2]
            omega
end Go.Proofs.YtggidhgifaekbaaDoor
end
section
/-
  ref.sound of a head of kind 7. Conditions: its callees', in one hypothesis; the number is a Go int.
-/
namespace Go.Proofs.YtggidhgifaekbaaDoor
open Go.RowKit Go.Shelf

set_option maxHeartbeats 4000000 in
set_option maxRecDepth 100000 in
theorem refSound_7 (nm : ByteArray) (n tk tn : Int) (tp : Fo) (fr en : Int) (w : World) (o1 : Option Addr) (l1 c1 : Nat) (o2 : Option Addr) (l2 c2 : Nat) (hw : wfI n)
    (SC : SndC ⟨7, nm, n, tk, tn, tp, fr, en⟩ (w.alloc (.cells (cells9 ⟨7, nm, n, tk, tn, tp, fr, en⟩ o1 l1 c1 o2 l2 c2) 35)) o1 l1 c1 o2 l2 c2 w.heap.size) :
    Calls Tryd.prog 77 #[tmv ⟨7, nm, n, tk, tn, tp, fr, en⟩ o1 l1 c1 o2 l2 c2] w fun e w' => e = .returned (.bool (soundB ⟨7, nm, n, tk, tn, tp, fr, en⟩ l2)) ∧ Quiet0 w w' := by
  have HSC := Lib.hid SC
  have HW := Lib.hid hw
  have HN : Hid (∀ W, Calls Tryd.prog 116 #[.int .i64 7] W fun e w' => e = .returned (.bool true) ∧ Quiet0 W w') := SC.named
  obtain ⟨W0, hW0⟩ : ∃ W0, W0 = w.alloc (.cells (cells9 ⟨7, nm, n, tk, tn, tp, fr, en⟩ o1 l1 c1 o2 l2 c2) 35) := ⟨_, rfl⟩
  have HQ0 : Hid (Quiet0 w W0) := by rw [hW0]; exact Quiet0.alloc _ _
  clear SC hw
  rw [← hW0] at HSC
  unfold tmv
  go_enter Tryd.func77, Tryd.ntmps77
  go_upto_region 1 with fail
  change Code.wp _ _ _ _ (w.alloc (.cells (cells9 ⟨7, nm, n, tk, tn, tp, fr, en⟩ o1 l1 c1 o2 l2 c2) 35))
  rw [← hW0]
  clear hW0
  generalize w.heap.size = B at *
  obtain ⟨x0, x1, x2, x3, x4, x5, x6, x7, x8⟩ := HSC.out.box W0 (Quiet0.refl _)
  dsimp only at x0 x1 x2 x3 x4 x5 x6 x7 x8
  go_quiet (fail)
  go_wp2_with fail
  refine (HN.out _).mono ?_; rintro e w1 ⟨rfl, hq1⟩
  have HQ1 : Hid (Quiet0 W0 w1) := Quiet0.trans (Fr.drewN _ _ _) hq1
  clear x0 x1 x2 x3 x4 x5 x6 x7 x8 hq1
  obtain ⟨x0, x1, x2, x3, x4, x5, x6, x7, x8⟩ := HSC.out.box w1 HQ1.out
  dsimp only at x0 x1 x2 x3 x4 x5 x6 x7 x8
  cases hA : Lx.nameB nm.data.toList
  · have HNM := Lib.hid HSC.out.name
    rw [hA] at HNM
    go_wp2_with fail
    refine (HNM.out _).mono ?_; rintro e w2 ⟨rfl, hq2⟩
    go_wp2_with fail
    go_ret
    exact ⟨by simp [soundB, namedB, kName, hA], HQ0.out.trans (HQ1.out.trans hq2)⟩
  · have HNM := Lib.hid HSC.out.name
    rw [hA] at HNM
    have HNA := Lib.hid hA
    clear hA
    go_wp2_with fail
    refine (HNM.out _).mono ?_; rintro e w2 ⟨rfl, hq2⟩
    have HQ2 := Lib.hid (HQ1.out.trans hq2)
    clear x0 x1 x2 x3 x4 x5 x6 x7 x8 hq2
    go_wp2_with fail
    refine (HN.out _).mono ?_; rintro e w3 ⟨rfl, hq3⟩
    have HQ3 := Lib.hid (HQ2.out.trans hq3)
    clear hq3
    obtain ⟨x0, x1, x2, x3, x4, x5, x6, x7, x8⟩ := HSC.out.box w3 HQ3.out
    dsimp only at x0 x1 x2 x3 x4 x5 x6 x7 x8
    have HSM := Lib.hid HSC.out.same
    cases hT : sameT tk tn tp 0 0 .nil
    · rw [hT] at HSM
      go_wp2_with fail
      refine (HSM.out _ HQ3.out).mono ?_; rintro e w4 ⟨rfl, hq4⟩
      go_wp2_with fail
      go_ret
      exact ⟨by simp [soundB, typedB, hT], HQ0.out.trans (HQ3.out.trans hq4)⟩
    · rw [hT] at HSM
      have HTY := Lib.hid hT
      clear hT
      go_wp2_with fail
      refine (HSM.out _ HQ3.out).mono ?_; rintro e w4 ⟨rfl, hq4⟩
      have HQ4 := Lib.hid (HQ3.out.trans hq4)
      clear x0 x1 x2 x3 x4 x5 x6 x7 x8 hq4
      obtain ⟨x0, x1, x2, x3, x4, x5, x6, x7, x8⟩ := HSC.out.box w4 HQ4.out
      dsimp only at x0 x1 x2 x3 x4 x5 x6 x7 x8
      by_cases hn : n < 0
      · go_wp2_with fail
        go_ret
        exact ⟨by simp [soundB]; omega, HQ0.out.trans HQ4.out⟩
      · by_cases ht : 0 < n
        · go_wp2_with fail
          go_ret
          exact ⟨by simp [soundB, kTop]; omega, HQ0.out.trans HQ4.out⟩
        · have hwn : n ≤ 9223372036854775807 := by have := HW.out; unfold wfI at this; simp only [Lit.wf, IntKind.min, IntKind.max, IntKind.signed, IntKind.bits, Bool.and_eq_true, decide_eq_true_eq, if_true] at this; omega
          go_wp2_with fail
          all_goals
            go_ret
            refine ⟨?_, HQ0.out.trans HQ4.out⟩
            have h1 := HNA.out
            have h2 := HTY.out
            refine congrArg (fun b => Ending.returned (Value.bool b)) ?_
            rw [Bool.eq_iff_iff]
            simp [soundB, namedB, typedB, kName, kTop, kLeast, kMost, h1, h2]
            omega
end Go.Proofs.YtggidhgifaekbaaDoor
end
section
/-
  ref.sound of a head of kind 8. Conditions: its callees', in one hypothesis; the number is a Go int.
-/
namespace Go.Proofs.YtggidhgifaekbaaDoor
open Go.RowKit Go.Shelf

set_option maxHeartbeats 4000000 in
set_option maxRecDepth 100000 in
theorem refSound_8 (nm : ByteArray) (n tk tn : Int) (tp : Fo) (fr en : Int) (w : World) (o1 : Option Addr) (l1 c1 : Nat) (o2 : Option Addr) (l2 c2 : Nat) (hw : wfI n)
    (SC : SndC ⟨8, nm, n, tk, tn, tp, fr, en⟩ (w.alloc (.cells (cells9 ⟨8, nm, n, tk, tn, tp, fr, en⟩ o1 l1 c1 o2 l2 c2) 35)) o1 l1 c1 o2 l2 c2 w.heap.size) :
    Calls Tryd.prog 77 #[tmv ⟨8, nm, n, tk, tn, tp, fr, en⟩ o1 l1 c1 o2 l2 c2] w fun e w' => e = .returned (.bool (soundB ⟨8, nm, n, tk, tn, tp, fr, en⟩ l2)) ∧ Quiet0 w w' := by
  have HSC := Lib.hid SC
  have HW := Lib.hid hw
  have HN : Hid (∀ W, Calls Tryd.prog 116 #[.int .i64 8] W fun e w' => e = .returned (.bool false) ∧ Quiet0 W w') := SC.named
  obtain ⟨W0, hW0⟩ : ∃ W0, W0 = w.alloc (.cells (cells9 ⟨8, nm, n, tk, tn, tp, fr, en⟩ o1 l1 c1 o2 l2 c2) 35) := ⟨_, rfl⟩
  have HQ0 : Hid (Quiet0 w W0) := by rw [hW0]; exact Quiet0.alloc _ _
  clear SC hw
  rw [← hW0] at HSC
  unfold tmv
  go_enter Tryd.func77, Tryd.ntmps77
  go_upto_region 1 with fail
  change Code.wp _ _ _ _ (w.alloc (.cells (cells9 ⟨8, nm, n, tk, tn, tp, fr, en⟩ o1 l1 c1 o2 l2 c2) 35))
  rw [← hW0]
  clear hW0
  generalize w.heap.size = B at *
  obtain ⟨x0, x1, x2, x3, x4, x5, x6, x7, x8⟩ := HSC.out.box W0 (Quiet0.refl _)
  dsimp only at x0 x1 x2 x3 x4 x5 x6 x7 x8
  go_quiet (fail)
  go_wp2_with fail
  refine (HN.out _).mono ?_; rintro e w1 ⟨rfl, hq1⟩
  have HQ1 : Hid (Quiet0 W0 w1) := Quiet0.trans (Fr.drewN _ _ _) hq1
  clear x0 x1 x2 x3 x4 x5 x6 x7 x8 hq1
  obtain ⟨x0, x1, x2, x3, x4, x5, x6, x7, x8⟩ := HSC.out.box w1 HQ1.out
  dsimp only at x0 x1 x2 x3 x4 x5 x6 x7 x8
  go_wp2_with fail
  refine (HN.out _).mono ?_; rintro e w3 ⟨rfl, hq3⟩
  have HQ3 := Lib.hid (HQ1.out.trans hq3)
  clear x0 x1 x2 x3 x4 x5 x6 x7 x8 hq3
  obtain ⟨x0, x1, x2, x3, x4, x5, x6, x7, x8⟩ := HSC.out.box w3 HQ3.out
  dsimp only at x0 x1 x2 x3 x4 x5 x6 x7 x8
  cases hA : nm.toList.isEmpty
  · have e3 : nm.toList.isEmpty = false := hA
    go_wp2_with fail
    go_ret
    exact ⟨by simp [soundB, namedB, kName, hA], HQ0.out.trans HQ3.out⟩
  · have e3 : nm.toList.isEmpty = true := hA
    have HNA := Lib.hid hA
    clear hA
    have HSM := Lib.hid HSC.out.same
    cases hT : sameT tk tn tp 0 0 .nil
    · rw [hT] at HSM
      go_wp2_with fail
      refine (HSM.out _ HQ3.out).mono ?_; rintro e w4 ⟨rfl, hq4⟩
      go_wp2_with fail
      go_ret
      exact ⟨by simp [soundB, typedB, hT], HQ0.out.trans (HQ3.out.trans hq4)⟩
    · rw [hT] at HSM
      have HTY := Lib.hid hT
      clear hT
      go_wp2_with fail
      refine (HSM.out _ HQ3.out).mono ?_; rintro e w4 ⟨rfl, hq4⟩
      have HQ4 := Lib.hid (HQ3.out.trans hq4)
      clear x0 x1 x2 x3 x4 x5 x6 x7 x8 hq4
      obtain ⟨x0, x1, x2, x3, x4, x5, x6, x7, x8⟩ := HSC.out.box w4 HQ4.out
      dsimp only at x0 x1 x2 x3 x4 x5 x6 x7 x8
      by_cases hn : n < 0
      · go_wp2_with fail
        go_ret
        exact ⟨by simp [soundB]; omega, HQ0.out.trans HQ4.out⟩
      · by_cases ht : 0 < n
        · go_wp2_with fail
          go_ret
          exact ⟨by simp [soundB, kTop]; omega, HQ0.out.trans HQ4.out⟩
        · have hwn : n ≤ 9223372036854775807 := by have := HW.out; unfold wfI at this; simp only [Lit.wf, IntKind.min, IntKind.max, IntKind.signed, IntKind.bits, Bool.and_eq_true, decide_eq_true_eq, if_true] at this; omega
          go_wp2_with fail
          all_goals
            go_ret
            refine ⟨?_, HQ0.out.trans HQ4.out⟩
            have h1 := HNA.out
            have h2 := HTY.out
            refine congrArg (fun b => Ending.returned (Value.bool b)) ?_
            rw [Bool.eq_iff_iff]
            simp [soundB, namedB, typedB, kName, kTop, kLeast, kMost, h1, h2]
            omega
end Go.Proofs.YtggidhgifaekbaaDoor
end
section
/-
  ref.sound of a head of kind 9. Conditions: its callees', in one hypothesis; the number is a Go int.
-/
namespace Go.Proofs.YtggidhgifaekbaaDoor
open Go.RowKit Go.Shelf

set_option maxHeartbeats 4000000 in
set_option maxRecDepth 100000 in
theorem refSound_9 (nm : ByteArray) (n tk tn : Int) (tp : Fo) (fr en : Int) (w : World) (o1 : Option Addr) (l1 c1 : Nat) (o2 : Option Addr) (l2 c2 : Nat) (hw : wfI n)
    (SC : SndC ⟨9, nm, n, tk, tn, tp, fr, en⟩ (w.alloc (.cells (cells9 ⟨9, nm, n, tk, tn, tp, fr, en⟩ o1 l1 c1 o2 l2 c2) 35)) o1 l1 c1 o2 l2 c2 w.heap.size) :
    Calls Tryd.prog 77 #[tmv ⟨9, nm, n, tk, tn, tp, fr, en⟩ o1 l1 c1 o2 l2 c2] w fun e w' => e = .returned (.bool (soundB ⟨9, nm, n, tk, tn, tp, fr, en⟩ l2)) ∧ Quiet0 w w' := by
  have HSC := Lib.hid SC
  have HW := Lib.hid hw
  have HN : Hid (∀ W, Calls Tryd.prog 116 #[.int .i64 9] W fun e w' => e = .returned (.bool false) ∧ Quiet0 W w') := SC.named
  obtain ⟨W0, hW0⟩ : ∃ W0, W0 = w.alloc (.cells (cells9 ⟨9, nm, n, tk, tn, tp, fr, en⟩ o1 l1 c1 o2 l2 c2) 35) := ⟨_, rfl⟩
  have HQ0 : Hid (Quiet0 w W0) := by rw [hW0]; exact Quiet0.alloc _ _
  clear SC hw
  rw [← hW0] at HSC
  unfold tmv
  go_enter Tryd.func77, Tryd.ntmps77
  go_upto_region 1 with fail
  change Code.wp _ _ _ _ (w.alloc (.cells (cells9 ⟨9, nm, n, tk, tn, tp, fr, en⟩ o1 l1 c1 o2 l2 c2) 35))
  rw [← hW0]
  clear hW0
  generalize w.heap.size = B at *
  obtain ⟨x0, x1, x2, x3, x4, x5, x6, x7, x8⟩ := HSC.out.box W0 (Quiet0.refl _)
  dsimp only at x0 x1 x2 x3 x4 x5 x6 x7 x8
  go_quiet (fail)
  go_wp2_with fail
  refine (HN.out _).mono ?_; rintro e w1 ⟨rfl, hq1⟩
  have HQ1 : Hid (Quiet0 W0 w1) := Quiet0.trans (Fr.drewN _ _ _) hq1
  clear x0 x1 x2 x3 x4 x5 x6 x7 x8 hq1
  obtain ⟨x0, x1, x2, x3, x4, x5, x6, x7, x8⟩ := HSC.out.box w1 HQ1.out
  dsimp only at x0 x1 x2 x3 x4 x5 x6 x7 x8
  go_wp2_with fail
  refine (HN.out _).mono ?_; rintro e w3 ⟨rfl, hq3⟩
  have HQ3 := Lib.hid (HQ1.out.trans hq3)
  clear x0 x1 x2 x3 x4 x5 x6 x7 x8 hq3
  obtain ⟨x0, x1, x2, x3, x4, x5, x6, x7, x8⟩ := HSC.out.box w3 HQ3.out
  dsimp only at x0 x1 x2 x3 x4 x5 x6 x7 x8
  cases hA : nm.toList.isEmpty
  · have e3 : nm.toList.isEmpty = false := hA
    go_wp2_with fail
    go_ret
    exact ⟨by simp [soundB, namedB, kName, hA], HQ0.out.trans HQ3.out⟩
  · have e3 : nm.toList.isEmpty = true := hA
    have HNA := Lib.hid hA
    clear hA
    have HSM := Lib.hid HSC.out.same
    cases hT : sameT tk tn tp 0 0 .nil
    · rw [hT] at HSM
      go_wp2_with fail
      refine (HSM.out _ HQ3.out).mono ?_; rintro e w4 ⟨rfl, hq4⟩
      go_wp2_with fail
      go_ret
      exact ⟨by simp [soundB, typedB, hT], HQ0.out.trans (HQ3.out.trans hq4)⟩
    · rw [hT] at HSM
      have HTY := Lib.hid hT
      clear hT
      go_wp2_with fail
      refine (HSM.out _ HQ3.out).mono ?_; rintro e w4 ⟨rfl, hq4⟩
      have HQ4 := Lib.hid (HQ3.out.trans hq4)
      clear x0 x1 x2 x3 x4 x5 x6 x7 x8 hq4
      obtain ⟨x0, x1, x2, x3, x4, x5, x6, x7, x8⟩ := HSC.out.box w4 HQ4.out
      dsimp only at x0 x1 x2 x3 x4 x5 x6 x7 x8
      by_cases hn : n < 0
      · go_wp2_with fail
        go_ret
        exact ⟨by simp [soundB]; omega, HQ0.out.trans HQ4.out⟩
      · by_cases ht : 0 < n
        · go_wp2_with fail
          go_ret
          exact ⟨by simp [soundB, kTop]; omega, HQ0.out.trans HQ4.out⟩
        · have hwn : n ≤ 9223372036854775807 := by have := HW.out; unfold wfI at this; simp only [Lit.wf, IntKind.min, IntKind.max, IntKind.signed, IntKind.bits, Bool.and_eq_true, decide_eq_true_eq, if_true] at this; omega
          go_wp2_with fail
          all_goals
            go_ret
            refine ⟨?_, HQ0.out.trans HQ4.out⟩
            have h1 := HNA.out
            have h2 := HTY.out
            refine congrArg (fun b => Ending.returned (Value.bool b)) ?_
            rw [Bool.eq_iff_iff]
            simp [soundB, namedB, typedB, kName, kTop, kLeast, kMost, h1, h2]
            omega
end Go.Proofs.YtggidhgifaekbaaDoor
end
section
/-
  ref.sound of a head of kind 10. Conditions: its callees', in one hypothesis; the number is a Go int.
-/
namespace Go.Proofs.YtggidhgifaekbaaDoor
open Go.RowKit Go.Shelf

set_option maxHeartbeats 4000000 in
set_option maxRecDepth 100000 in
theorem refSound_10 (nm : ByteArray) (n tk tn : Int) (tp : Fo) (fr en : Int) (w : World) (o1 : Option Addr) (l1 c1 : Nat) (o2 : Option Addr) (l2 c2 : Nat) (hw : wfI n)
    (SC : SndC ⟨10, nm, n, tk, tn, tp, fr, en⟩ (w.alloc (.cells (cells9 ⟨10, nm, n, tk, tn, tp, fr, en⟩ o1 l1 c1 o2 l2 c2) 35)) o1 l1 c1 o2 l2 c2 w.heap.size) :
    Calls Tryd.prog 77 #[tmv ⟨10, nm, n, tk, tn, tp, fr, en⟩ o1 l1 c1 o2 l2 c2] w fun e w' => e = .returned (.bool (soundB ⟨10, nm, n, tk, tn, tp, fr, en⟩ l2)) ∧ Quiet0 w w' := by
  have HSC := Lib.hid SC
  have HW := Lib.hid hw
  have HN : Hid (∀ W, Calls Tryd.prog 116 #[.int .i64 10] W fun e w' => e = .returned (.bool false) ∧ Quiet0 W w') := SC.named
  obtain ⟨W0, hW0⟩ : ∃ W0, W0 = w.alloc (.cells (cells9 ⟨10, nm, n, tk, tn, tp, fr, en⟩ o1 l1 c1 o2 l2 c2) 35) := ⟨_, rfl⟩
  have HQ0 : Hid (Quiet0 w W0) := by rw [hW0]; exact Quiet0.alloc _ _
  clear SC hw
  rw [← hW0] at HSC
  unfold tmv
  go_enter Tryd.func77, Tryd.ntmps77
  go_upto_region 1 with fail
  change Code.wp _ _ _ _ (w.alloc (.cells (cells9 ⟨10, nm, n, tk, tn, tp, fr, en⟩ o1 l1 c1 o2 l2 c2) 35))
  rw [← hW0]
  clear hW0
  generalize w.heap.size = B at *
  obtain ⟨x0, x1, x2, x3, x4, x5, x6, x7, x8⟩ := HSC.out.box W0 (Quiet0.refl _)
  dsimp only at x0 x1 x2 x3 x4 x5 x6 x7 x8
  go_quiet (fail)
  go_wp2_with fail
  refine (HN.out _).mono ?_; rintro e w1 ⟨rfl, hq1⟩
  have HQ1 : Hid (Quiet0 W0 w1) := Quiet0.trans (Fr.drewN _ _ _) hq1
  clear x0 x1 x2 x3 x4 x5 x6 x7 x8 hq1
  obtain ⟨x0, x1, x2, x3, x4, x5, x6, x7, x8⟩ := HSC.out.box w1 HQ1.out
  dsimp only at x0 x1 x2 x3 x4 x5 x6 x7 x8
  go_wp2_with fail
  refine (HN.out _).mono ?_; rintro e w3 ⟨rfl, hq3⟩
  have HQ3 := Lib.hid (HQ1.out.trans hq3)
  clear x0 x1 x2 x3 x4 x5 x6 x7 x8 hq3
  obtain ⟨x0, x1, x2, x3, x4, x5, x6, x7, x8⟩ := HSC.out.box w3 HQ3.out
  dsimp only at x0 x1 x2 x3 x4 x5 x6 x7 x8
  cases hA : nm.toList.isEmpty
  · have e3 : nm.toList.isEmpty = false := hA
    go_wp2_with fail
    go_ret
    exact ⟨by simp [soundB, namedB, kName, hA], HQ0.out.trans HQ3.out⟩
  · have e3 : nm.toList.isEmpty = true := hA
    have HNA := Lib.hid hA
    clear hA
    have HRI := Lib.hid HSC.out.right
    have HVA := Lib.hid HSC.out.vars
    cases hT : rightT tk tn tp
    · rw [hT] at HRI
      go_wp2_with fail
      refine (HRI.out _ HQ3.out).mono ?_; rintro e w4 ⟨rfl, hq4⟩
      go_wp2_with fail
      go_ret
      exact ⟨by simp [soundB, typedB, closedT, hT], HQ0.out.trans (HQ3.out.trans hq4)⟩
    · rw [hT] at HRI
      have HRT := Lib.hid hT
      clear hT
      obtain ⟨L, hL⟩ : ∃ L, Fo.vars [] (.cons tk tn tp .nil) = L := ⟨_, rfl⟩
      dsimp only at HVA
      rw [hL] at HVA
      go_wp2_with fail
      refine (HRI.out _ HQ3.out).mono ?_; rintro e w4 ⟨rfl, hq4⟩
      have HQ4 := Lib.hid (HQ3.out.trans hq4)
      clear x0 x1 x2 x3 x4 x5 x6 x7 x8 hq4
      obtain ⟨x0, x1, x2, x3, x4, x5, x6, x7, x8⟩ := HSC.out.box w4 HQ4.out
      dsimp only at x0 x1 x2 x3 x4 x5 x6 x7 x8
      by_cases hl : L.length = 0
      · have hl' : ¬ (0 : Int) < (L.length : Int) := by omega
        have HTY : Hid ((rightT tk tn tp && (Fo.vars [] (.cons tk tn tp .nil)).isEmpty) = true) := by
          show _ = _
          rw [HRT.out, hL, List.eq_nil_of_length_eq_zero hl]; rfl
        clear hL
        go_wp2_with fail
        refine (HVA.out _ HQ4.out).mono ?_; rintro e w5 ⟨va, vc, rfl, hq5⟩
        have HQ5 := Lib.hid (HQ4.out.trans hq5)
        clear x0 x1 x2 x3 x4 x5 x6 x7 x8 hq5
        obtain ⟨x0, x1, x2, x3, x4, x5, x6, x7, x8⟩ := HSC.out.box w5 HQ5.out
        dsimp only at x0 x1 x2 x3 x4 x5 x6 x7 x8
        by_cases hn : n < 0
        · go_wp2_with fail
          go_ret
          exact ⟨by simp [soundB]; omega, HQ0.out.trans HQ5.out⟩
        · by_cases ht : 0 < n
          · go_wp2_with fail
            go_ret
            exact ⟨by simp [soundB, kTop]; omega, HQ0.out.trans HQ5.out⟩
          · have hwn : n ≤ 9223372036854775807 := by have := HW.out; unfold wfI at this; simp only [Lit.wf, IntKind.min, IntKind.max, IntKind.signed, IntKind.bits, Bool.and_eq_true, decide_eq_true_eq, if_true] at this; omega
            go_wp2_with fail
            all_goals
              go_ret
              refine ⟨?_, HQ0.out.trans HQ5.out⟩
              have h1 := HNA.out
              have h2 := HTY.out
              refine congrArg (fun b => Ending.returned (Value.bool b)) ?_
              rw [Bool.eq_iff_iff]
              simp [soundB, namedB, typedB, closedT, kName, kTop, kLeast, kMost, h1, h2]
              omega
      · have hl' : (0 : Int) < (L.length : Int) := by omega
        have hLE : L.isEmpty = false := by cases L <;> simp at hl ⊢
        have HLL := Lib.hid hL
        clear hL
        go_wp2_with fail
        refine (HVA.out _ HQ4.out).mono ?_; rintro e w5 ⟨va, vc, rfl, hq5⟩
        go_wp2_with fail
        go_ret
        have hL := HLL.out
        exact ⟨by simp [soundB, typedB, closedT, hL, hLE], HQ0.out.trans (HQ4.out.trans hq5)⟩
end Go.Proofs.YtggidhgifaekbaaDoor
end
section
/-
  ref.sound of a head of no kind. Conditions: its callees', in one hypothesis.
-/
namespace Go.Proofs.YtggidhgifaekbaaDoor
open Go.RowKit Go.Shelf

set_option maxHeartbeats 4000000 in
set_option maxRecDepth 100000 in
theorem refSound_lo (k : Int) (hk : k < 1) (nm : ByteArray) (n tk tn : Int) (tp : Fo) (fr en : Int) (w : World) (o1 : Option Addr) (l1 c1 : Nat) (o2 : Option Addr) (l2 c2 : Nat)
    (SC : SndC ⟨k, nm, n, tk, tn, tp, fr, en⟩ (w.alloc (.cells (cells9 ⟨k, nm, n, tk, tn, tp, fr, en⟩ o1 l1 c1 o2 l2 c2) 35)) o1 l1 c1 o2 l2 c2 w.heap.size) :
    Calls Tryd.prog 77 #[tmv ⟨k, nm, n, tk, tn, tp, fr, en⟩ o1 l1 c1 o2 l2 c2] w fun e w' => e = .returned (.bool (soundB ⟨k, nm, n, tk, tn, tp, fr, en⟩ l2)) ∧ Quiet0 w w' := by
  have HSC := Lib.hid SC
  have e : soundB ⟨k, nm, n, tk, tn, tp, fr, en⟩ l2 = false := by
    unfold soundB
    simp
    omega
  rw [e]
  clear e
  have b1 : (k == 1) = false := by simp; omega
  have b2 : (k == 2) = false := by simp; omega
  have b3 : (k == 3) = false := by simp; omega
  have b4 : (k == 4) = false := by simp; omega
  have b5 : (k == 5) = false := by simp; omega
  have b6 : (k == 6) = false := by simp; omega
  have b7 : (k == 7) = false := by simp; omega
  have b8 : (k == 8) = false := by simp; omega
  have b9 : (k == 9) = false := by simp; omega
  have b10 : (k == 10) = false := by simp; omega
  have b3' : ¬ (3 : Int) < k := by omega
  have HN : Hid (∀ W, Calls Tryd.prog 116 #[.int .i64 k] W fun e w' => e = .returned (.bool false) ∧ Quiet0 W w') := by
    have h := SC.named
    have e : kName k = false := by unfold kName; rw [b1, b4, b6, b7]; rfl
    dsimp only at h
    rw [e] at h
    exact h
  obtain ⟨W0, hW0⟩ : ∃ W0, W0 = w.alloc (.cells (cells9 ⟨k, nm, n, tk, tn, tp, fr, en⟩ o1 l1 c1 o2 l2 c2) 35) := ⟨_, rfl⟩
  have HQ0 : Hid (Quiet0 w W0) := by rw [hW0]; exact Quiet0.alloc _ _
  clear SC
  rw [← hW0] at HSC
  unfold tmv
  go_enter Tryd.func77, Tryd.ntmps77
  go_upto_region 1 with fail
  change Code.wp _ _ _ _ (w.alloc (.cells (cells9 ⟨k, nm, n, tk, tn, tp, fr, en⟩ o1 l1 c1 o2 l2 c2) 35))
  rw [← hW0]
  clear hW0
  generalize w.heap.size = B at *
  obtain ⟨x0, x1, x2, x3, x4, x5, x6, x7, x8⟩ := HSC.out.box W0 (Quiet0.refl _)
  dsimp only at x0 x1 x2 x3 x4 x5 x6 x7 x8
  go_quiet (fail)
  go_wp2_with fail
  refine (HN.out _).mono ?_; rintro e w1 ⟨rfl, hq1⟩
  have HQ1 : Hid (Quiet0 W0 w1) := Quiet0.trans (Fr.drewN _ _ _) hq1
  clear x0 x1 x2 x3 x4 x5 x6 x7 x8 hq1
  obtain ⟨x0, x1, x2, x3, x4, x5, x6, x7, x8⟩ := HSC.out.box w1 HQ1.out
  dsimp only at x0 x1 x2 x3 x4 x5 x6 x7 x8
  go_wp2_with fail
  refine (HN.out _).mono ?_; rintro e w3 ⟨rfl, hq3⟩
  have HQ3 := Lib.hid (HQ1.out.trans hq3)
  clear x0 x1 x2 x3 x4 x5 x6 x7 x8 hq3
  obtain ⟨x0, x1, x2, x3, x4, x5, x6, x7, x8⟩ := HSC.out.box w3 HQ3.out
  dsimp only at x0 x1 x2 x3 x4 x5 x6 x7 x8
  cases hA : nm.toList.isEmpty
  · have e3 : nm.toList.isEmpty = false := hA
    go_wp2_with fail
    go_ret
    exact ⟨rfl, HQ0.out.trans HQ3.out⟩
  · have e3 : nm.toList.isEmpty = true := hA
    clear hA
    have HSM := Lib.hid HSC.out.same
    cases hT : sameT tk tn tp 0 0 .nil
    · rw [hT] at HSM
      go_wp2_with fail
      refine (HSM.out _ HQ3.out).mono ?_; rintro e w4 ⟨rfl, hq4⟩
      go_wp2_with fail
      go_ret
      exact ⟨rfl, HQ0.out.trans (HQ3.out.trans hq4)⟩
    · rw [hT] at HSM
      clear hT
      go_wp2_with fail
      refine (HSM.out _ HQ3.out).mono ?_; rintro e w4 ⟨rfl, hq4⟩
      have HQ4 := Lib.hid (HQ3.out.trans hq4)
      clear x0 x1 x2 x3 x4 x5 x6 x7 x8 hq4
      obtain ⟨x0, x1, x2, x3, x4, x5, x6, x7, x8⟩ := HSC.out.box w4 HQ4.out
      dsimp only at x0 x1 x2 x3 x4 x5 x6 x7 x8
      by_cases hn : n < 0
      · go_wp2_with fail
        go_ret
        exact ⟨rfl, HQ0.out.trans HQ4.out⟩
      · by_cases ht : 0 < n
        · go_wp2_with fail
          go_ret
          exact ⟨rfl, HQ0.out.trans HQ4.out⟩
        · go_wp2_with fail
          go_ret
          exact ⟨rfl, HQ0.out.trans HQ4.out⟩
end Go.Proofs.YtggidhgifaekbaaDoor
end
section
/-
  ref.sound of a head of no kind. Conditions: its callees', in one hypothesis.
-/
namespace Go.Proofs.YtggidhgifaekbaaDoor
open Go.RowKit Go.Shelf

set_option maxHeartbeats 4000000 in
set_option maxRecDepth 100000 in
theorem refSound_hi (k : Int) (hk : 10 < k) (nm : ByteArray) (n tk tn : Int) (tp : Fo) (fr en : Int) (w : World) (o1 : Option Addr) (l1 c1 : Nat) (o2 : Option Addr) (l2 c2 : Nat)
    (SC : SndC ⟨k, nm, n, tk, tn, tp, fr, en⟩ (w.alloc (.cells (cells9 ⟨k, nm, n, tk, tn, tp, fr, en⟩ o1 l1 c1 o2 l2 c2) 35)) o1 l1 c1 o2 l2 c2 w.heap.size) :
    Calls Tryd.prog 77 #[tmv ⟨k, nm, n, tk, tn, tp, fr, en⟩ o1 l1 c1 o2 l2 c2] w fun e w' => e = .returned (.bool (soundB ⟨k, nm, n, tk, tn, tp, fr, en⟩ l2)) ∧ Quiet0 w w' := by
  have HSC := Lib.hid SC
  have e : soundB ⟨k, nm, n, tk, tn, tp, fr, en⟩ l2 = false := by
    unfold soundB
    simp
    omega
  rw [e]
  clear e
  have b1 : (k == 1) = false := by simp; omega
  have b2 : (k == 2) = false := by simp; omega
  have b3 : (k == 3) = false := by simp; omega
  have b4 : (k == 4) = false := by simp; omega
  have b5 : (k == 5) = false := by simp; omega
  have b6 : (k == 6) = false := by simp; omega
  have b7 : (k == 7) = false := by simp; omega
  have b8 : (k == 8) = false := by simp; omega
  have b9 : (k == 9) = false := by simp; omega
  have b10 : (k == 10) = false := by simp; omega
  have b3' : (3 : Int) < k := by omega
  have HN : Hid (∀ W, Calls Tryd.prog 116 #[.int .i64 k] W fun e w' => e = .returned (.bool false) ∧ Quiet0 W w') := by
    have h := SC.named
    have e : kName k = false := by unfold kName; rw [b1, b4, b6, b7]; rfl
    dsimp only at h
    rw [e] at h
    exact h
  obtain ⟨W0, hW0⟩ : ∃ W0, W0 = w.alloc (.cells (cells9 ⟨k, nm, n, tk, tn, tp, fr, en⟩ o1 l1 c1 o2 l2 c2) 35) := ⟨_, rfl⟩
  have HQ0 : Hid (Quiet0 w W0) := by rw [hW0]; exact Quiet0.alloc _ _
  clear SC
  rw [← hW0] at HSC
  unfold tmv
  go_enter Tryd.func77, Tryd.ntmps77
  go_upto_region 1 with fail
  change Code.wp _ _ _ _ (w.alloc (.cells (cells9 ⟨k, nm, n, tk, tn, tp, fr, en⟩ o1 l1 c1 o2 l2 c2) 35))
  rw [← hW0]
  clear hW0
  generalize w.heap.size = B at *
  obtain ⟨x0, x1, x2, x3, x4, x5, x6, x7, x8⟩ := HSC.out.box W0 (Quiet0.refl _)
  dsimp only at x0 x1 x2 x3 x4 x5 x6 x7 x8
  go_quiet (fail)
  go_wp2_with fail
  refine (HN.out _).mono ?_; rintro e w1 ⟨rfl, hq1⟩
  have HQ1 : Hid (Quiet0 W0 w1) := Quiet0.trans (Fr.drewN _ _ _) hq1
  clear x0 x1 x2 x3 x4 x5 x6 x7 x8 hq1
  obtain ⟨x0, x1, x2, x3, x4, x5, x6, x7, x8⟩ := HSC.out.box w1 HQ1.out
  dsimp only at x0 x1 x2 x3 x4 x5 x6 x7 x8
  go_wp2_with fail
  refine (HN.out _).mono ?_; rintro e w3 ⟨rfl, hq3⟩
  have HQ3 := Lib.hid (HQ1.out.trans hq3)
  clear x0 x1 x2 x3 x4 x5 x6 x7 x8 hq3
  obtain ⟨x0, x1, x2, x3, x4, x5, x6, x7, x8⟩ := HSC.out.box w3 HQ3.out
  dsimp only at x0 x1 x2 x3 x4 x5 x6 x7 x8
  cases hA : nm.toList.isEmpty
  · have e3 : nm.toList.isEmpty = false := hA
    go_wp2_with fail
    go_ret
    exact ⟨rfl, HQ0.out.trans HQ3.out⟩
  · have e3 : nm.toList.isEmpty = true := hA
    clear hA
    have HSM := Lib.hid HSC.out.same
    cases hT : sameT tk tn tp 0 0 .nil
    · rw [hT] at HSM
      go_wp2_with fail
      refine (HSM.out _ HQ3.out).mono ?_; rintro e w4 ⟨rfl, hq4⟩
      go_wp2_with fail
      go_ret
      exact ⟨rfl, HQ0.out.trans (HQ3.out.trans hq4)⟩
    · rw [hT] at HSM
      clear hT
      go_wp2_with fail
      refine (HSM.out _ HQ3.out).mono ?_; rintro e w4 ⟨rfl, hq4⟩
      have HQ4 := Lib.hid (HQ3.out.trans hq4)
      clear x0 x1 x2 x3 x4 x5 x6 x7 x8 hq4
      obtain ⟨x0, x1, x2, x3, x4, x5, x6, x7, x8⟩ := HSC.out.box w4 HQ4.out
      dsimp only at x0 x1 x2 x3 x4 x5 x6 x7 x8
      by_cases hn : n < 0
      · go_wp2_with fail
        go_ret
        exact ⟨rfl, HQ0.out.trans HQ4.out⟩
      · by_cases ht : 0 < n
        · go_wp2_with fail
          go_ret
          exact ⟨rfl, HQ0.out.trans HQ4.out⟩
        · go_wp2_with fail
          go_ret
          exact ⟨rfl, HQ0.out.trans HQ4.out⟩
end Go.Proofs.YtggidhgifaekbaaDoor
end
section
/-
  ref.sound of any head, and ref.Right. Conditions: the term lies in memory as told; names and types are not too large; numbers are Go ints.
-/
namespace Go.Proofs.YtggidhgifaekbaaDoor
open Go.RowKit Go.Shelf

def GoodR (h : Nd) : Prop := h.nm.size ≤ 100000 ∧ h.tp.size ≤ 100000 ∧ wfI h.n
theorem refSoundT_any (h : Nd) (w : World) (R : Nat → Prop) (o1 : Option Addr) (l1 c1 : Nat) (o2 : Option Addr) (l2 c2 : Nat) (hs : SlcIn R w o1 l1 h.tp) (hg : GoodR h) :
    Calls Tryd.prog 77 #[tmv h o1 l1 c1 o2 l2 c2] w fun e w' => e = .returned (.bool (soundB h l2)) ∧ Quiet0 w w' := by
  have SC := sndC_of h w R o1 l1 c1 o2 l2 c2 hs hg.1 hg.2.1
  have hw := hg.2.2
  obtain ⟨k, nm, n, tk, tn, tp, fr, en⟩ := h
  by_cases h1 : k < 1
  · exact refSound_lo k h1 nm n tk tn tp fr en w o1 l1 c1 o2 l2 c2 SC
  · by_cases h2 : 10 < k
    · exact refSound_hi k h2 nm n tk tn tp fr en w o1 l1 c1 o2 l2 c2 SC
    · have hk : k = 1 ∨ k = 2 ∨ k = 3 ∨ k = 4 ∨ k = 5 ∨ k = 6 ∨ k = 7 ∨ k = 8 ∨ k = 9 ∨ k = 10 := by omega
      rcases hk with rfl | rfl | rfl | rfl | rfl | rfl | rfl | rfl | rfl | rfl
      · exact refSound_1 nm n tk tn tp fr en w o1 l1 c1 o2 l2 c2 hw SC
      · exact refSound_2 nm n tk tn tp fr en w o1 l1 c1 o2 l2 c2 hw SC
      · exact refSound_3 nm n tk tn tp fr en w o1 l1 c1 o2 l2 c2 hw SC
      · exact refSound_4 nm n tk tn tp fr en w o1 l1 c1 o2 l2 c2 hw SC
      · exact refSound_5 nm n tk tn tp fr en w o1 l1 c1 o2 l2 c2 hw SC
      · exact refSound_6 nm n tk tn tp fr en w o1 l1 c1 o2 l2 c2 hw SC
      · exact refSound_7 nm n tk tn tp fr en w o1 l1 c1 o2 l2 c2 hw SC
      · exact refSound_8 nm n tk tn tp fr en w o1 l1 c1 o2 l2 c2 hw SC
      · exact refSound_9 nm n tk tn tp fr en w o1 l1 c1 o2 l2 c2 hw SC
      · exact refSound_10 nm n tk tn tp fr en w o1 l1 c1 o2 l2 c2 hw SC
abbrev allS (f : To) : Bool := f.flat.all sndX
theorem allS_cons (h : Nd) (ps r : To) : allS (.cons h ps r) = ((soundB h ps.length && allS ps) && allS r) := by
  simp [allS, To.flat, List.all_append, Bool.and_assoc, sndX]
theorem allS_one (h : Nd) (ps : To) : allS (.cons h ps .nil) = (soundB h ps.length && allS ps) := by
  rw [allS_cons]; simp [allS, To.flat]
def RRightT (h : Nd) (ps : To) : Prop := ∀ (w : World) (R : Nat → Prop) (o1 : Option Addr) (l1 c1 : Nat) (o2 : Option Addr) (l2 c2 : Nat), SlcIn R w o1 l1 h.tp → TSlc R w o2 l2 ps → GoodR h → allT GoodR ps →
  Calls Tryd.prog 26 #[tmv h o1 l1 c1 o2 l2 c2] w fun e w' => e = .returned (.bool (allS (.cons h ps .nil))) ∧ Quiet0 w w'
set_option maxHeartbeats 2000000 in
theorem refRightT_any (h : Nd) (ps : To) : RRightT h ps := by
  refine To.ind' (T := RRightT) ?_ h ps
  intro h ps ih w R o1 l1 c1 o2 l2 c2 hs1 hs hgh hgp
  have HS := Lib.hid hs
  have IH := Lib.hid ih
  have HL := Lib.hid hs.1
  have HG := Lib.hid hgp
  have hmx := hs.2.1
  unfold maxLen at hmx
  obtain ⟨W0, hW0⟩ : ∃ W0, W0 = w.alloc (.cells (cells9 h o1 l1 c1 o2 l2 c2) 35) := ⟨_, rfl⟩
  have HB : Hid (∀ W, Quiet0 W0 W → W.cell? ⟨w.heap.size, 6, none⟩ = some (.slice o2 l2 c2)) := by
    intro W hq; rw [hW0] at hq; exact (box9 w h o1 l1 c1 o2 l2 c2 _ W hq).2.2.2.2.2.2.1
  have hq0 : Quiet0 w W0 := by rw [hW0]; exact Quiet0.alloc _ _
  have HQ0 := Lib.hid hq0
  have HSO := Lib.hid (refSoundT_any h W0 R o1 l1 c1 o2 l2 c2 (hs1.stay hq0) hgh)
  obtain ⟨res, hres⟩ : ∃ res, res = allS (.cons h ps .nil) := ⟨_, rfl⟩
  have HRES : Hid (res = (soundB h l2 && allS ps)) := by show _ = _; rw [hres, allS_one, HL.out]
  rw [← hres]
  clear hs1 hs ih hgh hgp hres hq0
  unfold tmv at HSO ⊢
  go_enter Tryd.func26, Tryd.ntmps26
  go_wp2_with fail
  change Calls _ _ _ (w.alloc (.cells (cells9 h o1 l1 c1 o2 l2 c2) 35)) _
  rw [← hW0]
  clear hW0
  generalize w.heap.size = nb at *
  cases hb : soundB h l2
  · have HR0 : Hid (res = false) := by show _ = _; rw [HRES.out, hb]; rfl
    rw [hb] at HSO
    clear hb
    refine HSO.out.mono ?_; rintro e w1 ⟨rfl, hq1⟩
    go_wp2_with fail
    go_ret
    exact ⟨by rw [HR0.out]; rfl, HQ0.out.trans hq1⟩
  · have HR0 : Hid (res = allS ps) := by show _ = _; rw [HRES.out, hb]; rfl
    rw [hb] at HSO
    clear hb
    refine HSO.out.mono ?_; rintro e w1 ⟨rfl, hq1⟩
    have HQ1 := Lib.hid hq1
    clear hq1
    go_wp2_with fail
    go_loopw [3] (fun t wr => ∃ (i : Nat), t = .int .i64 i ∧ i ≤ l2 ∧ res = allS (ps.drop i) ∧ Quiet0 W0 wr) (fun t _ => l2 - (intOf t).toNat)
    case atStart => exact ⟨0, rfl, Nat.zero_le _, by rw [To.drop_zero]; exact HR0.out, HQ1.out⟩
    case round =>
      obtain ⟨i, rfl, hi, hr, hq⟩ := hrel
      have HR := Lib.hid hr
      have HQ := Lib.hid hq
      have cc := HB.out wr hq
      clear hr hq
      by_cases hlt : i < l2
      · have hlt' : (i : Int) < l2 := by omega
        obtain ⟨b, off, hd, qs, p1, m1, d1, p2, m2, d2, rfl, hd1, hg, hRb, ⟨e0, e1, e2, e3, e4, e5, e6, e7, e8⟩, hs1, ht1⟩ := (HS.out.stay (HQ0.out.trans HQ.out)).nth hlt
        have hgg := allT_get ps i hd qs HG.out hg
        have HC := Lib.hid (IH.out i hd qs hg wr R p1 m1 d1 p2 m2 d2 hs1 ht1 hgg.1 hgg.2)
        have HN : Hid (res = (allS (.cons hd qs .nil) && allS (ps.drop (i + 1)))) := by
          show _ = _
          rw [HR.out, hd1, allS_cons, allS_one]
        unfold tmv at HC
        clear hd1 hg hs1 ht1 hRb hgg
        cases hb : allS (.cons hd qs .nil)
        · have HF : Hid (res = false) := by show _ = _; rw [HN.out, hb]; rfl
          rw [hb] at HC
          clear hb
          go_wp2_with fail
          refine HC.out.mono ?_; rintro e w2 ⟨rfl, hq2⟩
          go_wp2_with fail
          go_ret
          exact ⟨by rw [HF.out]; rfl, HQ0.out.trans (HQ.out.trans hq2)⟩
        · have HF : Hid (res = allS (ps.drop (i + 1))) := by show _ = _; rw [HN.out, hb]; rfl
          rw [hb] at HC
          clear hb
          go_wp2_with fail
          refine HC.out.mono ?_; rintro e w2 ⟨rfl, hq2⟩
          have HQ2 := Lib.hid (HQ.out.trans hq2)
          clear hq2
          go_wp2_with fail
          go_roundw
          case rel => exact ⟨i + 1, by go_num, by omega, HF.out, HQ2.out⟩
          case measure => simp [intOf]; omega
      · have hlt' : ¬ (i : Int) < l2 := by omega
        have HY : Hid (res = true) := by
          show _ = _
          rw [HR.out, To.drop_end ps i (by have := HL.out; omega)]; rfl
        go_wp2_with fail
        go_ret
        exact ⟨by rw [HY.out]; rfl, HQ0.out.trans HQ.out⟩
end Go.Proofs.YtggidhgifaekbaaDoor
end
section
/-
  Append of what lies somewhere (a slice, perhaps empty or nil) to a row of the call's own (perhaps nil). Conditions: the row is owned, its length stays in bounds.
-/
namespace Go.Proofs.YtggidhgifaekbaaDoor
open Go.RowKit

section
variable {P : Program}
theorem run_append_row (w : World) (t ty e : TypeId) (z : Value) (size bytes : Nat) (he : Elem P t e z size bytes) (v : Value) (n : Nat) (xs : List Value) (hown : w.ownsRow 0 e size v n xs)
    (o : Option Addr) (m c : Nat) (news : List Value) (hl : news.length = m * size) (hnews : ∀ j u, news[j]? = some u → ∃ a, o = some a ∧ w.cell? (a.add j) = some u) (h1 : ∀ u ∈ news, u.oneCell' = true) (b1 : n + m ≤ maxLen) (b2 : (n + m) * bytes ≤ 140737488355328) :
    ∃ o' c' w', (Builtin.append_ #[t, t] ty #[v, .slice o m c]).run P w = .ok (.slice o' (n + m) c') w' ∧ w'.ownsRow 0 e size (.slice o' (n + m) c') (n + m) (xs ++ news) ∧ Fr (fun k => v.ownBlock = some k) w w' ∧ ((Value.slice o' (n + m) c').ownBlock = v.ownBlock ∨ (Value.slice o' (n + m) c').ownBlock = some w.heap.size) ∧ ((Value.slice o' (n + m) c') = .slice none 0 0 ↔ v = .slice none 0 0 ∧ m = 0) := by
  obtain ⟨i0, hi, hz0, hz1, hz2⟩ := info_parts he.info
  have form : ∀ {w' : World} {v' : Value} {k : Nat} {ys : List Value}, w'.ownsRow 0 e size v' k ys → ∃ o' c', v' = .slice o' k c' := by
    intro w' v' k ys h
    rcases h.2 with ⟨rfl, rfl⟩ | ⟨g, cap, cur, rfl, _⟩
    · exact ⟨none, 0, rfl⟩
    · exact ⟨some ⟨g, 0, none⟩, cap, rfl⟩
  by_cases hm : m = 0
  · subst hm
    have hn : news = [] := List.eq_nil_of_length_eq_zero (by simpa using hl)
    subst hn
    obtain ⟨o', c', hv⟩ := form hown
    refine ⟨o', c', w, ?_, by rw [Nat.add_zero, ← hv, List.append_nil]; exact hown, Fr.refl _ _, .inl (by rw [Nat.add_zero, ← hv]), by rw [Nat.add_zero, ← hv]; simp⟩
    rw [Nat.add_zero]
    rcases hown.2 with ⟨rfl, h0⟩ | ⟨g, cap, cur, hvg, _, hg, hc, _⟩
    · injection hv with e1 e2 e3
      subst e1 e2 e3
      cases o <;> simp [Builtin.append_, run_underlying he.under, sizeOf, typeInfo, hi, Builtin.lenOf, Builtin.firstCells, loadCells, loadCellsFrom]
    · rw [hvg] at hv ⊢
      injection hv with e1 e2 e3
      subst e1 e3
      cases o <;> simp [Builtin.append_, run_underlying he.under, sizeOf, typeInfo, hi, Builtin.lenOf, Builtin.firstCells, loadCells, loadCellsFrom, storeCells, hc]
  · have hne : 0 < news.length := by rw [hl]; exact Nat.mul_pos (by omega) he.pos
    obtain ⟨a, ha, _⟩ := hnews 0 news[0] (List.getElem?_eq_getElem hne)
    subst ha
    obtain ⟨v', w', hr, h2, h3, h4, h5⟩ := run_append_own_at (P := P) w 0 t ty e i0 z size bytes he.under hi hz0 hz1 hz2 he.cells he.pos v n xs hown a m c news hl (fun j u hu => by obtain ⟨a', e', hc⟩ := hnews j u hu; cases e'; exact hc) h1 b1 b2 (Nat.zero_le _)
    obtain ⟨o', c', rfl⟩ := form h2
    exact ⟨o', c', w', hr, h2, Fr.grown h3 (fun k hk => hk), h5, h4⟩
theorem wp_append_row {o : Oper} {a : Act} {K : Act → World → Prop} {Q : Exit → Act → World → Prop} (W : World) (s x : Operand) (t : TypeId)
    (ho : o.op = .call { callee := .builtin .append, args := #[s, x], argTypes := #[t, t] })
    (e : TypeId) (z : Value) (size bytes : Nat) (he : Elem P t e z size bytes) (v : Value) (n : Nat) (xs : List Value) (hs : a.eval s = v) (hown : W.ownsRow 0 e size v n xs)
    (oa : Option Addr) (m c : Nat) (news : List Value) (hx : a.eval x = .slice oa m c) (hl : news.length = m * size) (hnews : ∀ j u, news[j]? = some u → ∃ a, oa = some a ∧ W.cell? (a.add j) = some u) (h1 : ∀ u ∈ news, u.oneCell' = true) (b1 : n + m ≤ maxLen) (b2 : (n + m) * bytes ≤ 140737488355328)
    (hK : ∀ o' c' w', w'.ownsRow 0 e size (.slice o' (n + m) c') (n + m) (xs ++ news) → Fr (fun k => v.ownBlock = some k) W w' → ((Value.slice o' (n + m) c').ownBlock = v.ownBlock ∨ (Value.slice o' (n + m) c').ownBlock = some W.heap.size) → ((Value.slice o' (n + m) c') = .slice none 0 0 ↔ v = .slice none 0 0 ∧ m = 0) → K (a.put o.dst (.slice o' (n + m) c')) w') :
    o.wp P a W K Q := by
  obtain ⟨o', c', w', hr, h2, h3, h4, h5⟩ := run_append_row (P := P) W t o.type e z size bytes he v n xs hown oa m c news hl hnews h1 b1 b2
  unfold Oper.wp execOp
  simp only [ho, resolve, invoke, builtin, Sem.run_bind, Sem.run_pure, Result.andThen_ok, List.map_toArray, List.map_cons, List.map_nil, hs, hx, hr]
  exact hK o' c' w' h2 h3 h4 h5
theorem wpList_append_row {ops : Array Oper} {rest : List Oper} {o : Oper} {a : Act} {Q : Exit → Act → World → Prop} (W : World) (hg : o.guard = none) (s x : Operand) (t : TypeId)
    (ho : o.op = .call { callee := .builtin .append, args := #[s, x], argTypes := #[t, t] })
    (e : TypeId) (z : Value) (size bytes : Nat) (he : Elem P t e z size bytes) (v : Value) (n : Nat) (xs : List Value) (hs : a.eval s = v) (hown : W.ownsRow 0 e size v n xs)
    (oa : Option Addr) (m c : Nat) (news : List Value) (hx : a.eval x = .slice oa m c) (hl : news.length = m * size) (hnews : ∀ j u, news[j]? = some u → ∃ a, oa = some a ∧ W.cell? (a.add j) = some u) (h1 : ∀ u ∈ news, u.oneCell' = true) (b1 : n + m ≤ maxLen) (b2 : (n + m) * bytes ≤ 140737488355328)
    (hK : ∀ o' c' w', w'.ownsRow 0 e size (.slice o' (n + m) c') (n + m) (xs ++ news) → Fr (fun k => v.ownBlock = some k) W w' → ((Value.slice o' (n + m) c').ownBlock = v.ownBlock ∨ (Value.slice o' (n + m) c').ownBlock = some W.heap.size) → ((Value.slice o' (n + m) c') = .slice none 0 0 ↔ v = .slice none 0 0 ∧ m = 0) → wpList P ops Q rest (a.put o.dst (.slice o' (n + m) c')) w') :
    wpList P ops Q (o :: rest) a W :=
  wpList_plain hg fun _ hK' => wp_append_row W s x t ho e z size bytes he v n xs hs hown oa m c news hx hl hnews h1 b1 b2 fun o' c' w' h2 h3 h4 h5 => hK' _ _ (hK o' c' w' h2 h3 h4 h5)
theorem step_append_row {ops : Array Oper} {o : Oper} {a : Act} {K : Act → World → Prop} {Q : Exit → Act → World → Prop} {E : Prop} (W : World) (hg : o.guard = none) (s x : Operand) (t : TypeId)
    (ho : o.op = .call { callee := .builtin .append, args := #[s, x], argTypes := #[t, t] })
    (e : TypeId) (z : Value) (size bytes : Nat) (he : Elem P t e z size bytes) (v : Value) (n : Nat) (xs : List Value) (hs : a.eval s = v) (hown : W.ownsRow 0 e size v n xs)
    (oa : Option Addr) (m c : Nat) (news : List Value) (hx : a.eval x = .slice oa m c) (hl : news.length = m * size) (hnews : ∀ j u, news[j]? = some u → ∃ a, oa = some a ∧ W.cell? (a.add j) = some u) (h1 : ∀ u ∈ news, u.oneCell' = true) (b1 : n + m ≤ maxLen) (b2 : (n + m) * bytes ≤ 140737488355328)
    (hK : ∀ o' c' w', w'.ownsRow 0 e size (.slice o' (n + m) c') (n + m) (xs ++ news) → Fr (fun k => v.ownBlock = some k) W w' → ((Value.slice o' (n + m) c').ownBlock = v.ownBlock ∨ (Value.slice o' (n + m) c').ownBlock = some W.heap.size) → ((Value.slice o' (n + m) c') = .slice none 0 0 ↔ v = .slice none 0 0 ∧ m = 0) → K (a.put o.dst (.slice o' (n + m) c')) w') :
    if Region.wanted o (yielded ops a.tmps) = true then Oper.wp P o a W K Q else E := by
  rw [if_pos (by unfold Region.wanted; rw [hg])]
  exact wp_append_row W s x t ho e z size bytes he v n xs hs hown oa m c news hx hl hnews h1 b1 b2 hK
end
theorem wpList_append_H {P : Program} (W : World) (H : Nat) (hH : H = W.heap.size) {ops : Array Oper} {rest : List Oper} {o : Oper} {a : Act} {Q : Exit → Act → World → Prop}
    (hg : o.guard = none) (s x : Operand) (t : TypeId) (hop : o.op = Op.call { callee := Callee.builtin Builtin.append, args := #[s, x], argTypes := #[t, t] })
    (e : TypeId) (z : Value) (size bytes : Nat) (he : Elem P t e z size bytes)
    (v : Value) (n : Nat) (xs : List Value) (hs : a.eval s = v) (hown : W.ownsRow 0 e size v n xs)
    (news : Array Value) (hx : a.eval x = .slice (some ⟨H, 0, none⟩) 1 1) (hn : news.size = size) (h1c : ∀ u ∈ news.toList, u.oneCell' = true)
    (b1 : n + 1 ≤ maxLen) (b2 : (n + 1) * bytes ≤ 140737488355328)
    (hK : ∀ g c w', w'.ownsRow 0 e size (.slice (some ⟨g, 0, none⟩) (n + 1) c) (n + 1) (xs ++ news.toList) → Fr (fun k => v.ownBlock = some k) W w' → (v.ownBlock = some g ∨ W.heap.size ≤ g) → wpList P ops Q rest (a.put o.dst (.slice (some ⟨g, 0, none⟩) (n + 1) c)) w') :
    wpList P ops Q (o :: rest) a (W.alloc (.cells news e)) := by
  subst hH
  exact wpList_append_one W hg s x t hop e z size bytes he v n xs hs hown news hx hn h1c b1 b2 hK
end Go.Proofs.YtggidhgifaekbaaDoor
end
