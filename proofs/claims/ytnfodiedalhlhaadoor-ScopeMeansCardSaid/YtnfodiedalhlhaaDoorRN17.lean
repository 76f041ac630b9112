/-
  Texts laid together (TeRSound3, TeRSound4, TeRSound5, TeRSound6, TeRSound7, TeRSound8, TeRSound9, TeRSound10, TeRSoundlo, TeRSoundhi): laws and walks, with their conditions in their statements.
-/
import Derived.Test.YtnfodiedalhlhaaDoorRN16
section
namespace Go.Proofs.YtnfodiedalhlhaaDoor
open Go.RowKit Go.Shelf
set_option maxHeartbeats 4000000 in
set_option maxRecDepth 100000 in
theorem refSound_3 (nm : ByteArray) (n tk tn : Int) (tp : Fo) (fr en : Int) (w : World) (o1 : Option Addr) (l1 c1 : Nat) (o2 : Option Addr) (l2 c2 : Nat) (hw : wfI n)
    (SC : SndC ⟨3, nm, n, tk, tn, tp, fr, en⟩ (w.alloc (.cells (cells9 ⟨3, nm, n, tk, tn, tp, fr, en⟩ o1 l1 c1 o2 l2 c2) 30)) o1 l1 c1 o2 l2 c2 w.heap.size) :
    Calls Tryd.prog 43 #[tmv ⟨3, nm, n, tk, tn, tp, fr, en⟩ o1 l1 c1 o2 l2 c2] w fun e w' => e = .returned (.bool (soundB ⟨3, nm, n, tk, tn, tp, fr, en⟩ l2)) ∧ Quiet0 w w' := by
  have HSC := Lib.hid SC
  have HW := Lib.hid hw
  have HN : Hid (∀ W, Calls Tryd.prog 75 #[.int .i64 3] W fun e w' => e = .returned (.bool false) ∧ Quiet0 W w') := SC.named
  obtain ⟨W0, hW0⟩ : ∃ W0, W0 = w.alloc (.cells (cells9 ⟨3, nm, n, tk, tn, tp, fr, en⟩ o1 l1 c1 o2 l2 c2) 30) := ⟨_, rfl⟩
  have HQ0 : Hid (Quiet0 w W0) := by rw [hW0]; exact Quiet0.alloc _ _
  clear SC hw
  rw [← hW0] at HSC
  unfold tmv
  go_enter Tryd.func43, Tryd.ntmps43
  go_upto_region 1 with fail
  change Code.wp _ _ _ _ (w.alloc (.cells (cells9 ⟨3, nm, n, tk, tn, tp, fr, en⟩ o1 l1 c1 o2 l2 c2) 30))
  rw [← hW0]
  clear hW0
  generalize w.heap.size = B at *
  obtain ⟨x0, x1, x2, x3, x4, x5, x6, x7, x8⟩ := HSC.out.box W0 (Quiet0.refl _)
  dsimp only at x0 x1 x2 x3 x4 x5 x6 x7 x8
  go_quiet (fail)
  go_wp2_with fail
  refine (HN.out _).mono ?_; rintro e w1 ⟨rfl, hq1⟩
  have HQ1 : Hid (Quiet0 W0 w1) := Quiet0.trans (Fr.drewN _ _ _) hq1
  clear x0 x1 x2 x3 x4 x5 x6 x7 x8 hq1
  obtain ⟨x0, x1, x2, x3, x4, x5, x6, x7, x8⟩ := HSC.out.box w1 HQ1.out
  dsimp only at x0 x1 x2 x3 x4 x5 x6 x7 x8
  go_wp2_with fail
  refine (HN.out _).mono ?_; rintro e w3 ⟨rfl, hq3⟩
  have HQ3 := Lib.hid (HQ1.out.trans hq3)
  clear x0 x1 x2 x3 x4 x5 x6 x7 x8 hq3
  obtain ⟨x0, x1, x2, x3, x4, x5, x6, x7, x8⟩ := HSC.out.box w3 HQ3.out
  dsimp only at x0 x1 x2 x3 x4 x5 x6 x7 x8
  cases hA : nm.toList.isEmpty
  · have e3 : nm.toList.isEmpty = false := hA
    go_wp2_with fail
    go_ret
    exact ⟨by simp [soundB, namedB, kName, hA], HQ0.out.trans HQ3.out⟩
  · have e3 : nm.toList.isEmpty = true := hA
    have HNA := Lib.hid hA
    clear hA
    have HSM := Lib.hid HSC.out.same
    cases hT : sameT tk tn tp 0 0 .nil
    · rw [hT] at HSM
      go_wp2_with fail
      refine (HSM.out _ HQ3.out).mono ?_; rintro e w4 ⟨rfl, hq4⟩
      go_wp2_with fail
      go_ret
      exact ⟨by simp [soundB, typedB, hT], HQ0.out.trans (HQ3.out.trans hq4)⟩
    · rw [hT] at HSM
      have HTY := Lib.hid hT
      clear hT
      go_wp2_with fail
      refine (HSM.out _ HQ3.out).mono ?_; rintro e w4 ⟨rfl, hq4⟩
      have HQ4 := Lib.hid (HQ3.out.trans hq4)
      clear x0 x1 x2 x3 x4 x5 x6 x7 x8 hq4
      obtain ⟨x0, x1, x2, x3, x4, x5, x6, x7, x8⟩ := HSC.out.box w4 HQ4.out
      dsimp only at x0 x1 x2 x3 x4 x5 x6 x7 x8
      by_cases hn : n < 0
      · go_wp2_with fail
        go_ret
        exact ⟨by simp [soundB]; omega, HQ0.out.trans HQ4.out⟩
      · by_cases ht : 1 < n
        · go_wp2_with fail
          go_ret
          exact ⟨by simp [soundB, kTop]; omega, HQ0.out.trans HQ4.out⟩
        · have hwn : n ≤ 9223372036854775807 := by have := HW.out; unfold wfI at this; simp only [Lit.wf, IntKind.min, IntKind.max, IntKind.signed, IntKind.bits, Bool.and_eq_true, decide_eq_true_eq, if_true] at this; omega
          go_wp2_with fail
          all_goals
            go_ret
            refine ⟨?_, HQ0.out.trans HQ4.out⟩
            have h1 := HNA.out
            have h2 := HTY.out
            refine congrArg (fun b => Ending.returned (Value.bool b)) ?_
            rw [Bool.eq_iff_iff]
            simp [soundB, namedB, typedB, kName, kTop, kLeast, kMost, h1, h2]
            omega
end Go.Proofs.YtnfodiedalhlhaaDoor
end
section
namespace Go.Proofs.YtnfodiedalhlhaaDoor
open Go.RowKit Go.Shelf
set_option maxHeartbeats 4000000 in
set_option maxRecDepth 100000 in
theorem refSound_4 (nm : ByteArray) (n tk tn : Int) (tp : Fo) (fr en : Int) (w : World) (o1 : Option Addr) (l1 c1 : Nat) (o2 : Option Addr) (l2 c2 : Nat) (hw : wfI n)
    (SC : SndC ⟨4, nm, n, tk, tn, tp, fr, en⟩ (w.alloc (.cells (cells9 ⟨4, nm, n, tk, tn, tp, fr, en⟩ o1 l1 c1 o2 l2 c2) 30)) o1 l1 c1 o2 l2 c2 w.heap.size) :
    Calls Tryd.prog 43 #[tmv ⟨4, nm, n, tk, tn, tp, fr, en⟩ o1 l1 c1 o2 l2 c2] w fun e w' => e = .returned (.bool (soundB ⟨4, nm, n, tk, tn, tp, fr, en⟩ l2)) ∧ Quiet0 w w' := by
  have HSC := Lib.hid SC
  have HW := Lib.hid hw
  have HN : Hid (∀ W, Calls Tryd.prog 75 #[.int .i64 4] W fun e w' => e = .returned (.bool true) ∧ Quiet0 W w') := SC.named
  obtain ⟨W0, hW0⟩ : ∃ W0, W0 = w.alloc (.cells (cells9 ⟨4, nm, n, tk, tn, tp, fr, en⟩ o1 l1 c1 o2 l2 c2) 30) := ⟨_, rfl⟩
  have HQ0 : Hid (Quiet0 w W0) := by rw [hW0]; exact Quiet0.alloc _ _
  clear SC hw
  rw [← hW0] at HSC
  unfold tmv
  go_enter Tryd.func43, Tryd.ntmps43
  go_upto_region 1 with fail
  change Code.wp _ _ _ _ (w.alloc (.cells (cells9 ⟨4, nm, n, tk, tn, tp, fr, en⟩ o1 l1 c1 o2 l2 c2) 30))
  rw [← hW0]
  clear hW0
  generalize w.heap.size = B at *
  obtain ⟨x0, x1, x2, x3, x4, x5, x6, x7, x8⟩ := HSC.out.box W0 (Quiet0.refl _)
  dsimp only at x0 x1 x2 x3 x4 x5 x6 x7 x8
  go_quiet (fail)
  go_wp2_with fail
  refine (HN.out _).mono ?_; rintro e w1 ⟨rfl, hq1⟩
  have HQ1 : Hid (Quiet0 W0 w1) := Quiet0.trans (Fr.drewN _ _ _) hq1
  clear x0 x1 x2 x3 x4 x5 x6 x7 x8 hq1
  obtain ⟨x0, x1, x2, x3, x4, x5, x6, x7, x8⟩ := HSC.out.box w1 HQ1.out
  dsimp only at x0 x1 x2 x3 x4 x5 x6 x7 x8
  cases hA : Lx.nameB nm.data.toList
  · have HNM := Lib.hid HSC.out.name
    rw [hA] at HNM
    go_wp2_with fail
    refine (HNM.out _).mono ?_; rintro e w2 ⟨rfl, hq2⟩
    go_wp2_with fail
    go_ret
    exact ⟨by simp [soundB, namedB, kName, hA], HQ0.out.trans (HQ1.out.trans hq2)⟩
  · have HNM := Lib.hid HSC.out.name
    rw [hA] at HNM
    have HNA := Lib.hid hA
    clear hA
    go_wp2_with fail
    refine (HNM.out _).mono ?_; rintro e w2 ⟨rfl, hq2⟩
    have HQ2 := Lib.hid (HQ1.out.trans hq2)
    clear x0 x1 x2 x3 x4 x5 x6 x7 x8 hq2
    go_wp2_with fail
    refine (HN.out _).mono ?_; rintro e w3 ⟨rfl, hq3⟩
    have HQ3 := Lib.hid (HQ2.out.trans hq3)
    clear hq3
    obtain ⟨x0, x1, x2, x3, x4, x5, x6, x7, x8⟩ := HSC.out.box w3 HQ3.out
    dsimp only at x0 x1 x2 x3 x4 x5 x6 x7 x8
    have HSM := Lib.hid HSC.out.same
    cases hT : sameT tk tn tp 0 0 .nil
    · rw [hT] at HSM
      go_wp2_with fail
      refine (HSM.out _ HQ3.out).mono ?_; rintro e w4 ⟨rfl, hq4⟩
      go_wp2_with fail
      go_ret
      exact ⟨by simp [soundB, typedB, hT], HQ0.out.trans (HQ3.out.trans hq4)⟩
    · rw [hT] at HSM
      have HTY := Lib.hid hT
      clear hT
      go_wp2_with fail
      refine (HSM.out _ HQ3.out).mono ?_; rintro e w4 ⟨rfl, hq4⟩
      have HQ4 := Lib.hid (HQ3.out.trans hq4)
      clear x0 x1 x2 x3 x4 x5 x6 x7 x8 hq4
      obtain ⟨x0, x1, x2, x3, x4, x5, x6, x7, x8⟩ := HSC.out.box w4 HQ4.out
      dsimp only at x0 x1 x2 x3 x4 x5 x6 x7 x8
      by_cases hn : n < 0
      · go_wp2_with fail
        go_ret
        exact ⟨by simp [soundB]; omega, HQ0.out.trans HQ4.out⟩
      · by_cases ht : 0 < n
        · go_wp2_with fail
          go_ret
          exact ⟨by simp [soundB, kTop]; omega, HQ0.out.trans HQ4.out⟩
        · have hwn : n ≤ 9223372036854775807 := by have := HW.out; unfold wfI at this; simp only [Lit.wf, IntKind.min, IntKind.max, IntKind.signed, IntKind.bits, Bool.and_eq_true, decide_eq_true_eq, if_true] at this; omega
          go_wp2_with fail
          all_goals
            go_ret
            refine ⟨?_, HQ0.out.trans HQ4.out⟩
            have h1 := HNA.out
            have h2 := HTY.out
            refine congrArg (fun b => Ending.returned (Value.bool b)) ?_
            rw [Bool.eq_iff_iff]
            simp [soundB, namedB, typedB, kName, kTop, kLeast, kMost, h1, h2]
            omega
end Go.Proofs.YtnfodiedalhlhaaDoor
end
section
namespace Go.Proofs.YtnfodiedalhlhaaDoor
open Go.RowKit Go.Shelf
set_option maxHeartbeats 4000000 in
set_option maxRecDepth 100000 in
theorem refSound_5 (nm : ByteArray) (n tk tn : Int) (tp : Fo) (fr en : Int) (w : World) (o1 : Option Addr) (l1 c1 : Nat) (o2 : Option Addr) (l2 c2 : Nat) (hw : wfI n)
    (SC : SndC ⟨5, nm, n, tk, tn, tp, fr, en⟩ (w.alloc (.cells (cells9 ⟨5, nm, n, tk, tn, tp, fr, en⟩ o1 l1 c1 o2 l2 c2) 30)) o1 l1 c1 o2 l2 c2 w.heap.size) :
    Calls Tryd.prog 43 #[tmv ⟨5, nm, n, tk, tn, tp, fr, en⟩ o1 l1 c1 o2 l2 c2] w fun e w' => e = .returned (.bool (soundB ⟨5, nm, n, tk, tn, tp, fr, en⟩ l2)) ∧ Quiet0 w w' := by
  have HSC := Lib.hid SC
  have HW := Lib.hid hw
  have HN : Hid (∀ W, Calls Tryd.prog 75 #[.int .i64 5] W fun e w' => e = .returned (.bool false) ∧ Quiet0 W w') := SC.named
  obtain ⟨W0, hW0⟩ : ∃ W0, W0 = w.alloc (.cells (cells9 ⟨5, nm, n, tk, tn, tp, fr, en⟩ o1 l1 c1 o2 l2 c2) 30) := ⟨_, rfl⟩
  have HQ0 : Hid (Quiet0 w W0) := by rw [hW0]; exact Quiet0.alloc _ _
  clear SC hw
  rw [← hW0] at HSC
  unfold tmv
  go_enter Tryd.func43, Tryd.ntmps43
  go_upto_region 1 with fail
  change Code.wp _ _ _ _ (w.alloc (.cells (cells9 ⟨5, nm, n, tk, tn, tp, fr, en⟩ o1 l1 c1 o2 l2 c2) 30))
  rw [← hW0]
  clear hW0
  generalize w.heap.size = B at *
  obtain ⟨x0, x1, x2, x3, x4, x5, x6, x7, x8⟩ := HSC.out.box W0 (Quiet0.refl _)
  dsimp only at x0 x1 x2 x3 x4 x5 x6 x7 x8
  go_quiet (fail)
  go_wp2_with fail
  refine (HN.out _).mono ?_; rintro e w1 ⟨rfl, hq1⟩
  have HQ1 : Hid (Quiet0 W0 w1) := Quiet0.trans (Fr.drewN _ _ _) hq1
  clear x0 x1 x2 x3 x4 x5 x6 x7 x8 hq1
  obtain ⟨x0, x1, x2, x3, x4, x5, x6, x7, x8⟩ := HSC.out.box w1 HQ1.out
  dsimp only at x0 x1 x2 x3 x4 x5 x6 x7 x8
  go_wp2_with fail
  refine (HN.out _).mono ?_; rintro e w3 ⟨rfl, hq3⟩
  have HQ3 := Lib.hid (HQ1.out.trans hq3)
  clear x0 x1 x2 x3 x4 x5 x6 x7 x8 hq3
  obtain ⟨x0, x1, x2, x3, x4, x5, x6, x7, x8⟩ := HSC.out.box w3 HQ3.out
  dsimp only at x0 x1 x2 x3 x4 x5 x6 x7 x8
  cases hA : nm.toList.isEmpty
  · have e3 : nm.toList.isEmpty = false := hA
    go_wp2_with fail
    go_ret
    exact ⟨by simp [soundB, namedB, kName, hA], HQ0.out.trans HQ3.out⟩
  · have e3 : nm.toList.isEmpty = true := hA
    have HNA := Lib.hid hA
    clear hA
    have HSM := Lib.hid HSC.out.same
    cases hT : sameT tk tn tp 0 0 .nil
    · rw [hT] at HSM
      go_wp2_with fail
      refine (HSM.out _ HQ3.out).mono ?_; rintro e w4 ⟨rfl, hq4⟩
      go_wp2_with fail
      go_ret
      exact ⟨by simp [soundB, typedB, hT], HQ0.out.trans (HQ3.out.trans hq4)⟩
    · rw [hT] at HSM
      have HTY := Lib.hid hT
      clear hT
      go_wp2_with fail
      refine (HSM.out _ HQ3.out).mono ?_; rintro e w4 ⟨rfl, hq4⟩
      have HQ4 := Lib.hid (HQ3.out.trans hq4)
      clear x0 x1 x2 x3 x4 x5 x6 x7 x8 hq4
      obtain ⟨x0, x1, x2, x3, x4, x5, x6, x7, x8⟩ := HSC.out.box w4 HQ4.out
      dsimp only at x0 x1 x2 x3 x4 x5 x6 x7 x8
      by_cases hn : n < 0
      · go_wp2_with fail
        go_ret
        exact ⟨by simp [soundB]; omega, HQ0.out.trans HQ4.out⟩
      · by_cases ht : 0 < n
        · go_wp2_with fail
          go_ret
          exact ⟨by simp [soundB, kTop]; omega, HQ0.out.trans HQ4.out⟩
        · have hwn : n ≤ 9223372036854775807 := by have := HW.out; unfold wfI at this; simp only [Lit.wf, IntKind.min, IntKind.max, IntKind.signed, IntKind.bits, Bool.and_eq_true, decide_eq_true_eq, if_true] at this; omega
          go_wp2_with fail
          all_goals
            go_ret
            refine ⟨?_, HQ0.out.trans HQ4.out⟩
            have h1 := HNA.out
            have h2 := HTY.out
            refine congrArg (fun b => Ending.returned (Value.bool b)) ?_
            rw [Bool.eq_iff_iff]
            simp [soundB, namedB, typedB, kName, kTop, kLeast, kMost, h1, h2]
            omega
end Go.Proofs.YtnfodiedalhlhaaDoor
end
section
namespace Go.Proofs.YtnfodiedalhlhaaDoor
open Go.RowKit Go.Shelf
set_option maxHeartbeats 4000000 in
set_option maxRecDepth 100000 in
theorem refSound_6 (nm : ByteArray) (n tk tn : Int) (tp : Fo) (fr en : Int) (w : World) (o1 : Option Addr) (l1 c1 : Nat) (o2 : Option Addr) (l2 c2 : Nat) (hw : wfI n)
    (SC : SndC ⟨6, nm, n, tk, tn, tp, fr, en⟩ (w.alloc (.cells (cells9 ⟨6, nm, n, tk, tn, tp, fr, en⟩ o1 l1 c1 o2 l2 c2) 30)) o1 l1 c1 o2 l2 c2 w.heap.size) :
    Calls Tryd.prog 43 #[tmv ⟨6, nm, n, tk, tn, tp, fr, en⟩ o1 l1 c1 o2 l2 c2] w fun e w' => e = .returned (.bool (soundB ⟨6, nm, n, tk, tn, tp, fr, en⟩ l2)) ∧ Quiet0 w w' := by
  have HSC := Lib.hid SC
  have HW := Lib.hid hw
  have HN : Hid (∀ W, Calls Tryd.prog 75 #[.int .i64 6] W fun e w' => e = .returned (.bool true) ∧ Quiet0 W w') := SC.named
  obtain ⟨W0, hW0⟩ : ∃ W0, W0 = w.alloc (.cells (cells9 ⟨6, nm, n, tk, tn, tp, fr, en⟩ o1 l1 c1 o2 l2 c2) 30) := ⟨_, rfl⟩
  have HQ0 : Hid (Quiet0 w W0) := by rw [hW0]; exact Quiet0.alloc _ _
  clear SC hw
  rw [← hW0] at HSC
  unfold tmv
  go_enter Tryd.func43, Tryd.ntmps43
  go_upto_region 1 with fail
  change Code.wp _ _ _ _ (w.alloc (.cells (cells9 ⟨6, nm, n, tk, tn, tp, fr, en⟩ o1 l1 c1 o2 l2 c2) 30))
  rw [← hW0]
  clear hW0
  generalize w.heap.size = B at *
  obtain ⟨x0, x1, x2, x3, x4, x5, x6, x7, x8⟩ := HSC.out.box W0 (Quiet0.refl _)
  dsimp only at x0 x1 x2 x3 x4 x5 x6 x7 x8
  go_quiet (fail)
  go_wp2_with fail
  refine (HN.out _).mono ?_; rintro e w1 ⟨rfl, hq1⟩
  have HQ1 : Hid (Quiet0 W0 w1) := Quiet0.trans (Fr.drewN _ _ _) hq1
  clear x0 x1 x2 x3 x4 x5 x6 x7 x8 hq1
  obtain ⟨x0, x1, x2, x3, x4, x5, x6, x7, x8⟩ := HSC.out.box w1 HQ1.out
  dsimp only at x0 x1 x2 x3 x4 x5 x6 x7 x8
  cases hA : Lx.nameB nm.data.toList
  · have HNM := Lib.hid HSC.out.name
    rw [hA] at HNM
    go_wp2_with fail
    refine (HNM.out _).mono ?_; rintro e w2 ⟨rfl, hq2⟩
    go_wp2_with fail
    go_ret
    exact ⟨by simp [soundB, namedB, kName, hA], HQ0.out.trans (HQ1.out.trans hq2)⟩
  · have HNM := Lib.hid HSC.out.name
    rw [hA] at HNM
    have HNA := Lib.hid hA
    clear hA
    go_wp2_with fail
    refine (HNM.out _).mono ?_; rintro e w2 ⟨rfl, hq2⟩
    have HQ2 := Lib.hid (HQ1.out.trans hq2)
    clear x0 x1 x2 x3 x4 x5 x6 x7 x8 hq2
    go_wp2_with fail
    refine (HN.out _).mono ?_; rintro e w3 ⟨rfl, hq3⟩
    have HQ3 := Lib.hid (HQ2.out.trans hq3)
    clear hq3
    obtain ⟨x0, x1, x2, x3, x4, x5, x6, x7, x8⟩ := HSC.out.box w3 HQ3.out
    dsimp only at x0 x1 x2 x3 x4 x5 x6 x7 x8
    have HSM := Lib.hid HSC.out.same
    cases hT : sameT tk tn tp 0 0 .nil
    · rw [hT] at HSM
      go_wp2_with fail
      refine (HSM.out _ HQ3.out).mono ?_; rintro e w4 ⟨rfl, hq4⟩
      go_wp2_with fail
      go_ret
      exact ⟨by simp [soundB, typedB, hT], HQ0.out.trans (HQ3.out.trans hq4)⟩
    · rw [hT] at HSM
      have HTY := Lib.hid hT
      clear hT
      go_wp2_with fail
      refine (HSM.out _ HQ3.out).mono ?_; rintro e w4 ⟨rfl, hq4⟩
      have HQ4 := Lib.hid (HQ3.out.trans hq4)
      clear x0 x1 x2 x3 x4 x5 x6 x7 x8 hq4
      obtain ⟨x0, x1, x2, x3, x4, x5, x6, x7, x8⟩ := HSC.out.box w4 HQ4.out
      dsimp only at x0 x1 x2 x3 x4 x5 x6 x7 x8
      by_cases hn : n < 0
      · go_wp2_with fail
        go_ret
        exact ⟨by simp [soundB]; omega, HQ0.out.trans HQ4.out⟩
      · by_cases ht : 0 < n
        · go_wp2_with fail
          go_ret
          exact ⟨by simp [soundB, kTop]; omega, HQ0.out.trans HQ4.out⟩
        · have hwn : n ≤ 9223372036854775807 := by have := HW.out; unfold wfI at this; simp only [Lit.wf, IntKind.min, IntKind.max, IntKind.signed, IntKind.bits, Bool.and_eq_true, decide_eq_true_eq, if_true] at this; omega
          go_wp2_with fail
          all_goals
            go_ret
            refine ⟨?_, HQ0.out.trans HQ4.out⟩
            have h1 := HNA.out
            have h2 := HTY.out
            refine congrArg (fun b => Ending.returned (Value.bool b)) ?_
            rw [Bool.eq_iff_iff]
            simp [soundB, namedB, typedB, kName, kTop, kLeast, kMost, h1, h2]
            omega
end Go.Proofs.YtnfodiedalhlhaaDoor
end
section
namespace Go.Proofs.YtnfodiedalhlhaaDoor
open Go.RowKit Go.Shelf
set_option maxHeartbeats 4000000 in
set_option maxRecDepth 100000 in
theorem refSound_7 (nm : ByteArray) (n tk tn : Int) (tp : Fo) (fr en : Int) (w : World) (o1 : Option Addr) (l1 c1 : Nat) (o2 : Option Addr) (l2 c2 : Nat) (hw : wfI n)
    (SC : SndC ⟨7, nm, n, tk, tn, tp, fr, en⟩ (w.alloc (.cells (cells9 ⟨7, nm, n, tk, tn, tp, fr, en⟩ o1 l1 c1 o2 l2 c2) 30)) o1 l1 c1 o2 l2 c2 w.heap.size) :
    Calls Tryd.prog 43 #[tmv ⟨7, nm, n, tk, tn, tp, fr, en⟩ o1 l1 c1 o2 l2 c2] w fun e w' => e = .returned (.bool (soundB ⟨7, nm, n, tk, tn, tp, fr, en⟩ l2)) ∧ Quiet0 w w' := by
  have HSC := Lib.hid SC
  have HW := Lib.hid hw
  have HN : Hid (∀ W, Calls Tryd.prog 75 #[.int .i64 7] W fun e w' => e = .returned (.bool true) ∧ Quiet0 W w') := SC.named
  obtain ⟨W0, hW0⟩ : ∃ W0, W0 = w.alloc (.cells (cells9 ⟨7, nm, n, tk, tn, tp, fr, en⟩ o1 l1 c1 o2 l2 c2) 30) := ⟨_, rfl⟩
  have HQ0 : Hid (Quiet0 w W0) := by rw [hW0]; exact Quiet0.alloc _ _
  clear SC hw
  rw [← hW0] at HSC
  unfold tmv
  go_enter Tryd.func43, Tryd.ntmps43
  go_upto_region 1 with fail
  change Code.wp _ _ _ _ (w.alloc (.cells (cells9 ⟨7, nm, n, tk, tn, tp, fr, en⟩ o1 l1 c1 o2 l2 c2) 30))
  rw [← hW0]
  clear hW0
  generalize w.heap.size = B at *
  obtain ⟨x0, x1, x2, x3, x4, x5, x6, x7, x8⟩ := HSC.out.box W0 (Quiet0.refl _)
  dsimp only at x0 x1 x2 x3 x4 x5 x6 x7 x8
  go_quiet (fail)
  go_wp2_with fail
  refine (HN.out _).mono ?_; rintro e w1 ⟨rfl, hq1⟩
  have HQ1 : Hid (Quiet0 W0 w1) := Quiet0.trans (Fr.drewN _ _ _) hq1
  clear x0 x1 x2 x3 x4 x5 x6 x7 x8 hq1
  obtain ⟨x0, x1, x2, x3, x4, x5, x6, x7, x8⟩ := HSC.out.box w1 HQ1.out
  dsimp only at x0 x1 x2 x3 x4 x5 x6 x7 x8
  cases hA : Lx.nameB nm.data.toList
  · have HNM := Lib.hid HSC.out.name
    rw [hA] at HNM
    go_wp2_with fail
    refine (HNM.out _).mono ?_; rintro e w2 ⟨rfl, hq2⟩
    go_wp2_with fail
    go_ret
    exact ⟨by simp [soundB, namedB, kName, hA], HQ0.out.trans (HQ1.out.trans hq2)⟩
  · have HNM := Lib.hid HSC.out.name
    rw [hA] at HNM
    have HNA := Lib.hid hA
    clear hA
    go_wp2_with fail
    refine (HNM.out _).mono ?_; rintro e w2 ⟨rfl, hq2⟩
    have HQ2 := Lib.hid (HQ1.out.trans hq2)
    clear x0 x1 x2 x3 x4 x5 x6 x7 x8 hq2
    go_wp2_with fail
    refine (HN.out _).mono ?_; rintro e w3 ⟨rfl, hq3⟩
    have HQ3 := Lib.hid (HQ2.out.trans hq3)
    clear hq3
    obtain ⟨x0, x1, x2, x3, x4, x5, x6, x7, x8⟩ := HSC.out.box w3 HQ3.out
    dsimp only at x0 x1 x2 x3 x4 x5 x6 x7 x8
    have HSM := Lib.hid HSC.out.same
    cases hT : sameT tk tn tp 0 0 .nil
    · rw [hT] at HSM
      go_wp2_with fail
      refine (HSM.out _ HQ3.out).mono ?_; rintro e w4 ⟨rfl, hq4⟩
      go_wp2_with fail
      go_ret
      exact ⟨by simp [soundB, typedB, hT], HQ0.out.trans (HQ3.out.trans hq4)⟩
    · rw [hT] at HSM
      have HTY := Lib.hid hT
      clear hT
      go_wp2_with fail
      refine (HSM.out _ HQ3.out).mono ?_; rintro e w4 ⟨rfl, hq4⟩
      have HQ4 := Lib.hid (HQ3.out.trans hq4)
      clear x0 x1 x2 x3 x4 x5 x6 x7 x8 hq4
      obtain ⟨x0, x1, x2, x3, x4, x5, x6, x7, x8⟩ := HSC.out.box w4 HQ4.out
      dsimp only at x0 x1 x2 x3 x4 x5 x6 x7 x8
      by_cases hn : n < 0
      · go_wp2_with fail
        go_ret
        exact ⟨by simp [soundB]; omega, HQ0.out.trans HQ4.out⟩
      · by_cases ht : 0 < n
        · go_wp2_with fail
          go_ret
          exact ⟨by simp [soundB, kTop]; omega, HQ0.out.trans HQ4.out⟩
        · have hwn : n ≤ 9223372036854775807 := by have := HW.out; unfold wfI at this; simp only [Lit.wf, IntKind.min, IntKind.max, IntKind.signed, IntKind.bits, Bool.and_eq_true, decide_eq_true_eq, if_true] at this; omega
          go_wp2_with fail
          all_goals
            go_ret
            refine ⟨?_, HQ0.out.trans HQ4.out⟩
            have h1 := HNA.out
            have h2 := HTY.out
            refine congrArg (fun b => Ending.returned (Value.bool b)) ?_
            rw [Bool.eq_iff_iff]
            simp [soundB, namedB, typedB, kName, kTop, kLeast, kMost, h1, h2]
            omega
end Go.Proofs.YtnfodiedalhlhaaDoor
end
section
namespace Go.Proofs.YtnfodiedalhlhaaDoor
open Go.RowKit Go.Shelf
set_option maxHeartbeats 4000000 in
set_option maxRecDepth 100000 in
theorem refSound_8 (nm : ByteArray) (n tk tn : Int) (tp : Fo) (fr en : Int) (w : World) (o1 : Option Addr) (l1 c1 : Nat) (o2 : Option Addr) (l2 c2 : Nat) (hw : wfI n)
    (SC : SndC ⟨8, nm, n, tk, tn, tp, fr, en⟩ (w.alloc (.cells (cells9 ⟨8, nm, n, tk, tn, tp, fr, en⟩ o1 l1 c1 o2 l2 c2) 30)) o1 l1 c1 o2 l2 c2 w.heap.size) :
    Calls Tryd.prog 43 #[tmv ⟨8, nm, n, tk, tn, tp, fr, en⟩ o1 l1 c1 o2 l2 c2] w fun e w' => e = .returned (.bool (soundB ⟨8, nm, n, tk, tn, tp, fr, en⟩ l2)) ∧ Quiet0 w w' := by
  have HSC := Lib.hid SC
  have HW := Lib.hid hw
  have HN : Hid (∀ W, Calls Tryd.prog 75 #[.int .i64 8] W fun e w' => e = .returned (.bool false) ∧ Quiet0 W w') := SC.named
  obtain ⟨W0, hW0⟩ : ∃ W0, W0 = w.alloc (.cells (cells9 ⟨8, nm, n, tk, tn, tp, fr, en⟩ o1 l1 c1 o2 l2 c2) 30) := ⟨_, rfl⟩
  have HQ0 : Hid (Quiet0 w W0) := by rw [hW0]; exact Quiet0.alloc _ _
  clear SC hw
  rw [← hW0] at HSC
  unfold tmv
  go_enter Tryd.func43, Tryd.ntmps43
  go_upto_region 1 with fail
  change Code.wp _ _ _ _ (w.alloc (.cells (cells9 ⟨8, nm, n, tk, tn, tp, fr, en⟩ o1 l1 c1 o2 l2 c2) 30))
  rw [← hW0]
  clear hW0
  generalize w.heap.size = B at *
  obtain ⟨x0, x1, x2, x3, x4, x5, x6, x7, x8⟩ := HSC.out.box W0 (Quiet0.refl _)
  dsimp only at x0 x1 x2 x3 x4 x5 x6 x7 x8
  go_quiet (fail)
  go_wp2_with fail
  refine (HN.out _).mono ?_; rintro e w1 ⟨rfl, hq1⟩
  have HQ1 : Hid (Quiet0 W0 w1) := Quiet0.trans (Fr.drewN _ _ _) hq1
  clear x0 x1 x2 x3 x4 x5 x6 x7 x8 hq1
  obtain ⟨x0, x1, x2, x3, x4, x5, x6, x7, x8⟩ := HSC.out.box w1 HQ1.out
  dsimp only at x0 x1 x2 x3 x4 x5 x6 x7 x8
  go_wp2_with fail
  refine (HN.out _).mono ?_; rintro e w3 ⟨rfl, hq3⟩
  have HQ3 := Lib.hid (HQ1.out.trans hq3)
  clear x0 x1 x2 x3 x4 x5 x6 x7 x8 hq3
  obtain ⟨x0, x1, x2, x3, x4, x5, x6, x7, x8⟩ := HSC.out.box w3 HQ3.out
  dsimp only at x0 x1 x2 x3 x4 x5 x6 x7 x8
  cases hA : nm.toList.isEmpty
  · have e3 : nm.toList.isEmpty = false := hA
    go_wp2_with fail
    go_ret
    exact ⟨by simp [soundB, namedB, kName, hA], HQ0.out.trans HQ3.out⟩
  · have e3 : nm.toList.isEmpty = true := hA
    have HNA := Lib.hid hA
    clear hA
    have HSM := Lib.hid HSC.out.same
    cases hT : sameT tk tn tp 0 0 .nil
    · rw [hT] at HSM
      go_wp2_with fail
      refine (HSM.out _ HQ3.out).mono ?_; rintro e w4 ⟨rfl, hq4⟩
      go_wp2_with fail
      go_ret
      exact ⟨by simp [soundB, typedB, hT], HQ0.out.trans (HQ3.out.trans hq4)⟩
    · rw [hT] at HSM
      have HTY := Lib.hid hT
      clear hT
      go_wp2_with fail
      refine (HSM.out _ HQ3.out).mono ?_; rintro e w4 ⟨rfl, hq4⟩
      have HQ4 := Lib.hid (HQ3.out.trans hq4)
      clear x0 x1 x2 x3 x4 x5 x6 x7 x8 hq4
      obtain ⟨x0, x1, x2, x3, x4, x5, x6, x7, x8⟩ := HSC.out.box w4 HQ4.out
      dsimp only at x0 x1 x2 x3 x4 x5 x6 x7 x8
      by_cases hn : n < 0
      · go_wp2_with fail
        go_ret
        exact ⟨by simp [soundB]; omega, HQ0.out.trans HQ4.out⟩
      · by_cases ht : 0 < n
        · go_wp2_with fail
          go_ret
          exact ⟨by simp [soundB, kTop]; omega, HQ0.out.trans HQ4.out⟩
        · have hwn : n ≤ 9223372036854775807 := by have := HW.out; unfold wfI at this; simp only [Lit.wf, IntKind.min, IntKind.max, IntKind.signed, IntKind.bits, Bool.and_eq_true, decide_eq_true_eq, if_true] at this; omega
          go_wp2_with fail
          all_goals
            go_ret
            refine ⟨?_, HQ0.out.trans HQ4.out⟩
            have h1 := HNA.out
            have h2 := HTY.out
            refine congrArg (fun b => Ending.returned (Value.bool b)) ?_
            rw [Bool.eq_iff_iff]
            simp [soundB, namedB, typedB, kName, kTop, kLeast, kMost, h1, h2]
            omega
end Go.Proofs.YtnfodiedalhlhaaDoor
end
section
namespace Go.Proofs.YtnfodiedalhlhaaDoor
open Go.RowKit Go.Shelf
set_option maxHeartbeats 4000000 in
set_option maxRecDepth 100000 in
theorem refSound_9 (nm : ByteArray) (n tk tn : Int) (tp : Fo) (fr en : Int) (w : World) (o1 : Option Addr) (l1 c1 : Nat) (o2 : Option Addr) (l2 c2 : Nat) (hw : wfI n)
    (SC : SndC ⟨9, nm, n, tk, tn, tp, fr, en⟩ (w.alloc (.cells (cells9 ⟨9, nm, n, tk, tn, tp, fr, en⟩ o1 l1 c1 o2 l2 c2) 30)) o1 l1 c1 o2 l2 c2 w.heap.size) :
    Calls Tryd.prog 43 #[tmv ⟨9, nm, n, tk, tn, tp, fr, en⟩ o1 l1 c1 o2 l2 c2] w fun e w' => e = .returned (.bool (soundB ⟨9, nm, n, tk, tn, tp, fr, en⟩ l2)) ∧ Quiet0 w w' := by
  have HSC := Lib.hid SC
  have HW := Lib.hid hw
  have HN : Hid (∀ W, Calls Tryd.prog 75 #[.int .i64 9] W fun e w' => e = .returned (.bool false) ∧ Quiet0 W w') := SC.named
  obtain ⟨W0, hW0⟩ : ∃ W0, W0 = w.alloc (.cells (cells9 ⟨9, nm, n, tk, tn, tp, fr, en⟩ o1 l1 c1 o2 l2 c2) 30) := ⟨_, rfl⟩
  have HQ0 : Hid (Quiet0 w W0) := by rw [hW0]; exact Quiet0.alloc _ _
  clear SC hw
  rw [← hW0] at HSC
  unfold tmv
  go_enter Tryd.func43, Tryd.ntmps43
  go_upto_region 1 with fail
  change Code.wp _ _ _ _ (w.alloc (.cells (cells9 ⟨9, nm, n, tk, tn, tp, fr, en⟩ o1 l1 c1 o2 l2 c2) 30))
  rw [← hW0]
  clear hW0
  generalize w.heap.size = B at *
  obtain ⟨x0, x1, x2, x3, x4, x5, x6, x7, x8⟩ := HSC.out.box W0 (Quiet0.refl _)
  dsimp only at x0 x1 x2 x3 x4 x5 x6 x7 x8
  go_quiet (fail)
  go_wp2_with fail
  refine (HN.out _).mono ?_; rintro e w1 ⟨rfl, hq1⟩
  have HQ1 : Hid (Quiet0 W0 w1) := Quiet0.trans (Fr.drewN _ _ _) hq1
  clear x0 x1 x2 x3 x4 x5 x6 x7 x8 hq1
  obtain ⟨x0, x1, x2, x3, x4, x5, x6, x7, x8⟩ := HSC.out.box w1 HQ1.out
  dsimp only at x0 x1 x2 x3 x4 x5 x6 x7 x8
  go_wp2_with fail
  refine (HN.out _).mono ?_; rintro e w3 ⟨rfl, hq3⟩
  have HQ3 := Lib.hid (HQ1.out.trans hq3)
  clear x0 x1 x2 x3 x4 x5 x6 x7 x8 hq3
  obtain ⟨x0, x1, x2, x3, x4, x5, x6, x7, x8⟩ := HSC.out.box w3 HQ3.out
  dsimp only at x0 x1 x2 x3 x4 x5 x6 x7 x8
  cases hA : nm.toList.isEmpty
  · have e3 : nm.toList.isEmpty = false := hA
    go_wp2_with fail
    go_ret
    exact ⟨by simp [soundB, namedB, kName, hA], HQ0.out.trans HQ3.out⟩
  · have e3 : nm.toList.isEmpty = true := hA
    have HNA := Lib.hid hA
    clear hA
    have HSM := Lib.hid HSC.out.same
    cases hT : sameT tk tn tp 0 0 .nil
    · rw [hT] at HSM
      go_wp2_with fail
      refine (HSM.out _ HQ3.out).mono ?_; rintro e w4 ⟨rfl, hq4⟩
      go_wp2_with fail
      go_ret
      exact ⟨by simp [soundB, typedB, hT], HQ0.out.trans (HQ3.out.trans hq4)⟩
    · rw [hT] at HSM
      have HTY := Lib.hid hT
      clear hT
      go_wp2_with fail
      refine (HSM.out _ HQ3.out).mono ?_; rintro e w4 ⟨rfl, hq4⟩
      have HQ4 := Lib.hid (HQ3.out.trans hq4)
      clear x0 x1 x2 x3 x4 x5 x6 x7 x8 hq4
      obtain ⟨x0, x1, x2, x3, x4, x5, x6, x7, x8⟩ := HSC.out.box w4 HQ4.out
      dsimp only at x0 x1 x2 x3 x4 x5 x6 x7 x8
      by_cases hn : n < 0
      · go_wp2_with fail
        go_ret
        exact ⟨by simp [soundB]; omega, HQ0.out.trans HQ4.out⟩
      · by_cases ht : 0 < n
        · go_wp2_with fail
          go_ret
          exact ⟨by simp [soundB, kTop]; omega, HQ0.out.trans HQ4.out⟩
        · have hwn : n ≤ 9223372036854775807 := by have := HW.out; unfold wfI at this; simp only [Lit.wf, IntKind.min, IntKind.max, IntKind.signed, IntKind.bits, Bool.and_eq_true, decide_eq_true_eq, if_true] at this; omega
          go_wp2_with fail
          all_goals
            go_ret
            refine ⟨?_, HQ0.out.trans HQ4.out⟩
            have h1 := HNA.out
            have h2 := HTY.out
            refine congrArg (fun b => Ending.returned (Value.bool b)) ?_
            rw [Bool.eq_iff_iff]
            simp [soundB, namedB, typedB, kName, kTop, kLeast, kMost, h1, h2]
            omega
end Go.Proofs.YtnfodiedalhlhaaDoor
end
section
namespace Go.Proofs.YtnfodiedalhlhaaDoor
open Go.RowKit Go.Shelf
set_option maxHeartbeats 4000000 in
set_option maxRecDepth 100000 in
theorem refSound_10 (nm : ByteArray) (n tk tn : Int) (tp : Fo) (fr en : Int) (w : World) (o1 : Option Addr) (l1 c1 : Nat) (o2 : Option Addr) (l2 c2 : Nat) (hw : wfI n)
    (SC : SndC ⟨10, nm, n, tk, tn, tp, fr, en⟩ (w.alloc (.cells (cells9 ⟨10, nm, n, tk, tn, tp, fr, en⟩ o1 l1 c1 o2 l2 c2) 30)) o1 l1 c1 o2 l2 c2 w.heap.size) :
    Calls Tryd.prog 43 #[tmv ⟨10, nm, n, tk, tn, tp, fr, en⟩ o1 l1 c1 o2 l2 c2] w fun e w' => e = .returned (.bool (soundB ⟨10, nm, n, tk, tn, tp, fr, en⟩ l2)) ∧ Quiet0 w w' := by
  have HSC := Lib.hid SC
  have HW := Lib.hid hw
  have HN : Hid (∀ W, Calls Tryd.prog 75 #[.int .i64 10] W fun e w' => e = .returned (.bool false) ∧ Quiet0 W w') := SC.named
  obtain ⟨W0, hW0⟩ : ∃ W0, W0 = w.alloc (.cells (cells9 ⟨10, nm, n, tk, tn, tp, fr, en⟩ o1 l1 c1 o2 l2 c2) 30) := ⟨_, rfl⟩
  have HQ0 : Hid (Quiet0 w W0) := by rw [hW0]; exact Quiet0.alloc _ _
  clear SC hw
  rw [← hW0] at HSC
  unfold tmv
  go_enter Tryd.func43, Tryd.ntmps43
  go_upto_region 1 with fail
  change Code.wp _ _ _ _ (w.alloc (.cells (cells9 ⟨10, nm, n, tk, tn, tp, fr, en⟩ o1 l1 c1 o2 l2 c2) 30))
  rw [← hW0]
  clear hW0
  generalize w.heap.size = B at *
  obtain ⟨x0, x1, x2, x3, x4, x5, x6, x7, x8⟩ := HSC.out.box W0 (Quiet0.refl _)
  dsimp only at x0 x1 x2 x3 x4 x5 x6 x7 x8
  go_quiet (fail)
  go_wp2_with fail
  refine (HN.out _).mono ?_; rintro e w1 ⟨rfl, hq1⟩
  have HQ1 : Hid (Quiet0 W0 w1) := Quiet0.trans (Fr.drewN _ _ _) hq1
  clear x0 x1 x2 x3 x4 x5 x6 x7 x8 hq1
  obtain ⟨x0, x1, x2, x3, x4, x5, x6, x7, x8⟩ := HSC.out.box w1 HQ1.out
  dsimp only at x0 x1 x2 x3 x4 x5 x6 x7 x8
  go_wp2_with fail
  refine (HN.out _).mono ?_; rintro e w3 ⟨rfl, hq3⟩
  have HQ3 := Lib.hid (HQ1.out.trans hq3)
  clear x0 x1 x2 x3 x4 x5 x6 x7 x8 hq3
  obtain ⟨x0, x1, x2, x3, x4, x5, x6, x7, x8⟩ := HSC.out.box w3 HQ3.out
  dsimp only at x0 x1 x2 x3 x4 x5 x6 x7 x8
  cases hA : nm.toList.isEmpty
  · have e3 : nm.toList.isEmpty = false := hA
    go_wp2_with fail
    go_ret
    exact ⟨by simp [soundB, namedB, kName, hA], HQ0.out.trans HQ3.out⟩
  · have e3 : nm.toList.isEmpty = true := hA
    have HNA := Lib.hid hA
    clear hA
    have HRI := Lib.hid HSC.out.right
    have HVA := Lib.hid HSC.out.vars
    cases hT : rightT tk tn tp
    · rw [hT] at HRI
      go_wp2_with fail
      refine (HRI.out _ HQ3.out).mono ?_; rintro e w4 ⟨rfl, hq4⟩
      go_wp2_with fail
      go_ret
      exact ⟨by simp [soundB, typedB, closedT, hT], HQ0.out.trans (HQ3.out.trans hq4)⟩
    · rw [hT] at HRI
      have HRT := Lib.hid hT
      clear hT
      obtain ⟨L, hL⟩ : ∃ L, Fo.vars [] (.cons tk tn tp .nil) = L := ⟨_, rfl⟩
      dsimp only at HVA
      rw [hL] at HVA
      go_wp2_with fail
      refine (HRI.out _ HQ3.out).mono ?_; rintro e w4 ⟨rfl, hq4⟩
      have HQ4 := Lib.hid (HQ3.out.trans hq4)
      clear x0 x1 x2 x3 x4 x5 x6 x7 x8 hq4
      obtain ⟨x0, x1, x2, x3, x4, x5, x6, x7, x8⟩ := HSC.out.box w4 HQ4.out
      dsimp only at x0 x1 x2 x3 x4 x5 x6 x7 x8
      by_cases hl : L.length = 0
      · have hl' : ¬ (0 : Int) < (L.length : Int) := by omega
        have HTY : Hid ((rightT tk tn tp && (Fo.vars [] (.cons tk tn tp .nil)).isEmpty) = true) := by
          show _ = _
          rw [HRT.out, hL, List.eq_nil_of_length_eq_zero hl]; rfl
        clear hL
        go_wp2_with fail
        refine (HVA.out _ HQ4.out).mono ?_; rintro e w5 ⟨va, vc, rfl, hq5⟩
        have HQ5 := Lib.hid (HQ4.out.trans hq5)
        clear x0 x1 x2 x3 x4 x5 x6 x7 x8 hq5
        obtain ⟨x0, x1, x2, x3, x4, x5, x6, x7, x8⟩ := HSC.out.box w5 HQ5.out
        dsimp only at x0 x1 x2 x3 x4 x5 x6 x7 x8
        by_cases hn : n < 0
        · go_wp2_with fail
          go_ret
          exact ⟨by simp [soundB]; omega, HQ0.out.trans HQ5.out⟩
        · by_cases ht : 0 < n
          · go_wp2_with fail
            go_ret
            exact ⟨by simp [soundB, kTop]; omega, HQ0.out.trans HQ5.out⟩
          · have hwn : n ≤ 9223372036854775807 := by have := HW.out; unfold wfI at this; simp only [Lit.wf, IntKind.min, IntKind.max, IntKind.signed, IntKind.bits, Bool.and_eq_true, decide_eq_true_eq, if_true] at this; omega
            go_wp2_with fail
            all_goals
              go_ret
              refine ⟨?_, HQ0.out.trans HQ5.out⟩
              have h1 := HNA.out
              have h2 := HTY.out
              refine congrArg (fun b => Ending.returned (Value.bool b)) ?_
              rw [Bool.eq_iff_iff]
              simp [soundB, namedB, typedB, closedT, kName, kTop, kLeast, kMost, h1, h2]
              omega
      · have hl' : (0 : Int) < (L.length : Int) := by omega
        have hLE : L.isEmpty = false := by cases L <;> simp at hl ⊢
        have HLL := Lib.hid hL
        clear hL
        go_wp2_with fail
        refine (HVA.out _ HQ4.out).mono ?_; rintro e w5 ⟨va, vc, rfl, hq5⟩
        go_wp2_with fail
        go_ret
        have hL := HLL.out
        exact ⟨by simp [soundB, typedB, closedT, hL, hLE], HQ0.out.trans (HQ4.out.trans hq5)⟩
end Go.Proofs.YtnfodiedalhlhaaDoor
end
section
namespace Go.Proofs.YtnfodiedalhlhaaDoor
open Go.RowKit Go.Shelf
set_option maxHeartbeats 4000000 in
set_option maxRecDepth 100000 in
theorem refSound_lo (k : Int) (hk : k < 1) (nm : ByteArray) (n tk tn : Int) (tp : Fo) (fr en : Int) (w : World) (o1 : Option Addr) (l1 c1 : Nat) (o2 : Option Addr) (l2 c2 : Nat)
    (SC : SndC ⟨k, nm, n, tk, tn, tp, fr, en⟩ (w.alloc (.cells (cells9 ⟨k, nm, n, tk, tn, tp, fr, en⟩ o1 l1 c1 o2 l2 c2) 30)) o1 l1 c1 o2 l2 c2 w.heap.size) :
    Calls Tryd.prog 43 #[tmv ⟨k, nm, n, tk, tn, tp, fr, en⟩ o1 l1 c1 o2 l2 c2] w fun e w' => e = .returned (.bool (soundB ⟨k, nm, n, tk, tn, tp, fr, en⟩ l2)) ∧ Quiet0 w w' := by
  have HSC := Lib.hid SC
  have e : soundB ⟨k, nm, n, tk, tn, tp, fr, en⟩ l2 = false := by
    unfold soundB
    simp
    omega
  rw [e]
  clear e
  have b1 : (k == 1) = false := by simp; omega
  have b2 : (k == 2) = false := by simp; omega
  have b3 : (k == 3) = false := by simp; omega
  have b4 : (k == 4) = false := by simp; omega
  have b5 : (k == 5) = false := by simp; omega
  have b6 : (k == 6) = false := by simp; omega
  have b7 : (k == 7) = false := by simp; omega
  have b8 : (k == 8) = false := by simp; omega
  have b9 : (k == 9) = false := by simp; omega
  have b10 : (k == 10) = false := by simp; omega
  have b3' : ¬ (3 : Int) < k := by omega
  have HN : Hid (∀ W, Calls Tryd.prog 75 #[.int .i64 k] W fun e w' => e = .returned (.bool false) ∧ Quiet0 W w') := by
    have h := SC.named
    have e : kName k = false := by unfold kName; rw [b1, b4, b6, b7]; rfl
    dsimp only at h
    rw [e] at h
    exact h
  obtain ⟨W0, hW0⟩ : ∃ W0, W0 = w.alloc (.cells (cells9 ⟨k, nm, n, tk, tn, tp, fr, en⟩ o1 l1 c1 o2 l2 c2) 30) := ⟨_, rfl⟩
  have HQ0 : Hid (Quiet0 w W0) := by rw [hW0]; exact Quiet0.alloc _ _
  clear SC
  rw [← hW0] at HSC
  unfold tmv
  go_enter Tryd.func43, Tryd.ntmps43
  go_upto_region 1 with fail
  change Code.wp _ _ _ _ (w.alloc (.cells (cells9 ⟨k, nm, n, tk, tn, tp, fr, en⟩ o1 l1 c1 o2 l2 c2) 30))
  rw [← hW0]
  clear hW0
  generalize w.heap.size = B at *
  obtain ⟨x0, x1, x2, x3, x4, x5, x6, x7, x8⟩ := HSC.out.box W0 (Quiet0.refl _)
  dsimp only at x0 x1 x2 x3 x4 x5 x6 x7 x8
  go_quiet (fail)
  go_wp2_with fail
  refine (HN.out _).mono ?_; rintro e w1 ⟨rfl, hq1⟩
  have HQ1 : Hid (Quiet0 W0 w1) := Quiet0.trans (Fr.drewN _ _ _) hq1
  clear x0 x1 x2 x3 x4 x5 x6 x7 x8 hq1
  obtain ⟨x0, x1, x2, x3, x4, x5, x6, x7, x8⟩ := HSC.out.box w1 HQ1.out
  dsimp only at x0 x1 x2 x3 x4 x5 x6 x7 x8
  go_wp2_with fail
  refine (HN.out _).mono ?_; rintro e w3 ⟨rfl, hq3⟩
  have HQ3 := Lib.hid (HQ1.out.trans hq3)
  clear x0 x1 x2 x3 x4 x5 x6 x7 x8 hq3
  obtain ⟨x0, x1, x2, x3, x4, x5, x6, x7, x8⟩ := HSC.out.box w3 HQ3.out
  dsimp only at x0 x1 x2 x3 x4 x5 x6 x7 x8
  cases hA : nm.toList.isEmpty
  · have e3 : nm.toList.isEmpty = false := hA
    go_wp2_with fail
    go_ret
    exact ⟨rfl, HQ0.out.trans HQ3.out⟩
  · have e3 : nm.toList.isEmpty = true := hA
    clear hA
    have HSM := Lib.hid HSC.out.same
    cases hT : sameT tk tn tp 0 0 .nil
    · rw [hT] at HSM
      go_wp2_with fail
      refine (HSM.out _ HQ3.out).mono ?_; rintro e w4 ⟨rfl, hq4⟩
      go_wp2_with fail
      go_ret
      exact ⟨rfl, HQ0.out.trans (HQ3.out.trans hq4)⟩
    · rw [hT] at HSM
      clear hT
      go_wp2_with fail
      refine (HSM.out _ HQ3.out).mono ?_; rintro e w4 ⟨rfl, hq4⟩
      have HQ4 := Lib.hid (HQ3.out.trans hq4)
      clear x0 x1 x2 x3 x4 x5 x6 x7 x8 hq4
      obtain ⟨x0, x1, x2, x3, x4, x5, x6, x7, x8⟩ := HSC.out.box w4 HQ4.out
      dsimp only at x0 x1 x2 x3 x4 x5 x6 x7 x8
      by_cases hn : n < 0
      · go_wp2_with fail
        go_ret
        exact ⟨rfl, HQ0.out.trans HQ4.out⟩
      · by_cases ht : 0 < n
        · go_wp2_with fail
          go_ret
          exact ⟨rfl, HQ0.out.trans HQ4.out⟩
        · go_wp2_with fail
          go_ret
          exact ⟨rfl, HQ0.out.trans HQ4.out⟩
end Go.Proofs.YtnfodiedalhlhaaDoor
end
section
namespace Go.Proofs.YtnfodiedalhlhaaDoor
open Go.RowKit Go.Shelf
set_option maxHeartbeats 4000000 in
set_option maxRecDepth 100000 in
theorem refSound_hi (k : Int) (hk : 10 < k) (nm : ByteArray) (n tk tn : Int) (tp : Fo) (fr en : Int) (w : World) (o1 : Option Addr) (l1 c1 : Nat) (o2 : Option Addr) (l2 c2 : Nat)
    (SC : SndC ⟨k, nm, n, tk, tn, tp, fr, en⟩ (w.alloc (.cells (cells9 ⟨k, nm, n, tk, tn, tp, fr, en⟩ o1 l1 c1 o2 l2 c2) 30)) o1 l1 c1 o2 l2 c2 w.heap.size) :
    Calls Tryd.prog 43 #[tmv ⟨k, nm, n, tk, tn, tp, fr, en⟩ o1 l1 c1 o2 l2 c2] w fun e w' => e = .returned (.bool (soundB ⟨k, nm, n, tk, tn, tp, fr, en⟩ l2)) ∧ Quiet0 w w' := by
  have HSC := Lib.hid SC
  have e : soundB ⟨k, nm, n, tk, tn, tp, fr, en⟩ l2 = false := by
    unfold soundB
    simp
    omega
  rw [e]
  clear e
  have b1 : (k == 1) = false := by simp; omega
  have b2 : (k == 2) = false := by simp; omega
  have b3 : (k == 3) = false := by simp; omega
  have b4 : (k == 4) = false := by simp; omega
  have b5 : (k == 5) = false := by simp; omega
  have b6 : (k == 6) = false := by simp; omega
  have b7 : (k == 7) = false := by simp; omega
  have b8 : (k == 8) = false := by simp; omega
  have b9 : (k == 9) = false := by simp; omega
  have b10 : (k == 10) = false := by simp; omega
  have b3' : (3 : Int) < k := by omega
  have HN : Hid (∀ W, Calls Tryd.prog 75 #[.int .i64 k] W fun e w' => e = .returned (.bool false) ∧ Quiet0 W w') := by
    have h := SC.named
    have e : kName k = false := by unfold kName; rw [b1, b4, b6, b7]; rfl
    dsimp only at h
    rw [e] at h
    exact h
  obtain ⟨W0, hW0⟩ : ∃ W0, W0 = w.alloc (.cells (cells9 ⟨k, nm, n, tk, tn, tp, fr, en⟩ o1 l1 c1 o2 l2 c2) 30) := ⟨_, rfl⟩
  have HQ0 : Hid (Quiet0 w W0) := by rw [hW0]; exact Quiet0.alloc _ _
  clear SC
  rw [← hW0] at HSC
  unfold tmv
  go_enter Tryd.func43, Tryd.ntmps43
  go_upto_region 1 with fail
  change Code.wp _ _ _ _ (w.alloc (.cells (cells9 ⟨k, nm, n, tk, tn, tp, fr, en⟩ o1 l1 c1 o2 l2 c2) 30))
  rw [← hW0]
  clear hW0
  generalize w.heap.size = B at *
  obtain ⟨x0, x1, x2, x3, x4, x5, x6, x7, x8⟩ := HSC.out.box W0 (Quiet0.refl _)
  dsimp only at x0 x1 x2 x3 x4 x5 x6 x7 x8
  go_quiet (fail)
  go_wp2_with fail
  refine (HN.out _).mono ?_; rintro e w1 ⟨rfl, hq1⟩
  have HQ1 : Hid (Quiet0 W0 w1) := Quiet0.trans (Fr.drewN _ _ _) hq1
  clear x0 x1 x2 x3 x4 x5 x6 x7 x8 hq1
  obtain ⟨x0, x1, x2, x3, x4, x5, x6, x7, x8⟩ := HSC.out.box w1 HQ1.out
  dsimp only at x0 x1 x2 x3 x4 x5 x6 x7 x8
  go_wp2_with fail
  refine (HN.out _).mono ?_; rintro e w3 ⟨rfl, hq3⟩
  have HQ3 := Lib.hid (HQ1.out.trans hq3)
  clear x0 x1 x2 x3 x4 x5 x6 x7 x8 hq3
  obtain ⟨x0, x1, x2, x3, x4, x5, x6, x7, x8⟩ := HSC.out.box w3 HQ3.out
  dsimp only at x0 x1 x2 x3 x4 x5 x6 x7 x8
  cases hA : nm.toList.isEmpty
  · have e3 : nm.toList.isEmpty = false := hA
    go_wp2_with fail
    go_ret
    exact ⟨rfl, HQ0.out.trans HQ3.out⟩
  · have e3 : nm.toList.isEmpty = true := hA
    clear hA
    have HSM := Lib.hid HSC.out.same
    cases hT : sameT tk tn tp 0 0 .nil
    · rw [hT] at HSM
      go_wp2_with fail
      refine (HSM.out _ HQ3.out).mono ?_; rintro e w4 ⟨rfl, hq4⟩
      go_wp2_with fail
      go_ret
      exact ⟨rfl, HQ0.out.trans (HQ3.out.trans hq4)⟩
    · rw [hT] at HSM
      clear hT
      go_wp2_with fail
      refine (HSM.out _ HQ3.out).mono ?_; rintro e w4 ⟨rfl, hq4⟩
      have HQ4 := Lib.hid (HQ3.out.trans hq4)
      clear x0 x1 x2 x3 x4 x5 x6 x7 x8 hq4
      obtain ⟨x0, x1, x2, x3, x4, x5, x6, x7, x8⟩ := HSC.out.box w4 HQ4.out
      dsimp only at x0 x1 x2 x3 x4 x5 x6 x7 x8
      by_cases hn : n < 0
      · go_wp2_with fail
        go_ret
        exact ⟨rfl, HQ0.out.trans HQ4.out⟩
      · by_cases ht : 0 < n
        · go_wp2_with fail
          go_ret
          exact ⟨rfl, HQ0.out.trans HQ4.out⟩
        · go_wp2_with fail
          go_ret
          exact ⟨rfl, HQ0.out.trans HQ4.out⟩
end Go.Proofs.YtnfodiedalhlhaaDoor
end
