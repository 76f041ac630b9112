/-
  Texts laid together (TeRSound10, TeRSoundlo, TeRSoundhi, TeRRight, TeRoom, Law, TyOpen, TeOpen): what each one proves, and its conditions, stands at its head.
-/
import Derived.ProofKit
import Derived.OpenShut
import Derived.Deep.Slices
import Derived.Test.YtdlcakmjihfgfaaGreatDoorRows
import Derived.Test.YtdlcakmjihfgfaaGreatDoorSB1
import Derived.Test.YtdlcakmjihfgfaaGreatDoorSB2
import Derived.Test.YtdlcakmjihfgfaaGreatDoorSB3
import Derived.Test.YtdlcakmjihfgfaaGreatDoorSB4
import Derived.Test.YtdlcakmjihfgfaaGreatDoorSB5
import Derived.Test.YtdlcakmjihfgfaaGreatDoorSB6
import Derived.Test.YtdlcakmjihfgfaaGreatDoorSB7
import Derived.Test.YtdlcakmjihfgfaaGreatDoorSB8
import Derived.Test.YtdlcakmjihfgfaaGreatDoorSB9
import Derived.Test.YtdlcakmjihfgfaaGreatDoorSB10
import Derived.Test.YtdlcakmjihfgfaaGreatDoorSB11
section
/-
  ref.sound of a head of kind 10. Conditions: its callees', in one hypothesis; the number is a Go int.
-/
namespace Go.Proofs.YtdlcakmjihfgfaaGreatDoor
open Go.RowKit Go.Shelf

set_option maxHeartbeats 4000000 in
set_option maxRecDepth 100000 in
theorem refSound_10 (nm : ByteArray) (n tk tn : Int) (tp : Fo) (fr en : Int) (w : World) (o1 : Option Addr) (l1 c1 : Nat) (o2 : Option Addr) (l2 c2 : Nat) (hw : wfI n)
    (SC : SndC ⟨10, nm, n, tk, tn, tp, fr, en⟩ (w.alloc (.cells (cells9 ⟨10, nm, n, tk, tn, tp, fr, en⟩ o1 l1 c1 o2 l2 c2) 29)) o1 l1 c1 o2 l2 c2 w.heap.size) :
    Calls Tryz.prog 16 #[tmv ⟨10, nm, n, tk, tn, tp, fr, en⟩ o1 l1 c1 o2 l2 c2] w fun e w' => e = .returned (.bool (soundB ⟨10, nm, n, tk, tn, tp, fr, en⟩ l2)) ∧ Quiet0 w w' := by
  have HSC := Lib.hid SC
  have HW := Lib.hid hw
  have HN : Hid (∀ W, Calls Tryz.prog 32 #[.int .i64 10] W fun e w' => e = .returned (.bool false) ∧ Quiet0 W w') := SC.named
  obtain ⟨W0, hW0⟩ : ∃ W0, W0 = w.alloc (.cells (cells9 ⟨10, nm, n, tk, tn, tp, fr, en⟩ o1 l1 c1 o2 l2 c2) 29) := ⟨_, rfl⟩
  have HQ0 : Hid (Quiet0 w W0) := by rw [hW0]; exact Quiet0.alloc _ _
  clear SC hw
  rw [← hW0] at HSC
  unfold tmv
  go_enter Tryz.func16, Tryz.ntmps16
  go_upto_region 1 with fail
  change Code.wp _ _ _ _ (w.alloc (.cells (cells9 ⟨10, nm, n, tk, tn, tp, fr, en⟩ o1 l1 c1 o2 l2 c2) 29))
  rw [← hW0]
  clear hW0
  generalize w.heap.size = B at *
  obtain ⟨x0, x1, x2, x3, x4, x5, x6, x7, x8⟩ := HSC.out.box W0 (Quiet0.refl _)
  dsimp only at x0 x1 x2 x3 x4 x5 x6 x7 x8
  go_quiet (fail)
  go_wp2_with fail
  refine (HN.out _).mono ?_; rintro e w1 ⟨rfl, hq1⟩
  have HQ1 : Hid (Quiet0 W0 w1) := Quiet0.trans (Fr.drewN _ _ _) hq1
  clear x0 x1 x2 x3 x4 x5 x6 x7 x8 hq1
  obtain ⟨x0, x1, x2, x3, x4, x5, x6, x7, x8⟩ := HSC.out.box w1 HQ1.out
  dsimp only at x0 x1 x2 x3 x4 x5 x6 x7 x8
  go_wp2_with fail
  refine (HN.out _).mono ?_; rintro e w3 ⟨rfl, hq3⟩
  have HQ3 := Lib.hid (HQ1.out.trans hq3)
  clear x0 x1 x2 x3 x4 x5 x6 x7 x8 hq3
  obtain ⟨x0, x1, x2, x3, x4, x5, x6, x7, x8⟩ := HSC.out.box w3 HQ3.out
  dsimp only at x0 x1 x2 x3 x4 x5 x6 x7 x8
  cases hA : nm.toList.isEmpty
  · have e3 : nm.toList.isEmpty = false := hA
    go_wp2_with fail
    go_ret
    exact ⟨by simp [soundB, namedB, kName, hA], HQ0.out.trans HQ3.out⟩
  · have e3 : nm.toList.isEmpty = true := hA
    have HNA := Lib.hid hA
    clear hA
    have HRI := Lib.hid HSC.out.right
    have HVA := Lib.hid HSC.out.vars
    cases hT : rightT tk tn tp
    · rw [hT] at HRI
      go_wp2_with fail
      refine (HRI.out _ HQ3.out).mono ?_; rintro e w4 ⟨rfl, hq4⟩
      go_wp2_with fail
      go_ret
      exact ⟨by simp [soundB, typedB, closedT, hT], HQ0.out.trans (HQ3.out.trans hq4)⟩
    · rw [hT] at HRI
      have HRT := Lib.hid hT
      clear hT
      obtain ⟨L, hL⟩ : ∃ L, Fo.vars [] (.cons tk tn tp .nil) = L := ⟨_, rfl⟩
      dsimp only at HVA
      rw [hL] at HVA
      go_wp2_with fail
      refine (HRI.out _ HQ3.out).mono ?_; rintro e w4 ⟨rfl, hq4⟩
      have HQ4 := Lib.hid (HQ3.out.trans hq4)
      clear x0 x1 x2 x3 x4 x5 x6 x7 x8 hq4
      obtain ⟨x0, x1, x2, x3, x4, x5, x6, x7, x8⟩ := HSC.out.box w4 HQ4.out
      dsimp only at x0 x1 x2 x3 x4 x5 x6 x7 x8
      by_cases hl : L.length = 0
      · have hl' : ¬ (0 : Int) < (L.length : Int) := by omega
        have HTY : Hid ((rightT tk tn tp && (Fo.vars [] (.cons tk tn tp .nil)).isEmpty) = true) := by
          show _ = _
          rw [HRT.out, hL, List.eq_nil_of_length_eq_zero hl]; rfl
        clear hL
        go_wp2_with fail
        refine (HVA.out _ HQ4.out).mono ?_; rintro e w5 ⟨va, vc, rfl, hq5⟩
        have HQ5 := Lib.hid (HQ4.out.trans hq5)
        clear x0 x1 x2 x3 x4 x5 x6 x7 x8 hq5
        obtain ⟨x0, x1, x2, x3, x4, x5, x6, x7, x8⟩ := HSC.out.box w5 HQ5.out
        dsimp only at x0 x1 x2 x3 x4 x5 x6 x7 x8
        by_cases hn : n < 0
        · go_wp2_with fail
          go_ret
          exact ⟨by simp [soundB]; omega, HQ0.out.trans HQ5.out⟩
        · by_cases ht : 0 < n
          · go_wp2_with fail
            go_ret
            exact ⟨by simp [soundB, kTop]; omega, HQ0.out.trans HQ5.out⟩
          · have hwn : n ≤ 9223372036854775807 := by have := HW.out; unfold wfI at this; simp only [Lit.wf, IntKind.min, IntKind.max, IntKind.signed, IntKind.bits, Bool.and_eq_true, decide_eq_true_eq, if_true] at this; omega
            go_wp2_with fail
            all_goals
              go_ret
              refine ⟨?_, HQ0.out.trans HQ5.out⟩
              have h1 := HNA.out
              have h2 := HTY.out
              refine congrArg (fun b => Ending.returned (Value.bool b)) ?_
              rw [Bool.eq_iff_iff]
              simp [soundB, namedB, typedB, closedT, kName, kTop, kLeast, kMost, h1, h2]
              omega
      · have hl' : (0 : Int) < (L.length : Int) := by omega
        have hLE : L.isEmpty = false := by cases L <;> simp at hl ⊢
        have HLL := Lib.hid hL
        clear hL
        go_wp2_with fail
        refine (HVA.out _ HQ4.out).mono ?_; rintro e w5 ⟨va, vc, rfl, hq5⟩
        go_wp2_with fail
        go_ret
        have hL := HLL.out
        exact ⟨by simp [soundB, typedB, closedT, hL, hLE], HQ0.out.trans (HQ4.out.trans hq5)⟩
end Go.Proofs.YtdlcakmjihfgfaaGreatDoor
end
section
/-
  ref.sound of a head of no kind. Conditions: its callees', in one hypothesis.
-/
namespace Go.Proofs.YtdlcakmjihfgfaaGreatDoor
open Go.RowKit Go.Shelf

set_option maxHeartbeats 4000000 in
set_option maxRecDepth 100000 in
theorem refSound_lo (k : Int) (hk : k < 1) (nm : ByteArray) (n tk tn : Int) (tp : Fo) (fr en : Int) (w : World) (o1 : Option Addr) (l1 c1 : Nat) (o2 : Option Addr) (l2 c2 : Nat)
    (SC : SndC ⟨k, nm, n, tk, tn, tp, fr, en⟩ (w.alloc (.cells (cells9 ⟨k, nm, n, tk, tn, tp, fr, en⟩ o1 l1 c1 o2 l2 c2) 29)) o1 l1 c1 o2 l2 c2 w.heap.size) :
    Calls Tryz.prog 16 #[tmv ⟨k, nm, n, tk, tn, tp, fr, en⟩ o1 l1 c1 o2 l2 c2] w fun e w' => e = .returned (.bool (soundB ⟨k, nm, n, tk, tn, tp, fr, en⟩ l2)) ∧ Quiet0 w w' := by
  have HSC := Lib.hid SC
  have e : soundB ⟨k, nm, n, tk, tn, tp, fr, en⟩ l2 = false := by
    unfold soundB
    simp
    omega
  rw [e]
  clear e
  have b1 : (k == 1) = false := by simp; omega
  have b2 : (k == 2) = false := by simp; omega
  have b3 : (k == 3) = false := by simp; omega
  have b4 : (k == 4) = false := by simp; omega
  have b5 : (k == 5) = false := by simp; omega
  have b6 : (k == 6) = false := by simp; omega
  have b7 : (k == 7) = false := by simp; omega
  have b8 : (k == 8) = false := by simp; omega
  have b9 : (k == 9) = false := by simp; omega
  have b10 : (k == 10) = false := by simp; omega
  have b3' : ¬ (3 : Int) < k := by omega
  have HN : Hid (∀ W, Calls Tryz.prog 32 #[.int .i64 k] W fun e w' => e = .returned (.bool false) ∧ Quiet0 W w') := by
    have h := SC.named
    have e : kName k = false := by unfold kName; rw [b1, b4, b6, b7]; rfl
    dsimp only at h
    rw [e] at h
    exact h
  obtain ⟨W0, hW0⟩ : ∃ W0, W0 = w.alloc (.cells (cells9 ⟨k, nm, n, tk, tn, tp, fr, en⟩ o1 l1 c1 o2 l2 c2) 29) := ⟨_, rfl⟩
  have HQ0 : Hid (Quiet0 w W0) := by rw [hW0]; exact Quiet0.alloc _ _
  clear SC
  rw [← hW0] at HSC
  unfold tmv
  go_enter Tryz.func16, Tryz.ntmps16
  go_upto_region 1 with fail
  change Code.wp _ _ _ _ (w.alloc (.cells (cells9 ⟨k, nm, n, tk, tn, tp, fr, en⟩ o1 l1 c1 o2 l2 c2) 29))
  rw [← hW0]
  clear hW0
  generalize w.heap.size = B at *
  obtain ⟨x0, x1, x2, x3, x4, x5, x6, x7, x8⟩ := HSC.out.box W0 (Quiet0.refl _)
  dsimp only at x0 x1 x2 x3 x4 x5 x6 x7 x8
  go_quiet (fail)
  go_wp2_with fail
  refine (HN.out _).mono ?_; rintro e w1 ⟨rfl, hq1⟩
  have HQ1 : Hid (Quiet0 W0 w1) := Quiet0.trans (Fr.drewN _ _ _) hq1
  clear x0 x1 x2 x3 x4 x5 x6 x7 x8 hq1
  obtain ⟨x0, x1, x2, x3, x4, x5, x6, x7, x8⟩ := HSC.out.box w1 HQ1.out
  dsimp only at x0 x1 x2 x3 x4 x5 x6 x7 x8
  go_wp2_with fail
  refine (HN.out _).mono ?_; rintro e w3 ⟨rfl, hq3⟩
  have HQ3 := Lib.hid (HQ1.out.trans hq3)
  clear x0 x1 x2 x3 x4 x5 x6 x7 x8 hq3
  obtain ⟨x0, x1, x2, x3, x4, x5, x6, x7, x8⟩ := HSC.out.box w3 HQ3.out
  dsimp only at x0 x1 x2 x3 x4 x5 x6 x7 x8
  cases hA : nm.toList.isEmpty
  · have e3 : nm.toList.isEmpty = false := hA
    go_wp2_with fail
    go_ret
    exact ⟨rfl, HQ0.out.trans HQ3.out⟩
  · have e3 : nm.toList.isEmpty = true := hA
    clear hA
    have HSM := Lib.hid HSC.out.same
    cases hT : sameT tk tn tp 0 0 .nil
    · rw [hT] at HSM
      go_wp2_with fail
      refine (HSM.out _ HQ3.out).mono ?_; rintro e w4 ⟨rfl, hq4⟩
      go_wp2_with fail
      go_ret
      exact ⟨rfl, HQ0.out.trans (HQ3.out.trans hq4)⟩
    · rw [hT] at HSM
      clear hT
      go_wp2_with fail
      refine (HSM.out _ HQ3.out).mono ?_; rintro e w4 ⟨rfl, hq4⟩
      have HQ4 := Lib.hid (HQ3.out.trans hq4)
      clear x0 x1 x2 x3 x4 x5 x6 x7 x8 hq4
      obtain ⟨x0, x1, x2, x3, x4, x5, x6, x7, x8⟩ := HSC.out.box w4 HQ4.out
      dsimp only at x0 x1 x2 x3 x4 x5 x6 x7 x8
      by_cases hn : n < 0
      · go_wp2_with fail
        go_ret
        exact ⟨rfl, HQ0.out.trans HQ4.out⟩
      · by_cases ht : 0 < n
        · go_wp2_with fail
          go_ret
          exact ⟨rfl, HQ0.out.trans HQ4.out⟩
        · go_wp2_with fail
          go_ret
          exact ⟨rfl, HQ0.out.trans HQ4.out⟩
end Go.Proofs.YtdlcakmjihfgfaaGreatDoor
end
section
/-
  ref.sound of a head of no kind. Conditions: its callees', in one hypothesis.
-/
namespace Go.Proofs.YtdlcakmjihfgfaaGreatDoor
open Go.RowKit Go.Shelf

set_option maxHeartbeats 4000000 in
set_option maxRecDepth 100000 in
theorem refSound_hi (k : Int) (hk : 10 < k) (nm : ByteArray) (n tk tn : Int) (tp : Fo) (fr en : Int) (w : World) (o1 : Option Addr) (l1 c1 : Nat) (o2 : Option Addr) (l2 c2 : Nat)
    (SC : SndC ⟨k, nm, n, tk, tn, tp, fr, en⟩ (w.alloc (.cells (cells9 ⟨k, nm, n, tk, tn, tp, fr, en⟩ o1 l1 c1 o2 l2 c2) 29)) o1 l1 c1 o2 l2 c2 w.heap.size) :
    Calls Tryz.prog 16 #[tmv ⟨k, nm, n, tk, tn, tp, fr, en⟩ o1 l1 c1 o2 l2 c2] w fun e w' => e = .returned (.bool (soundB ⟨k, nm, n, tk, tn, tp, fr, en⟩ l2)) ∧ Quiet0 w w' := by
  have HSC := Lib.hid SC
  have e : soundB ⟨k, nm, n, tk, tn, tp, fr, en⟩ l2 = false := by
    unfold soundB
    simp
    omega
  rw [e]
  clear e
  have b1 : (k == 1) = false := by simp; omega
  have b2 : (k == 2) = false := by simp; omega
  have b3 : (k == 3) = false := by simp; omega
  have b4 : (k == 4) = false := by simp; omega
  have b5 : (k == 5) = false := by simp; omega
  have b6 : (k == 6) = false := by simp; omega
  have b7 : (k == 7) = false := by simp; omega
  have b8 : (k == 8) = false := by simp; omega
  have b9 : (k == 9) = false := by simp; omega
  have b10 : (k == 10) = false := by simp; omega
  have b3' : (3 : Int) < k := by omega
  have HN : Hid (∀ W, Calls Tryz.prog 32 #[.int .i64 k] W fun e w' => e = .returned (.bool false) ∧ Quiet0 W w') := by
    have h := SC.named
    have e : kName k = false := by unfold kName; rw [b1, b4, b6, b7]; rfl
    dsimp only at h
    rw [e] at h
    exact h
  obtain ⟨W0, hW0⟩ : ∃ W0, W0 = w.alloc (.cells (cells9 ⟨k, nm, n, tk, tn, tp, fr, en⟩ o1 l1 c1 o2 l2 c2) 29) := ⟨_, rfl⟩
  have HQ0 : Hid (Quiet0 w W0) := by rw [hW0]; exact Quiet0.alloc _ _
  clear SC
  rw [← hW0] at HSC
  unfold tmv
  go_enter Tryz.func16, Tryz.ntmps16
  go_upto_region 1 with fail
  change Code.wp _ _ _ _ (w.alloc (.cells (cells9 ⟨k, nm, n, tk, tn, tp, fr, en⟩ o1 l1 c1 o2 l2 c2) 29))
  rw [← hW0]
  clear hW0
  generalize w.heap.size = B at *
  obtain ⟨x0, x1, x2, x3, x4, x5, x6, x7, x8⟩ := HSC.out.box W0 (Quiet0.refl _)
  dsimp only at x0 x1 x2 x3 x4 x5 x6 x7 x8
  go_quiet (fail)
  go_wp2_with fail
  refine (HN.out _).mono ?_; rintro e w1 ⟨rfl, hq1⟩
  have HQ1 : Hid (Quiet0 W0 w1) := Quiet0.trans (Fr.drewN _ _ _) hq1
  clear x0 x1 x2 x3 x4 x5 x6 x7 x8 hq1
  obtain ⟨x0, x1, x2, x3, x4, x5, x6, x7, x8⟩ := HSC.out.box w1 HQ1.out
  dsimp only at x0 x1 x2 x3 x4 x5 x6 x7 x8
  go_wp2_with fail
  refine (HN.out _).mono ?_; rintro e w3 ⟨rfl, hq3⟩
  have HQ3 := Lib.hid (HQ1.out.trans hq3)
  clear x0 x1 x2 x3 x4 x5 x6 x7 x8 hq3
  obtain ⟨x0, x1, x2, x3, x4, x5, x6, x7, x8⟩ := HSC.out.box w3 HQ3.out
  dsimp only at x0 x1 x2 x3 x4 x5 x6 x7 x8
  cases hA : nm.toList.isEmpty
  · have e3 : nm.toList.isEmpty = false := hA
    go_wp2_with fail
    go_ret
    exact ⟨rfl, HQ0.out.trans HQ3.out⟩
  · have e3 : nm.toList.isEmpty = true := hA
    clear hA
    have HSM := Lib.hid HSC.out.same
    cases hT : sameT tk tn tp 0 0 .nil
    · rw [hT] at HSM
      go_wp2_with fail
      refine (HSM.out _ HQ3.out).mono ?_; rintro e w4 ⟨rfl, hq4⟩
      go_wp2_with fail
      go_ret
      exact ⟨rfl, HQ0.out.trans (HQ3.out.trans hq4)⟩
    · rw [hT] at HSM
      clear hT
      go_wp2_with fail
      refine (HSM.out _ HQ3.out).mono ?_; rintro e w4 ⟨rfl, hq4⟩
      have HQ4 := Lib.hid (HQ3.out.trans hq4)
      clear x0 x1 x2 x3 x4 x5 x6 x7 x8 hq4
      obtain ⟨x0, x1, x2, x3, x4, x5, x6, x7, x8⟩ := HSC.out.box w4 HQ4.out
      dsimp only at x0 x1 x2 x3 x4 x5 x6 x7 x8
      by_cases hn : n < 0
      · go_wp2_with fail
        go_ret
        exact ⟨rfl, HQ0.out.trans HQ4.out⟩
      · by_cases ht : 0 < n
        · go_wp2_with fail
          go_ret
          exact ⟨rfl, HQ0.out.trans HQ4.out⟩
        · go_wp2_with fail
          go_ret
          exact ⟨rfl, HQ0.out.trans HQ4.out⟩
end Go.Proofs.YtdlcakmjihfgfaaGreatDoor
end
section
/-
  ref.sound of any head, and ref.Right. Conditions: the term lies in memory as told; names and types are not too large; numbers are Go ints.
-/
namespace Go.Proofs.YtdlcakmjihfgfaaGreatDoor
open Go.RowKit Go.Shelf

def GoodR (h : Nd) : Prop := h.nm.size ≤ 100000 ∧ h.tp.size ≤ 100000 ∧ wfI h.n
theorem refSoundT_any (h : Nd) (w : World) (R : Nat → Prop) (o1 : Option Addr) (l1 c1 : Nat) (o2 : Option Addr) (l2 c2 : Nat) (hs : SlcIn R w o1 l1 h.tp) (hg : GoodR h) :
    Calls Tryz.prog 16 #[tmv h o1 l1 c1 o2 l2 c2] w fun e w' => e = .returned (.bool (soundB h l2)) ∧ Quiet0 w w' := by
  have SC := sndC_of h w R o1 l1 c1 o2 l2 c2 hs hg.1 hg.2.1
  have hw := hg.2.2
  obtain ⟨k, nm, n, tk, tn, tp, fr, en⟩ := h
  by_cases h1 : k < 1
  · exact refSound_lo k h1 nm n tk tn tp fr en w o1 l1 c1 o2 l2 c2 SC
  · by_cases h2 : 10 < k
    · exact refSound_hi k h2 nm n tk tn tp fr en w o1 l1 c1 o2 l2 c2 SC
    · have hk : k = 1 ∨ k = 2 ∨ k = 3 ∨ k = 4 ∨ k = 5 ∨ k = 6 ∨ k = 7 ∨ k = 8 ∨ k = 9 ∨ k = 10 := by omega
      rcases hk with rfl | rfl | rfl | rfl | rfl | rfl | rfl | rfl | rfl | rfl
      · exact refSound_1 nm n tk tn tp fr en w o1 l1 c1 o2 l2 c2 hw SC
      · exact refSound_2 nm n tk tn tp fr en w o1 l1 c1 o2 l2 c2 hw SC
      · exact refSound_3 nm n tk tn tp fr en w o1 l1 c1 o2 l2 c2 hw SC
      · exact refSound_4 nm n tk tn tp fr en w o1 l1 c1 o2 l2 c2 hw SC
      · exact refSound_5 nm n tk tn tp fr en w o1 l1 c1 o2 l2 c2 hw SC
      · exact refSound_6 nm n tk tn tp fr en w o1 l1 c1 o2 l2 c2 hw SC
      · exact refSound_7 nm n tk tn tp fr en w o1 l1 c1 o2 l2 c2 hw SC
      · exact refSound_8 nm n tk tn tp fr en w o1 l1 c1 o2 l2 c2 hw SC
      · exact refSound_9 nm n tk tn tp fr en w o1 l1 c1 o2 l2 c2 hw SC
      · exact refSound_10 nm n tk tn tp fr en w o1 l1 c1 o2 l2 c2 hw SC
abbrev allS (f : To) : Bool := f.flat.all sndX
theorem allS_cons (h : Nd) (ps r : To) : allS (.cons h ps r) = ((soundB h ps.length && allS ps) && allS r) := by
  simp [allS, To.flat, List.all_append, Bool.and_assoc, sndX]
theorem allS_one (h : Nd) (ps : To) : allS (.cons h ps .nil) = (soundB h ps.length && allS ps) := by
  rw [allS_cons]; simp [allS, To.flat]
def RRightT (h : Nd) (ps : To) : Prop := ∀ (w : World) (R : Nat → Prop) (o1 : Option Addr) (l1 c1 : Nat) (o2 : Option Addr) (l2 c2 : Nat), SlcIn R w o1 l1 h.tp → TSlc R w o2 l2 ps → GoodR h → allT GoodR ps →
  Calls Tryz.prog 7 #[tmv h o1 l1 c1 o2 l2 c2] w fun e w' => e = .returned (.bool (allS (.cons h ps .nil))) ∧ Quiet0 w w'
set_option maxHeartbeats 2000000 in
theorem refRightT_any (h : Nd) (ps : To) : RRightT h ps := by
  refine To.ind' (T := RRightT) ?_ h ps
  intro h ps ih w R o1 l1 c1 o2 l2 c2 hs1 hs hgh hgp
  have HS := Lib.hid hs
  have IH := Lib.hid ih
  have HL := Lib.hid hs.1
  have HG := Lib.hid hgp
  have hmx := hs.2.1
  unfold maxLen at hmx
  obtain ⟨W0, hW0⟩ : ∃ W0, W0 = w.alloc (.cells (cells9 h o1 l1 c1 o2 l2 c2) 29) := ⟨_, rfl⟩
  have HB : Hid (∀ W, Quiet0 W0 W → W.cell? ⟨w.heap.size, 6, none⟩ = some (.slice o2 l2 c2)) := by
    intro W hq; rw [hW0] at hq; exact (box9 w h o1 l1 c1 o2 l2 c2 _ W hq).2.2.2.2.2.2.1
  have hq0 : Quiet0 w W0 := by rw [hW0]; exact Quiet0.alloc _ _
  have HQ0 := Lib.hid hq0
  have HSO := Lib.hid (refSoundT_any h W0 R o1 l1 c1 o2 l2 c2 (hs1.stay hq0) hgh)
  obtain ⟨res, hres⟩ : ∃ res, res = allS (.cons h ps .nil) := ⟨_, rfl⟩
  have HRES : Hid (res = (soundB h l2 && allS ps)) := by show _ = _; rw [hres, allS_one, HL.out]
  rw [← hres]
  clear hs1 hs ih hgh hgp hres hq0
  unfold tmv at HSO ⊢
  go_enter Tryz.func7, Tryz.ntmps7
  go_wp2_with fail
  change Calls _ _ _ (w.alloc (.cells (cells9 h o1 l1 c1 o2 l2 c2) 29)) _
  rw [← hW0]
  clear hW0
  generalize w.heap.size = nb at *
  cases hb : soundB h l2
  · have HR0 : Hid (res = false) := by show _ = _; rw [HRES.out, hb]; rfl
    rw [hb] at HSO
    clear hb
    refine HSO.out.mono ?_; rintro e w1 ⟨rfl, hq1⟩
    go_wp2_with fail
    go_ret
    exact ⟨by rw [HR0.out]; rfl, HQ0.out.trans hq1⟩
  · have HR0 : Hid (res = allS ps) := by show _ = _; rw [HRES.out, hb]; rfl
    rw [hb] at HSO
    clear hb
    refine HSO.out.mono ?_; rintro e w1 ⟨rfl, hq1⟩
    have HQ1 := Lib.hid hq1
    clear hq1
    go_wp2_with fail
    go_loopw [3] (fun t wr => ∃ (i : Nat), t = .int .i64 i ∧ i ≤ l2 ∧ res = allS (ps.drop i) ∧ Quiet0 W0 wr) (fun t _ => l2 - (intOf t).toNat)
    case atStart => exact ⟨0, rfl, Nat.zero_le _, by rw [To.drop_zero]; exact HR0.out, HQ1.out⟩
    case round =>
      obtain ⟨i, rfl, hi, hr, hq⟩ := hrel
      have HR := Lib.hid hr
      have HQ := Lib.hid hq
      have cc := HB.out wr hq
      clear hr hq
      by_cases hlt : i < l2
      · have hlt' : (i : Int) < l2 := by omega
        obtain ⟨b, off, hd, qs, p1, m1, d1, p2, m2, d2, rfl, hd1, hg, hRb, ⟨e0, e1, e2, e3, e4, e5, e6, e7, e8⟩, hs1, ht1⟩ := (HS.out.stay (HQ0.out.trans HQ.out)).nth hlt
        have hgg := allT_get ps i hd qs HG.out hg
        have HC := Lib.hid (IH.out i hd qs hg wr R p1 m1 d1 p2 m2 d2 hs1 ht1 hgg.1 hgg.2)
        have HN : Hid (res = (allS (.cons hd qs .nil) && allS (ps.drop (i + 1)))) := by
          show _ = _
          rw [HR.out, hd1, allS_cons, allS_one]
        unfold tmv at HC
        clear hd1 hg hs1 ht1 hRb hgg
        cases hb : allS (.cons hd qs .nil)
        · have HF : Hid (res = false) := by show _ = _; rw [HN.out, hb]; rfl
          rw [hb] at HC
          clear hb
          go_wp2_with fail
          refine HC.out.mono ?_; rintro e w2 ⟨rfl, hq2⟩
          go_wp2_with fail
          go_ret
          exact ⟨by rw [HF.out]; rfl, HQ0.out.trans (HQ.out.trans hq2)⟩
        · have HF : Hid (res = allS (ps.drop (i + 1))) := by show _ = _; rw [HN.out, hb]; rfl
          rw [hb] at HC
          clear hb
          go_wp2_with fail
          refine HC.out.mono ?_; rintro e w2 ⟨rfl, hq2⟩
          have HQ2 := Lib.hid (HQ.out.trans hq2)
          clear hq2
          go_wp2_with fail
          go_roundw
          case rel => exact ⟨i + 1, by go_num, by omega, HF.out, HQ2.out⟩
          case measure => simp [intOf]; omega
      · have hlt' : ¬ (i : Int) < l2 := by omega
        have HY : Hid (res = true) := by
          show _ = _
          rw [HR.out, To.drop_end ps i (by have := HL.out; omega)]; rfl
        go_wp2_with fail
        go_ret
        exact ⟨by rw [HY.out]; rfl, HQ0.out.trans HQ.out⟩
end Go.Proofs.YtdlcakmjihfgfaaGreatDoor
end
section
/-
  The law's bound on terms (room, Great). Conditions: the term lies in memory as told.
-/
namespace Go.Proofs.YtdlcakmjihfgfaaGreatDoor
open Go.RowKit

/-- is a head too much -/
def bigH (h : Nd) : Bool := decide (60 < h.nm.size) || greatF h.tp
namespace To
/-- how much is left of m, terms taken from it (the law's room, over parts that lie d deep at most) -/
def room : Nat → Int → To → Int
  | _, m, nil => m
  | d, m, cons h ps r => if m < 0 then m else
      match d with
      | 0 => room 0 (-1) r
      | d + 1 => room (d + 1) (if bigH h then -1 else room d (m - 1) ps) r
theorem room_neg : ∀ (f : To) (d : Nat) (m : Int), m < 0 → room d m f = m
  | nil, _, _, _ => by unfold room; rfl
  | cons h ps r, d, m, e => by unfold room; rw [if_pos e]
theorem room_le : ∀ (f : To) (d : Nat) (m : Int), 0 ≤ m → room d m f ≤ m ∧ -1 ≤ room d m f
  | nil, _, _, _ => by unfold room; omega
  | cons h ps r, d, m, e => by
    unfold room
    rw [if_neg (by omega)]
    cases d with
    | zero => simp only; rw [room_neg r 0 (-1) (by omega)]; omega
    | succ d =>
      simp only
      cases hb : bigH h
      · simp only [Bool.false_eq_true, if_false]
        by_cases hm : 0 ≤ m - 1
        · have h1 := room_le ps d (m - 1) hm
          by_cases h0 : 0 ≤ room d (m - 1) ps
          · have h2 := room_le r (d + 1) _ h0; omega
          · rw [room_neg r _ _ (by omega)]; omega
        · rw [room_neg ps _ _ (by omega), room_neg r _ _ (by omega)]; omega
      · simp only [if_true]
        rw [room_neg r _ _ (by omega)]; omega
theorem room_all : ∀ (f : To) (d : Nat) (m : Int), 0 ≤ room d m f → room d m f = m - f.size ∧ 0 ≤ m ∧ f.depth ≤ d ∧ allT (fun h => bigH h = false) f
  | nil, _, m, h => by unfold room at h ⊢; simp [size, depth, allT]; exact h
  | cons h ps r, d, m, e => by
    unfold room at e ⊢
    by_cases hm : m < 0
    · rw [if_pos hm] at e; omega
    · rw [if_neg hm] at e ⊢
      cases d with
      | zero => simp only at e; rw [room_neg r 0 (-1) (by omega)] at e; omega
      | succ d =>
        simp only at e ⊢
        obtain ⟨h1, h2, h3, h4⟩ := room_all r (d + 1) _ e
        cases hb : bigH h
        · rw [hb] at h1 h2 e
          simp only [Bool.false_eq_true, if_false] at h1 h2 e ⊢
          obtain ⟨g1, g2, g3, g4⟩ := room_all ps d (m - 1) h2
          rw [h1, g1]
          refine ⟨by simp only [size]; omega, by omega, by simp only [depth]; omega, hb, g4, h4⟩
        · rw [hb] at h2; simp at h2
end To
/-- the law's room of one term -/
def roomOne (d : Nat) (m : Int) (h : Nd) (ps : To) : Int := if d = 0 then -1 else if bigH h then -1 else To.room (d - 1) (m - 1) ps
theorem room_cons (d : Nat) (m : Int) (h : Nd) (ps r : To) (hm : 0 ≤ m) : To.room d m (.cons h ps r) = To.room d (roomOne d m h ps) r := by
  conv => lhs; unfold To.room
  rw [if_neg (by omega)]
  unfold roomOne
  cases d with
  | zero => rfl
  | succ d => rfl
theorem roomOne_le (d : Nat) (m : Int) (h : Nd) (ps : To) (hm : 0 ≤ m) : -1 ≤ roomOne d m h ps ∧ roomOne d m h ps ≤ m := by
  unfold roomOne
  split
  · omega
  · split
    · omega
    · by_cases h1 : 0 ≤ m - 1
      · have := To.room_le ps (d - 1) (m - 1) h1; omega
      · rw [To.room_neg _ _ _ (by omega)]; omega
def LRoomT (h : Nd) (ps : To) : Prop := ∀ (w : World) (R : Nat → Prop) (o1 : Option Addr) (l1 c1 : Nat) (o2 : Option Addr) (l2 c2 : Nat) (d : Nat) (m : Int) (di : Int), di = d → SlcIn R w o1 l1 h.tp → TSlc R w o2 l2 ps → h.nm.size ≤ 9223372036854775807 → allT (fun h => h.nm.size ≤ 9223372036854775807) ps → 0 ≤ m → m ≤ 100000 → d ≤ 100000 →
  Calls Tryz.prog 10 #[tmv h o1 l1 c1 o2 l2 c2, .int .i64 m, .int .i64 di] w fun e w' => e = .returned (.int .i64 (roomOne d m h ps)) ∧ Quiet0 w w'
set_option maxHeartbeats 2000000 in
theorem roomT_any (h : Nd) (ps : To) : LRoomT h ps := by
  refine To.ind' (T := LRoomT) ?_ h ps
  intro h ps ih w R o1 l1 c1 o2 l2 c2 d m di ed hs1 hs hnm hnms hm0 hm1 hd1
  subst ed
  have HG := Lib.hid (fun (W : World) (hq : Quiet0 w W) => great_any h.tk h.tn h.tp W o1 l1 c1 (hs1.slc.stay hq))
  have HS := Lib.hid hs
  have IH := Lib.hid ih
  have HL := Lib.hid hs.1
  have HNM := Lib.hid hnms
  have hmx := hs.2.1
  unfold maxLen at hmx
  unfold tyv at HG
  clear hs ih hnms
  by_cases hd0 : d = 0
  · subst hd0
    unfold tmv roomOne
    go_enter Tryz.func10, Tryz.ntmps10
    go_wp2_with fail
    go_ret
    exact ⟨rfl, Quiet0.alloc _ _⟩
  · obtain ⟨D, hD⟩ : ∃ D, D = d - 1 := ⟨_, rfl⟩
    have hd0' : ((d : Int) == 0) = false := by simp; omega
    have hdD : d = D + 1 := by omega
    by_cases h60 : 60 < h.nm.size
    · have h60' : (60 : Int) < (h.nm.size : Int) := by omega
      have HF : Hid (roomOne d m h ps = -1) := by show _ = _; unfold roomOne bigH; rw [if_neg hd0]; simp [h60]
      rw [HF.out]
      clear hd0 hD
      unfold tmv
      go_enter Tryz.func10, Tryz.ntmps10
      go_wp2_with fail
      go_ret
      exact ⟨rfl, Quiet0.alloc _ _⟩
    · have h60' : ¬ (60 : Int) < (h.nm.size : Int) := by omega
      cases hg : greatF h.tp
      · obtain ⟨res, hres⟩ : ∃ res, res = To.room D (m - 1) ps := ⟨_, rfl⟩
        have HRES := Lib.hid hres
        have HF : Hid (roomOne d m h ps = res) := by show _ = _; unfold roomOne bigH; rw [if_neg hd0, hres, hg, ← hD]; simp [h60]
        rw [HF.out]
        rw [hg] at HG
        have HDD := Lib.hid hdD
        have hD1 : D ≤ 100000 := by omega
        have hd1' : 1 ≤ d := by omega
        clear hres hd0 hD hdD hg h60
        obtain ⟨W0, hW0⟩ : ∃ W0, W0 = w.alloc (.cells (cells9 h o1 l1 c1 o2 l2 c2) 29) := ⟨_, rfl⟩
        have HB : Hid (∀ W, Quiet0 W0 W → W.cell? ⟨w.heap.size, 6, none⟩ = some (.slice o2 l2 c2)) := by
          intro W hq; rw [hW0] at hq; exact (box9 w h o1 l1 c1 o2 l2 c2 _ W hq).2.2.2.2.2.2.1
        have HQ0 : Hid (Quiet0 w W0) := by rw [hW0]; exact Quiet0.alloc _ _
        unfold tmv
        go_enter Tryz.func10, Tryz.ntmps10
        go_wp2_with fail
        change Calls _ _ _ (w.alloc (.cells (cells9 h o1 l1 c1 o2 l2 c2) 29)) _
        rw [← hW0]
        refine (HG.out _ HQ0.out).mono ?_; rintro e w1 ⟨rfl, hq1⟩
        have HQ1 := Lib.hid hq1
        clear hW0 hq1
        go_wp2_with fail
        generalize w.heap.size = nb at *
        go_loopw [1, 7] (fun s t wr => ∃ (i : Nat) (x : Int), t = .int .i64 i ∧ s = .int .i64 x ∧ i ≤ l2 ∧ -1 ≤ x ∧ x ≤ 100000 ∧ res = To.room D x (ps.drop i) ∧ Quiet0 W0 wr) (fun _ t _ => l2 - (intOf t).toNat)
        case atStart => exact ⟨0, m - 1, rfl, rfl, Nat.zero_le _, by omega, by omega, by rw [To.drop_zero]; exact HRES.out, HQ1.out⟩
        case round =>
          obtain ⟨i, x, rfl, rfl, hi, hx0, hx1, hr, hq⟩ := hrel
          have HR := Lib.hid hr
          have HQ := Lib.hid hq
          have g2 := HB.out wr hq
          clear hr hq
          by_cases hlt : i < l2
          · have hlt' : (i : Int) < l2 := by omega
            by_cases hx : 0 ≤ x
            · obtain ⟨b, off, hd, qs, p1, m1, d1, p2, m2, d2, rfl, hdr, hg, hRb, ⟨e0, e1, e2, e3, e4, e5, e6, e7, e8⟩, hsl, ht1⟩ := (HS.out.stay (HQ0.out.trans HQ.out)).nth hlt
              have hna := allT_get ps i hd qs HNM.out hg
              have HC := Lib.hid (IH.out i hd qs hg wr R p1 m1 d1 p2 m2 d2 D x ((d : Int) - 1) (by have := HDD.out; omega) hsl ht1 hna.1 hna.2 hx hx1 hD1)
              obtain ⟨y, hy⟩ : ∃ y, y = roomOne D x hd qs := ⟨_, rfl⟩
              have hyb : -1 ≤ y ∧ y ≤ 100000 := by have := roomOne_le D x hd qs hx; omega
              have HY : Hid (res = To.room D y (ps.drop (i + 1))) := by
                show _ = _
                rw [HR.out, hdr, hy, room_cons _ _ _ _ _ hx]
              rw [← hy] at HC
              unfold tmv at HC
              clear hdr hg hsl ht1 hy hRb hna
              go_wp2_with fail
              refine HC.out.mono ?_; rintro e w1 ⟨rfl, hq1⟩
              have HQ1 := Lib.hid (HQ.out.trans hq1)
              clear hq1
              go_wp2_with fail
              go_roundw
              case rel => exact ⟨i + 1, y, by go_num, rfl, by omega, hyb.1, hyb.2, HY.out, HQ1.out⟩
              case measure => simp [intOf]; omega
            · have hx' : x < 0 := by omega
              have HY : Hid (res = x) := by show _ = _; rw [HR.out]; exact To.room_neg _ _ _ hx'
              go_wp2_with fail
              go_ret
              exact ⟨by rw [HY.out]; rfl, HQ0.out.trans HQ.out⟩
          · have hlt' : ¬ (i : Int) < l2 := by omega
            have HY : Hid (res = x) := by
              show _ = _
              rw [HR.out, To.drop_end ps i (by have := HL.out; omega)]
              unfold To.room; rfl
            go_wp2_with fail
            go_ret
            exact ⟨by rw [HY.out]; rfl, HQ0.out.trans HQ.out⟩
      · have HF : Hid (roomOne d m h ps = -1) := by show _ = _; unfold roomOne bigH; rw [if_neg hd0, hg]; simp
        rw [HF.out]
        rw [hg] at HG
        clear hd0 hD hg h60
        unfold tmv
        go_enter Tryz.func10, Tryz.ntmps10
        go_wp2_with fail
        refine (HG.out _ (Quiet0.alloc _ _)).mono ?_; rintro e w1 ⟨rfl, hq1⟩
        go_wp2_with fail
        go_ret
        exact ⟨rfl, (Quiet0.alloc _ _).trans hq1⟩
/-- Great: is there more than is asked of? -/
def greatTm (h : Nd) (ps : To) : Bool := decide (roomOne 60 200 h ps < 0)
theorem greatTm_no {h : Nd} {ps : To} (e : greatTm h ps = false) : bigH h = false ∧ allT (fun h => bigH h = false) ps ∧ ps.size + 1 ≤ 200 ∧ ps.depth + 1 ≤ 60 := by
  unfold greatTm at e
  have h0 : 0 ≤ roomOne 60 200 h ps := by simpa using e
  unfold roomOne at h0
  rw [if_neg (by omega)] at h0
  cases hb : bigH h
  · rw [hb] at h0
    simp only [Bool.false_eq_true, if_false] at h0
    obtain ⟨h1, h2, h3, h4⟩ := To.room_all ps _ _ h0
    exact ⟨rfl, h4, by omega, by omega⟩
  · rw [hb] at h0; simp at h0
theorem bigH_no {h : Nd} (e : bigH h = false) : h.nm.size ≤ 60 ∧ h.tp.size + 1 ≤ 300 := by
  unfold bigH at e
  rw [Bool.or_eq_false_iff] at e
  exact ⟨by simpa using e.1, great_size e.2⟩
set_option maxHeartbeats 1000000 in
theorem greatTm_any (h : Nd) (ps : To) (w : World) (R : Nat → Prop) (o1 : Option Addr) (l1 c1 : Nat) (o2 : Option Addr) (l2 c2 : Nat) (hs1 : SlcIn R w o1 l1 h.tp) (hs : TSlc R w o2 l2 ps) (hnm : h.nm.size ≤ 9223372036854775807) (hnms : allT (fun h => h.nm.size ≤ 9223372036854775807) ps) :
    Calls Tryz.prog 4 #[tmv h o1 l1 c1 o2 l2 c2] w fun e w' => e = .returned (.bool (greatTm h ps)) ∧ Quiet0 w w' := by
  have HC := Lib.hid (fun (W : World) (hq : Quiet0 w W) => roomT_any h ps W R o1 l1 c1 o2 l2 c2 60 200 60 rfl (hs1.stay hq) (hs.stay hq) hnm hnms (by omega) (by omega) (by omega))
  unfold greatTm
  generalize roomOne 60 200 h ps = r at *
  clear hs1 hs hnm hnms
  unfold tmv at *
  go_enter Tryz.func4, Tryz.ntmps4
  go_wp2_with fail
  refine (HC.out _ (Quiet0.alloc _ _)).mono ?_; rintro e w1 ⟨rfl, hq⟩
  go_wp2_with fail
  go_ret
  exact ⟨rfl, (Quiet0.alloc _ _).trans hq⟩
end Go.Proofs.YtdlcakmjihfgfaaGreatDoor
end
section
/-
  What closes a law's row: it returned true, and of what was there nothing has turned. No condition.
-/
namespace Go.Proofs.YtdlcakmjihfgfaaGreatDoor
open Go.ChangeShapes Go.WideShapes Go.ChangeAt Go.RowKit

theorem own : ownKnob Tryz.prog.godebug = none := by kernel_rfl

def typesRead (P : Program) (ts : List TypeId) : Bool := ts.all fun t => P.readableRec t && decide (t < P.types.size)

theorem below_trodAll {H : Type} {enc : TypeId × Value → H} {P : Program} (hl : laidOutB P = true) {W W' : World} (hb : Below W.heap.size W W') :
    ∀ (ts : List TypeId) (vs : List Value) (ds : List (DataW H)) (ps : List MemPlace), typesRead P ts = true → DataW.TrodAll enc P W 0 (fun _ => true) true ts vs ds ps → (∀ x ∈ ps, x.block < W.heap.size) →
      DataW.TrodAll enc P W' 0 (fun b => decide (b < W.heap.size)) true ts vs ds ps
  | [], vs, ds, ps, _, h, _ => by
    obtain ⟨rfl, rfl, rfl⟩ := trodAll_nil h
    exact trodAll_mk0
  | t :: ts, vs, ds, ps, hr, h, hlt => by
    obtain ⟨v, vs', d, ds', p, q, rfl, rfl, rfl, h1, h2⟩ := trodAll_cons h
    simp only [typesRead, List.all_cons, Bool.and_eq_true, decide_eq_true_eq] at hr
    exact trodAll_cons_mk (Below.trod hl hr.1.1 hr.1.2 h1 hb (fun x hx => hlt x (List.mem_append_left _ hx)))
      (below_trodAll hl hb ts vs' ds' q hr.2 h2 (fun x hx => hlt x (List.mem_append_right _ hx)))

theorem law_post {H : Type} {enc : TypeId × Value → H} {f : Func} {s : ChangeSpec} {W W' : World} {args : Array Value} {ds gs : List (DataW H)} {before : List MemPlace}
    (hW : DataW.Whole enc Tryz.prog f.params.toList s.vars false W args.toList ds gs before) (hv : s.vars = []) (hs : (s.fn H (ds ++ gs)).results = [.lit (.bool true)]) (hs2 : (s.fn H (ds ++ gs)).args = ds) (hs3 : (s.fn H (ds ++ gs)).vars = [])
    (hres : f.resultTypes = #[4]) (hread : typesRead Tryz.prog f.params.toList = true) (hb : Below W.heap.size W W') :
    s.post enc Tryz.prog f false true false false W args (.bool true) W' := by
  have hlt := hW.lt
  have hW' := hW
  obtain ⟨p, q, hA, hV, rfl, hfz, hnd⟩ := hW
  refine ⟨ds, gs, _, [], p, [], hW', ?_, ?_, ?_, hb.frame _, fun h => by cases h⟩
  · rw [hs, hres]; exact trodAll_cons_mk (shut_bool Tryz.underlying4 _) trodAll_mk0
  · rw [hs2]; exact below_trodAll (by kernel_rfl) hb _ _ _ _ hread hA (fun x hx => by have := hlt x (List.mem_append_left _ hx); simpa using this)
  · rw [hs3, hv]; exact rfl
end Go.Proofs.YtdlcakmjihfgfaaGreatDoor
end
section
/-
  Types that came in as arguments: rows of types, however deep. No condition.
-/
namespace Go.Proofs.YtdlcakmjihfgfaaGreatDoor
open Go.ChangeShapes Go.WideShapes Go.ChangeAt Go.RowKit

theorem spot_none {w : World} {a : Addr} {v : Value} (h : w.cell? (a.add 0) = some v) : ∃ b off, a = ⟨b, off, none⟩ := by
  obtain ⟨b, off, s⟩ := a
  cases s with
  | none => exact ⟨b, off, rfl⟩
  | some s =>
    unfold World.cell? Addr.add at h
    simp only [if_true] at h
    split at h <;> simp_all
section
variable {H : Type} {enc : TypeId × Value → H} {P : Program} {w : World} {base : Nat} {spare : Nat → Bool} {held : Bool}
theorem at_of_cells {b off len : Nat} (one : ∀ i, i < len → ∃ k n o l c ps, w.cell? ⟨b, off + i * 3, none⟩ = some (.int .i64 k) ∧ w.cell? ⟨b, off + i * 3 + 1, none⟩ = some (.int .i64 n) ∧ w.cell? ⟨b, off + i * 3 + 2, none⟩ = some (.slice o l c) ∧ Slc w o l ps ∧ wfI n ∧ wfF ps) :
    ∀ m s, s + m = len → ∃ f : Fo, f.length = m ∧ At w b (off + s * 3) f ∧ wfF f
  | 0, s, _ => ⟨.nil, rfl, trivial, trivial⟩
  | m + 1, s, h => by
    obtain ⟨k, n, o, l, c, ps, h1, h2, h3, hs, hw, hwp⟩ := one s (by omega)
    obtain ⟨r, hr, ha, hwr⟩ := at_of_cells one m (s + 1) (by omega)
    refine ⟨.cons k n ps r, by simp [Fo.length, hr], ⟨h1, h2, ⟨o, l, c, h3, hs.1, hs.2.1, hs.2.2⟩, ?_⟩, hw, hwp, hwr⟩
    rw [show off + s * 3 + 3 = off + (s + 1) * 3 from by omega]
    exact ha
theorem open_parts {te : TypeId} {f0 f1 f2 : Field} (he : P.underlying te = some (.struct #[f0, f1, f2])) (ce : P.cellsOf te = 3)
    (o0 : f0.offset = 0) (o1 : f1.offset = 1) (o2 : f2.offset = 2) (c0 : P.cellsOf f0.type = 1) (c1 : P.cellsOf f1.type = 1) (c2 : P.cellsOf f2.type = 1) (k0 : P.underlying f0.type = some (.int .i64)) (k1 : P.underlying f1.type = some (.int .i64)) (k2 : P.underlying f2.type = some (.slice te)) :
    ∀ (fuel : Nat) (ts : TypeId) (cs : List Value) (x : DataW H × List MemPlace), P.underlying ts = some (.slice te) → DataW.trod enc P w base spare held fuel ts cs = some x → ∃ o len cap f, cs = [.slice o len cap] ∧ Slc w o len f ∧ wfF f := by
  intro fuel
  induction fuel using Nat.strongRecOn with
  | _ fuel ih =>
  intro ts cs x hts h
  rcases DataW.trod_slice hts h with ⟨rfl, _⟩ | ⟨a, len, cap, elems, rest, n, hfu, rfl, _, _, hl, hm, hlen, hel, _⟩
  · exact ⟨_, _, _, .nil, rfl, Slc.nil _ _, trivial⟩
  · have one : ∀ i, i < len → ∃ k n o l c ps, w.cell? (a.add (i * 3)) = some (.int .i64 k) ∧ w.cell? (a.add (i * 3 + 1)) = some (.int .i64 n) ∧ w.cell? (a.add (i * 3 + 2)) = some (.slice o l c) ∧ Slc w o l ps ∧ wfI n ∧ wfF ps := by
      intro i hi
      have h1 := hel i hi
      rw [List.getElem?_eq_getElem (by omega)] at h1
      obtain ⟨cs', h2, h3⟩ := Option.bind_eq_some_iff.1 h1
      rw [ce] at h2
      obtain ⟨_, hcl, hcell⟩ := World.cells?_some h2
      obtain ⟨xs, n', hn', _, _, hxl, hfx⟩ := DataW.trod_struct he h3
      match cs', hcl with
      | [u0, u1, u2], _ =>
        have hxl3 : xs.length = 3 := by simpa using hxl
        have s0 := hfx 0 f0 rfl
        have s1 := hfx 1 f1 rfl
        have s2 := hfx 2 f2 rfl
        rw [c0, o0, show xs[0]? = some (xs[0]'(by omega)) from by simp [hxl3]] at s0
        rw [c1, o1, show xs[1]? = some (xs[1]'(by omega)) from by simp [hxl3]] at s1
        rw [c2, o2, show xs[2]? = some (xs[2]'(by omega)) from by simp [hxl3]] at s2
        obtain ⟨z0, hz0, _, hw0⟩ := DataW.trod_int k0 s0
        obtain ⟨z1, hz1, _, hw1⟩ := DataW.trod_int k1 s1
        obtain ⟨o, l, c, ps, hz2, hps, hwp⟩ := ih n' (by omega) f2.type _ _ k2 s2
        simp at hz0 hz1 hz2
        have e1 := hcell 1 (by omega)
        have e2 := hcell 2 (by omega)
        simp [Deep.add_add] at e1 e2
        refine ⟨z0, z1, o, l, c, ps, ?_, ?_, ?_, hps, hw1, hwp⟩
        · have : (a.add (i * 3)).add 0 = a.add (i * 3) := by rw [Deep.add_add]; rfl
          rw [← this, hcell 0 (by omega)]; simp [hz0]
        · rw [e1, hz1]
        · rw [e2, hz2]
    by_cases h0 : len = 0
    · subst h0
      exact ⟨_, _, _, .nil, rfl, Slc.nil _ _, trivial⟩
    · obtain ⟨k, n, o, l, c, ps, h1, _⟩ := one 0 (by omega)
      rw [Nat.zero_mul] at h1
      obtain ⟨b, off, rfl⟩ := spot_none h1
      obtain ⟨f, hf, hA, hwf⟩ := at_of_cells (b := b) (off := off) (len := len) (w := w) (fun i hi => by
        obtain ⟨k, n, o, l, c, ps, h1, h2, h3, h4⟩ := one i hi
        exact ⟨k, n, o, l, c, ps, by simpa [Addr.add_lit] using h1, by simpa [Addr.add_lit, Nat.add_assoc] using h2, by simpa [Addr.add_lit, Nat.add_assoc] using h3, h4⟩) len 0 (by omega)
      rw [Nat.zero_mul, Nat.add_zero] at hA
      exact ⟨_, _, _, f, rfl, ⟨hf.symm, by omega, fun _ => ⟨b, off, rfl, hA⟩⟩, hwf⟩
theorem open_agg {te : TypeId} {f0 f1 f2 : Field} (he : P.underlying te = some (.struct #[f0, f1, f2])) (ce : P.cellsOf te = 3)
    (o0 : f0.offset = 0) (o1 : f1.offset = 1) (o2 : f2.offset = 2) (c0 : P.cellsOf f0.type = 1) (c1 : P.cellsOf f1.type = 1) (c2 : P.cellsOf f2.type = 1) (k0 : P.underlying f0.type = some (.int .i64)) (k1 : P.underlying f1.type = some (.int .i64)) (k2 : P.underlying f2.type = some (.slice te))
    {fuel : Nat} {cs : List Value} {x : DataW H × List MemPlace} (h : DataW.trod enc P w base spare held fuel te cs = some x) : ∃ k n o len cap f, cs = [.int .i64 k, .int .i64 n, .slice o len cap] ∧ Slc w o len f ∧ wfI n ∧ wfF f := by
  obtain ⟨xs, n', hn', _, hcl, hxl, hfx⟩ := DataW.trod_struct he h
  rw [ce] at hcl
  match cs, hcl with
  | [u0, u1, u2], _ =>
    have hxl3 : xs.length = 3 := by simpa using hxl
    have s0 := hfx 0 f0 rfl
    have s1 := hfx 1 f1 rfl
    have s2 := hfx 2 f2 rfl
    rw [c0, o0, show xs[0]? = some (xs[0]'(by omega)) from by simp [hxl3]] at s0
    rw [c1, o1, show xs[1]? = some (xs[1]'(by omega)) from by simp [hxl3]] at s1
    rw [c2, o2, show xs[2]? = some (xs[2]'(by omega)) from by simp [hxl3]] at s2
    obtain ⟨z0, hz0, _, hw0⟩ := DataW.trod_int k0 s0
    obtain ⟨z1, hz1, _, hw1⟩ := DataW.trod_int k1 s1
    obtain ⟨o, l, c, ps, hz2, hps, hwp⟩ := open_parts he ce o0 o1 o2 c0 c1 c2 k0 k1 k2 n' f2.type _ _ k2 s2
    simp at hz0 hz1 hz2
    exact ⟨z0, z1, o, l, c, ps, by rw [hz0, hz1, hz2], hps, hw1, hwp⟩
end
section
variable {H : Type} {enc : TypeId × Value → H} {w : World} {base : Nat} {spare : Nat → Bool} {held : Bool}
/-- an argument that is a row of types -/
theorem open_types {ts : TypeId} {v : Value} {d : DataW H} {p : List MemPlace} (ht : Tryz.prog.underlying ts = some (.slice 24)) (hv : ∃ a len cap, v = .slice a len cap) (h : DataW.Trod enc Tryz.prog w base spare held ts v d p) : ∃ o n c f, v = .slice o n c ∧ Slc w o n f ∧ wfF f ∧ n ≤ c := by
  obtain ⟨a0, l0, cc0, rfl⟩ := hv
  obtain ⟨fuel, hf⟩ := h
  have hlc : l0 ≤ cc0 := by
    rcases DataW.trod_slice ht hf with ⟨he, _⟩ | ⟨a, len, cap, _, _, _, _, he, _, _, hl, _⟩
    · simp [Value.cells] at he; omega
    · simp [Value.cells] at he; omega
  obtain ⟨o, n, c, f, he, hs, hw⟩ := open_parts Tryz.underlying24 (by kernel_rfl) rfl rfl rfl (by kernel_rfl) (by kernel_rfl) (by kernel_rfl) Tryz.underlying3 Tryz.underlying3 Tryz.underlying22 fuel ts _ _ ht hf
  simp [Value.cells] at he
  obtain ⟨rfl, rfl, rfl⟩ := he
  exact ⟨_, _, _, f, rfl, hs, hw, hlc⟩
/-- an argument that is a type -/
theorem open_type {v : Value} {d : DataW H} {p : List MemPlace} (hv : ∃ cs, v = .agg cs ∧ cs.size = Tryz.prog.cellsOf 24) (h : DataW.Trod enc Tryz.prog w base spare held 24 v d p) : ∃ k n o len cap f, v = tyv k n o len cap ∧ Slc w o len f ∧ wfI n ∧ wfF f := by
  obtain ⟨cs, rfl, _⟩ := hv
  obtain ⟨fuel, hf⟩ := h
  obtain ⟨k, n, o, len, cap, f, he, hs, hw, hwf⟩ := open_agg Tryz.underlying24 (by kernel_rfl) rfl rfl rfl (by kernel_rfl) (by kernel_rfl) (by kernel_rfl) Tryz.underlying3 Tryz.underlying3 Tryz.underlying22 hf
  refine ⟨k, n, o, len, cap, f, ?_, hs, hw, hwf⟩
  unfold tyv
  congr 1
  apply Array.toList_inj.1
  simpa [Value.cells] using he
end
end Go.Proofs.YtdlcakmjihfgfaaGreatDoor
end
section
/-
  Terms that came in as arguments: rows of terms, however deep. No condition.
-/
namespace Go.Proofs.YtdlcakmjihfgfaaGreatDoor
open Go.ChangeShapes Go.WideShapes Go.ChangeAt Go.RowKit

theorem At.atIn {w : World} : ∀ (f : Fo) (b off : Nat), At w b off f → AtIn (fun k => k < w.heap.size) w b off f
  | .nil, _, _, _ => trivial
  | .cons k n ps r, b, off, h => by
    obtain ⟨h1, h2, ⟨o, l, c, h3, h4, h5, h6⟩, h7⟩ := h
    refine ⟨World.block_lt_of_cell? w _ h1, h1, h2, ⟨o, l, c, h3, h4, h5, fun hl => ?_⟩, At.atIn r b (off + 3) h7⟩
    obtain ⟨b', off', ho, ha⟩ := h6 hl
    exact ⟨b', off', ho, At.atIn ps b' off' ha⟩
theorem Slc.slcIn {w : World} {o : Option Addr} {len : Nat} {f : Fo} (h : Slc w o len f) : SlcIn (fun k => k < w.heap.size) w o len f := by
  refine ⟨h.1, h.2.1, fun hl => ?_⟩
  obtain ⟨b, off, ho, ha⟩ := h.2.2 hl
  exact ⟨b, off, ho, ha.atIn⟩
/-- what an argument's head is sure to be -/
def OkO (h : Nd) : Prop := h.nm.size ≤ maxLen ∧ wfI h.tn ∧ wfF h.tp ∧ wfI h.n
section
variable {H : Type} {enc : TypeId × Value → H} {P : Program} {w : World} {base : Nat} {spare : Nat → Bool} {held : Bool}
abbrev Low (w : World) : Nat → Prop := fun k => k < w.heap.size
theorem tin_of_cells {b off len : Nat} (hb : Low w b) (one : ∀ i, i < len → ∃ hd ps o1 l1 c1 o2 l2 c2, Cells9 w b (off + i * 9) hd o1 l1 c1 o2 l2 c2 ∧ SlcIn (Low w) w o1 l1 hd.tp ∧ TSlc (Low w) w o2 l2 ps ∧ OkO hd ∧ allT OkO ps) :
    ∀ m s, s + m = len → ∃ f : To, f.length = m ∧ TIn (Low w) w b (off + s * 9) f ∧ allT OkO f
  | 0, s, _ => ⟨.nil, rfl, trivial, trivial⟩
  | m + 1, s, h => by
    obtain ⟨hd, ps, o1, l1, c1, o2, l2, c2, hc, hs1, hs2, hw, hwp⟩ := one s (by omega)
    obtain ⟨r, hr, ha, hwr⟩ := tin_of_cells hb one m (s + 1) (by omega)
    refine ⟨.cons hd ps r, by simp [To.length, hr], ⟨hb, ⟨o1, l1, c1, o2, l2, c2, hc, hs1, hs2.1, hs2.2.1, hs2.2.2⟩, ?_⟩, hw, hwp, hwr⟩
    rw [show off + s * 9 + 9 = off + (s + 1) * 9 from by omega]
    exact ha
/-- one term's cells, its parts given -/
theorem open_t9 {te : TypeId} {f0 f1 f2 f3 f4 f5 g0 g1 q0 q1 q2 : Field} (he : P.underlying te = some (.struct #[f0, f1, f2, f3, f4, f5])) (ce : P.cellsOf te = 9)
    (o0 : f0.offset = 0) (o1 : f1.offset = 1) (o2 : f2.offset = 2) (o3 : f3.offset = 3) (o4 : f4.offset = 6) (o5 : f5.offset = 7)
    (c0 : P.cellsOf f0.type = 1) (c1 : P.cellsOf f1.type = 1) (c2 : P.cellsOf f2.type = 1) (c3 : P.cellsOf f3.type = 3) (c4 : P.cellsOf f4.type = 1) (c5 : P.cellsOf f5.type = 2)
    (k0 : P.underlying f0.type = some (.int .i64)) (k1 : P.underlying f1.type = some .string) (k2 : P.underlying f2.type = some (.int .i64))
    (k5 : P.underlying f5.type = some (.struct #[g0, g1])) (p0 : g0.offset = 0) (p1 : g1.offset = 1) (d0 : P.cellsOf g0.type = 1) (d1 : P.cellsOf g1.type = 1) (m0 : P.underlying g0.type = some (.int .i64)) (m1 : P.underlying g1.type = some (.int .i64))
    (k3 : P.underlying f3.type = some (.struct #[q0, q1, q2])) (v0 : q0.offset = 0) (v1 : q1.offset = 1) (v2 : q2.offset = 2) (x0 : P.cellsOf q0.type = 1) (x1 : P.cellsOf q1.type = 1) (x2 : P.cellsOf q2.type = 1) (y0 : P.underlying q0.type = some (.int .i64)) (y1 : P.underlying q1.type = some (.int .i64)) (y2 : P.underlying q2.type = some (.slice f3.type))
    {n : Nat} (ih : ∀ m, m < n → ∀ cs x, DataW.trod enc P w base spare held m f4.type cs = some x → ∃ o len cap f, cs = [.slice o len cap] ∧ TSlc (Low w) w o len f ∧ allT OkO f)
    {cs : List Value} {x : DataW H × List MemPlace} (h : DataW.trod enc P w base spare held n te cs = some x) :
    ∃ hd ps o1 l1 c1 o2 l2 c2, cs = (cells9 hd o1 l1 c1 o2 l2 c2).toList ∧ SlcIn (Low w) w o1 l1 hd.tp ∧ TSlc (Low w) w o2 l2 ps ∧ OkO hd ∧ allT OkO ps := by
  obtain ⟨xs, n', hn', _, hcl, hxl, hfx⟩ := DataW.trod_struct he h
  rw [ce] at hcl
  match cs, hcl with
  | [u0, u1, u2, u3, u4, u5, u6, u7, u8], _ =>
    have hxl6 : xs.length = 6 := by simpa using hxl
    have s0 := hfx 0 f0 rfl
    have s1 := hfx 1 f1 rfl
    have s2 := hfx 2 f2 rfl
    have s3 := hfx 3 f3 rfl
    have s4 := hfx 4 f4 rfl
    have s5 := hfx 5 f5 rfl
    rw [c0, o0, show xs[0]? = some (xs[0]'(by omega)) from by simp [hxl6]] at s0
    rw [c1, o1, show xs[1]? = some (xs[1]'(by omega)) from by simp [hxl6]] at s1
    rw [c2, o2, show xs[2]? = some (xs[2]'(by omega)) from by simp [hxl6]] at s2
    rw [c3, o3, show xs[3]? = some (xs[3]'(by omega)) from by simp [hxl6]] at s3
    rw [c4, o4, show xs[4]? = some (xs[4]'(by omega)) from by simp [hxl6]] at s4
    rw [c5, o5, show xs[5]? = some (xs[5]'(by omega)) from by simp [hxl6]] at s5
    obtain ⟨z0, hz0, _, hw0⟩ := DataW.trod_int k0 s0
    obtain ⟨z1, hz1, _, hw1⟩ := DataW.trod_string k1 s1
    obtain ⟨z2, hz2, _, hw2⟩ := DataW.trod_int k2 s2
    obtain ⟨tk, tn, tO, tl, tc, tf, hz3, hts, hwt, hwf⟩ := open_agg k3 c3 v0 v1 v2 x0 x1 x2 y0 y1 y2 s3
    obtain ⟨o, l, c, ps, hz4, hps, hwp⟩ := ih n' (by omega) _ _ s4
    obtain ⟨ys, n2, hn2, _, hyc, hyl, hgy⟩ := DataW.trod_struct k5 s5
    have hyl2 : ys.length = 2 := by simpa using hyl
    have t0 := hgy 0 g0 rfl
    have t1 := hgy 1 g1 rfl
    rw [d0, p0, show ys[0]? = some (ys[0]'(by omega)) from by simp [hyl2]] at t0
    rw [d1, p1, show ys[1]? = some (ys[1]'(by omega)) from by simp [hyl2]] at t1
    obtain ⟨z7, hz7, _, _⟩ := DataW.trod_int m0 t0
    obtain ⟨z8, hz8, _, _⟩ := DataW.trod_int m1 t1
    simp at hz0 hz1 hz2 hz3 hz4 hz7 hz8
    obtain ⟨hz3, hz3', hz3''⟩ := hz3
    refine ⟨⟨z0, z1, z2, tk, tn, tf, z7, z8⟩, ps, tO, tl, tc, o, l, c, ?_, hts.slcIn, hps, ⟨hw1, hwt, hwf, hw2⟩, hwp⟩
    subst hz0 hz1 hz2 hz3 hz3' hz3'' hz4 hz7 hz8
    rfl
theorem open_tparts {te : TypeId} {f0 f1 f2 f3 f4 f5 g0 g1 q0 q1 q2 : Field} (he : P.underlying te = some (.struct #[f0, f1, f2, f3, f4, f5])) (ce : P.cellsOf te = 9)
    (o0 : f0.offset = 0) (o1 : f1.offset = 1) (o2 : f2.offset = 2) (o3 : f3.offset = 3) (o4 : f4.offset = 6) (o5 : f5.offset = 7)
    (c0 : P.cellsOf f0.type = 1) (c1 : P.cellsOf f1.type = 1) (c2 : P.cellsOf f2.type = 1) (c3 : P.cellsOf f3.type = 3) (c4 : P.cellsOf f4.type = 1) (c5 : P.cellsOf f5.type = 2)
    (k0 : P.underlying f0.type = some (.int .i64)) (k1 : P.underlying f1.type = some .string) (k2 : P.underlying f2.type = some (.int .i64)) (k4 : P.underlying f4.type = some (.slice te))
    (k5 : P.underlying f5.type = some (.struct #[g0, g1])) (p0 : g0.offset = 0) (p1 : g1.offset = 1) (d0 : P.cellsOf g0.type = 1) (d1 : P.cellsOf g1.type = 1) (m0 : P.underlying g0.type = some (.int .i64)) (m1 : P.underlying g1.type = some (.int .i64))
    (k3 : P.underlying f3.type = some (.struct #[q0, q1, q2])) (v0 : q0.offset = 0) (v1 : q1.offset = 1) (v2 : q2.offset = 2) (x0 : P.cellsOf q0.type = 1) (x1 : P.cellsOf q1.type = 1) (x2 : P.cellsOf q2.type = 1) (y0 : P.underlying q0.type = some (.int .i64)) (y1 : P.underlying q1.type = some (.int .i64)) (y2 : P.underlying q2.type = some (.slice f3.type)) :
    ∀ (fuel : Nat) (cs : List Value) (x : DataW H × List MemPlace), DataW.trod enc P w base spare held fuel f4.type cs = some x → ∃ o len cap f, cs = [.slice o len cap] ∧ TSlc (Low w) w o len f ∧ allT OkO f := by
  intro fuel
  induction fuel using Nat.strongRecOn with
  | _ fuel ih =>
  intro cs x h
  rcases DataW.trod_slice k4 h with ⟨rfl, _⟩ | ⟨a, len, cap, elems, rest, n, hfu, rfl, _, _, hl, hm, hlen, hel, _⟩
  · exact ⟨_, _, _, .nil, rfl, TSlc.nil _ _ _, trivial⟩
  · have one : ∀ i, i < len → ∃ hd ps o1 l1 c1 o2 l2 c2, (∀ j, j < 9 → w.cell? (a.add (i * 9 + j)) = (cells9 hd o1 l1 c1 o2 l2 c2).toList[j]?) ∧ SlcIn (Low w) w o1 l1 hd.tp ∧ TSlc (Low w) w o2 l2 ps ∧ OkO hd ∧ allT OkO ps := by
      intro i hi
      have h1 := hel i hi
      rw [List.getElem?_eq_getElem (by omega)] at h1
      obtain ⟨cs', h2, h3⟩ := Option.bind_eq_some_iff.1 h1
      rw [ce] at h2
      obtain ⟨_, hcl, hcell⟩ := World.cells?_some h2
      obtain ⟨hd, ps, r1, l1, e1, r2, l2, e2, rfl, hs1, hs2, hw, hwp⟩ := open_t9 he ce o0 o1 o2 o3 o4 o5 c0 c1 c2 c3 c4 c5 k0 k1 k2 k5 p0 p1 d0 d1 m0 m1 k3 v0 v1 v2 x0 x1 x2 y0 y1 y2 (fun m hm cs x => ih m (by omega) cs x) h3
      refine ⟨hd, ps, r1, l1, e1, r2, l2, e2, ?_, hs1, hs2, hw, hwp⟩
      intro j hj
      rw [← Deep.add_add]
      exact hcell j hj
    by_cases h0 : len = 0
    · subst h0
      exact ⟨_, _, _, .nil, rfl, TSlc.nil _ _ _, trivial⟩
    · obtain ⟨hd, ps, r1, l1, e1, r2, l2, e2, h1, _⟩ := one 0 (by omega)
      have h1' := h1 0 (by omega)
      rw [Nat.zero_mul] at h1'
      obtain ⟨b, off, rfl⟩ := spot_none (v := .int .i64 hd.k) h1'
      have hb : Low w b := World.block_lt_of_cell? w (⟨b, off + 0, none⟩ : Addr) (show w.cell? ⟨b, off + 0, none⟩ = some (.int .i64 hd.k) from h1')
      obtain ⟨f, hf, hA, hwf⟩ := tin_of_cells (b := b) (off := off) (len := len) (w := w) hb (fun i hi => by
        obtain ⟨hd, ps, r1, l1, e1, r2, l2, e2, h1, h4⟩ := one i hi
        refine ⟨hd, ps, r1, l1, e1, r2, l2, e2, ?_, h4⟩
        have g := fun j hj => h1 j hj
        simp only [Addr.add_lit] at g
        exact ⟨g 0 (by omega), g 1 (by omega), g 2 (by omega), g 3 (by omega), g 4 (by omega), g 5 (by omega), g 6 (by omega), g 7 (by omega), g 8 (by omega)⟩) len 0 (by omega)
      rw [Nat.zero_mul, Nat.add_zero] at hA
      exact ⟨_, _, _, f, rfl, ⟨hf.symm, by omega, fun _ => ⟨b, off, rfl, hA⟩⟩, hwf⟩
end
section
variable {H : Type} {enc : TypeId × Value → H} {w : World} {base : Nat} {spare : Nat → Bool} {held : Bool}
/-- an argument that is a row of terms -/
theorem open_terms {v : Value} {d : DataW H} {p : List MemPlace} (hv : ∃ a len cap, v = .slice a len cap) (h : DataW.Trod enc Tryz.prog w base spare held 25 v d p) : ∃ o n c f, v = .slice o n c ∧ TSlc (Low w) w o n f ∧ allT OkO f ∧ n ≤ c := by
  obtain ⟨a0, l0, cc0, rfl⟩ := hv
  obtain ⟨fuel, hf⟩ := h
  have hlc : l0 ≤ cc0 := by
    rcases DataW.trod_slice Tryz.underlying25 hf with ⟨he, _⟩ | ⟨a, len, cap, _, _, _, _, he, _, _, hl, _⟩
    · simp [Value.cells] at he; omega
    · simp [Value.cells] at he; omega
  obtain ⟨o, n, c, f, he, hs, hw⟩ := open_tparts Tryz.underlying29 (by kernel_rfl) rfl rfl rfl rfl rfl rfl (by kernel_rfl) (by kernel_rfl) (by kernel_rfl) (by kernel_rfl) (by kernel_rfl) (by kernel_rfl) Tryz.underlying3 Tryz.underlying9 Tryz.underlying3 Tryz.underlying25 Tryz.underlying27 rfl rfl (by kernel_rfl) (by kernel_rfl) Tryz.underlying3 Tryz.underlying3 Tryz.underlying24 rfl rfl rfl (by kernel_rfl) (by kernel_rfl) (by kernel_rfl) Tryz.underlying3 Tryz.underlying3 Tryz.underlying22 fuel _ _ hf
  simp [Value.cells] at he
  obtain ⟨rfl, rfl, rfl⟩ := he
  exact ⟨_, _, _, f, rfl, hs, hw, hlc⟩
/-- an argument that is a term -/
theorem open_term {v : Value} {d : DataW H} {p : List MemPlace} (hv : ∃ cs, v = .agg cs ∧ cs.size = Tryz.prog.cellsOf 29) (h : DataW.Trod enc Tryz.prog w base spare held 29 v d p) : ∃ hd ps o1 l1 c1 o2 l2 c2, v = tmv hd o1 l1 c1 o2 l2 c2 ∧ SlcIn (Low w) w o1 l1 hd.tp ∧ TSlc (Low w) w o2 l2 ps ∧ OkO hd ∧ allT OkO ps := by
  obtain ⟨cs, rfl, _⟩ := hv
  obtain ⟨fuel, hf⟩ := h
  obtain ⟨hd, ps, o1, l1, c1, o2, l2, c2, he, h1, h2, h3, h4⟩ := open_t9 Tryz.underlying29 (by kernel_rfl) rfl rfl rfl rfl rfl rfl (by kernel_rfl) (by kernel_rfl) (by kernel_rfl) (by kernel_rfl) (by kernel_rfl) (by kernel_rfl) Tryz.underlying3 Tryz.underlying9 Tryz.underlying3 Tryz.underlying27 rfl rfl (by kernel_rfl) (by kernel_rfl) Tryz.underlying3 Tryz.underlying3 Tryz.underlying24 rfl rfl rfl (by kernel_rfl) (by kernel_rfl) (by kernel_rfl) Tryz.underlying3 Tryz.underlying3 Tryz.underlying22
    (fun m _ cs x hh => open_tparts Tryz.underlying29 (by kernel_rfl) rfl rfl rfl rfl rfl rfl (by kernel_rfl) (by kernel_rfl) (by kernel_rfl) (by kernel_rfl) (by kernel_rfl) (by kernel_rfl) Tryz.underlying3 Tryz.underlying9 Tryz.underlying3 Tryz.underlying25 Tryz.underlying27 rfl rfl (by kernel_rfl) (by kernel_rfl) Tryz.underlying3 Tryz.underlying3 Tryz.underlying24 rfl rfl rfl (by kernel_rfl) (by kernel_rfl) (by kernel_rfl) Tryz.underlying3 Tryz.underlying3 Tryz.underlying22 m cs x hh) hf
  refine ⟨hd, ps, o1, l1, c1, o2, l2, c2, ?_, h1, h2, h3, h4⟩
  unfold tmv
  congr 1
  apply Array.toList_inj.1
  simpa [Value.cells] using he
end
end Go.Proofs.YtdlcakmjihfgfaaGreatDoor
end
