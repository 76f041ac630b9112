/-
  The law SliceMarks: it returns true. Condition: the spans lie in memory.
-/
import Derived.Test.YtdlcakmjihfgfaaDoorSlAwake
import Derived.Test.YtdlcakmjihfgfaaDoorSlLinesW
namespace Go.Proofs.YtdlcakmjihfgfaaDoor
open Go.RowKit Go.Shelf SpanPlain

theorem refLinesLen (text : ByteArray) (l : List Sp) : (run (linesStep text (hasN l)) 0 text.size []).length ≤ text.size := by
  have key : ∀ b, (run (linesStep text (hasN l)) 0 b []).length ≤ b := by
    intro b
    induction b with
    | zero => simp [run_same]
    | succ b ih =>
      rw [run_succ _ _ _ (Nat.zero_le _)]
      generalize run (linesStep text (hasN l)) 0 b [] = x at *
      unfold linesStep
      split
      · unfold cstep; split
        · omega
        · rw [List.length_append, List.length_singleton]; omega
      · omega
  exact key _
set_option maxRecDepth 100000 in
set_option maxHeartbeats 4000000 in
theorem sliceMarks_all (text : ByteArray) (l : List Sp) (o : Option Addr) (cap : Nat) (w : World) (hs : SpAt (fun _ => True) w o l) (hmx : l.length ≤ 9223372036854775807) (htx : text.size ≤ 9223372036854775807) :
    Calls Tryd.prog 3 #[.string text, .slice o l.length cap] w fun e w' => e = .returned (.bool true) ∧ Quiet0 w w' := by
  have HS := Lib.hid hs
  have HA : Hid (∀ W, Calls Tryd.prog 6 #[] W fun e w' => e = .returned (.bool true) ∧ Quiet0 W w') := fun W => awakeSl_any W
  by_cases h200 : 200 < text.size
  · have h200' : (200 : Int) < (text.size : Int) := by omega
    clear hs
    go_enter Tryd.func3, Tryd.ntmps3
    go_wp2_with fail
    refine (HA.out _).mono ?_; rintro e w1 ⟨rfl, hq⟩
    go_wp2_with fail
    go_ret
    exact ⟨rfl, hq⟩
  · have h200' : ¬ (200 : Int) < (text.size : Int) := by omega
    by_cases h30 : 30 < l.length
    · have h30' : (30 : Int) < (l.length : Int) := by omega
      clear hs
      go_enter Tryd.func3, Tryd.ntmps3
      go_wp2_with fail
      refine (HA.out _).mono ?_; rintro e w1 ⟨rfl, hq⟩
      go_wp2_with fail
      go_ret
      exact ⟨rfl, hq⟩
    · have h30' : ¬ (30 : Int) < (l.length : Int) := by omega
      have hrl := rmerge_length l
      obtain ⟨M, hM⟩ : ∃ M, eachF text markF (clipN text.size (rmerge l)) 0 ByteArray.empty = M := ⟨_, rfl⟩
      obtain ⟨K, hK⟩ : ∃ K, eachF text skelF (clipN text.size (rmerge l)) 0 ByteArray.empty = K := ⟨_, rfl⟩
      obtain ⟨N, hN⟩ : ∃ N, Lib.compact ((clipN text.size (rmerge l)).flatMap (partLines text)) = N := ⟨_, rfl⟩
      have H1 : Hid (∀ W, Quiet0 w W → Calls Tryd.prog 7 #[.string text, .slice o l.length cap] W (StrQ W M)) := fun W hq => by rw [← hM]; exact marked_any text l o cap W _ (HS.out.stay hq) (by omega) (by omega)
      have H2 : Hid (∀ W, Quiet0 w W → Calls Tryd.prog 8 #[.string text, .slice o l.length cap] W (fun e w' => e = .returned (.string M) ∧ W = w')) := fun W hq => refMarked_any text l o cap W _ (HS.out.stay hq) (by omega) (by omega) M (by rw [mark_all, hM])
      have H3 : Hid (∀ W, Quiet0 w W → Calls Tryd.prog 9 #[.string text, .slice o l.length cap] W (StrQ W K)) := fun W hq => by rw [← hK]; exact skeleton_any text l o cap W _ (HS.out.stay hq) (by omega) (by omega)
      have H4 : Hid (∀ W, Quiet0 w W → Calls Tryd.prog 10 #[.string text, .slice o l.length cap] W (fun e w' => e = .returned (.string K) ∧ W = w')) := fun W hq => refSkeleton_any text l o cap W _ (HS.out.stay hq) (by omega) (by omega) K (by rw [skel_all, hK])
      have H5 : Hid (∀ W, Quiet0 w W → Calls Tryd.prog 12 #[.string text, .slice o l.length cap] W (NumQ W N)) := fun W hq => by rw [← hN]; exact linesS_any text l o cap W _ (HS.out.stay hq) (by omega) (by omega) (by omega)
      have H6 : Hid (∀ W, Quiet0 w W → Calls Tryd.prog 13 #[.string text, .slice o l.length cap] W (NumQ W N)) := fun W hq => refLinesS_any text l o cap W _ (HS.out.stay hq) (by omega) (by omega) N (by rw [lines_all, hN])
      have hNl : N.length ≤ 1000000 := by
        have := refLinesLen text l
        rw [lines_all, hN] at this; omega
      clear hs hrl hM hK hN
      go_enter Tryd.func3, Tryd.ntmps3
      go_wp2_with fail
      refine (H1.out _ (Quiet0.refl _)).mono ?_; rintro e w1 ⟨rfl, hq1⟩
      have HQ1 := Lib.hid hq1
      clear hq1
      go_wp2_with fail
      refine (H2.out _ HQ1.out).mono ?_; rintro e w2 ⟨rfl, rfl⟩
      go_wp2_with fail
      refine (H3.out _ HQ1.out).mono ?_; rintro e w3 ⟨rfl, hq3⟩
      have HQ3 := Lib.hid (HQ1.out.trans hq3)
      clear hq3
      go_wp2_with fail
      refine (H4.out _ HQ3.out).mono ?_; rintro e w4 ⟨rfl, rfl⟩
      go_wp2_with fail
      refine (H5.out _ HQ3.out).mono ?_; rintro e w5 ⟨o5, c5, rfl, ha5, _, hq5⟩
      have HQ5 := Lib.hid (HQ3.out.trans hq5)
      have HA5 := Lib.hid ha5
      clear ha5 hq5
      go_wp2_with fail
      refine (H6.out _ HQ5.out).mono ?_; rintro e w6 ⟨o6, c6, rfl, ha6, _, hq6⟩
      have HI := Lib.hid (Li.ints_any o5 c5 o6 c6 N N w6 (HA5.out.stay hq6) ha6 hNl)
      rw [show (N == N) = true from by simp] at HI
      have HQ6 := Lib.hid (HQ5.out.trans hq6)
      clear ha6 hq6
      go_wp2_with fail
      refine HI.out.mono ?_; rintro e w7 ⟨rfl, hq7⟩
      have HQ7 := Lib.hid (HQ6.out.trans hq7)
      clear hq7
      go_wp2_with fail
      refine (HA.out _).mono ?_; rintro e w8 ⟨rfl, hq8⟩
      have HQ8 := Lib.hid (HQ7.out.trans hq8)
      clear hq8
      go_wp2_with fail
      go_ret
      exact ⟨rfl, HQ8.out⟩
end Go.Proofs.YtdlcakmjihfgfaaDoor
