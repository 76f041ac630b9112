/-
  LexWords, walked: it returns true and turns nothing that was there. Condition: strings.asciiSpace holds what its initialiser lays.
-/
import Derived.Test.YtaojlionebkcoaaDoorLexAwake
import Derived.Test.YtaojlionebkcoaaDoorLexRefWords
namespace Go.Proofs.YtaojlionebkcoaaDoor
open Go.RowKit

set_option maxHeartbeats 1000000 in
theorem lexWords_big (s : ByteArray) (hs : 400 < s.size) (w : World) (ht : Spaces w) : Calls Tryd.prog 3 #[.string s] w fun e w' => e = .returned (.bool true) ∧ Quiet0 w w' := by
  have HT := Lib.hid ht
  clear ht
  have h1 : (400 : Int) < (s.size : Int) := by omega
  go_enter Tryd.func3, Tryd.ntmps3
  go_wp2_with fail
  refine (awake_any _ HT.out).mono ?_; rintro e w1 ⟨rfl, hq⟩
  go_wp2_with fail
  go_ret
  exact ⟨rfl, hq⟩
set_option maxHeartbeats 1000000 in
theorem lexWords_small (s : ByteArray) (hs : s.size ≤ 400) (w : World) (ht : Spaces w) : Calls Tryd.prog 3 #[.string s] w fun e w' => e = .returned (.bool true) ∧ Quiet0 w w' := by
  have HT := Lib.hid ht
  clear ht
  have h1 : ¬ (400 : Int) < (s.size : Int) := by omega
  have HLE : Hid (∀ ts, wordsL s.data.toList = .inl ts → ts.length ≤ 100001) := by
    intro ts h
    have := wordsA_len _ _ _ h
    rw [bytes_length] at this; omega
  cases hw : wordsL s.data.toList with
  | inl ts =>
    have HW := Lib.hid hw
    have hlen := HLE.out ts hw
    clear hw
    go_enter Tryd.func3, Tryd.ntmps3
    go_wp2_with fail
    refine (words_any s (by omega) _ HT.out).mono ?_; rintro e w1 hp
    obtain ⟨hq1, g, c, rfl, hr⟩ := hp.ok HW.out
    have HQ1 := Lib.hid hq1
    have HR := Lib.hid hr
    clear hp hq1 hr
    go_wp2_with fail
    refine (refWords_any s (by omega) _).mono ?_; rintro e w2 hp
    obtain ⟨hq2, g2, c2, rfl, hr2⟩ := hp.ok HW.out
    have H1 := Lib.hid (HR.out.at.stay HR.out.lt.2 hq2)
    have H2 := Lib.hid hr2.at
    have HQ2 := Lib.hid (HQ1.out.trans hq2)
    clear hp hq2 hr2 HR
    obtain ⟨n, hn⟩ : ∃ n, n = ts.length := ⟨_, rfl⟩
    have HN := Lib.hid hn
    rw [← hn] at hlen ⊢
    clear hn
    go_wp2_with fail
    refine (refSame_yes g g2 n c c2 ts _ H1.out H2.out HN.out hlen).mono ?_; rintro e w3 ⟨rfl, hq3⟩
    have HQ3 := Lib.hid (HQ2.out.trans hq3)
    clear hq3
    go_wp2_with fail
    refine (awake_any _ (HT.out.stay HQ3.out)).mono ?_; rintro e w4 ⟨rfl, hq4⟩
    go_wp2_with fail
    go_ret
    exact ⟨rfl, HQ3.out.trans hq4⟩
  | inr p =>
    have HW := Lib.hid hw
    clear hw
    obtain ⟨at', er⟩ := p
    go_enter Tryd.func3, Tryd.ntmps3
    go_wp2_with fail
    refine (words_any s (by omega) _ HT.out).mono ?_; rintro e w1 hp
    obtain ⟨hq1, rfl⟩ := hp.bad HW.out
    have HQ1 := Lib.hid hq1
    clear hp hq1
    go_wp2_with fail
    refine (refWords_any s (by omega) _).mono ?_; rintro e w2 hp
    obtain ⟨hq2, rfl⟩ := hp.bad HW.out
    have HQ2 := Lib.hid (HQ1.out.trans hq2)
    clear hp hq2
    go_wp2_with fail
    refine (refSame_none _).mono ?_; rintro e w3 ⟨rfl, rfl⟩
    go_wp2_with fail
    refine (awake_any _ (HT.out.stay HQ2.out)).mono ?_; rintro e w4 ⟨rfl, hq4⟩
    go_wp2_with fail
    go_ret
    exact ⟨rfl, HQ2.out.trans hq4⟩
theorem lexWords_all (s : ByteArray) (w : World) (ht : Spaces w) : Calls Tryd.prog 3 #[.string s] w fun e w' => e = .returned (.bool true) ∧ Quiet0 w w' := by
  by_cases h : 400 < s.size
  · exact lexWords_big s h w ht
  · exact lexWords_small s (by omega) w ht
end Go.Proofs.YtaojlionebkcoaaDoor
