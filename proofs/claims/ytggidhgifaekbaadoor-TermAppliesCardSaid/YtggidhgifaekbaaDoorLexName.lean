/-
  Whether a text is a name that may be: the program's Name and the reference's. Conditions: the text is of a bounded length; strings.asciiSpace holds what its initialiser lays.
-/
import Derived.Test.YtggidhgifaekbaaDoorLexKw
namespace Go.Proofs.YtggidhgifaekbaaDoor.Lx
open Go.RowKit

def nameB (l : List UInt8) : Bool := goesOn smallB l && decide (runL innerB l = l.length) && decide (l.length ≤ 20) && !kwB l

theorem isEmpty_of (s : ByteArray) : s.toList.isEmpty = decide (s.size = 0) := by
  rw [ByteArray.toList_eq, Bool.eq_iff_iff, decide_eq_true_eq, List.isEmpty_iff, ← bytes_length, List.length_eq_zero_iff]

set_option maxHeartbeats 2000000 in
theorem name_any (s : ByteArray) (hs : s.size ≤ 100000) (w : World) (ht : Spaces w) :
    Calls Tryd.prog 115 #[.string s] w fun e w' => e = .returned (.bool (nameB s.data.toList)) ∧ Quiet0 w w' := by
  have HT := Lib.hid ht
  have HS : Hid (s.size ≤ maxLen) := by show _ ≤ _; unfold maxLen; omega
  clear ht
  have HE := Lib.hid (isEmpty_of s)
  obtain ⟨res, hres⟩ : ∃ res, res = nameB s.data.toList := ⟨_, rfl⟩
  have HRES := Lib.hid hres
  rw [← hres]
  clear hres
  by_cases h0 : s.size = 0
  · have e1 : s.toList.isEmpty = true := by rw [HE.out]; simpa using h0
    have e2 : s.toList = [] := by simpa using e1
    have HF : Hid (res = false) := by
      show _ = _
      rw [HRES.out]
      have : s.data.toList = [] := by rw [← List.length_eq_zero_iff, bytes_length]; exact h0
      rw [this]; rfl
    clear h0
    go_enter Tryd.func115, Tryd.ntmps115
    go_wp2_with fail
    go_ret
    exact ⟨by rw [HF.out]; first | rfl | simp_all, Quiet0.refl _⟩
  · have e1 : s.toList.isEmpty = false := by rw [HE.out]; simpa using h0
    have e2 : ¬ s.toList = [] := by simpa using e1
    have hpos : 0 < s.size := by omega
    have HD : Hid (s.data.toList = s[0] :: s.data.toList.drop 1) := by
      have := drop_byte s 0 hpos; rw [List.drop_zero] at this; exact this
    have HB := Lib.hid (small_any s[0])
    obtain ⟨x, hx⟩ : ∃ x, s[0] = x := ⟨_, rfl⟩
    rw [hx] at HD HB
    have hrl := runL_le innerB s.data.toList
    rw [bytes_length] at hrl
    have HR := Lib.hid (fun W => run_any 129 innerB eg_inner inner_any s 0 0 rfl (by omega) HS.out W)
    rw [List.drop_zero] at HR
    have HK := Lib.hid (fun W h => keyword_any s W h)
    have HN : Hid (res = (smallB x && decide (runL innerB s.data.toList = s.size) && decide (s.size ≤ 20) && !kwB s.data.toList)) := by
      show _ = _
      rw [HRES.out]; unfold nameB; rw [bytes_length, HD.out]; rfl
    clear HRES HE HD h0
    generalize runL innerB s.data.toList = rn at *
    cases hsm : smallB x
    · have HSM := Lib.hid hsm
      clear hsm
      go_enter Tryd.func115, Tryd.ntmps115
      go_wp2_with fail
      refine (HB.out _).mono ?_; rintro e w' ⟨rfl, rfl⟩
      rw [HSM.out]
      go_wp2_with fail
      go_ret
      exact ⟨by rw [HN.out, HSM.out]; rfl, Quiet0.refl _⟩
    · have HSM := Lib.hid hsm
      clear hsm
      by_cases hrn : rn = s.size
      · have hr1 : ((rn : Int) == (s.size : Int)) = true := by simp [hrn]
        have HRN := Lib.hid hrn
        clear hrn
        by_cases h20 : s.size ≤ 20
        · have h20' : (s.size : Int) ≤ 20 := by omega
          cases hkw : kwB s.data.toList
          all_goals
            have HKW := Lib.hid hkw
            clear hkw
            go_enter Tryd.func115, Tryd.ntmps115
            go_wp2_with fail
            refine (HB.out _).mono ?_; rintro e w' ⟨rfl, rfl⟩
            rw [HSM.out]
            go_wp2_with fail
            refine (HR.out _).mono ?_; rintro e w' ⟨rfl, rfl⟩
            go_wp2_with fail
            refine (HK.out _ HT.out).mono ?_; rintro e w' ⟨rfl, hq⟩
            rw [HKW.out]
            go_wp2_with fail
            go_ret
            exact ⟨by rw [HN.out, HSM.out, HKW.out, HRN.out]; simp [h20], hq⟩
        · have h20' : ¬ (s.size : Int) ≤ 20 := by omega
          go_enter Tryd.func115, Tryd.ntmps115
          go_wp2_with fail
          refine (HB.out _).mono ?_; rintro e w' ⟨rfl, rfl⟩
          rw [HSM.out]
          go_wp2_with fail
          refine (HR.out _).mono ?_; rintro e w' ⟨rfl, rfl⟩
          go_wp2_with fail
          go_ret
          exact ⟨by rw [HN.out, HSM.out, HRN.out]; simp [h20], Quiet0.refl _⟩
      · have hr1 : ((rn : Int) == (s.size : Int)) = false := by simp; omega
        have HRN := Lib.hid hrn
        clear hrn
        go_enter Tryd.func115, Tryd.ntmps115
        go_wp2_with fail
        refine (HB.out _).mono ?_; rintro e w' ⟨rfl, rfl⟩
        rw [HSM.out]
        go_wp2_with fail
        refine (HR.out _).mono ?_; rintro e w' ⟨rfl, rfl⟩
        go_wp2_with fail
        go_ret
        exact ⟨by rw [HN.out, HSM.out]; simp [HRN.out], Quiet0.refl _⟩

theorem runL_all {p : UInt8 → Bool} {l : List UInt8} (h : runL p l < l.length) : runL p l ≠ l.length := by omega
set_option maxHeartbeats 4000000 in
theorem refName_any (s : ByteArray) (hs : s.size ≤ 100000) (w : World) :
    Calls Tryd.prog 117 #[.string s] w fun e w' => e = .returned (.bool (nameB s.data.toList)) ∧ Quiet0 w w' := by
  obtain ⟨res, hres⟩ : ∃ res, res = nameB s.data.toList := ⟨_, rfl⟩
  have HRES : Hid (res = (goesOn smallB s.data.toList && decide (runL innerB s.data.toList = s.size) && decide (s.size ≤ 20) && !kwB s.data.toList)) := by
    show _ = _
    rw [hres]; unfold nameB; rw [bytes_length]
  rw [← hres]
  clear hres
  go_enter Tryd.func117, Tryd.ntmps117
  go_wp2_with fail
  go_loop [3] (fun t => ∃ k : Nat, t = .int .i64 k ∧ k ≤ s.size ∧ runL innerB s.data.toList = k + runL innerB (s.data.toList.drop k) ∧ (0 < k → goesOn smallB s.data.toList = true)) (fun t => s.size - (intOf t).toNat)
  case atStart => exact ⟨0, rfl, Nat.zero_le _, by simp, fun h => by omega⟩
  case round =>
    obtain ⟨k, rfl, hk, hr, hg⟩ := hrel
    have HR := Lib.hid hr
    have HG := Lib.hid hg
    clear hr hg
    by_cases hlt : k < s.size
    · have hlt' : (k : Int) < s.size := by omega
      have HD := Lib.hid (drop_byte s k hlt)
      have HI := Lib.hid (refInner_any s[k])
      have HL := Lib.hid (letter_any s[k])
      obtain ⟨x, hx⟩ : ∃ x, s[k] = x := ⟨_, rfl⟩
      rw [hx] at HD HI HL
      cases hin : innerB x
      · have HIN := Lib.hid hin
        clear hin
        go_wp2_with fail
        refine (HI.out _).mono ?_; rintro e w' ⟨rfl, rfl⟩
        rw [HIN.out]
        go_wp2_with fail
        go_ret
        refine ⟨?_, Quiet0.refl _⟩
        have : runL innerB s.data.toList = k := by rw [HR.out, HD.out, runL_cons, HIN.out]; rfl
        have hne : ¬ runL innerB s.data.toList = s.size := by omega
        rw [HRES.out]; simp [hne]
      · have HIN := Lib.hid hin
        clear hin
        by_cases hk0 : k = 0
        · have b0 : ((k : Int) == 0) = true := by simp [hk0]
          cases hsm : smallB x
          · have HSM := Lib.hid hsm
            have HGO : Hid (goesOn smallB s.data.toList = false) := by
              show _ = _
              have := HD.out; rw [hk0, List.drop_zero] at this; rw [this]; exact hsm
            clear hsm hk0
            go_wp2_with fail
            refine (HI.out _).mono ?_; rintro e w' ⟨rfl, rfl⟩
            rw [HIN.out]
            go_wp2_with fail
            refine (HL.out _).mono ?_; rintro e w' ⟨rfl, rfl⟩
            rw [HSM.out]
            go_wp2_with fail
            go_ret
            exact ⟨by rw [HRES.out, HGO.out]; rfl, Quiet0.refl _⟩
          · have HSM := Lib.hid hsm
            have HGO : Hid (goesOn smallB s.data.toList = true) := by
              show _ = _
              have := HD.out; rw [hk0, List.drop_zero] at this; rw [this]; exact hsm
            clear hsm hk0
            go_wp2_with fail
            refine (HI.out _).mono ?_; rintro e w' ⟨rfl, rfl⟩
            rw [HIN.out]
            go_wp2_with fail
            refine (HL.out _).mono ?_; rintro e w' ⟨rfl, rfl⟩
            rw [HSM.out]
            go_wp2_with fail
            go_round
            case rel => exact ⟨k + 1, by go_num, by omega, by rw [HR.out, HD.out, runL_cons, HIN.out]; simp only [if_true]; omega, fun _ => HGO.out⟩
            case measure => simp [intOf]; omega
        · have b0 : ((k : Int) == 0) = false := by simp; omega
          have HK0 := Lib.hid hk0
          clear hk0
          go_wp2_with fail
          refine (HI.out _).mono ?_; rintro e w' ⟨rfl, rfl⟩
          rw [HIN.out]
          go_wp2_with fail
          go_round
          case rel => exact ⟨k + 1, by go_num, by omega, by rw [HR.out, HD.out, runL_cons, HIN.out]; simp only [if_true]; omega, fun _ => HG.out (by have := HK0.out; omega)⟩
          case measure => simp [intOf]; omega
    · have hkk : k = s.size := by omega
      have hlt' : ¬ (k : Int) < s.size := by omega
      have HRN : Hid (runL innerB s.data.toList = s.size) := by
        show _ = _
        rw [HR.out, drop_end s k (by omega), hkk]; rfl
      have HK := Lib.hid (refKeyword_any s w)
      by_cases h0 : 0 < s.size
      · have h0' : (0 : Int) < s.size := by omega
        have HGO := Lib.hid (HG.out (by omega))
        by_cases h20 : s.size ≤ 20
        · have h20' : (s.size : Int) ≤ 20 := by omega
          cases hkw : kwB s.data.toList
          all_goals
            have HKW := Lib.hid hkw
            clear hkw hkk
            go_wp2_with fail
            refine HK.out.mono ?_; rintro e w' ⟨rfl, hq⟩
            rw [HKW.out]
            go_wp2_with fail
            go_ret
            exact ⟨by rw [HRES.out, HGO.out, HRN.out, HKW.out]; simp [h20], hq⟩
        · have h20' : ¬ (s.size : Int) ≤ 20 := by omega
          clear hkk
          go_wp2_with fail
          go_ret
          exact ⟨by rw [HRES.out]; simp [h20], Quiet0.refl _⟩
      · have h0' : ¬ (0 : Int) < s.size := by omega
        have HE : Hid (s.data.toList = []) := by show _ = _; rw [← List.length_eq_zero_iff, bytes_length]; omega
        clear hkk
        go_wp2_with fail
        go_ret
        exact ⟨by rw [HRES.out, HE.out]; rfl, Quiet0.refl _⟩
end Go.Proofs.YtggidhgifaekbaaDoor.Lx
