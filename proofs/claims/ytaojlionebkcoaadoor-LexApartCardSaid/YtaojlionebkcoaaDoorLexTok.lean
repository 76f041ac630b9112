/-
  The token at a place (next): kind, length, or what is wrong. Conditions: the place lies in the text; strings.asciiSpace holds what its initialiser lays.
-/
import Derived.Test.YtaojlionebkcoaaDoorLexNext
namespace Go.Proofs.YtaojlionebkcoaaDoor
open Go.RowKit

def signText : ByteArray := ⟨#[40, 41, 44, 58, 61, 42]⟩
theorem sign_of (x : UInt8) : decide ((0 : Int) ≤ Lib.indexByte signText.data.toList x) = signB x := by
  have h : signText.data.toList = [40, 41, 44, 58, 61, 42] := rfl
  rw [h]
  unfold signB
  by_cases h1 : x = 40
  · subst h1; decide
  by_cases h2 : x = 41
  · subst h2; decide
  by_cases h3 : x = 44
  · subst h3; decide
  by_cases h4 : x = 58
  · subst h4; decide
  by_cases h5 : x = 61
  · subst h5; decide
  by_cases h6 : x = 42
  · subst h6; decide
  have e1 : (40 == x) = false := by simp; exact fun h => h1 h.symm
  have e2 : (41 == x) = false := by simp; exact fun h => h2 h.symm
  have e3 : (44 == x) = false := by simp; exact fun h => h3 h.symm
  have e4 : (58 == x) = false := by simp; exact fun h => h4 h.symm
  have e5 : (61 == x) = false := by simp; exact fun h => h5 h.symm
  have e6 : (42 == x) = false := by simp; exact fun h => h6 h.symm
  simp [Lib.indexByte, e1, e2, e3, e4, e5, e6, h1, h2, h3, h4, h5, h6]
theorem arrow_of (x : UInt8) (r : List UInt8) : Lib.hasPrefix (x :: r) [45, 62] = (x == 45 && goesOn (fun d => d == 62) r) := by
  unfold Lib.hasPrefix
  cases r with
  | nil => cases h : (x == 45) <;> simp [List.isPrefixOf, goesOn]
  | cons d r => simp only [List.isPrefixOf, goesOn, Bool.and_true]; rw [Bool.eq_iff_iff]; simp; constructor <;> (rintro ⟨h1, h2⟩; exact ⟨h1.symm, h2.symm⟩)
theorem next_small {x : UInt8} {r : List UInt8} (h : smallB x = true) : nextL (x :: r) = if kwB ((x :: r).take (runL innerB (x :: r))) then (3, runL innerB (x :: r), 0) else if 20 < runL innerB (x :: r) then (0, 0, 2) else (1, runL innerB (x :: r), 0) := by simp [nextL, h]
theorem next_digit {x : UInt8} {r : List UInt8} (h1 : smallB x = false) (h : digitB x = true) : nextL (x :: r) = numL (x :: r) := by simp [nextL, numL, goesOn, h1, h]
theorem next_sign {x : UInt8} {r : List UInt8} (h1 : smallB x = false) (h2 : digitB x = false) (h : signB x = true) : nextL (x :: r) = (4, 1, 0) := by simp [nextL, h1, h2, h]
theorem next_arrow {x : UInt8} {r : List UInt8} (h1 : smallB x = false) (h2 : digitB x = false) (h3 : signB x = false) : nextL (x :: r) = if Lib.hasPrefix (x :: r) [45, 62] then (4, 2, 0) else (0, 0, 3) := by simp [nextL, h1, h2, h3, arrow_of]

set_option maxHeartbeats 2000000 in
theorem next_any (s : ByteArray) (k : Nat) (ki : Int) (ek : ki = k) (hk : k < s.size) (hs : s.size ≤ maxLen) (w : World) (ht : Spaces w) :
    Calls Tryd.prog 18 #[.string s, .int .i64 ki] w fun e w' => e = trip (nextL (s.data.toList.drop k)) ∧ Quiet0 w w' := by
  subst ek
  have HS := Lib.hid hs
  have HT := Lib.hid ht
  have hs' := hs
  unfold maxLen at hs'
  clear hs ht
  have hlt' : (k : Int) < s.size := by omega
  have hd := Lib.hid (drop_byte s k hk)
  have HB := Lib.hid (small_any s[k])
  have HD := Lib.hid (digit_any s[k])
  have HI := Lib.hid (fun W => Tryd.strings_IndexByte signText ((s[k].toNat : Nat) : Int) W)
  have HSG := Lib.hid (sign_of s[k])
  have hx256 := u8_lt s[k]
  obtain ⟨x, hx⟩ : ∃ x, s[k] = x := ⟨_, rfl⟩
  rw [hx] at hd HB HD HI HSG hx256
  have hu : ((x.toNat : Nat) : Int).toNat.toUInt8 = x := by simp
  rw [hu] at HI
  clear hu
  cases hsm : smallB x
  · have HSM := Lib.hid hsm
    clear hsm
    cases hdg : digitB x
    · have HDG := Lib.hid hdg
      clear hdg
      cases hsg : signB x
      · have HN : Hid (nextL (s.data.toList.drop k) = if Lib.hasPrefix (s.data.toList.drop k) [45, 62] then (4, 2, 0) else (0, 0, 3)) := by
          rw [hd.out]; exact next_arrow HSM.out HDG.out hsg
        rw [hsg] at HSG
        have HP := Lib.hid (fun W => Tryd.strings_HasPrefix (s.extract k s.size) ⟨#[45, 62]⟩ W)
        have ex : (s.extract k s.size).data.toList = s.data.toList.drop k := by rw [Lib.extract_data, List.take_of_length_le (by simp)]
        rw [ex] at HP
        clear ex hsg
        generalize nextL (s.data.toList.drop k) = res at *
        have hneg : ¬ (0 : Int) ≤ Lib.indexByte signText.data.toList x := by simpa using HSG.out
        generalize Lib.indexByte signText.data.toList x = ib at *
        have hneg' : ib < 0 := by omega
        clear HSG hneg
        change Hid (∀ W, Calls _ _ _ _ fun e w' => e = .returned (.bool (Lib.hasPrefix (s.data.toList.drop k) [45, 62])) ∧ _) at HP
        cases hpre : Lib.hasPrefix (s.data.toList.drop k) [45, 62]
        all_goals
          have HPRE := Lib.hid hpre
          clear hpre
          go_enter Tryd.func18, Tryd.ntmps18
          go_wp2_with fail
          refine (HB.out _).mono ?_; rintro e w' ⟨rfl, rfl⟩
          rw [HSM.out]
          go_wp2_with fail
          refine (HD.out _).mono ?_; rintro e w' ⟨rfl, rfl⟩
          rw [HDG.out]
          go_wp2_with fail
          refine (HI.out _).mono ?_; rintro e w' ⟨rfl, rfl⟩
          go_wp2_with fail
          refine (HP.out _).mono ?_; rintro e w' ⟨rfl, rfl⟩
          rw [HPRE.out]
          go_wp2
          go_ret3
          exact ⟨by rw [HN.out, HPRE.out]; rfl, Quiet0.refl _⟩
      · have HN : Hid (nextL (s.data.toList.drop k) = (4, 1, 0)) := by rw [hd.out]; exact next_sign HSM.out HDG.out hsg
        rw [hsg] at HSG
        clear hsg
        have hpos : (0 : Int) ≤ Lib.indexByte signText.data.toList x := by simpa using HSG.out
        generalize Lib.indexByte signText.data.toList x = ib at *
        clear HSG
        go_enter Tryd.func18, Tryd.ntmps18
        go_wp2_with fail
        refine (HB.out _).mono ?_; rintro e w' ⟨rfl, rfl⟩
        rw [HSM.out]
        go_wp2_with fail
        refine (HD.out _).mono ?_; rintro e w' ⟨rfl, rfl⟩
        rw [HDG.out]
        go_wp2_with fail
        refine (HI.out _).mono ?_; rintro e w' ⟨rfl, rfl⟩
        go_wp2
        go_ret3
        exact ⟨by rw [HN.out]; rfl, Quiet0.refl _⟩
    · have HN : Hid (nextL (s.data.toList.drop k) = numL (s.data.toList.drop k)) := by rw [hd.out]; exact next_digit HSM.out hdg
      have HDG := Lib.hid hdg
      clear hdg HSG HI
      go_enter Tryd.func18, Tryd.ntmps18
      go_wp2_with fail
      refine (HB.out _).mono ?_; rintro e w' ⟨rfl, rfl⟩
      rw [HSM.out]
      go_wp2_with fail
      refine (HD.out _).mono ?_; rintro e w' ⟨rfl, rfl⟩
      rw [HDG.out]
      go_wp2_with fail
      refine (number_any s k _ rfl hk HS.out _).mono ?_; rintro e w' ⟨rfl, rfl⟩
      unfold trip
      go_wp2
      go_ret3
      exact ⟨by rw [HN.out]; rfl, Quiet0.refl _⟩
  · have HSM := Lib.hid hsm
    clear hsm HSG HI HD
    have hrl := runL_le innerB (s.data.toList.drop k)
    simp only [List.length_drop, bytes_length] at hrl
    have HR := Lib.hid (fun W => run_any 27 innerB eg_inner inner_any s k _ rfl (by omega) HS.out W)
    have HN : Hid (nextL (s.data.toList.drop k) = if kwB ((s.data.toList.drop k).take (runL innerB (s.data.toList.drop k))) then (3, runL innerB (s.data.toList.drop k), 0) else if 20 < runL innerB (s.data.toList.drop k) then (0, 0, 2) else (1, runL innerB (s.data.toList.drop k), 0)) := by
      rw [hd.out]; exact next_small HSM.out
    generalize runL innerB (s.data.toList.drop k) = n at *
    have ex : (s.extract k (k + n)).data.toList = (s.data.toList.drop k).take n := by rw [Lib.extract_data]; congr 1; omega
    have HK := Lib.hid (fun W h => keyword_any (s.extract k (k + n)) W h)
    rw [ex] at HK
    clear ex
    generalize nextL (s.data.toList.drop k) = res at *
    cases hkw : kwB ((s.data.toList.drop k).take n)
    · have HKW := Lib.hid hkw
      clear hkw
      by_cases h20 : 20 < n
      all_goals
        have h20' := h20
        first | (have h20i : (20 : Int) < n := by omega) | (have h20i : ¬ (20 : Int) < n := by omega)
        go_enter Tryd.func18, Tryd.ntmps18
        go_wp2_with fail
        refine (HB.out _).mono ?_; rintro e w' ⟨rfl, rfl⟩
        rw [HSM.out]
        go_wp2_with fail
        refine (HR.out _).mono ?_; rintro e w' ⟨rfl, rfl⟩
        go_wp2_with fail
        refine (HK.out _ HT.out).mono ?_; rintro e w' ⟨rfl, hq⟩
        rw [HKW.out]
        go_wp2
        go_ret3
        exact ⟨by rw [HN.out, HKW.out]; simp [trip, h20], hq⟩
    · have HKW := Lib.hid hkw
      clear hkw
      go_enter Tryd.func18, Tryd.ntmps18
      go_wp2_with fail
      refine (HB.out _).mono ?_; rintro e w' ⟨rfl, rfl⟩
      rw [HSM.out]
      go_wp2_with fail
      refine (HR.out _).mono ?_; rintro e w' ⟨rfl, rfl⟩
      go_wp2_with fail
      refine (HK.out _ HT.out).mono ?_; rintro e w' ⟨rfl, hq⟩
      rw [HKW.out]
      go_wp2
      go_ret3
      exact ⟨by rw [HN.out, HKW.out]; simp [trip], hq⟩
end Go.Proofs.YtaojlionebkcoaaDoor
