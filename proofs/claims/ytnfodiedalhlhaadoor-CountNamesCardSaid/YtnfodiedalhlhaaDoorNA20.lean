/-
  Texts laid together (LexRefWords, LexAwake): laws and walks, with their conditions in their statements.
-/
import Derived.Deep.CutBlock
import Derived.Test.YtnfodiedalhlhaaDoorNA14
section
namespace Go.Proofs.YtnfodiedalhlhaaDoor.Lx
open Go.RowKit
theorem wordsA_blank {at' : Nat} {l r : List UInt8} {c : UInt8} (hl : l = c :: r) (hb : blankB c = true) : wordsA at' l = wordsA (at' + 1) (l.drop 1) := by
  subst hl
  exact wordsA_skip (k := 1) (by rw [skip_blank hb]; omega) (by rw [skip_blank hb]; simp)
theorem wordsA_hash {at' : Nat} {l r : List UInt8} {c : UInt8} (hl : l = c :: r) (hb : blankB c = false) (h : (c == 35) = true) : wordsA at' l = wordsA (at' + runL nolfB l) (l.drop (runL nolfB l)) := by
  have := skip_hash (r := r) hb h
  rw [← hl] at this
  exact wordsA_skip (by omega) (by omega)
theorem wordsA_tok0 {at' : Nat} {l r : List UInt8} {c : UInt8} {kd ln : Nat} (hl : l = c :: r) (hb : blankB c = false) (h : (c == 35) = false) (hn : nextL l = (kd, ln, 0)) : wordsA at' l = consW ⟨kd, l.take ln, at', at' + ln⟩ (wordsA (at' + ln) (l.drop ln)) := by
  have h0 : skipL false l = 0 := by rw [hl]; exact skip_stop hb h
  have := wordsA_tok (at' := at') (l := l) (by rw [h0, hl]; simp) (by rw [h0, List.drop_zero, hn])
  rw [h0, List.drop_zero, hn] at this
  exact this
theorem wordsA_bad0 {at' : Nat} {l r : List UInt8} {c : UInt8} {a b er : Nat} (hl : l = c :: r) (hb : blankB c = false) (h : (c == 35) = false) (hn : nextL l = (a, b, er)) (he : er ≠ 0) : wordsA at' l = .inr (at', er) := by
  have h0 : skipL false l = 0 := by rw [hl]; exact skip_stop hb h
  have := wordsA_bad (at' := at') (l := l) (by rw [h0, hl]; simp) (by rw [h0, List.drop_zero, hn]; exact he)
  rw [h0, List.drop_zero, hn] at this
  exact this
theorem byte_of_eq (x : UInt8) (m : Nat) (hm : m < 256) : ((x.toNat : Int) == (m : Int)) = (x == UInt8.ofNat m) := by
  rw [u8_beq x m hm, Bool.eq_iff_iff]; simp; omega
theorem byte_of_ne (x : UInt8) (m : Nat) (hm : m < 256) : ((x.toNat : Int) != (m : Int)) = !(x == UInt8.ofNat m) := by
  rw [← byte_of_eq x m hm]; rfl
theorem token_text2 (s : ByteArray) (n j : Nat) : s.extract n j = toBA ((s.data.toList.drop n).take (j - n)) := by
  apply ba_ext
  rw [Lib.extract_data, toBA_toList]
theorem ref_err {l : List UInt8} {acc : List Tok} {n er : Nat} (hW : wordsL l = appW acc (wordsA n (l.drop n))) (hT : wordsA n (l.drop n) = .inr (n, er)) : wordsL l = .inr (n, er) := by
  rw [hW, hT]; rfl
theorem words_err {l : List UInt8} {w w' : World} {n er : Nat} {e : Ending} (hq : Quiet0 w w') (h : wordsL l = .inr (n, er)) (he : e = .returned (.tuple #[.slice none 0 0, .int .i64 (n : Nat), .int .i64 (er : Nat)])) : WordsPost l w e w' := by
  refine ⟨hq, ?_⟩
  rw [h]; exact he
theorem sign_cases {x : UInt8} (h : signB x = true) : x = 40 ∨ x = 41 ∨ x = 44 ∨ x = 58 ∨ x = 61 ∨ x = 42 := by
  unfold signB at h; simp at h; rcases h with ((((h | h) | h) | h) | h) | h <;> simp [h]
theorem not_sign {x : UInt8} (h : signB x = false) : (x == 40) = false ∧ (x == 41) = false ∧ (x == 44) = false ∧ (x == 58) = false ∧ (x == 61) = false ∧ (x == 42) = false := by
  unfold signB at h; simp at h; simp [h]
theorem byte_of_arrow (x : UInt8) : ((x.toNat : Int) != 62) = !(x == 62) := byte_of_ne x 62 (by omega)
theorem b45 (x : UInt8) : ((x.toNat : Int) == 45) = (x == 45) := byte_of_eq x 45 (by omega)
theorem n40 (x : UInt8) : ((x.toNat : Int) != 40) = !(x == 40) := byte_of_ne x 40 (by omega)
theorem n41 (x : UInt8) : ((x.toNat : Int) != 41) = !(x == 41) := byte_of_ne x 41 (by omega)
theorem n44 (x : UInt8) : ((x.toNat : Int) != 44) = !(x == 44) := byte_of_ne x 44 (by omega)
theorem n58 (x : UInt8) : ((x.toNat : Int) != 58) = !(x == 58) := byte_of_ne x 58 (by omega)
theorem n61 (x : UInt8) : ((x.toNat : Int) != 61) = !(x == 61) := byte_of_ne x 61 (by omega)
theorem n42 (x : UInt8) : ((x.toNat : Int) != 42) = !(x == 42) := byte_of_ne x 42 (by omega)
def SwitchRel (l : List UInt8) (n size : Nat) (w : World) (t1 t2 : Value) (wx : World) : Prop :=
  ∃ j kd : Nat, t1 = .int .i64 (j : Nat) ∧ t2 = .int .i64 (kd : Nat) ∧ n < j ∧ j ≤ size ∧ wordsA n (l.drop n) = consW ⟨kd, (l.drop n).take (j - n), n, j⟩ (wordsA j (l.drop j)) ∧ Quiet0 w wx
theorem ref_tok {l : List UInt8} {n kd ln j : Nat} (h : wordsA n (l.drop n) = consW ⟨kd, (l.drop n).take ln, n, n + ln⟩ (wordsA (n + ln) ((l.drop n).drop ln))) (hj : j = n + ln) : wordsA n (l.drop n) = consW ⟨kd, (l.drop n).take (j - n), n, j⟩ (wordsA j (l.drop j)) := by
  subst hj
  rw [h, List.drop_drop, show n + ln - n = ln from by omega]
set_option maxRecDepth 100000 in
set_option maxHeartbeats 8000000 in
theorem refWords_any (s : ByteArray) (hs : s.size ≤ 100000) (w : World) :
    Calls Tryd.prog 36 #[.string s] w fun e w' => WordsPost s.data.toList w e w' := by
  have HS : Hid (s.size ≤ maxLen) := by show _ ≤ _; unfold maxLen; omega
  go_enter Tryd.func36, Tryd.ntmps36
  go_wp2_with fail
  obtain ⟨B, hB⟩ : ∃ B, B = w.heap.size := ⟨_, rfl⟩
  have HBB := Lib.hid hB
  clear hB
  go_loopw [5, 6] (fun v t wr => ∃ (acc : List Tok) (n : Nat) (o : Option Addr) (c : Nat), v = .slice o acc.length c ∧ t = .int .i64 n ∧ n ≤ s.size ∧ wordsL s.data.toList = appW acc (wordsA n (s.data.toList.drop n)) ∧ TokRow wr B (.slice o acc.length c) acc ∧ acc.length ≤ n ∧ Quiet0 w wr) (fun _ t _ => s.size - (intOf t).toNat)
  case atStart =>
    exact ⟨[], 0, none, 0, rfl, rfl, Nat.zero_le _, by rw [appW_nil]; rfl, ⟨World.ownsRow_nil _ _ _ _, by intro k hk; cases hk⟩, Nat.zero_le _, Quiet0.refl _⟩
  case round =>
    obtain ⟨acc, n, o, c, rfl, rfl, hn, hW, hrow, hacc, hq⟩ := hrel
    have HW := Lib.hid hW
    have HR := Lib.hid hrow
    have HQ := Lib.hid hq
    clear hW hrow hq
    have hsz1 : acc.length ≤ 100000 := by omega
    by_cases hlt : n < s.size
    · have hlt' : (n : Int) < s.size := by omega
      have HD := Lib.hid (drop_byte s n hlt)
      have HHASH := Lib.hid (hash_of s[n])
      have HB := Lib.hid (blank_of s[n])
      have HLT := Lib.hid (letter_any s[n])
      have HDG := Lib.hid (refDigit_any s[n])
      have HSM := Lib.hid (zero_of s[n])
      have hx256 := u8_lt s[n]
      obtain ⟨x, hx⟩ : ∃ x, s[n] = x := ⟨_, rfl⟩
      rw [hx] at HD HHASH HB HLT HDG HSM hx256
      cases hb : blankB x
      · have HBX := Lib.hid hb
        have b32 : ((x.toNat : Int) == 32) = false := by have := HB.out; rw [hb] at this; revert this; cases ((x.toNat : Int) == 32) <;> simp
        have b9 : ((x.toNat : Int) == 9) = false := by have := HB.out; rw [hb] at this; revert this; cases ((x.toNat : Int) == 9) <;> simp
        have b10 : ((x.toNat : Int) == 10) = false := by have := HB.out; rw [hb] at this; revert this; cases ((x.toNat : Int) == 10) <;> simp
        have b13 : ((x.toNat : Int) == 13) = false := by have := HB.out; rw [hb] at this; revert this; cases ((x.toNat : Int) == 13) <;> simp
        clear hb HB
        cases hh : (x == 35)
        · have HH := Lib.hid hh
          have hh' : ((x.toNat : Int) == 35) = false := by rw [HHASH.out, hh]
          clear hh HHASH
          go_upto_block 4 with (fail)
          go_cut [8, 9] (fun t1 t2 wx => SwitchRel s.data.toList n s.size wr t1 t2 wx)
          case first =>
            cases hsm : smallB x
            · have HSML := Lib.hid hsm
              clear hsm
              cases hdg : digitB x
              · as_aux_lemma =>
                  have HDGT := Lib.hid hdg
                  clear hdg
                  go_wp2_with fail
                  refine (HLT.out _).mono ?_; rintro e w' ⟨rfl, rfl⟩
                  rw [HSML.out]
                  go_wp2_with fail
                  refine (HDG.out _).mono ?_; rintro e w' ⟨rfl, rfl⟩
                  rw [HDGT.out]
                  clear HLT HDG HSM
                  cases hmn : (x == 45)
                  · have hmn' : ((x.toNat : Int) == 45) = false := by rw [b45, hmn]
                    have HM := Lib.hid hmn
                    clear hmn
                    cases hsg : signB x
                    · obtain ⟨m1, m2, m3, m4, m5, m6⟩ := not_sign hsg
                      have a1 : ((x.toNat : Int) != 40) = true := by rw [n40, m1]; rfl
                      have a2 : ((x.toNat : Int) != 41) = true := by rw [n41, m2]; rfl
                      have a3 : ((x.toNat : Int) != 44) = true := by rw [n44, m3]; rfl
                      have a4 : ((x.toNat : Int) != 58) = true := by rw [n58, m4]; rfl
                      have a5 : ((x.toNat : Int) != 61) = true := by rw [n61, m5]; rfl
                      have a6 : ((x.toNat : Int) != 42) = true := by rw [n42, m6]; rfl
                      have HNX : Hid (nextL (s.data.toList.drop n) = (0, 0, 3)) := by
                        show _ = _
                        rw [HD.out, next_arrow HSML.out HDGT.out hsg, arrow_of, HM.out]; rfl
                      have HERR := Lib.hid (ref_err HW.out (wordsA_bad0 (at' := n) HD.out HBX.out HH.out HNX.out (by decide)))
                      clear m1 m2 m3 m4 m5 m6 hsg
                      go_wp2_with fail
                      go_ret3
                      exact words_err HQ.out HERR.out rfl
                    · have hsx := sign_cases hsg
                      have HNX : Hid (nextL (s.data.toList.drop n) = (4, 1, 0)) := by
                        show _ = _
                        rw [HD.out]; exact next_sign HSML.out HDGT.out hsg
                      have HTK2 := Lib.hid (ref_tok (j := n + 1) (wordsA_tok0 (at' := n) HD.out HBX.out HH.out HNX.out) rfl)
                      clear hsg HM HNX HD HBX HH HSML HDGT b32 b9 b10 b13 hh' hmn' hx256
                      rcases hsx with rfl | rfl | rfl | rfl | rfl | rfl
                      all_goals
                        go_wp2_with fail
                        go_meet
                        exact ⟨n + 1, 4, by go_num, rfl, by omega, by omega, HTK2.out, Quiet0.refl _⟩
                  · have hmn' : ((x.toNat : Int) == 45) = true := by rw [b45, hmn]
                    have HM := Lib.hid hmn
                    have hsg : signB x = false := by have : x = 45 := by simpa using hmn
                                                     subst this; decide
                    have HAR : Hid (nextL (s.data.toList.drop n) = if Lib.hasPrefix (x :: s.data.toList.drop (n + 1)) [45, 62] then (4, 2, 0) else (0, 0, 3)) := by
                      show _ = _
                      rw [HD.out]; exact next_arrow HSML.out HDGT.out hsg
                    rw [arrow_of, hmn] at HAR
                    clear hmn hsg
                    by_cases hn1 : n + 1 < s.size
                    · have hn1' : (n : Int) + 1 < s.size := by omega
                      have HD1 := Lib.hid (drop_byte s (n + 1) hn1)
                      have HA62 := Lib.hid (byte_of_arrow s[n + 1])
                      obtain ⟨y, hy⟩ : ∃ y, s[n + 1] = y := ⟨_, rfl⟩
                      rw [hy] at HD1 HA62
                      rw [HD1.out] at HAR
                      cases h62 : (y == 62)
                      · have h62' : ((y.toNat : Int) != 62) = true := by rw [HA62.out, h62]; rfl
                        have HNX : Hid (nextL (s.data.toList.drop n) = (0, 0, 3)) := by
                          show _ = _; rw [HAR.out]; simp [goesOn, h62]
                        have HERR := Lib.hid (ref_err HW.out (wordsA_bad0 (at' := n) HD.out HBX.out HH.out HNX.out (by decide)))
                        clear HA62 h62 HAR HNX
                        go_wp2_with fail
                        go_ret3
                        exact words_err HQ.out HERR.out rfl
                      · have h62' : ((y.toNat : Int) != 62) = false := by rw [HA62.out, h62]; rfl
                        have HNX : Hid (nextL (s.data.toList.drop n) = (4, 2, 0)) := by
                          show _ = _; rw [HAR.out]; simp [goesOn, h62]
                        have HTK2 := Lib.hid (ref_tok (j := n + 2) (wordsA_tok0 (at' := n) HD.out HBX.out HH.out HNX.out) rfl)
                        clear HA62 h62 HAR HNX
                        go_wp2_with fail
                        go_meet
                        exact ⟨n + 2, 4, by go_num, rfl, by omega, by omega, HTK2.out, Quiet0.refl _⟩
                    · have hn1' : ¬ (n : Int) + 1 < s.size := by omega
                      have HNX : Hid (nextL (s.data.toList.drop n) = (0, 0, 3)) := by
                        show _ = _; rw [HAR.out, drop_end s (n + 1) (by omega)]; simp [goesOn]
                      have HERR := Lib.hid (ref_err HW.out (wordsA_bad0 (at' := n) HD.out HBX.out HH.out HNX.out (by decide)))
                      clear HAR HNX
                      go_wp2_with fail
                      go_ret3
                      exact words_err HQ.out HERR.out rfl
              · as_aux_lemma =>
                  have HDGT := Lib.hid hdg
                  clear hdg
                  have hrl := runL_le digitB (s.data.toList.drop n)
                  rw [List.length_drop, bytes_length] at hrl
                  have hrp : 0 < runL digitB (s.data.toList.drop n) := by rw [HD.out]; exact runL_pos HDGT.out
                  generalize hrn : runL digitB (s.data.toList.drop n) = rn at *
                  have HRN := Lib.hid hrn
                  clear hrn
                  go_wp2_with fail
                  refine (HLT.out _).mono ?_; rintro e w' ⟨rfl, rfl⟩
                  rw [HSML.out]
                  go_wp2_with fail
                  refine (HDG.out _).mono ?_; rintro e w' ⟨rfl, rfl⟩
                  rw [HDGT.out]
                  clear HLT HDG
                  go_upto_block 7 with (fail)
                  go_cut [8] (fun t wx => ∃ j : Nat, t = .int .i64 j ∧ j = n + rn ∧ wr = wx)
                  case first =>
                    go_wp2_with fail
                    go_loop [8] (fun t => ∃ j : Nat, t = .int .i64 j ∧ n + 1 ≤ j ∧ j ≤ s.size ∧ n + rn = j + runL digitB (s.data.toList.drop j)) (fun t => s.size - (intOf t).toNat)
                    case atStart => exact ⟨n + 1, by go_num, by omega, by omega, by rw [← HRN.out, HD.out, runL_cons, HDGT.out]; simp only [if_true]; omega⟩
                    case round =>
                      obtain ⟨j, rfl, hj1, hj2, hj3⟩ := hrel
                      have HJ := Lib.hid hj3
                      clear hj3
                      by_cases hjl : j < s.size
                      · have hjl' : (j : Int) < s.size := by omega
                        have HDJ := Lib.hid (drop_byte s j hjl)
                        have HT := Lib.hid (refDigit_any s[j])
                        obtain ⟨y, hy⟩ : ∃ y, s[j] = y := ⟨_, rfl⟩
                        rw [hy] at HDJ HT
                        cases hp : digitB y
                        · have HPY := Lib.hid hp
                          clear hp
                          have HJ4 : Hid (j = n + rn) := by have := HJ.out; rw [HDJ.out, runL_cons, HPY.out] at this; show _ = _; simpa using this.symm
                          go_wp2_with fail
                          refine (HT.out _).mono ?_; rintro e w' ⟨rfl, rfl⟩
                          rw [HPY.out]
                          go_wp2_with fail
                          go_meet
                          exact ⟨j, rfl, HJ4.out, rfl⟩
                        · have HPY := Lib.hid hp
                          clear hp
                          go_wp2_with fail
                          refine (HT.out _).mono ?_; rintro e w' ⟨rfl, rfl⟩
                          rw [HPY.out]
                          go_wp2
                          go_round
                          case rel => exact ⟨j + 1, by go_num, by omega, by omega, by rw [HJ.out, HDJ.out, runL_cons, HPY.out]; simp only [if_true]; omega⟩
                          case measure => simp [intOf]; omega
                      · have hjl' : ¬ (j : Int) < s.size := by omega
                        have HJ4 : Hid (j = n + rn) := by have := HJ.out; rw [drop_end s j (by omega)] at this; show _ = _; simpa [runL] using this.symm
                        go_wp2_with fail
                        go_meet
                        exact ⟨j, rfl, HJ4.out, rfl⟩
                  case rest =>
                    obtain ⟨j, rfl, hj4, rfl⟩ := hcut
                    have hjn : (n : Int) ≤ j := by omega
                    have hjs : j ≤ s.size := by omega
                    have hjs' : (j : Int) ≤ s.size := by omega
                    have HJ4 := Lib.hid hj4
                    have HNX0 : Hid (nextL (s.data.toList.drop n) = if (decide (1 < rn) && (x == 48)) || goesOn innerB (s.data.toList.drop j) then (0, 0, 3) else if 9 < rn then (0, 0, 2) else (2, rn, 0)) := by
                      show _ = _
                      rw [HD.out, next_digit HSML.out HDGT.out, ← HD.out]
                      unfold numL
                      rw [HRN.out, List.drop_drop, ← hj4, HD.out]; rfl
                    cases hz : (x == 48)
                    · have hz' : ((x.toNat : Int) == 48) = false := by rw [HSM.out, hz]
                      rw [hz] at HNX0
                      clear hz
                      by_cases hjl : j < s.size
                      · have hjl' : (j : Int) < s.size := by omega
                        have HDJ := Lib.hid (drop_byte s j hjl)
                        have HIN := Lib.hid (refInner_any s[j])
                        obtain ⟨y, hy⟩ : ∃ y, s[j] = y := ⟨_, rfl⟩
                        rw [hy] at HDJ HIN
                        cases hiy : innerB y
                        · have HIY := Lib.hid hiy
                          have HGO : Hid (goesOn innerB (s.data.toList.drop j) = false) := by show _ = _; rw [HDJ.out]; exact hiy
                          clear hiy
                          by_cases h9 : 9 < rn
                          · have h9' : (9 : Int) < (j : Int) - (n : Int) := by omega
                            have HNX : Hid (nextL (s.data.toList.drop n) = (0, 0, 2)) := by show _ = _; rw [HNX0.out, HGO.out]; simp [h9]
                            have HERR := Lib.hid (ref_err HW.out (wordsA_bad0 (at' := n) HD.out HBX.out HH.out HNX.out (by decide)))
                            clear HNX0 HNX hj4
                            go_wp2_with fail
                            refine (HIN.out _).mono ?_; rintro e w' ⟨rfl, rfl⟩
                            rw [HIY.out]
                            go_wp2_with fail
                            go_ret3
                            exact words_err HQ.out HERR.out rfl
                          · have h9' : ¬ (9 : Int) < (j : Int) - (n : Int) := by omega
                            have HNX : Hid (nextL (s.data.toList.drop n) = (2, rn, 0)) := by show _ = _; rw [HNX0.out, HGO.out]; simp [h9]
                            have HTK2 := Lib.hid (ref_tok (j := j) (wordsA_tok0 (at' := n) HD.out HBX.out HH.out HNX.out) hj4)
                            clear HNX0 HNX hj4
                            go_wp2_with fail
                            refine (HIN.out _).mono ?_; rintro e w' ⟨rfl, rfl⟩
                            rw [HIY.out]
                            go_wp2_with fail
                            go_meet
                            exact ⟨j, 2, rfl, rfl, by have := HJ4.out; omega, hjs, HTK2.out, Quiet0.refl _⟩
                        · have HIY := Lib.hid hiy
                          have HGO : Hid (goesOn innerB (s.data.toList.drop j) = true) := by show _ = _; rw [HDJ.out]; exact hiy
                          clear hiy
                          have HNX : Hid (nextL (s.data.toList.drop n) = (0, 0, 3)) := by show _ = _; rw [HNX0.out, HGO.out]; simp
                          have HERR := Lib.hid (ref_err HW.out (wordsA_bad0 (at' := n) HD.out HBX.out HH.out HNX.out (by decide)))
                          clear HNX0 HNX hj4
                          go_wp2_with fail
                          refine (HIN.out _).mono ?_; rintro e w' ⟨rfl, rfl⟩
                          rw [HIY.out]
                          go_wp2_with fail
                          go_ret3
                          exact words_err HQ.out HERR.out rfl
                      · have hjl' : ¬ (j : Int) < s.size := by omega
                        have HGO : Hid (goesOn innerB (s.data.toList.drop j) = false) := by show _ = _; rw [drop_end s j (by omega)]; rfl
                        by_cases h9 : 9 < rn
                        · have h9' : (9 : Int) < (j : Int) - (n : Int) := by omega
                          have HNX : Hid (nextL (s.data.toList.drop n) = (0, 0, 2)) := by show _ = _; rw [HNX0.out, HGO.out]; simp [h9]
                          have HERR := Lib.hid (ref_err HW.out (wordsA_bad0 (at' := n) HD.out HBX.out HH.out HNX.out (by decide)))
                          clear HNX0 HNX hj4
                          go_wp2_with fail
                          go_ret3
                          exact words_err HQ.out HERR.out rfl
                        · have h9' : ¬ (9 : Int) < (j : Int) - (n : Int) := by omega
                          have HNX : Hid (nextL (s.data.toList.drop n) = (2, rn, 0)) := by show _ = _; rw [HNX0.out, HGO.out]; simp [h9]
                          have HTK2 := Lib.hid (ref_tok (j := j) (wordsA_tok0 (at' := n) HD.out HBX.out HH.out HNX.out) hj4)
                          clear HNX0 HNX hj4
                          go_wp2_with fail
                          go_meet
                          exact ⟨j, 2, rfl, rfl, by have := HJ4.out; omega, hjs, HTK2.out, Quiet0.refl _⟩
                    · have hz' : ((x.toNat : Int) == 48) = true := by rw [HSM.out, hz]
                      rw [hz] at HNX0
                      clear hz
                      by_cases h1 : 1 < rn
                      · have h1' : (n : Int) + 1 < (j : Int) := by omega
                        have HNX : Hid (nextL (s.data.toList.drop n) = (0, 0, 3)) := by show _ = _; rw [HNX0.out]; simp [h1]
                        have HERR := Lib.hid (ref_err HW.out (wordsA_bad0 (at' := n) HD.out HBX.out HH.out HNX.out (by decide)))
                        clear HNX0 HNX hj4
                        go_wp2_with fail
                        go_ret3
                        exact words_err HQ.out HERR.out rfl
                      · have h1' : ¬ (n : Int) + 1 < (j : Int) := by omega
                        by_cases hjl : j < s.size
                        · have hjl' : (j : Int) < s.size := by omega
                          have HDJ := Lib.hid (drop_byte s j hjl)
                          have HIN := Lib.hid (refInner_any s[j])
                          obtain ⟨y, hy⟩ : ∃ y, s[j] = y := ⟨_, rfl⟩
                          rw [hy] at HDJ HIN
                          cases hiy : innerB y
                          · have HIY := Lib.hid hiy
                            have HGO : Hid (goesOn innerB (s.data.toList.drop j) = false) := by show _ = _; rw [HDJ.out]; exact hiy
                            clear hiy
                            have h9 : ¬ 9 < rn := by omega
                            have h9' : ¬ (9 : Int) < (j : Int) - (n : Int) := by omega
                            have HNX : Hid (nextL (s.data.toList.drop n) = (2, rn, 0)) := by show _ = _; rw [HNX0.out, HGO.out]; simp [h9, h1]
                            have HTK2 := Lib.hid (ref_tok (j := j) (wordsA_tok0 (at' := n) HD.out HBX.out HH.out HNX.out) hj4)
                            clear HNX0 HNX hj4
                            go_wp2_with fail
                            refine (HIN.out _).mono ?_; rintro e w' ⟨rfl, rfl⟩
                            rw [HIY.out]
                            go_wp2_with fail
                            go_meet
                            exact ⟨j, 2, rfl, rfl, by have := HJ4.out; omega, hjs, HTK2.out, Quiet0.refl _⟩
                          · have HIY := Lib.hid hiy
                            have HGO : Hid (goesOn innerB (s.data.toList.drop j) = true) := by show _ = _; rw [HDJ.out]; exact hiy
                            clear hiy
                            have HNX : Hid (nextL (s.data.toList.drop n) = (0, 0, 3)) := by show _ = _; rw [HNX0.out, HGO.out]; simp
                            have HERR := Lib.hid (ref_err HW.out (wordsA_bad0 (at' := n) HD.out HBX.out HH.out HNX.out (by decide)))
                            clear HNX0 HNX hj4
                            go_wp2_with fail
                            refine (HIN.out _).mono ?_; rintro e w' ⟨rfl, rfl⟩
                            rw [HIY.out]
                            go_wp2_with fail
                            go_ret3
                            exact words_err HQ.out HERR.out rfl
                        · have hjl' : ¬ (j : Int) < s.size := by omega
                          have HGO : Hid (goesOn innerB (s.data.toList.drop j) = false) := by show _ = _; rw [drop_end s j (by omega)]; rfl
                          have h9 : ¬ 9 < rn := by omega
                          have h9' : ¬ (9 : Int) < (j : Int) - (n : Int) := by omega
                          have HNX : Hid (nextL (s.data.toList.drop n) = (2, rn, 0)) := by show _ = _; rw [HNX0.out, HGO.out]; simp [h9, h1]
                          have HTK2 := Lib.hid (ref_tok (j := j) (wordsA_tok0 (at' := n) HD.out HBX.out HH.out HNX.out) hj4)
                          clear HNX0 HNX hj4
                          go_wp2_with fail
                          go_meet
                          exact ⟨j, 2, rfl, rfl, by have := HJ4.out; omega, hjs, HTK2.out, Quiet0.refl _⟩
            · as_aux_lemma =>
                have HSML := Lib.hid hsm
                clear hsm
                have hrl := runL_le innerB (s.data.toList.drop n)
                rw [List.length_drop, bytes_length] at hrl
                have hrp : 0 < runL innerB (s.data.toList.drop n) := by rw [HD.out]; exact runL_pos (small_inner HSML.out)
                clear HDG HSM
                generalize hrn : runL innerB (s.data.toList.drop n) = rn at *
                have HRN := Lib.hid hrn
                clear hrn
                go_wp2_with fail
                refine (HLT.out _).mono ?_; rintro e w' ⟨rfl, rfl⟩
                rw [HSML.out]
                clear HLT
                go_upto_block 5 with (fail)
                go_cut [8] (fun t wx => ∃ j : Nat, t = .int .i64 j ∧ j = n + rn ∧ wr = wx)
                case first =>
                  go_wp2_with fail
                  go_loop [8] (fun t => ∃ j : Nat, t = .int .i64 j ∧ n + 1 ≤ j ∧ j ≤ s.size ∧ n + rn = j + runL innerB (s.data.toList.drop j)) (fun t => s.size - (intOf t).toNat)
                  case atStart => exact ⟨n + 1, by go_num, by omega, by omega, by rw [← HRN.out, HD.out, runL_cons, small_inner HSML.out]; simp only [if_true]; omega⟩
                  case round =>
                    obtain ⟨j, rfl, hj1, hj2, hj3⟩ := hrel
                    have HJ := Lib.hid hj3
                    clear hj3
                    by_cases hjl : j < s.size
                    · have hjl' : (j : Int) < s.size := by omega
                      have HDJ := Lib.hid (drop_byte s j hjl)
                      have HT := Lib.hid (refInner_any s[j])
                      obtain ⟨y, hy⟩ : ∃ y, s[j] = y := ⟨_, rfl⟩
                      rw [hy] at HDJ HT
                      cases hp : innerB y
                      · have HPY := Lib.hid hp
                        clear hp
                        have HJ4 : Hid (j = n + rn) := by have := HJ.out; rw [HDJ.out, runL_cons, HPY.out] at this; show _ = _; simpa using this.symm
                        go_wp2_with fail
                        refine (HT.out _).mono ?_; rintro e w' ⟨rfl, rfl⟩
                        rw [HPY.out]
                        go_wp2_with fail
                        go_meet
                        exact ⟨j, rfl, HJ4.out, rfl⟩
                      · have HPY := Lib.hid hp
                        clear hp
                        go_wp2_with fail
                        refine (HT.out _).mono ?_; rintro e w' ⟨rfl, rfl⟩
                        rw [HPY.out]
                        go_wp2
                        go_round
                        case rel => exact ⟨j + 1, by go_num, by omega, by omega, by rw [HJ.out, HDJ.out, runL_cons, HPY.out]; simp only [if_true]; omega⟩
                        case measure => simp [intOf]; omega
                    · have hjl' : ¬ (j : Int) < s.size := by omega
                      have HJ4 : Hid (j = n + rn) := by have := HJ.out; rw [drop_end s j (by omega)] at this; show _ = _; simpa [runL] using this.symm
                      go_wp2_with fail
                      go_meet
                      exact ⟨j, rfl, HJ4.out, rfl⟩
                case rest =>
                  obtain ⟨j, rfl, hj4, rfl⟩ := hcut
                  have HKD : Hid ((s.extract n j).data.toList = (s.data.toList.drop n).take rn) := by
                    show _ = _
                    rw [Lib.extract_data]; congr 1; omega
                  have HNX0 : Hid (nextL (s.data.toList.drop n) = if kwB ((s.data.toList.drop n).take rn) then (3, rn, 0) else if 20 < rn then (0, 0, 2) else (1, rn, 0)) := by
                    show _ = _
                    rw [HD.out, next_small HSML.out, ← HD.out, HRN.out]
                  have HK := Lib.hid (refKeyword_any (s.extract n j) wr)
                  rw [HKD.out] at HK
                  have hjn : (n : Int) ≤ j := by omega
                  have hjs : j ≤ s.size := by omega
                  have hjs' : (j : Int) ≤ s.size := by omega
                  have HJ4 := Lib.hid hj4
                  cases hkw : kwB ((s.data.toList.drop n).take rn)
                  · have HKW := Lib.hid hkw
                    rw [hkw] at HNX0 HK
                    clear hkw
                    by_cases h20 : 20 < rn
                    · have h20' : (20 : Int) < (j : Int) - (n : Int) := by omega
                      have HNX : Hid (nextL (s.data.toList.drop n) = (0, 0, 2)) := by show _ = _; rw [HNX0.out]; simp [h20]
                      have HERR := Lib.hid (ref_err HW.out (wordsA_bad0 (at' := n) HD.out HBX.out HH.out HNX.out (by decide)))
                      clear HNX0 HNX hj4
                      go_wp2_with fail
                      refine HK.out.mono ?_; rintro e w1 ⟨rfl, hq1⟩
                      have HQ2 := Lib.hid (HQ.out.trans hq1)
                      clear hq1
                      go_wp2_with fail
                      go_ret3
                      exact words_err HQ2.out HERR.out rfl
                    · have h20' : ¬ (20 : Int) < (j : Int) - (n : Int) := by omega
                      have HNX : Hid (nextL (s.data.toList.drop n) = (1, rn, 0)) := by show _ = _; rw [HNX0.out]; simp [h20]
                      have HTK2 := Lib.hid (ref_tok (j := j) (wordsA_tok0 (at' := n) HD.out HBX.out HH.out HNX.out) hj4)
                      clear HNX0 HNX hj4
                      go_wp2_with fail
                      refine HK.out.mono ?_; rintro e w1 ⟨rfl, hq1⟩
                      have HQ2 := Lib.hid hq1
                      clear hq1
                      go_wp2_with fail
                      go_meet
                      exact ⟨j, 1, rfl, rfl, by have := HJ4.out; omega, hjs, HTK2.out, HQ2.out⟩
                  · have HKW := Lib.hid hkw
                    rw [hkw] at HNX0 HK
                    clear hkw
                    have HNX : Hid (nextL (s.data.toList.drop n) = (3, rn, 0)) := by show _ = _; rw [HNX0.out]; simp
                    have HTK2 := Lib.hid (ref_tok (j := j) (wordsA_tok0 (at' := n) HD.out HBX.out HH.out HNX.out) hj4)
                    clear HNX0 HNX hj4
                    go_wp2_with fail
                    refine HK.out.mono ?_; rintro e w1 ⟨rfl, hq1⟩
                    have HQ2 := Lib.hid hq1
                    clear hq1
                    go_wp2_with fail
                    go_meet
                    exact ⟨j, 3, rfl, rfl, by have := HJ4.out; omega, hjs, HTK2.out, HQ2.out⟩
          case rest =>
            obtain ⟨j, kd, rfl, rfl, hj1, hj2, htk, hq1⟩ := hcut
            have HTK2 := Lib.hid htk
            have HQ2 := Lib.hid (HQ.out.trans hq1)
            have HR2 : Hid (TokRow wc B (.slice o acc.length c) acc) := ⟨ownsRow_fr HR.out.1 hq1 (fun _ _ h => h), HR.out.2⟩
            have HTXT := Lib.hid (token_text2 s n j)
            have hjn : (n : Int) ≤ j := by omega
            have hjs' : (j : Int) ≤ s.size := by omega
            clear htk hq1 HLT HDG HSM
            go_wp2_with (at_builtin; refine wpList_append_one wc rfl (.tmp 159) (.tmp 169) 57 rfl 63 _ 4 40 elemTok (.slice o acc.length c) acc.length (rowCells acc) rfl HR2.out.1 #[.int .i64 (kd : Nat), .string (s.extract n j), .int .i64 (n : Nat), .int .i64 (j : Nat)] rfl rfl (by simp [Value.oneCell']) (by unfold maxLen; omega) (by omega) ?_; intro g c' w2 ho hf hg)
            go_roundw
            case rel =>
              have hap := append_tok (t := ⟨kd, (s.data.toList.drop n).take (j - n), n, j⟩) HQ2.out HBB.out HR2.out (by rw [HTXT.out] at ho; exact ho) hf hg
              exact ⟨_, j, some ⟨g, 0, none⟩, c', by simp, rfl, by omega, by rw [HW.out, HTK2.out, appW_cons], hap.1, by simp; omega, hap.2⟩
            case measure => simp [intOf]; omega
        · as_aux_lemma =>
            have HH := Lib.hid hh
            have hh' : ((x.toNat : Int) == 35) = true := by rw [HHASH.out, hh]
            clear hh HHASH
            have HWH := Lib.hid (wordsA_hash (at' := n) HD.out HBX.out HH.out)
            have HP : Hid (0 < runL nolfB (s.data.toList.drop n)) := by rw [HD.out]; exact hash_nolf HH.out
            have hrl := runL_le nolfB (s.data.toList.drop n)
            rw [List.length_drop, bytes_length] at hrl
            clear HLT HDG HSM HD
            generalize hrn : runL nolfB (s.data.toList.drop n) = rn at *
            have HRN := Lib.hid hrn
            clear hrn
            go_wp2_with fail
            go_loop [6] (fun t => ∃ j : Nat, t = .int .i64 j ∧ n ≤ j ∧ j ≤ s.size ∧ n + rn = j + runL nolfB (s.data.toList.drop j)) (fun t => s.size - (intOf t).toNat)
            case atStart => exact ⟨n, rfl, Nat.le_refl _, hn, by rw [HRN.out]⟩
            case round =>
              obtain ⟨j, rfl, hj1, hj2, hj3⟩ := hrel
              have HJ := Lib.hid hj3
              clear hj3
              by_cases hjl : j < s.size
              · have hjl' : (j : Int) < s.size := by omega
                have HDJ := Lib.hid (drop_byte s j hjl)
                have HNL := Lib.hid (nolf_of s[j])
                obtain ⟨y, hy⟩ : ∃ y, s[j] = y := ⟨_, rfl⟩
                rw [hy] at HDJ HNL
                cases hnl : nolfB y
                · have hnl' : ((y.toNat : Int) != 10) = false := by rw [← HNL.out, hnl]
                  have HNY := Lib.hid hnl
                  clear hnl HNL
                  go_wp2
                  go_roundw
                  case rel =>
                    have e : n + rn = j := by have := HJ.out; rw [HDJ.out, runL_cons, HNY.out] at this; simpa using this
                    exact ⟨acc, j, o, c, rfl, rfl, hj2, by rw [HW.out, HWH.out, List.drop_drop, e], HR.out, by omega, HQ.out⟩
                  case measure =>
                    have e : n + rn = j := by have := HJ.out; rw [HDJ.out, runL_cons, HNY.out] at this; simpa using this
                    have := HP.out
                    simp [intOf]; omega
                · have hnl' : ((y.toNat : Int) != 10) = true := by rw [← HNL.out, hnl]
                  have HNY := Lib.hid hnl
                  clear hnl HNL
                  go_wp2
                  go_round
                  case rel => exact ⟨j + 1, by go_num, by omega, by omega, by rw [HJ.out, HDJ.out, runL_cons, HNY.out]; simp only [if_true]; omega⟩
                  case measure => simp [intOf]; omega
              · have hjl' : ¬ (j : Int) < s.size := by omega
                have HDJ := Lib.hid (drop_end s j (by omega))
                go_wp2
                go_roundw
                case rel =>
                  have e : n + rn = j := by have := HJ.out; rw [HDJ.out] at this; simpa [runL] using this
                  exact ⟨acc, j, o, c, rfl, rfl, hj2, by rw [HW.out, HWH.out, List.drop_drop, e], HR.out, by omega, HQ.out⟩
                case measure =>
                  have e : n + rn = j := by have := HJ.out; rw [HDJ.out] at this; simpa [runL] using this
                  have := HP.out
                  simp [intOf]; omega
      · have HBX := Lib.hid hb
        have hb' : (((x.toNat : Int) == 32) || ((x.toNat : Int) == 9) || ((x.toNat : Int) == 10) || ((x.toNat : Int) == 13)) = true := by rw [← HB.out, hb]
        clear hb HB
        have HWB := Lib.hid (wordsA_blank (at' := n) HD.out HBX.out)
        cases b32 : ((x.toNat : Int) == 32) <;> cases b9 : ((x.toNat : Int) == 9) <;> cases b10 : ((x.toNat : Int) == 10) <;> cases b13 : ((x.toNat : Int) == 13)
        all_goals
          rw [b32, b9, b10, b13] at hb'
          first
          | (exact absurd hb' (by decide))
          | skip
        all_goals
          clear hb' HLT HDG HSM HD
          go_wp2
          go_roundw
          case rel => exact ⟨acc, n + 1, o, c, rfl, by go_num, by omega, by rw [HW.out, HWB.out, List.drop_drop], HR.out, by omega, HQ.out⟩
          case measure => simp [intOf]; omega
    · have hnn : n = s.size := by omega
      have HNN := Lib.hid hnn
      have HEND := Lib.hid (wordsA_end (at' := n) (l := s.data.toList.drop n) (by rw [drop_end s n (by omega)]; rfl))
      clear hnn
      have hlt' : ¬ (n : Int) < s.size := by omega
      go_wp2_with (at_builtin; go_must (refine wpList_append_one wr rfl (.tmp 172) (.tmp 179) 57 rfl 63 _ 4 40 elemTok (.slice o acc.length c) acc.length (rowCells acc) rfl HR.out.1 #[.int .i64 0, .string ⟨#[]⟩, .int .i64 (s.size : Nat), .int .i64 (s.size : Nat)] rfl rfl ?d1 ?d2 ?d3 ?_))
      case d1 => simp [Value.oneCell']
      case d2 => unfold maxLen; omega
      case d3 => omega
      intro g c' w2 ho hf hg
      have hap : TokRow w2 B (.slice (some ⟨g, 0, none⟩) (acc ++ [endTok s.size]).length c') (acc ++ [endTok s.size]) ∧ Quiet0 w w2 := by
        refine append_tok HQ.out HBB.out HR.out ?_ hf hg
        exact ho
      have HAP := Lib.hid hap
      clear hap ho hf hg HR
      go_wp2_with fail
      go_ret3
      refine ⟨HAP.out.2, ?_⟩
      have hw : wordsL s.data.toList = .inl (acc ++ [endTok s.size]) := by
        rw [HW.out, HEND.out, List.length_drop, bytes_length, HNN.out]
        simp [appW]
      rw [hw]
      refine ⟨g, c', by simp, ?_⟩
      rw [← HBB.out]; exact HAP.out.1
end Go.Proofs.YtnfodiedalhlhaaDoor.Lx
end
section
namespace Go.Proofs.YtnfodiedalhlhaaDoor.Lx
open Go.RowKit
theorem WordsPost.ok {l : List UInt8} {w w' : World} {e : Ending} (h : WordsPost l w e w') {ts : List Tok} (hw : wordsL l = .inl ts) :
    Quiet0 w w' ∧ ∃ g c, e = .returned (.tuple #[.slice (some ⟨g, 0, none⟩) ts.length c, .int .i64 0, .int .i64 0]) ∧ TokRow w' w.heap.size (.slice (some ⟨g, 0, none⟩) ts.length c) ts := by
  obtain ⟨hq, h⟩ := h
  rw [hw] at h
  exact ⟨hq, h⟩
theorem WordsPost.bad {l : List UInt8} {w w' : World} {e : Ending} (h : WordsPost l w e w') {p : Nat × Nat} (hw : wordsL l = .inr p) :
    Quiet0 w w' ∧ e = .returned (.tuple #[.slice none 0 0, .int .i64 (p.1 : Nat), .int .i64 (p.2 : Nat)]) := by
  obtain ⟨hq, h⟩ := h
  rw [hw] at h
  exact ⟨hq, h⟩
theorem wordsA_len : ∀ (at' : Nat) (l : List UInt8) (ts : List Tok), wordsA at' l = .inl ts → ts.length ≤ l.length + 1 := by
  suffices h : ∀ (n : Nat) (at' : Nat) (l : List UInt8) (ts : List Tok), l.length ≤ n → wordsA at' l = .inl ts → ts.length ≤ l.length + 1 from fun a l ts hw => h l.length a l ts (Nat.le_refl _) hw
  intro n
  induction n with
  | zero =>
    intro a l ts hl hw
    have : l = [] := List.eq_nil_of_length_eq_zero (by omega)
    subst this
    rw [wordsA_end rfl] at hw
    cases hw; simp
  | succ n ih =>
    intro a l ts hl hw
    have hle := skipL_le false l
    by_cases hk : skipL false l = l.length
    · rw [wordsA_end hk] at hw; cases hw; simp
    · by_cases he : (nextL (l.drop (skipL false l))).2.2 = 0
      · have hlen := nextL_len he
        rw [wordsA_tok (by omega) he] at hw
        revert hw
        cases hr : wordsA (a + skipL false l + (nextL (l.drop (skipL false l))).2.1) ((l.drop (skipL false l)).drop (nextL (l.drop (skipL false l))).2.1) with
        | inr e => intro hw; cases hw
        | inl us =>
          intro hw
          cases hw
          have := ih _ _ us (by simp only [List.length_drop] at *; omega) hr
          simp only [List.length_drop, List.length_cons] at *
          omega
      · rw [wordsA_bad (by omega) he] at hw; cases hw
end Go.Proofs.YtnfodiedalhlhaaDoor.Lx
end
