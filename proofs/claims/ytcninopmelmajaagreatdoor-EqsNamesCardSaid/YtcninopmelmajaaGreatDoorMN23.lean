/-
  Texts laid together (LexRefWords, LexAwake, PaAny): laws and walks, with their conditions.
-/
import Derived.Deep.CutBlock
import Derived.Test.YtcninopmelmajaaGreatDoorMN21
import Derived.Test.YtcninopmelmajaaGreatDoorMN22
set_option maxHeartbeats 8000000
set_option maxRecDepth 1000000
namespace Go.Proofs.YtcninopmelmajaaGreatDoor
open Go.Lib (hid)
section
namespace Lx
open Go.RowKit
theorem wordsA_blank {at' : Nat} {l r : List UInt8} {c : UInt8} (hl : l = c :: r) (hb : blankB c = true) : wordsA at' l = wordsA (at' + 1) (l.drop 1) := by
 subst hl
 exact wordsA_skip (k := 1) (by rw [skip_blank hb]; omega) (by rw [skip_blank hb]; simp)
theorem wordsA_hash {at' : Nat} {l r : List UInt8} {c : UInt8} (hl : l = c :: r) (hb : blankB c = false) (h : (c == 35) = true) : wordsA at' l = wordsA (at' + runL nolfB l) (l.drop (runL nolfB l)) := by
 have := skip_hash (r := r) hb h
 rw [<- hl] at this
 exact wordsA_skip (by omega) (by omega)
theorem wordsA_tok0 {at' : Nat} {l r : List UInt8} {c : UInt8} {kd ln : Nat} (hl : l = c :: r) (hb : blankB c = false) (h : (c == 35) = false) (hn : nextL l = (kd, ln, 0)) : wordsA at' l = consW ⟨kd, l.take ln, at', at' + ln⟩ (wordsA (at' + ln) (l.drop ln)) := by
 have h0 : skipL false l = 0 := by rw [hl]; exact skip_stop hb h
 have := wordsA_tok (at' := at') (l := l) (by rw [h0, hl]; simp) (by rw [h0, List.drop_zero, hn])
 rw [h0, List.drop_zero, hn] at this
 exact this
theorem wordsA_bad0 {at' : Nat} {l r : List UInt8} {c : UInt8} {a b er : Nat} (hl : l = c :: r) (hb : blankB c = false) (h : (c == 35) = false) (hn : nextL l = (a, b, er)) (he : er ≠ 0) : wordsA at' l = .inr (at', er) := by
 have h0 : skipL false l = 0 := by rw [hl]; exact skip_stop hb h
 have := wordsA_bad (at' := at') (l := l) (by rw [h0, hl]; simp) (by rw [h0, List.drop_zero, hn]; exact he)
 rw [h0, List.drop_zero, hn] at this
 exact this
theorem byte_of_eq (x : UInt8) (m : Nat) (hm : m < 256) : ((x.toNat : Int) == (m : Int)) = (x == UInt8.ofNat m) := by
 rw [u8_beq x m hm, Bool.eq_iff_iff]; simp; omega
theorem byte_of_ne (x : UInt8) (m : Nat) (hm : m < 256) : ((x.toNat : Int) != (m : Int)) = !(x == UInt8.ofNat m) := by
 rw [<- byte_of_eq x m hm]; rfl
theorem token_text2 (s : ByteArray) (n j : Nat) : s.extract n j = toBA ((s.data.toList.drop n).take (j - n)) := by
 apply ba_ext
 rw [Lib.extract_data, toBA_toList]
theorem ref_err {l : List UInt8} {acc : List Tok} {n er : Nat} (hW : wordsL l = appW acc (wordsA n (l.drop n))) (hT : wordsA n (l.drop n) = .inr (n, er)) : wordsL l = .inr (n, er) := by
 rw [hW, hT]; rfl
theorem words_err {l : List UInt8} {w w' : World} {n er : Nat} {e : Ending} (hq : Quiet0 w w') (h : wordsL l = .inr (n, er)) (he : e = .returned (.tuple #[.slice none 0 0, .int .i64 (n : Nat), .int .i64 (er : Nat)])) : WordsPost l w e w' := by
 refine ⟨hq, ?_⟩
 rw [h]; exact he
theorem sign_cases {x : UInt8} (h : signB x = true) : x = 40 ∨ x = 41 ∨ x = 44 ∨ x = 58 ∨ x = 61 ∨ x = 42 := by
 unfold signB at h; simp at h; rcases h with ((((h | h) | h) | h) | h) | h <;> simp [h]
theorem not_sign {x : UInt8} (h : signB x = false) : (x == 40) = false /\ (x == 41) = false /\ (x == 44) = false /\ (x == 58) = false /\ (x == 61) = false /\ (x == 42) = false := by
 unfold signB at h; simp at h; simp [h]
theorem byte_of_arrow (x : UInt8) : ((x.toNat : Int) != 62) = !(x == 62) := byte_of_ne x 62 (by omega)
theorem b45 (x : UInt8) : ((x.toNat : Int) == 45) = (x == 45) := byte_of_eq x 45 (by omega)
theorem n40 (x : UInt8) : ((x.toNat : Int) != 40) = !(x == 40) := byte_of_ne x 40 (by omega)
theorem n41 (x : UInt8) : ((x.toNat : Int) != 41) = !(x == 41) := byte_of_ne x 41 (by omega)
theorem n44 (x : UInt8) : ((x.toNat : Int) != 44) = !(x == 44) := byte_of_ne x 44 (by omega)
theorem n58 (x : UInt8) : ((x.toNat : Int) != 58) = !(x == 58) := byte_of_ne x 58 (by omega)
theorem n61 (x : UInt8) : ((x.toNat : Int) != 61) = !(x == 61) := byte_of_ne x 61 (by omega)
theorem n42 (x : UInt8) : ((x.toNat : Int) != 42) = !(x == 42) := byte_of_ne x 42 (by omega)
def SwitchRel (l : List UInt8) (n size : Nat) (w : World) (t1 t2 : Value) (wx : World) : Prop :=
 ∃ j kd : Nat, t1 = .int .i64 (j : Nat) /\ t2 = .int .i64 (kd : Nat) /\ n < j /\ j <= size /\ wordsA n (l.drop n) = consW ⟨kd, (l.drop n).take (j - n), n, j⟩ (wordsA j (l.drop j)) /\ Quiet0 w wx
theorem ref_tok {l : List UInt8} {n kd ln j : Nat} (h : wordsA n (l.drop n) = consW ⟨kd, (l.drop n).take ln, n, n + ln⟩ (wordsA (n + ln) ((l.drop n).drop ln))) (hj : j = n + ln) : wordsA n (l.drop n) = consW ⟨kd, (l.drop n).take (j - n), n, j⟩ (wordsA j (l.drop j)) := by
 subst hj
 rw [h, List.drop_drop, show n + ln - n = ln from by omega]
theorem refWords_any (s : ByteArray) (hs : s.size <= 100000) (w : World) :
    Calls Tryz.prog 47 #[.string s] w fun e w' => WordsPost s.data.toList w e w' := by
 have HS : Hid (s.size <= maxLen) := by show _ <= _; unfold maxLen; omega
 go_enter Tryz.func47, Tryz.ntmps47
 go_wp2_with fail
 obtain ⟨B, hB⟩ : ∃ B, B = w.heap.size := ⟨_, rfl⟩
 have HBB := hid hB
 clear hB
 go_loopw [5, 6] (fun v t wr => ∃ (acc : List Tok) (n : Nat) (o : Option Addr) (c : Nat), v = .slice o acc.length c /\ t = .int .i64 n /\ n <= s.size /\ wordsL s.data.toList = appW acc (wordsA n (s.data.toList.drop n)) /\ TokRow wr B (.slice o acc.length c) acc /\ acc.length <= n /\ Quiet0 w wr) (fun _ t _ => s.size - (intOf t).toNat)
 case atStart =>
  exact ⟨[], 0, none, 0, rfl, rfl, Nat.zero_le _, by rw [appW_nil]; rfl, ⟨World.ownsRow_nil _ _ _ _, by intro k hk; cases hk⟩, Nat.zero_le _, Quiet0.refl _⟩
 case round =>
  obtain ⟨acc, n, o, c, rfl, rfl, hn, hW, hrow, hacc, hq⟩ := hrel
  have HW := hid hW
  have HR := hid hrow
  have HQ := hid hq
  clear hW hrow hq
  have hsz1 : acc.length <= 100000 := by omega
  by_cases hlt : n < s.size
  ·have hlt' : (n : Int) < s.size := by omega
   have HD := hid (drop_byte s n hlt)
   have HHASH := hid (hash_of s[n])
   have HB := hid (blank_of s[n])
   have HLT := hid (letter_any s[n])
   have HDG := hid (refDigit_any s[n])
   have HSM := hid (zero_of s[n])
   have hx256 := u8_lt s[n]
   obtain ⟨x, hx⟩ : ∃ x, s[n] = x := ⟨_, rfl⟩
   rw [hx] at HD HHASH HB HLT HDG HSM hx256
   cases hb : blankB x
   ·have HBX := hid hb
    have b32 : ((x.toNat : Int) == 32) = false := by have := HB.out; rw [hb] at this; revert this; cases ((x.toNat : Int) == 32) <;> simp
    have b9 : ((x.toNat : Int) == 9) = false := by have := HB.out; rw [hb] at this; revert this; cases ((x.toNat : Int) == 9) <;> simp
    have b10 : ((x.toNat : Int) == 10) = false := by have := HB.out; rw [hb] at this; revert this; cases ((x.toNat : Int) == 10) <;> simp
    have b13 : ((x.toNat : Int) == 13) = false := by have := HB.out; rw [hb] at this; revert this; cases ((x.toNat : Int) == 13) <;> simp
    clear hb HB
    cases hh : (x == 35)
    ·have HH := hid hh
     have hh' : ((x.toNat : Int) == 35) = false := by rw [HHASH.out, hh]
     clear hh HHASH
     go_upto_block 4 with (fail)
     go_cut [8, 9] (fun t1 t2 wx => SwitchRel s.data.toList n s.size wr t1 t2 wx)
     case first =>
      cases hsm : smallB x
      ·have HSML := hid hsm
       clear hsm
       cases hdg : digitB x
       ·as_aux_lemma =>
          have HDGT := hid hdg
          clear hdg
          go_wp2_with fail
          refine (HLT.out _).mono ?_; rintro e w' ⟨rfl, rfl⟩
          rw [HSML.out]
          go_wp2_with fail
          refine (HDG.out _).mono ?_; rintro e w' ⟨rfl, rfl⟩
          rw [HDGT.out]
          clear HLT HDG HSM
          cases hmn : (x == 45)
          ·have hmn' : ((x.toNat : Int) == 45) = false := by rw [b45, hmn]
           have HM := hid hmn
           clear hmn
           cases hsg : signB x
           ·obtain ⟨m1, m2, m3, m4, m5, m6⟩ := not_sign hsg
            have a1 : ((x.toNat : Int) != 40) = true := by rw [n40, m1]; rfl
            have a2 : ((x.toNat : Int) != 41) = true := by rw [n41, m2]; rfl
            have a3 : ((x.toNat : Int) != 44) = true := by rw [n44, m3]; rfl
            have a4 : ((x.toNat : Int) != 58) = true := by rw [n58, m4]; rfl
            have a5 : ((x.toNat : Int) != 61) = true := by rw [n61, m5]; rfl
            have a6 : ((x.toNat : Int) != 42) = true := by rw [n42, m6]; rfl
            have HNX : Hid (nextL (s.data.toList.drop n) = (0, 0, 3)) := by
             show _ = _
             rw [HD.out, next_arrow HSML.out HDGT.out hsg, arrow_of, HM.out]; rfl
            have HERR := hid (ref_err HW.out (wordsA_bad0 (at' := n) HD.out HBX.out HH.out HNX.out (by decide)))
            clear m1 m2 m3 m4 m5 m6 hsg
            go_wp2_with fail
            go_ret3
            exact words_err HQ.out HERR.out rfl
           ·have hsx := sign_cases hsg
            have HNX : Hid (nextL (s.data.toList.drop n) = (4, 1, 0)) := by
             show _ = _
             rw [HD.out]; exact next_sign HSML.out HDGT.out hsg
            have HTK2 := hid (ref_tok (j := n + 1) (wordsA_tok0 (at' := n) HD.out HBX.out HH.out HNX.out) rfl)
            clear hsg HM HNX HD HBX HH HSML HDGT b32 b9 b10 b13 hh' hmn' hx256
            rcases hsx with rfl | rfl | rfl | rfl | rfl | rfl
            all_goals
             go_wp2_with fail
             go_meet
             exact ⟨n + 1, 4, by go_num, rfl, by omega, by omega, HTK2.out, Quiet0.refl _⟩
          ·have hmn' : ((x.toNat : Int) == 45) = true := by rw [b45, hmn]
           have HM := hid hmn
           have hsg : signB x = false := by have : x = 45 := by simpa using hmn
                                            subst this; decide
           have HAR : Hid (nextL (s.data.toList.drop n) = if Lib.hasPrefix (x :: s.data.toList.drop (n + 1)) [45, 62] then (4, 2, 0) else (0, 0, 3)) := by
            show _ = _
            rw [HD.out]; exact next_arrow HSML.out HDGT.out hsg
           rw [arrow_of, hmn] at HAR
           clear hmn hsg
           by_cases hn1 : n + 1 < s.size
           ·have hn1' : (n : Int) + 1 < s.size := by omega
            have HD1 := hid (drop_byte s (n + 1) hn1)
            have HA62 := hid (byte_of_arrow s[n + 1])
            obtain ⟨y, hy⟩ : ∃ y, s[n + 1] = y := ⟨_, rfl⟩
            rw [hy] at HD1 HA62
            rw [HD1.out] at HAR
            cases h62 : (y == 62)
            ·have h62' : ((y.toNat : Int) != 62) = true := by rw [HA62.out, h62]; rfl
             have HNX : Hid (nextL (s.data.toList.drop n) = (0, 0, 3)) := by
              show _ = _; rw [HAR.out]; simp [goesOn, h62]
             have HERR := hid (ref_err HW.out (wordsA_bad0 (at' := n) HD.out HBX.out HH.out HNX.out (by decide)))
             clear HA62 h62 HAR HNX
             go_wp2_with fail
             go_ret3
             exact words_err HQ.out HERR.out rfl
            ·have h62' : ((y.toNat : Int) != 62) = false := by rw [HA62.out, h62]; rfl
             have HNX : Hid (nextL (s.data.toList.drop n) = (4, 2, 0)) := by
              show _ = _; rw [HAR.out]; simp [goesOn, h62]
             have HTK2 := hid (ref_tok (j := n + 2) (wordsA_tok0 (at' := n) HD.out HBX.out HH.out HNX.out) rfl)
             clear HA62 h62 HAR HNX
             go_wp2_with fail
             go_meet
             exact ⟨n + 2, 4, by go_num, rfl, by omega, by omega, HTK2.out, Quiet0.refl _⟩
           ·have hn1' : ¬ (n : Int) + 1 < s.size := by omega
            have HNX : Hid (nextL (s.data.toList.drop n) = (0, 0, 3)) := by
             show _ = _; rw [HAR.out, drop_end s (n + 1) (by omega)]; simp [goesOn]
            have HERR := hid (ref_err HW.out (wordsA_bad0 (at' := n) HD.out HBX.out HH.out HNX.out (by decide)))
            clear HAR HNX
            go_wp2_with fail
            go_ret3
            exact words_err HQ.out HERR.out rfl
       ·as_aux_lemma =>
          have HDGT := hid hdg
          clear hdg
          have hrl := runL_le digitB (s.data.toList.drop n)
          rw [List.length_drop, bytes_length] at hrl
          have hrp : 0 < runL digitB (s.data.toList.drop n) := by rw [HD.out]; exact runL_pos HDGT.out
          generalize hrn : runL digitB (s.data.toList.drop n) = rn at *
          have HRN := hid hrn
          clear hrn
          go_wp2_with fail
          refine (HLT.out _).mono ?_; rintro e w' ⟨rfl, rfl⟩
          rw [HSML.out]
          go_wp2_with fail
          refine (HDG.out _).mono ?_; rintro e w' ⟨rfl, rfl⟩
          rw [HDGT.out]
          clear HLT HDG
          go_upto_block 7 with (fail)
          go_cut [8] (fun t wx => ∃ j : Nat, t = .int .i64 j /\ j = n + rn /\ wr = wx)
          case first =>
           go_wp2_with fail
           go_loop [8] (fun t => ∃ j : Nat, t = .int .i64 j /\ n + 1 <= j /\ j <= s.size /\ n + rn = j + runL digitB (s.data.toList.drop j)) (fun t => s.size - (intOf t).toNat)
           case atStart => exact ⟨n + 1, by go_num, by omega, by omega, by rw [<- HRN.out, HD.out, runL_cons, HDGT.out]; simp only [if_true]; omega⟩
           case round =>
            obtain ⟨j, rfl, hj1, hj2, hj3⟩ := hrel
            have HJ := hid hj3
            clear hj3
            by_cases hjl : j < s.size
            ·have hjl' : (j : Int) < s.size := by omega
             have HDJ := hid (drop_byte s j hjl)
             have HT := hid (refDigit_any s[j])
             obtain ⟨y, hy⟩ : ∃ y, s[j] = y := ⟨_, rfl⟩
             rw [hy] at HDJ HT
             cases hp : digitB y
             ·have HPY := hid hp
              clear hp
              have HJ4 : Hid (j = n + rn) := by have := HJ.out; rw [HDJ.out, runL_cons, HPY.out] at this; show _ = _; simpa using this.symm
              go_wp2_with fail
              refine (HT.out _).mono ?_; rintro e w' ⟨rfl, rfl⟩
              rw [HPY.out]
              go_wp2_with fail
              go_meet
              exact ⟨j, rfl, HJ4.out, rfl⟩
             ·have HPY := hid hp
              clear hp
              go_wp2_with fail
              refine (HT.out _).mono ?_; rintro e w' ⟨rfl, rfl⟩
              rw [HPY.out]
              go_wp2
              go_round
              case rel => exact ⟨j + 1, by go_num, by omega, by omega, by rw [HJ.out, HDJ.out, runL_cons, HPY.out]; simp only [if_true]; omega⟩
              case measure => simp [intOf]; omega
            ·have hjl' : ¬ (j : Int) < s.size := by omega
             have HJ4 : Hid (j = n + rn) := by have := HJ.out; rw [drop_end s j (by omega)] at this; show _ = _; simpa [runL] using this.symm
             go_wp2_with fail
             go_meet
             exact ⟨j, rfl, HJ4.out, rfl⟩
          case rest =>
           obtain ⟨j, rfl, hj4, rfl⟩ := hcut
           have hjn : (n : Int) <= j := by omega
           have hjs : j <= s.size := by omega
           have hjs' : (j : Int) <= s.size := by omega
           have HJ4 := hid hj4
           have HNX0 : Hid (nextL (s.data.toList.drop n) = if (decide (1 < rn) && (x == 48)) || goesOn innerB (s.data.toList.drop j) then (0, 0, 3) else if 9 < rn then (0, 0, 2) else (2, rn, 0)) := by
            show _ = _
            rw [HD.out, next_digit HSML.out HDGT.out, <- HD.out]
            unfold numL
            rw [HRN.out, List.drop_drop, <- hj4, HD.out]; rfl
           cases hz : (x == 48)
           ·have hz' : ((x.toNat : Int) == 48) = false := by rw [HSM.out, hz]
            rw [hz] at HNX0
            clear hz
            by_cases hjl : j < s.size
            ·have hjl' : (j : Int) < s.size := by omega
             have HDJ := hid (drop_byte s j hjl)
             have HIN := hid (refInner_any s[j])
             obtain ⟨y, hy⟩ : ∃ y, s[j] = y := ⟨_, rfl⟩
             rw [hy] at HDJ HIN
             cases hiy : innerB y
             ·have HIY := hid hiy
              have HGO : Hid (goesOn innerB (s.data.toList.drop j) = false) := by show _ = _; rw [HDJ.out]; exact hiy
              clear hiy
              by_cases h9 : 9 < rn
              ·have h9' : (9 : Int) < (j : Int) - (n : Int) := by omega
               have HNX : Hid (nextL (s.data.toList.drop n) = (0, 0, 2)) := by show _ = _; rw [HNX0.out, HGO.out]; simp [h9]
               have HERR := hid (ref_err HW.out (wordsA_bad0 (at' := n) HD.out HBX.out HH.out HNX.out (by decide)))
               clear HNX0 HNX hj4
               go_wp2_with fail
               refine (HIN.out _).mono ?_; rintro e w' ⟨rfl, rfl⟩
               rw [HIY.out]
               go_wp2_with fail
               go_ret3
               exact words_err HQ.out HERR.out rfl
              ·have h9' : ¬ (9 : Int) < (j : Int) - (n : Int) := by omega
               have HNX : Hid (nextL (s.data.toList.drop n) = (2, rn, 0)) := by show _ = _; rw [HNX0.out, HGO.out]; simp [h9]
               have HTK2 := hid (ref_tok (j := j) (wordsA_tok0 (at' := n) HD.out HBX.out HH.out HNX.out) hj4)
               clear HNX0 HNX hj4
               go_wp2_with fail
               refine (HIN.out _).mono ?_; rintro e w' ⟨rfl, rfl⟩
               rw [HIY.out]
               go_wp2_with fail
               go_meet
               exact ⟨j, 2, rfl, rfl, by have := HJ4.out; omega, hjs, HTK2.out, Quiet0.refl _⟩
             ·have HIY := hid hiy
              have HGO : Hid (goesOn innerB (s.data.toList.drop j) = true) := by show _ = _; rw [HDJ.out]; exact hiy
              clear hiy
              have HNX : Hid (nextL (s.data.toList.drop n) = (0, 0, 3)) := by show _ = _; rw [HNX0.out, HGO.out]; simp
              have HERR := hid (ref_err HW.out (wordsA_bad0 (at' := n) HD.out HBX.out HH.out HNX.out (by decide)))
              clear HNX0 HNX hj4
              go_wp2_with fail
              refine (HIN.out _).mono ?_; rintro e w' ⟨rfl, rfl⟩
              rw [HIY.out]
              go_wp2_with fail
              go_ret3
              exact words_err HQ.out HERR.out rfl
            ·have hjl' : ¬ (j : Int) < s.size := by omega
             have HGO : Hid (goesOn innerB (s.data.toList.drop j) = false) := by show _ = _; rw [drop_end s j (by omega)]; rfl
             by_cases h9 : 9 < rn
             ·have h9' : (9 : Int) < (j : Int) - (n : Int) := by omega
              have HNX : Hid (nextL (s.data.toList.drop n) = (0, 0, 2)) := by show _ = _; rw [HNX0.out, HGO.out]; simp [h9]
              have HERR := hid (ref_err HW.out (wordsA_bad0 (at' := n) HD.out HBX.out HH.out HNX.out (by decide)))
              clear HNX0 HNX hj4
              go_wp2_with fail
              go_ret3
              exact words_err HQ.out HERR.out rfl
             ·have h9' : ¬ (9 : Int) < (j : Int) - (n : Int) := by omega
              have HNX : Hid (nextL (s.data.toList.drop n) = (2, rn, 0)) := by show _ = _; rw [HNX0.out, HGO.out]; simp [h9]
              have HTK2 := hid (ref_tok (j := j) (wordsA_tok0 (at' := n) HD.out HBX.out HH.out HNX.out) hj4)
              clear HNX0 HNX hj4
              go_wp2_with fail
              go_meet
              exact ⟨j, 2, rfl, rfl, by have := HJ4.out; omega, hjs, HTK2.out, Quiet0.refl _⟩
           ·have hz' : ((x.toNat : Int) == 48) = true := by rw [HSM.out, hz]
            rw [hz] at HNX0
            clear hz
            by_cases h1 : 1 < rn
            ·have h1' : (n : Int) + 1 < (j : Int) := by omega
             have HNX : Hid (nextL (s.data.toList.drop n) = (0, 0, 3)) := by show _ = _; rw [HNX0.out]; simp [h1]
             have HERR := hid (ref_err HW.out (wordsA_bad0 (at' := n) HD.out HBX.out HH.out HNX.out (by decide)))
             clear HNX0 HNX hj4
             go_wp2_with fail
             go_ret3
             exact words_err HQ.out HERR.out rfl
            ·have h1' : ¬ (n : Int) + 1 < (j : Int) := by omega
             by_cases hjl : j < s.size
             ·have hjl' : (j : Int) < s.size := by omega
              have HDJ := hid (drop_byte s j hjl)
              have HIN := hid (refInner_any s[j])
              obtain ⟨y, hy⟩ : ∃ y, s[j] = y := ⟨_, rfl⟩
              rw [hy] at HDJ HIN
              cases hiy : innerB y
              ·have HIY := hid hiy
               have HGO : Hid (goesOn innerB (s.data.toList.drop j) = false) := by show _ = _; rw [HDJ.out]; exact hiy
               clear hiy
               have h9 : ¬ 9 < rn := by omega
               have h9' : ¬ (9 : Int) < (j : Int) - (n : Int) := by omega
               have HNX : Hid (nextL (s.data.toList.drop n) = (2, rn, 0)) := by show _ = _; rw [HNX0.out, HGO.out]; simp [h9, h1]
               have HTK2 := hid (ref_tok (j := j) (wordsA_tok0 (at' := n) HD.out HBX.out HH.out HNX.out) hj4)
               clear HNX0 HNX hj4
               go_wp2_with fail
               refine (HIN.out _).mono ?_; rintro e w' ⟨rfl, rfl⟩
               rw [HIY.out]
               go_wp2_with fail
               go_meet
               exact ⟨j, 2, rfl, rfl, by have := HJ4.out; omega, hjs, HTK2.out, Quiet0.refl _⟩
              ·have HIY := hid hiy
               have HGO : Hid (goesOn innerB (s.data.toList.drop j) = true) := by show _ = _; rw [HDJ.out]; exact hiy
               clear hiy
               have HNX : Hid (nextL (s.data.toList.drop n) = (0, 0, 3)) := by show _ = _; rw [HNX0.out, HGO.out]; simp
               have HERR := hid (ref_err HW.out (wordsA_bad0 (at' := n) HD.out HBX.out HH.out HNX.out (by decide)))
               clear HNX0 HNX hj4
               go_wp2_with fail
               refine (HIN.out _).mono ?_; rintro e w' ⟨rfl, rfl⟩
               rw [HIY.out]
               go_wp2_with fail
               go_ret3
               exact words_err HQ.out HERR.out rfl
             ·have hjl' : ¬ (j : Int) < s.size := by omega
              have HGO : Hid (goesOn innerB (s.data.toList.drop j) = false) := by show _ = _; rw [drop_end s j (by omega)]; rfl
              have h9 : ¬ 9 < rn := by omega
              have h9' : ¬ (9 : Int) < (j : Int) - (n : Int) := by omega
              have HNX : Hid (nextL (s.data.toList.drop n) = (2, rn, 0)) := by show _ = _; rw [HNX0.out, HGO.out]; simp [h9, h1]
              have HTK2 := hid (ref_tok (j := j) (wordsA_tok0 (at' := n) HD.out HBX.out HH.out HNX.out) hj4)
              clear HNX0 HNX hj4
              go_wp2_with fail
              go_meet
              exact ⟨j, 2, rfl, rfl, by have := HJ4.out; omega, hjs, HTK2.out, Quiet0.refl _⟩
      ·as_aux_lemma =>
         have HSML := hid hsm
         clear hsm
         have hrl := runL_le innerB (s.data.toList.drop n)
         rw [List.length_drop, bytes_length] at hrl
         have hrp : 0 < runL innerB (s.data.toList.drop n) := by rw [HD.out]; exact runL_pos (small_inner HSML.out)
         clear HDG HSM
         generalize hrn : runL innerB (s.data.toList.drop n) = rn at *
         have HRN := hid hrn
         clear hrn
         go_wp2_with fail
         refine (HLT.out _).mono ?_; rintro e w' ⟨rfl, rfl⟩
         rw [HSML.out]
         clear HLT
         go_upto_block 5 with (fail)
         go_cut [8] (fun t wx => ∃ j : Nat, t = .int .i64 j /\ j = n + rn /\ wr = wx)
         case first =>
          go_wp2_with fail
          go_loop [8] (fun t => ∃ j : Nat, t = .int .i64 j /\ n + 1 <= j /\ j <= s.size /\ n + rn = j + runL innerB (s.data.toList.drop j)) (fun t => s.size - (intOf t).toNat)
          case atStart => exact ⟨n + 1, by go_num, by omega, by omega, by rw [<- HRN.out, HD.out, runL_cons, small_inner HSML.out]; simp only [if_true]; omega⟩
          case round =>
           obtain ⟨j, rfl, hj1, hj2, hj3⟩ := hrel
           have HJ := hid hj3
           clear hj3
           by_cases hjl : j < s.size
           ·have hjl' : (j : Int) < s.size := by omega
            have HDJ := hid (drop_byte s j hjl)
            have HT := hid (refInner_any s[j])
            obtain ⟨y, hy⟩ : ∃ y, s[j] = y := ⟨_, rfl⟩
            rw [hy] at HDJ HT
            cases hp : innerB y
            ·have HPY := hid hp
             clear hp
             have HJ4 : Hid (j = n + rn) := by have := HJ.out; rw [HDJ.out, runL_cons, HPY.out] at this; show _ = _; simpa using this.symm
             go_wp2_with fail
             refine (HT.out _).mono ?_; rintro e w' ⟨rfl, rfl⟩
             rw [HPY.out]
             go_wp2_with fail
             go_meet
             exact ⟨j, rfl, HJ4.out, rfl⟩
            ·have HPY := hid hp
             clear hp
             go_wp2_with fail
             refine (HT.out _).mono ?_; rintro e w' ⟨rfl, rfl⟩
             rw [HPY.out]
             go_wp2
             go_round
             case rel => exact ⟨j + 1, by go_num, by omega, by omega, by rw [HJ.out, HDJ.out, runL_cons, HPY.out]; simp only [if_true]; omega⟩
             case measure => simp [intOf]; omega
           ·have hjl' : ¬ (j : Int) < s.size := by omega
            have HJ4 : Hid (j = n + rn) := by have := HJ.out; rw [drop_end s j (by omega)] at this; show _ = _; simpa [runL] using this.symm
            go_wp2_with fail
            go_meet
            exact ⟨j, rfl, HJ4.out, rfl⟩
         case rest =>
          obtain ⟨j, rfl, hj4, rfl⟩ := hcut
          have HKD : Hid ((s.extract n j).data.toList = (s.data.toList.drop n).take rn) := by
           show _ = _
           rw [Lib.extract_data]; congr 1; omega
          have HNX0 : Hid (nextL (s.data.toList.drop n) = if kwB ((s.data.toList.drop n).take rn) then (3, rn, 0) else if 20 < rn then (0, 0, 2) else (1, rn, 0)) := by
           show _ = _
           rw [HD.out, next_small HSML.out, <- HD.out, HRN.out]
          have HK := hid (refKeyword_any (s.extract n j) wr)
          rw [HKD.out] at HK
          have hjn : (n : Int) <= j := by omega
          have hjs : j <= s.size := by omega
          have hjs' : (j : Int) <= s.size := by omega
          have HJ4 := hid hj4
          cases hkw : kwB ((s.data.toList.drop n).take rn)
          ·have HKW := hid hkw
           rw [hkw] at HNX0 HK
           clear hkw
           by_cases h20 : 20 < rn
           ·have h20' : (20 : Int) < (j : Int) - (n : Int) := by omega
            have HNX : Hid (nextL (s.data.toList.drop n) = (0, 0, 2)) := by show _ = _; rw [HNX0.out]; simp [h20]
            have HERR := hid (ref_err HW.out (wordsA_bad0 (at' := n) HD.out HBX.out HH.out HNX.out (by decide)))
            clear HNX0 HNX hj4
            go_wp2_with fail
            refine HK.out.mono ?_; rintro e w1 ⟨rfl, hq1⟩
            have HQ2 := hid (HQ.out.trans hq1)
            clear hq1
            go_wp2_with fail
            go_ret3
            exact words_err HQ2.out HERR.out rfl
           ·have h20' : ¬ (20 : Int) < (j : Int) - (n : Int) := by omega
            have HNX : Hid (nextL (s.data.toList.drop n) = (1, rn, 0)) := by show _ = _; rw [HNX0.out]; simp [h20]
            have HTK2 := hid (ref_tok (j := j) (wordsA_tok0 (at' := n) HD.out HBX.out HH.out HNX.out) hj4)
            clear HNX0 HNX hj4
            go_wp2_with fail
            refine HK.out.mono ?_; rintro e w1 ⟨rfl, hq1⟩
            have HQ2 := hid hq1
            clear hq1
            go_wp2_with fail
            go_meet
            exact ⟨j, 1, rfl, rfl, by have := HJ4.out; omega, hjs, HTK2.out, HQ2.out⟩
          ·have HKW := hid hkw
           rw [hkw] at HNX0 HK
           clear hkw
           have HNX : Hid (nextL (s.data.toList.drop n) = (3, rn, 0)) := by show _ = _; rw [HNX0.out]; simp
           have HTK2 := hid (ref_tok (j := j) (wordsA_tok0 (at' := n) HD.out HBX.out HH.out HNX.out) hj4)
           clear HNX0 HNX hj4
           go_wp2_with fail
           refine HK.out.mono ?_; rintro e w1 ⟨rfl, hq1⟩
           have HQ2 := hid hq1
           clear hq1
           go_wp2_with fail
           go_meet
           exact ⟨j, 3, rfl, rfl, by have := HJ4.out; omega, hjs, HTK2.out, HQ2.out⟩
     case rest =>
      obtain ⟨j, kd, rfl, rfl, hj1, hj2, htk, hq1⟩ := hcut
      have HTK2 := hid htk
      have HQ2 := hid (HQ.out.trans hq1)
      have HR2 : Hid (TokRow wc B (.slice o acc.length c) acc) := ⟨ownsRow_fr HR.out.1 hq1 (fun _ _ h => h), HR.out.2⟩
      have HTXT := hid (token_text2 s n j)
      have hjn : (n : Int) <= j := by omega
      have hjs' : (j : Int) <= s.size := by omega
      clear htk hq1 HLT HDG HSM
      go_wp2_with (at_builtin; refine wpList_append_one wc rfl (.tmp 159) (.tmp 169) 88 rfl 94 _ 4 40 elemTok (.slice o acc.length c) acc.length (rowCells acc) rfl HR2.out.1 #[.int .i64 (kd : Nat), .string (s.extract n j), .int .i64 (n : Nat), .int .i64 (j : Nat)] rfl rfl (by simp [Value.oneCell']) (by unfold maxLen; omega) (by omega) ?_; intro g c' w2 ho hf hg)
      go_roundw
      case rel =>
       have hap := append_tok (t := ⟨kd, (s.data.toList.drop n).take (j - n), n, j⟩) HQ2.out HBB.out HR2.out (by rw [HTXT.out] at ho; exact ho) hf hg
       exact ⟨_, j, some ⟨g, 0, none⟩, c', by simp, rfl, by omega, by rw [HW.out, HTK2.out, appW_cons], hap.1, by simp; omega, hap.2⟩
      case measure => simp [intOf]; omega
    ·as_aux_lemma =>
       have HH := hid hh
       have hh' : ((x.toNat : Int) == 35) = true := by rw [HHASH.out, hh]
       clear hh HHASH
       have HWH := hid (wordsA_hash (at' := n) HD.out HBX.out HH.out)
       have HP : Hid (0 < runL nolfB (s.data.toList.drop n)) := by rw [HD.out]; exact hash_nolf HH.out
       have hrl := runL_le nolfB (s.data.toList.drop n)
       rw [List.length_drop, bytes_length] at hrl
       clear HLT HDG HSM HD
       generalize hrn : runL nolfB (s.data.toList.drop n) = rn at *
       have HRN := hid hrn
       clear hrn
       go_wp2_with fail
       go_loop [6] (fun t => ∃ j : Nat, t = .int .i64 j /\ n <= j /\ j <= s.size /\ n + rn = j + runL nolfB (s.data.toList.drop j)) (fun t => s.size - (intOf t).toNat)
       case atStart => exact ⟨n, rfl, Nat.le_refl _, hn, by rw [HRN.out]⟩
       case round =>
        obtain ⟨j, rfl, hj1, hj2, hj3⟩ := hrel
        have HJ := hid hj3
        clear hj3
        by_cases hjl : j < s.size
        ·have hjl' : (j : Int) < s.size := by omega
         have HDJ := hid (drop_byte s j hjl)
         have HNL := hid (nolf_of s[j])
         obtain ⟨y, hy⟩ : ∃ y, s[j] = y := ⟨_, rfl⟩
         rw [hy] at HDJ HNL
         cases hnl : nolfB y
         ·have hnl' : ((y.toNat : Int) != 10) = false := by rw [<- HNL.out, hnl]
          have HNY := hid hnl
          clear hnl HNL
          go_wp2
          go_roundw
          case rel =>
           have e : n + rn = j := by have := HJ.out; rw [HDJ.out, runL_cons, HNY.out] at this; simpa using this
           exact ⟨acc, j, o, c, rfl, rfl, hj2, by rw [HW.out, HWH.out, List.drop_drop, e], HR.out, by omega, HQ.out⟩
          case measure =>
           have e : n + rn = j := by have := HJ.out; rw [HDJ.out, runL_cons, HNY.out] at this; simpa using this
           have := HP.out
           simp [intOf]; omega
         ·have hnl' : ((y.toNat : Int) != 10) = true := by rw [<- HNL.out, hnl]
          have HNY := hid hnl
          clear hnl HNL
          go_wp2
          go_round
          case rel => exact ⟨j + 1, by go_num, by omega, by omega, by rw [HJ.out, HDJ.out, runL_cons, HNY.out]; simp only [if_true]; omega⟩
          case measure => simp [intOf]; omega
        ·have hjl' : ¬ (j : Int) < s.size := by omega
         have HDJ := hid (drop_end s j (by omega))
         go_wp2
         go_roundw
         case rel =>
          have e : n + rn = j := by have := HJ.out; rw [HDJ.out] at this; simpa [runL] using this
          exact ⟨acc, j, o, c, rfl, rfl, hj2, by rw [HW.out, HWH.out, List.drop_drop, e], HR.out, by omega, HQ.out⟩
         case measure =>
          have e : n + rn = j := by have := HJ.out; rw [HDJ.out] at this; simpa [runL] using this
          have := HP.out
          simp [intOf]; omega
   ·have HBX := hid hb
    have hb' : (((x.toNat : Int) == 32) || ((x.toNat : Int) == 9) || ((x.toNat : Int) == 10) || ((x.toNat : Int) == 13)) = true := by rw [<- HB.out, hb]
    clear hb HB
    have HWB := hid (wordsA_blank (at' := n) HD.out HBX.out)
    cases b32 : ((x.toNat : Int) == 32) <;> cases b9 : ((x.toNat : Int) == 9) <;> cases b10 : ((x.toNat : Int) == 10) <;> cases b13 : ((x.toNat : Int) == 13)
    all_goals
     rw [b32, b9, b10, b13] at hb'
     first
     | (exact absurd hb' (by decide))
     | skip
    all_goals
     clear hb' HLT HDG HSM HD
     go_wp2
     go_roundw
     case rel => exact ⟨acc, n + 1, o, c, rfl, by go_num, by omega, by rw [HW.out, HWB.out, List.drop_drop], HR.out, by omega, HQ.out⟩
     case measure => simp [intOf]; omega
  ·have hnn : n = s.size := by omega
   have HNN := hid hnn
   have HEND := hid (wordsA_end (at' := n) (l := s.data.toList.drop n) (by rw [drop_end s n (by omega)]; rfl))
   clear hnn
   have hlt' : ¬ (n : Int) < s.size := by omega
   go_wp2_with (at_builtin; go_must (refine wpList_append_one wr rfl (.tmp 172) (.tmp 179) 88 rfl 94 _ 4 40 elemTok (.slice o acc.length c) acc.length (rowCells acc) rfl HR.out.1 #[.int .i64 0, .string ⟨#[]⟩, .int .i64 (s.size : Nat), .int .i64 (s.size : Nat)] rfl rfl ?d1 ?d2 ?d3 ?_))
   case d1 => simp [Value.oneCell']
   case d2 => unfold maxLen; omega
   case d3 => omega
   intro g c' w2 ho hf hg
   have hap : TokRow w2 B (.slice (some ⟨g, 0, none⟩) (acc ++ [endTok s.size]).length c') (acc ++ [endTok s.size]) /\ Quiet0 w w2 := by
    refine append_tok HQ.out HBB.out HR.out ?_ hf hg
    exact ho
   have HAP := hid hap
   clear hap ho hf hg HR
   go_wp2_with fail
   go_ret3
   refine ⟨HAP.out.2, ?_⟩
   have hw : wordsL s.data.toList = .inl (acc ++ [endTok s.size]) := by
    rw [HW.out, HEND.out, List.length_drop, bytes_length, HNN.out]
    simp [appW]
   rw [hw]
   refine ⟨g, c', by simp, ?_⟩
   rw [<- HBB.out]; exact HAP.out.1
end Lx
end
section
namespace Lx
open Go.RowKit
theorem WordsPost.ok {l : List UInt8} {w w' : World} {e : Ending} (h : WordsPost l w e w') {ts : List Tok} (hw : wordsL l = .inl ts) :
    Quiet0 w w' /\ ∃ g c, e = .returned (.tuple #[.slice (some ⟨g, 0, none⟩) ts.length c, .int .i64 0, .int .i64 0]) /\ TokRow w' w.heap.size (.slice (some ⟨g, 0, none⟩) ts.length c) ts := by
 obtain ⟨hq, h⟩ := h
 rw [hw] at h
 exact ⟨hq, h⟩
theorem WordsPost.bad {l : List UInt8} {w w' : World} {e : Ending} (h : WordsPost l w e w') {p : Nat × Nat} (hw : wordsL l = .inr p) :
    Quiet0 w w' /\ e = .returned (.tuple #[.slice none 0 0, .int .i64 (p.1 : Nat), .int .i64 (p.2 : Nat)]) := by
 obtain ⟨hq, h⟩ := h
 rw [hw] at h
 exact ⟨hq, h⟩
theorem wordsA_len : ∀ (at' : Nat) (l : List UInt8) (ts : List Tok), wordsA at' l = .inl ts -> ts.length <= l.length + 1 := by
 suffices h : ∀ (n : Nat) (at' : Nat) (l : List UInt8) (ts : List Tok), l.length <= n -> wordsA at' l = .inl ts -> ts.length <= l.length + 1 from fun a l ts hw => h l.length a l ts (Nat.le_refl _) hw
 intro n
 induction n with
 | zero =>
  intro a l ts hl hw
  have : l = [] := List.eq_nil_of_length_eq_zero (by omega)
  subst this
  rw [wordsA_end rfl] at hw
  cases hw; simp
 | succ n ih =>
  intro a l ts hl hw
  have hle := skipL_le false l
  by_cases hk : skipL false l = l.length
  ·rw [wordsA_end hk] at hw; cases hw; simp
  ·by_cases he : (nextL (l.drop (skipL false l))).2.2 = 0
   ·have hlen := nextL_len he
    rw [wordsA_tok (by omega) he] at hw
    revert hw
    cases hr : wordsA (a + skipL false l + (nextL (l.drop (skipL false l))).2.1) ((l.drop (skipL false l)).drop (nextL (l.drop (skipL false l))).2.1) with
    | inr e => intro hw; cases hw
    | inl us =>
     intro hw
     cases hw
     have := ih _ _ us (by simp only [List.length_drop] at *; omega) hr
     simp only [List.length_drop, List.length_cons] at *
     omega
   ·rw [wordsA_bad (by omega) he] at hw; cases hw
end Lx
end
section
namespace Pa
open Go.RowKit Lx
theorem exQ_word {ts : List Tok} {f i : Nat} (h : wordQ ts i = true) : exQ ts (f + 1) i = formQ (exQ ts f) ts i := by
 conv => lhs; unfold exQ
 unfold wordQ at h
 rw [if_pos h]
theorem exQ_atoms {ts : List Tok} {f i : Nat} (h : wordQ ts i = false) : exQ ts (f + 1) i = goQ (exQ ts f) (tyQ ts (f - 1)) ts (atomQ (exQ ts f) (tyQ ts (f - 1)) ts i) := by
 conv => lhs; unfold exQ
 unfold wordQ at h
 rw [if_neg (by rw [h]; simp)]
theorem wordQ_lt {ts : List Tok} {i : Nat} (hs : Shut ts) (h : wordQ ts i = true) : i + 1 < ts.length := by
 unfold wordQ at h
 rw [Bool.or_eq_true, Bool.or_eq_true] at h
 rcases h with (h | h) | h
 ·exact isT_lt hs h (by decide)
 ·exact isT_lt hs h (by decide)
 ·exact isT_lt hs h (by decide)
theorem atom_any2 (ts : List Tok) (g c : Nat) (E : Nat -> TmR) (T : Nat -> TyR) (i : Nat) (ai lv mo : Int) (w : World) (ea : ai = i) (ht : TkAt w g ts) (htl : ∀ t ∈ ts, t.text.length <= 1000000)
    (hbr : isT ts i 4 sOpen = true -> ∀ W, Quiet0 w W -> Calls Tryz.prog 122 #[tks g ts c, .int .i64 i, .int .i64 lv, .int .i64 mo] W (TmPost W (brQ E T ts i (E (i + 1))))) :
    Calls Tryz.prog 103 #[tks g ts c, .int .i64 ai, .int .i64 lv, .int .i64 mo] w (TmPost w (atomQ E T ts i)) := by
 subst ea
 cases hb : begQ ts i
 ·exact atom_none ts g c E T i lv mo w hb ht
 ·obtain ⟨t, hti⟩ : ∃ t, ts[i]? = some t := by
    unfold begQ at hb
    split at hb
    ·next t ht => exact ⟨t, ht⟩
    ·cases hb
  cases hk1 : (t.kind == 1)
  ·cases hk2 : (t.kind == 2)
   ·cases hx : (t.text == wTrue)
    ·cases hy : (t.text == sOpen)
     ·exact atom_other ts g c E T i lv mo w hb ht t hti hk1 hk2 hx hy
     ·refine atom_open ts g c E T i lv mo w hb ht t hti hk1 hk2 hx hy (hbr ?_)
      have h1 := beg_at hti
      rw [hb, hk1, hk2, isT_at hti, isT_at hti, isT_at hti, hx] at h1
      rw [isT_at hti, hy, Bool.and_true]
      have h2 : (t.text == wFalse) = false := by
       have := eq_of_beq hy
       rw [this]; rfl
      rw [h2] at h1
      simpa [hy] using h1.symm
    ·exact atom_true ts g c E T i lv mo w hb ht t hti hk1 hk2 hx
   ·exact atom_num ts g c E T i lv mo w hb ht t hti hk1 hk2 (htl t (List.mem_of_getElem? hti))
  ·exact atom_name ts g c E T i lv mo w hb ht t hti hk1
theorem expr_any (ts : List Tok) (g c : Nat) (hsh : Shut ts) (htl : ∀ t ∈ ts, t.text.length <= 1000000) : ∀ f, ExT ts g c f
 | 0 => expr_zero ts g c
 | f + 1 => by
  have ih := expr_any ts g c hsh htl f
  intro i ai lv mo W ea hi ht hf h1 h2 h3 h4
  subst ea
  have hle : lv <= mo := by omega
  have hf2 : f = (mo + 1 - (lv + 1)).toNat := by omega
  have hf3 : f - 1 = (mo + 1 - (lv + 2)).toNat := by omega
  have hE : ∀ (j : Nat) (aj : Int) (W' : World), aj = j -> j < ts.length -> Quiet0 W W' -> Calls Tryz.prog 79 #[tks g ts c, .int .i64 aj, .int .i64 (lv + 1), .int .i64 mo] W' (TmPost W' (exQ ts f j)) := fun j aj W' e hj hq => ih j aj (lv + 1) mo W' e hj (ht.stay hq) hf2 (by omega) (by omega) h3 h4
  have hT : ∀ (j : Nat) (aj : Int) (W' : World), aj = j -> j < ts.length -> Quiet0 W W' -> Calls Tryz.prog 129 #[tks g ts c, .int .i64 aj, .int .i64 (lv + 2), .int .i64 mo] W' (TyPost W' (tyQ ts (f - 1) j)) := fun j aj W' e hj hq => read_any ts g c hsh (f - 1) j aj (lv + 2) mo W' e hj (ht.stay hq) hf3 (by omega) (by omega) h3 (by omega)
  cases hw : wordQ ts i
  ·rw [exQ_atoms hw]
   refine expr_atoms ts g c (exQ ts f) (tyQ ts (f - 1)) i lv mo W hi (fun j hj => atomQ_in hsh (exQ_in hsh f) (tyQ_in hsh (f - 1)) j hj) hsh ht hle hw (fun j aj W' ea hq => ?_)
   refine atom_any2 ts g c (exQ ts f) (tyQ ts (f - 1)) j aj lv mo W' ea (ht.stay hq) htl (fun ho W'' hq' => ?_)
   exact brackets_any ts g c (exQ ts f) (tyQ ts (f - 1)) j lv mo W'' hsh ho (exQ_in hsh f) (tyQ_in hsh (f - 1)) (ht.stay (hq.trans hq')) h1 (by omega) (fun j' aj' W3 e hj hq3 => hE j' aj' W3 e hj ((hq.trans hq').trans hq3)) (fun j' aj' W3 e hj hq3 => hT j' aj' W3 e hj ((hq.trans hq').trans hq3))
  ·rw [exQ_word hw]
   exact expr_form ts g c f (exQ ts f) i lv mo W ht hle hw (fun W' hq => form_any ts g c (exQ ts f) i lv mo W' hsh (wordQ_lt hsh hw) (exQ_in hsh f) (ht.stay hq) h1 (by omega) (fun j aj W2 e hj hq2 => hE j aj W2 e hj (hq.trans hq2)))
def WhPost (w : World) (r : TmR) (e : Ending) (w' : World) : Prop := match r with
 | .inl ((h, ps), _, j) => ∃ o1 l1 c1 o2 l2 c2, e = .returned (.tuple #[tmv h o1 l1 c1 o2 l2 c2, .int .i64 (j : Nat), .int .i64 0]) /\ SlcIn (fun b => w.heap.size <= b) w' o1 l1 h.tp /\ TSlc (fun b => w.heap.size <= b) w' o2 l2 ps /\ Quiet0 w w'
 | .inr (j, er) => e = .returned (.tuple #[.agg zero9, .int .i64 (j : Nat), .int .i64 (er : Nat)]) /\ Quiet0 w w'
theorem whole_any (ts : List Tok) (g c : Nat) (f : Nat) (mo : Int) (w : World) (hsh : Shut ts) (h0 : 0 < ts.length) (htl : ∀ t ∈ ts, t.text.length <= 1000000) (ht : TkAt w g ts) (hf : f = mo.toNat) (hm1 : -1000000 <= mo) (hm2 : mo <= 800000) :
    Calls Tryz.prog 48 #[tks g ts c, .int .i64 mo] w (WhPost w (wholeQ ts f)) := by
 have hfew := ht.few
 obtain ⟨W0, hW0⟩ : ∃ W0, W0 = w.alloc (.cells zero9 29) := ⟨_, rfl⟩
 have HQ0 : Hid (Quiet0 w W0) := by rw [hW0]; exact Quiet0.alloc _ _
 have HB0 : Hid (W0.heap[w.heap.size]? = some (.cells zero9 29 (0, 0))) := by show _ = _; rw [hW0]; exact heap_alloc_new w _
 have HC : Hid (Calls Tryz.prog 79 #[tks g ts c, .int .i64 0, .int .i64 1, .int .i64 mo] W0 (TmPost W0 (exQ ts f 0))) := expr_any ts g c hsh htl f 0 0 1 mo W0 rfl h0 (ht.stay HQ0.out) (by omega) (by omega) (by omega) hm1 hm2
 have HIN := exQ_in hsh f 0 h0
 have HCE : Hid (∀ (j : Nat) (t : Tok), ts[j]? = some t -> ∀ W, Quiet0 w W -> W.cell? ⟨g, j * 4, none⟩ = some (.int .i64 (t.kind : Nat))) := fun j t h W hq => ((ht.stay hq).cells j t h).1
 obtain ⟨res, hres⟩ : ∃ res, wholeQ ts f = res := ⟨_, rfl⟩
 have HRES := hid hres
 rw [hres]
 clear ht hsh htl hres hf
 go_enter Tryz.func48, Tryz.ntmps48
 go_wp2_with fail
 rw [<- hW0]
 clear hW0
 generalize hB : w.heap.size = B at *
 have HBE := hid hB
 clear hB
 cases hr : exQ ts f 0 with
 | inr y =>
  obtain ⟨j, er⟩ := y
  rw [hr] at HC HIN
  have hne : er ≠ 0 := HIN.2
  have hne2 : ((er : Int) == 0) = false := by simp [hne]
  have hne3 : ((er : Int) != 0) = true := by simp [hne]
  have HFE : Hid (res = .inr (j, er)) := by show _ = _; rw [<- HRES.out]; unfold wholeQ; rw [hr]
  refine HC.out.mono ?_; rintro e w2 ⟨rfl, hq2⟩
  obtain ⟨W3, hW3⟩ : ∃ W3, W3 = w2.alloc (.cells (z13 (j : Nat) (er : Nat)) 129) := ⟨_, rfl⟩
  have hqa : Quiet0 w2 W3 := by rw [hW3]; exact Quiet0.alloc _ _
  have hr3 : W3.heap[w2.heap.size]? = some (.cells (z13 (j : Nat) (er : Nat)) 129 (0, 0)) := by rw [hW3]; exact heap_alloc_new w2 _
  have hb3 := blk_fr (hq2.trans hqa) (fun h => h) HB0.out
  have HB3 := hid hb3
  have HQ3 := hid (HQ0.out.trans (hq2.trans hqa))
  have hw2 : B < w2.heap.size := Nat.lt_of_lt_of_le (lt_of_block HB0.out) hq2.size
  go_upto_region 2 with fail
  change Code.wp _ _ _ _ (w2.alloc (.cells (z13 (j : Nat) (er : Nat)) 129))
  rw [<- hW3]
  clear hW3 hqa hq2 HIN
  generalize w2.heap.size = rb at *
  have hn1 : ¬ B = rb := by omega
  have hn2 : ¬ rb = B := by omega
  obtain ⟨r0, r1, r2, r3, r4, r5, r6, r7, r8, r9, r10, r11, r12⟩ := cells13 hr3
  obtain ⟨⟨t0, t1, t2, t3, t4, t5, t6, t7, t8⟩, u0, u1, u2, u3, u4, u5, u6, u7, u8⟩ := block9 hb3
  clear hr3 hb3
  go_upto_region 5 with fail
  go_region
  have hf := (put9_fr W3 B (.int .i64 0) (.string ⟨#[]⟩) (.int .i64 0) (.int .i64 0) (.int .i64 0) (.slice none 0 0) (.slice none 0 0) (.int .i64 0) (.int .i64 0)).trans (Fr.drew (fun k => k = B) _)
  have hb9 := blk_after (Quiet0.drew _) (put9_block (a0 := .int .i64 0) (a1 := .string ⟨#[]⟩) (a2 := .int .i64 0) (a3 := .int .i64 0) (a4 := .int .i64 0) (a5 := .slice none 0 0) (a6 := .slice none 0 0) (a7 := .int .i64 0) (a8 := .int .i64 0) HB3.out)
  first
   | with_reducible change Exit.then _ _ _ _ (put9 W3 B (.int .i64 0) (.string ⟨#[]⟩) (.int .i64 0) (.int .i64 0) (.int .i64 0) (.slice none 0 0) (.slice none 0 0) (.int .i64 0) (.int .i64 0)).drew
   | change Exit.then _ _ _ _ (put9 W3 B (.int .i64 0) (.string ⟨#[]⟩) (.int .i64 0) (.int .i64 0) (.int .i64 0) (.slice none 0 0) (.slice none 0 0) (.int .i64 0) (.int .i64 0)).drew
  generalize (put9 W3 B (.int .i64 0) (.string ⟨#[]⟩) (.int .i64 0) (.int .i64 0) (.int .i64 0) (.slice none 0 0) (.slice none 0 0) (.int .i64 0) (.int .i64 0)).drew = wf at *
  obtain ⟨⟨x0, x1, x2, x3, x4, x5, x6, x7, x8⟩, _⟩ := block9 hb9
  clear hb9
  go_wp2_with fail
  have hqf : Quiet0 w wf := (HQ3.out).trans' hf (fun k hk e => by have := HBE.out; omega)
  refine bodyPost_ret (by simp [results, Tryz.results48, go_sem, x0, x1, x2, x3, x4, x5, x6, x7, x8]; rfl) rfl ?_
  rw [HFE.out]
  exact ⟨rfl, hqf⟩
 | inl y =>
  obtain ⟨⟨h, ps⟩, x, j⟩ := y
  rw [hr] at HC HIN
  have hj2 : 0 < j /\ j < ts.length := HIN
  obtain ⟨t9, ht9⟩ : ∃ t9, ts[j]? = some t9 := ⟨_, List.getElem?_eq_getElem hj2.2⟩
  have HEQ : Hid (endQ ts j = (t9.kind == 0)) := by show _ = _; unfold endQ; rw [ht9]
  have hjl : (j : Int) < ts.length := by omega
  have hjl2 : ¬ (j : Int) ≥ ts.length := by omega
  have hjl3 : ¬ (ts.length : Int) <= j := by omega
  have hj0 : (0 : Int) <= j := by omega
  have hkn := kind_eq t9.kind 0
  refine HC.out.mono ?_; rintro e w2 ⟨o1, l1, c1, o2, l2, c2, rfl, hs1, hs2, hq2⟩
  obtain ⟨W3, hW3⟩ : ∃ W3, W3 = w2.alloc (.cells (c13 h o1 l1 c1 o2 l2 c2 x (j : Nat) 0) 129) := ⟨_, rfl⟩
  have hqa : Quiet0 w2 W3 := by rw [hW3]; exact Quiet0.alloc _ _
  have hr3 : W3.heap[w2.heap.size]? = some (.cells (c13 h o1 l1 c1 o2 l2 c2 x (j : Nat) 0) 129 (0, 0)) := by rw [hW3]; exact heap_alloc_new w2 _
  have hb3 := blk_fr (hq2.trans hqa) (fun h => h) HB0.out
  have HB3 := hid hb3
  have HQ3 := hid (HQ0.out.trans (hq2.trans hqa))
  have hw2 : B < w2.heap.size := Nat.lt_of_lt_of_le (lt_of_block HB0.out) hq2.size
  have HS1 := hid (hs1.stay hqa)
  have HS2 := hid (hs2.stay hqa)
  have hw0 := lt_of_block HB0.out
  have k0 := HCE.out j t9 ht9 W3 HQ3.out
  go_upto_region 2 with fail
  change Code.wp _ _ _ _ (w2.alloc (.cells (c13 h o1 l1 c1 o2 l2 c2 x (j : Nat) 0) 129))
  rw [<- hW3]
  clear hW3 hqa hq2 HIN hs1 hs2 ht9
  generalize w2.heap.size = rb at *
  have hn1 : ¬ B = rb := by omega
  have hn2 : ¬ rb = B := by omega
  have HR3 := hid hr3
  obtain ⟨r0, r1, r2, r3, r4, r5, r6, r7, r8, r9, r10, r11, r12⟩ := cells13 hr3
  have v0 := free13 hr3 0
  have v1 := free13 hr3 1
  have v2 := free13 hr3 2
  have v3 := free13 hr3 3
  have v4 := free13 hr3 4
  have v5 := free13 hr3 5
  have v6 := free13 hr3 6
  have v7 := free13 hr3 7
  have v8 := free13 hr3 8
  have v9 := free13 hr3 9
  have v10 := free13 hr3 10
  have v11 := free13 hr3 11
  have v12 := free13 hr3 12
  obtain ⟨⟨t0, t1, t2, t3, t4, t5, t6, t7, t8⟩, u0, u1, u2, u3, u4, u5, u6, u7, u8⟩ := block9 hb3
  clear hr3 hb3
  cases hke : (t9.kind == 0)
  case true =>
   have hk1 : ((t9.kind : Int) != 0) = false := by rw [bne, show ((t9.kind : Int) == 0) = true from hkn.trans hke]; rfl
   have HFE : Hid (res = .inl ((h, ps), x, j + 1)) := by show _ = _; rw [<- HRES.out]; unfold wholeQ; rw [hr]; show (if endQ ts j = true then _ else _) = _; rw [if_pos (by rw [HEQ.out, hke])]
   clear hkn hke
   go_upto_region 6 with fail
   go_region
   have hf := (put9_fr W3 B (.int .i64 h.k) (.string h.nm) (.int .i64 h.n) (.int .i64 h.tk) (.int .i64 h.tn) (.slice o1 l1 c1) (.slice o2 l2 c2) (.int .i64 h.fr) (.int .i64 h.en)).trans (Fr.drew (fun k => k = B) _)
   have hb9 := blk_after (Quiet0.drew _) (put9_block (a0 := .int .i64 h.k) (a1 := .string h.nm) (a2 := .int .i64 h.n) (a3 := .int .i64 h.tk) (a4 := .int .i64 h.tn) (a5 := .slice o1 l1 c1) (a6 := .slice o2 l2 c2) (a7 := .int .i64 h.fr) (a8 := .int .i64 h.en) HB3.out)
   first
    | with_reducible change Exit.then _ _ _ _ (put9 W3 B (.int .i64 h.k) (.string h.nm) (.int .i64 h.n) (.int .i64 h.tk) (.int .i64 h.tn) (.slice o1 l1 c1) (.slice o2 l2 c2) (.int .i64 h.fr) (.int .i64 h.en)).drew
    | change Exit.then _ _ _ _ (put9 W3 B (.int .i64 h.k) (.string h.nm) (.int .i64 h.n) (.int .i64 h.tk) (.int .i64 h.tn) (.slice o1 l1 c1) (.slice o2 l2 c2) (.int .i64 h.fr) (.int .i64 h.en)).drew
   generalize (put9 W3 B (.int .i64 h.k) (.string h.nm) (.int .i64 h.n) (.int .i64 h.tk) (.int .i64 h.tn) (.slice o1 l1 c1) (.slice o2 l2 c2) (.int .i64 h.fr) (.int .i64 h.en)).drew = wf at *
   obtain ⟨⟨x0, x1, x2, x3, x4, x5, x6, x7, x8⟩, _⟩ := block9 hb9
   clear hb9
   go_wp2_with fail
   have hqf : Quiet0 w wf := (HQ3.out).trans' hf (fun k hk e => by have := HBE.out; omega)
   refine bodyPost_ret (by simp [results, Tryz.results48, go_sem, x0, x1, x2, x3, x4, x5, x6, x7, x8]; rfl) rfl ?_
   rw [HFE.out]
   exact ⟨o1, l1, c1, o2, l2, c2, rfl, HS1.out.fr hf (fun b _ k => by have k' : W0.heap.size <= b := k; exact ⟨by have := HBE.out; show w.heap.size <= b; omega, by omega⟩), HS2.out.fr hf (fun b _ k => by have k' : W0.heap.size <= b := k; exact ⟨by have := HBE.out; show w.heap.size <= b; omega, by omega⟩), hqf⟩
  case false =>
   have hk1 : ((t9.kind : Int) != 0) = true := by rw [bne, show ((t9.kind : Int) == 0) = false from hkn.trans hke]; rfl
   have HFE : Hid (res = .inr (j, 3)) := by show _ = _; rw [<- HRES.out]; unfold wholeQ; rw [hr]; show (if endQ ts j = true then _ else _) = _; rw [if_neg (by rw [HEQ.out, hke]; simp)]
   have HWR := hid (wrong_any (j : Int) 3 W3)
   clear hkn hke
   go_wp2_with fail
   refine HWR.out.mono ?_; rintro e w4 ⟨rfl, hq4⟩
   have hr4 := blk_after hq4 HR3.out
   have hb4 := blk_after hq4 HB3.out
   clear r0 v0 r1 v1 r2 v2 r3 v3 r4 v4 r5 v5 r6 v6 r7 v7 r8 v8 r9 v9 r10 v10 r11 v11 r12 v12 t0 u0 t1 u1 t2 u2 t3 u3 t4 u4 t5 u5 t6 u6 t7 u7 t8 u8
   obtain ⟨r0, r1, r2, r3, r4, r5, r6, r7, r8, r9, r10, r11, r12⟩ := cells13 hr4
   have v0 := free13 hr4 0
   have v1 := free13 hr4 1
   have v2 := free13 hr4 2
   have v3 := free13 hr4 3
   have v4 := free13 hr4 4
   have v5 := free13 hr4 5
   have v6 := free13 hr4 6
   have v7 := free13 hr4 7
   have v8 := free13 hr4 8
   have v9 := free13 hr4 9
   have v10 := free13 hr4 10
   have v11 := free13 hr4 11
   have v12 := free13 hr4 12
   go_upto_region 4 with fail
   change Code.wp _ _ _ _ (put13 w4 rb (.int .i64 0) (.string ⟨#[]⟩) (.int .i64 0) (.int .i64 0) (.int .i64 0) (.slice none 0 0) (.slice none 0 0) (.int .i64 0) (.int .i64 0) (.int .i64 0) (.int .i64 0) (.int .i64 (j : Nat)) (.int .i64 3))
   have hf5 := put13_fr w4 rb (.int .i64 0) (.string ⟨#[]⟩) (.int .i64 0) (.int .i64 0) (.int .i64 0) (.slice none 0 0) (.slice none 0 0) (.int .i64 0) (.int .i64 0) (.int .i64 0) (.int .i64 0) (.int .i64 (j : Nat)) (.int .i64 3)
   have hr5 := put13_block (a0 := .int .i64 0) (a1 := .string ⟨#[]⟩) (a2 := .int .i64 0) (a3 := .int .i64 0) (a4 := .int .i64 0) (a5 := .slice none 0 0) (a6 := .slice none 0 0) (a7 := .int .i64 0) (a8 := .int .i64 0) (a9 := .int .i64 0) (a10 := .int .i64 0) (a11 := .int .i64 (j : Nat)) (a12 := .int .i64 3) hr4
   have hb5 := blk_fr hf5 (by omega) hb4
   have HB5 := hid hb5
   have HQ5 := hid ((HQ3.out.trans hq4).trans' hf5 (fun b hb e => by have := HBE.out; omega))
   clear hf5 hr4 hb4 hq4 r0 v0 r1 v1 r2 v2 r3 v3 r4 v4 r5 v5 r6 v6 r7 v7 r8 v8 r9 v9 r10 v10 r11 v11 r12 v12
   generalize put13 w4 rb (.int .i64 0) (.string ⟨#[]⟩) (.int .i64 0) (.int .i64 0) (.int .i64 0) (.slice none 0 0) (.slice none 0 0) (.int .i64 0) (.int .i64 0) (.int .i64 0) (.int .i64 0) (.int .i64 (j : Nat)) (.int .i64 3) = W5 at *
   obtain ⟨r0, r1, r2, r3, r4, r5, r6, r7, r8, r9, r10, r11, r12⟩ := cells13 hr5
   obtain ⟨⟨t0, t1, t2, t3, t4, t5, t6, t7, t8⟩, u0, u1, u2, u3, u4, u5, u6, u7, u8⟩ := block9 hb5
   clear hr5 hb5
   go_upto_region 5 with fail
   go_region
   have hf := (put9_fr W5 B (.int .i64 0) (.string ⟨#[]⟩) (.int .i64 0) (.int .i64 0) (.int .i64 0) (.slice none 0 0) (.slice none 0 0) (.int .i64 0) (.int .i64 0)).trans (Fr.drew (fun k => k = B) _)
   have hb9 := blk_after (Quiet0.drew _) (put9_block (a0 := .int .i64 0) (a1 := .string ⟨#[]⟩) (a2 := .int .i64 0) (a3 := .int .i64 0) (a4 := .int .i64 0) (a5 := .slice none 0 0) (a6 := .slice none 0 0) (a7 := .int .i64 0) (a8 := .int .i64 0) HB5.out)
   first
    | with_reducible change Exit.then _ _ _ _ (put9 W5 B (.int .i64 0) (.string ⟨#[]⟩) (.int .i64 0) (.int .i64 0) (.int .i64 0) (.slice none 0 0) (.slice none 0 0) (.int .i64 0) (.int .i64 0)).drew
    | change Exit.then _ _ _ _ (put9 W5 B (.int .i64 0) (.string ⟨#[]⟩) (.int .i64 0) (.int .i64 0) (.int .i64 0) (.slice none 0 0) (.slice none 0 0) (.int .i64 0) (.int .i64 0)).drew
   generalize (put9 W5 B (.int .i64 0) (.string ⟨#[]⟩) (.int .i64 0) (.int .i64 0) (.int .i64 0) (.slice none 0 0) (.slice none 0 0) (.int .i64 0) (.int .i64 0)).drew = wf at *
   obtain ⟨⟨x0, x1, x2, x3, x4, x5, x6, x7, x8⟩, _⟩ := block9 hb9
   clear hb9
   go_wp2_with fail
   have hqf : Quiet0 w wf := (HQ5.out).trans' hf (fun k hk e => by have := HBE.out; omega)
   refine bodyPost_ret (by simp [results, Tryz.results48, go_sem, x0, x1, x2, x3, x4, x5, x6, x7, x8]; rfl) rfl ?_
   rw [HFE.out]
   exact ⟨rfl, hqf⟩
theorem wordsA_place2 : ∀ (at' : Nat) (l : List UInt8) (p : Nat × Nat), wordsA at' l = .inr p -> p.1 <= at' + l.length := by
 suffices h : ∀ (n : Nat) (at' : Nat) (l : List UInt8) (p : Nat × Nat), l.length <= n -> wordsA at' l = .inr p -> p.1 <= at' + l.length from fun a l ts hw => h l.length a l ts (Nat.le_refl _) hw
 intro n
 induction n with
 | zero =>
  intro a l p hl hw
  have : l = [] := List.eq_nil_of_length_eq_zero (by omega)
  subst this
  rw [wordsA_end rfl] at hw
  cases hw
 | succ n ih =>
  intro a l p hl hw
  have hle := skipL_le false l
  by_cases hk : skipL false l = l.length
  ·rw [wordsA_end hk] at hw; cases hw
  ·by_cases he : (nextL (l.drop (skipL false l))).2.2 = 0
   ·have hlen := nextL_len he
    rw [wordsA_tok (by omega) he] at hw
    revert hw
    cases hr : wordsA (a + skipL false l + (nextL (l.drop (skipL false l))).2.1) ((l.drop (skipL false l)).drop (nextL (l.drop (skipL false l))).2.1) with
    | inr e =>
     intro hw
     have := ih _ _ e (by simp only [List.length_drop] at *; omega) hr
     cases hw
     simp only [List.length_drop] at *
     omega
    | inl us => intro hw; cases hw
   ·rw [wordsA_bad (by omega) he] at hw; cases hw; simp; omega
def TrPost (w : World) (r : Sum (Nd × To) (Pt × Nat)) (e : Ending) (w' : World) : Prop := match r with
 | .inl (h, ps) => ∃ o1 l1 c1 o2 l2 c2, e = .returned (.tuple #[tmv h o1 l1 c1 o2 l2 c2, .agg #[.int .i64 0, .int .i64 0], .int .i64 0]) /\ SlcIn (fun b => w.heap.size <= b) w' o1 l1 h.tp /\ TSlc (fun b => w.heap.size <= b) w' o2 l2 ps /\ Quiet0 w w'
 | .inr (p, er) => e = .returned (.tuple #[.agg zero9, .agg #[.int .i64 p.1, .int .i64 p.2], .int .i64 (er : Nat)]) /\ Quiet0 w w'
theorem box2 {w : World} {B : Nat} {a b : Value} {t : TypeId} (h : w.heap[B]? = some (.cells #[a, b] t (0, 0))) : w.cell? ⟨B, 0, none⟩ = some a /\ w.cell? ⟨B, 1, none⟩ = some b /\ w.frozen? ⟨B, 0, none⟩ = false /\ w.frozen? ⟨B, 1, none⟩ = false := by
 refine ⟨?_, ?_, ?_, ?_⟩
 ·rw [cell_of_row _ _ _ _ _ (0, 0) h]; rfl
 ·rw [cell_of_row _ _ _ _ _ (0, 0) h]; rfl
 ·simp [World.frozen?, h]
 ·simp [World.frozen?, h]
def put11 (w : World) (B C : Nat) (a0 a1 a2 a3 a4 a5 a6 a7 a8 b0 b1 : Value) : World := ((put9 w B a0 a1 a2 a3 a4 a5 a6 a7 a8).setCell ⟨C, 0, none⟩ b0).setCell ⟨C, 1, none⟩ b1
theorem put11_all {w : World} {B C : Nat} {z0 z1 z2 z3 z4 z5 z6 z7 z8 y0 y1 : Value} {t t' : TypeId} (h : w.heap[B]? = some (.cells #[z0, z1, z2, z3, z4, z5, z6, z7, z8] t (0, 0))) (h' : w.heap[C]? = some (.cells #[y0, y1] t' (0, 0))) (hn : B ≠ C) (a0 a1 a2 a3 a4 a5 a6 a7 a8 b0 b1 : Value) :
    Fr (fun k => k = B ∨ k = C) w (put11 w B C a0 a1 a2 a3 a4 a5 a6 a7 a8 b0 b1) /\ (put11 w B C a0 a1 a2 a3 a4 a5 a6 a7 a8 b0 b1).heap[B]? = some (.cells #[a0, a1, a2, a3, a4, a5, a6, a7, a8] t (0, 0)) /\ (put11 w B C a0 a1 a2 a3 a4 a5 a6 a7 a8 b0 b1).heap[C]? = some (.cells #[b0, b1] t' (0, 0)) := by
 have h1 := put9_fr w B a0 a1 a2 a3 a4 a5 a6 a7 a8
 have h2 := Fr.setCell (fun k => k = C) (put9 w B a0 a1 a2 a3 a4 a5 a6 a7 a8) ⟨C, 0, none⟩ b0 rfl
 have h3 := Fr.setCell (fun k => k = C) ((put9 w B a0 a1 a2 a3 a4 a5 a6 a7 a8).setCell ⟨C, 0, none⟩ b0) ⟨C, 1, none⟩ b1 rfl
 refine ⟨((h1.mono (fun _ _ k => .inl k)).trans (h2.mono (fun _ _ k => .inr k))).trans (h3.mono (fun _ _ k => .inr k)), blk_fr h3 hn (blk_fr h2 hn (put9_block h)), set_block (i := 1) (u := b1) (set_block (i := 0) (u := b0) (blk_fr h1 (fun e => hn e.symm) h'))⟩
theorem words_txt {s : List UInt8} {ts : List Tok} (h : wordsL s = .inl ts) : ∀ t ∈ ts, t.text.length <= s.length := by
 intro t ht
 by_cases hk : t.kind = 0
 ·obtain ⟨us, n, rfl, hu⟩ := wordsF_last _ _ _ _ h
  rcases List.mem_append.1 ht with h1 | h1
  ·exact absurd hk (hu t h1)
  ·simp at h1; subst h1; exact Nat.zero_le _
 ·have h1 := (words_good h t ht).2 hk
  rw [h1.2.2, List.length_take, List.length_drop]; omega
theorem term_any (s : ByteArray) (hs : s.size <= 100000) (f : Nat) (mo : Int) (hf : f = mo.toNat) (hm1 : -1000000 <= mo) (hm2 : mo <= 800000) (w : World) :
    Calls Tryz.prog 26 #[.string s, .int .i64 mo] w (TrPost w (termQ s.data.toList f)) := by
 obtain ⟨W0, hW0⟩ : ∃ W0, W0 = (w.alloc (.cells zero9 29)).alloc (.cells #[.int .i64 0, .int .i64 0] 27) := ⟨_, rfl⟩
 have HQ0 : Hid (Quiet0 w W0) := by rw [hW0]; exact (Quiet0.alloc _ _).trans (Quiet0.alloc _ _)
 have HB0 : Hid (W0.heap[w.heap.size]? = some (.cells zero9 29 (0, 0))) := by show _ = _; rw [hW0, Below.heap_alloc _ _ _ (by simp)]; exact heap_alloc_new w _
 have HS0 : Hid (W0.heap[w.heap.size + 1]? = some (.cells #[.int .i64 0, .int .i64 0] 27 (0, 0))) := by
  show _ = _; rw [hW0]
  have := heap_alloc_new (w.alloc (.cells zero9 29)) (.cells #[.int .i64 0, .int .i64 0] 27)
  simpa using this
 have HC := hid (refWords_any s hs W0)
 have HWH : Hid (∀ (ts : List Tok) (g c : Nat) (W : World), wordsL s.data.toList = .inl ts -> TkAt W g ts -> Calls Tryz.prog 48 #[tks g ts c, .int .i64 mo] W (WhPost W (wholeQ ts f))) := fun ts g c W hw ht => whole_any ts g c f mo W (words_shut hw).1 (words_shut hw).2 (fun t h => by have := words_txt hw t h; rw [bytes_length] at this; omega) ht hf hm1 hm2
 have HLE : Hid (∀ ts, wordsL s.data.toList = .inl ts -> ts.length <= 1000000) := by
  intro ts h
  have := wordsA_len _ _ _ h
  rw [bytes_length] at this; omega
 obtain ⟨res, hres⟩ : ∃ res, termQ s.data.toList f = res := ⟨_, rfl⟩
 have HRES := hid hres
 rw [hres]
 clear hres hf
 go_enter Tryz.func26, Tryz.ntmps26
 go_wp2_with fail
 change Calls _ _ _ ((w.alloc (.cells zero9 29)).alloc (.cells #[.int .i64 0, .int .i64 0] 27)) _
 rw [<- hW0]
 clear hW0
 generalize hB : w.heap.size = B at *
 have HBE := hid hB
 clear hB
 cases hw : wordsL s.data.toList with
 | inr y =>
  obtain ⟨a, er⟩ := y
  have hne : er ≠ 0 := wordsF_bad _ _ _ _ hw
  have hne2 : ((er : Int) != 0) = true := by simp [hne]
  have HFE : Hid (res = .inr (((a : Int), (a : Int) + 1), er)) := by show _ = _; rw [<- HRES.out]; unfold termQ; rw [hw]
  refine HC.out.mono ?_; intro e w2 hp
  obtain ⟨hq2, rfl⟩ := hp.bad hw
  have ha : a <= 100000 := by have h1 : a <= 0 + s.data.toList.length := wordsA_place2 0 _ _ hw; rw [bytes_length] at h1; omega
  have HB2 := hid (blk_after hq2 HB0.out)
  have HS2 := hid (blk_after hq2 HS0.out)
  have HQ2 := hid (HQ0.out.trans hq2)
  have hb2 := HB2.out
  obtain ⟨s0, s1, s2, s3⟩ := box2 HS2.out
  obtain ⟨⟨t0, t1, t2, t3, t4, t5, t6, t7, t8⟩, u0, u1, u2, u3, u4, u5, u6, u7, u8⟩ := block9 hb2
  clear hb2 hq2 hp hw
  go_wp2_with fail
  obtain ⟨hf, hb9, hs9⟩ := put11_all HB2.out HS2.out (by omega) (.int .i64 0) (.string ⟨#[]⟩) (.int .i64 0) (.int .i64 0) (.int .i64 0) (.slice none 0 0) (.slice none 0 0) (.int .i64 0) (.int .i64 0) (.int .i64 (a : Nat)) (.int .i64 ((a : Int) + 1))
  change bodyPost _ _ _ _ _ (put11 w2 B (B + 1) (.int .i64 0) (.string ⟨#[]⟩) (.int .i64 0) (.int .i64 0) (.int .i64 0) (.slice none 0 0) (.slice none 0 0) (.int .i64 0) (.int .i64 0) (.int .i64 (a : Nat)) (.int .i64 ((a : Int) + 1)))
  generalize (put11 w2 B (B + 1) (.int .i64 0) (.string ⟨#[]⟩) (.int .i64 0) (.int .i64 0) (.int .i64 0) (.slice none 0 0) (.slice none 0 0) (.int .i64 0) (.int .i64 0) (.int .i64 (a : Nat)) (.int .i64 ((a : Int) + 1))) = wf at *
  obtain ⟨⟨x0, x1, x2, x3, x4, x5, x6, x7, x8⟩, _⟩ := block9 hb9
  obtain ⟨y0, y1, _, _⟩ := box2 hs9
  have hqf : Quiet0 w wf := (HQ2.out).trans' hf (fun k hk e => by have := HBE.out; omega)
  refine bodyPost_ret (by simp [results, Tryz.results26, go_sem, x0, x1, x2, x3, x4, x5, x6, x7, x8, y0, y1]; rfl) rfl ?_
  rw [HFE.out]
  exact ⟨rfl, hqf⟩
 | inl ts =>
  refine HC.out.mono ?_; intro e w2 hp
  obtain ⟨hq2, g, c, rfl, hrow⟩ := hp.ok hw
  have htk : TkAt w2 g ts := ⟨hrow.at, hrow.lt.2, HLE.out ts hw⟩
  have hlen := HLE.out ts hw
  have hgl : W0.heap.size <= g := hrow.lt.1
  have hz0 : B + 1 < W0.heap.size := lt_of_block HS0.out
  have HWC := hid (HWH.out ts g c w2 hw htk)
  have HSH := hid (words_shut hw)
  have HTR : Hid (res = match wholeQ ts f with
   | .inl (t, _, _) => .inl t
   | .inr (i, e) => .inr (at' ts i, e)) := by show _ = _; rw [<- HRES.out]; unfold termQ; rw [hw]; rfl
  have HQ2 := hid hq2
  have HTK := hid htk
  clear hp hrow hw htk hq2
  go_wp2_with fail
  cases hr : wholeQ ts f with
  | inr y =>
   obtain ⟨j, er⟩ := y
   obtain ⟨hj, hne⟩ := wholeQ_in HSH.out.1 HSH.out.2 f j er hr
   have hne2 : ((er : Int) != 0) = true := by simp [hne]
   rw [hr] at HWC HTR
   refine HWC.out.mono ?_; rintro e w3 ⟨rfl, hq3⟩
   obtain ⟨W4, hW4⟩ : ∃ W4, W4 = w3.alloc (.cells zero9 29) := ⟨_, rfl⟩
   have hq4 : Quiet0 w2 W4 := by rw [hW4]; exact hq3.trans (Quiet0.alloc _ _)
   obtain ⟨t9, ht9⟩ : ∃ t9, ts[j]? = some t9 := ⟨_, List.getElem?_eq_getElem hj⟩
   have HAT : Hid (at' ts j = (((t9.fr : Nat) : Int), ((t9.to : Nat) : Int))) := at_tok ht9
   obtain ⟨k0, k1, k2, k3⟩ := (HTK.out.stay hq4).cells j t9 ht9
   have hjl : (j : Int) < ts.length := by omega
   have hj0 : (0 : Int) <= j := by omega
   have HB4 := hid (blk_after (HQ2.out.trans hq4) HB0.out)
   have HS4 := hid (blk_after (HQ2.out.trans hq4) HS0.out)
   have HQ4 := hid (HQ0.out.trans (HQ2.out.trans hq4))
   have hg2 := HTK.out.lt
   have hn1 : ¬ B = g := by omega
   have hn2 : ¬ g = B := by omega
   have hn3 : ¬ B + 1 = g := by omega
   have hn4 : ¬ g = B + 1 := by omega
   go_upto_region 6 with fail
   change Code.wp _ _ _ _ (w3.alloc (.cells zero9 29))
   rw [<- hW4]
   clear hW4 hq4 hq3 ht9 hr
   have hb4 := HB4.out
   obtain ⟨s0, s1, s2, s3⟩ := box2 HS4.out
   obtain ⟨⟨t0, t1, t2, t3, t4, t5, t6, t7, t8⟩, u0, u1, u2, u3, u4, u5, u6, u7, u8⟩ := block9 hb4
   clear hb4
   go_region
   obtain ⟨hf, hb9, hs9⟩ := put11_all HB4.out HS4.out (by omega) (.int .i64 0) (.string ⟨#[]⟩) (.int .i64 0) (.int .i64 0) (.int .i64 0) (.slice none 0 0) (.slice none 0 0) (.int .i64 0) (.int .i64 0) (.int .i64 (t9.fr : Nat)) (.int .i64 (t9.to : Nat))
   change Exit.then _ _ _ _ (put11 W4 B (B + 1) (.int .i64 0) (.string ⟨#[]⟩) (.int .i64 0) (.int .i64 0) (.int .i64 0) (.slice none 0 0) (.slice none 0 0) (.int .i64 0) (.int .i64 0) (.int .i64 (t9.fr : Nat)) (.int .i64 (t9.to : Nat))).drew
   replace hf := hf.trans (Fr.drew _ _)
   replace hb9 := blk_after (Quiet0.drew _) hb9
   replace hs9 := blk_after (Quiet0.drew _) hs9
   generalize (put11 W4 B (B + 1) (.int .i64 0) (.string ⟨#[]⟩) (.int .i64 0) (.int .i64 0) (.int .i64 0) (.slice none 0 0) (.slice none 0 0) (.int .i64 0) (.int .i64 0) (.int .i64 (t9.fr : Nat)) (.int .i64 (t9.to : Nat))).drew = wf at *
   obtain ⟨⟨x0, x1, x2, x3, x4, x5, x6, x7, x8⟩, _⟩ := block9 hb9
   obtain ⟨y0, y1, _, _⟩ := box2 hs9
   go_wp2_with fail
   have hqf : Quiet0 w wf := (HQ4.out).trans' hf (fun k hk e => by have := HBE.out; omega)
   refine bodyPost_ret (by simp [results, Tryz.results26, go_sem, x0, x1, x2, x3, x4, x5, x6, x7, x8, y0, y1]; rfl) rfl ?_
   rw [HTR.out, HAT.out]
   exact ⟨rfl, hqf⟩
  | inl y =>
   obtain ⟨⟨h, ps⟩, x, j⟩ := y
   rw [hr] at HWC HTR
   refine HWC.out.mono ?_; rintro e w3 ⟨o1, l1, c1, o2, l2, c2, rfl, hs1, hs2, hq3⟩
   obtain ⟨W4, hW4⟩ : ∃ W4, W4 = w3.alloc (.cells (cells9 h o1 l1 c1 o2 l2 c2) 29) := ⟨_, rfl⟩
   have hqa : Quiet0 w3 W4 := by rw [hW4]; exact Quiet0.alloc _ _
   have hq4 : Quiet0 w2 W4 := hq3.trans hqa
   have hx4 : W4.heap[w3.heap.size]? = some (.cells (cells9 h o1 l1 c1 o2 l2 c2) 29 (0, 0)) := by rw [hW4]; exact heap_alloc_new w3 _
   have HB4 := hid (blk_after (HQ2.out.trans hq4) HB0.out)
   have HS4 := hid (blk_after (HQ2.out.trans hq4) HS0.out)
   have HQ4 := hid (HQ0.out.trans (HQ2.out.trans hq4))
   have HS1 := hid (hs1.stay hqa)
   have HS2 := hid (hs2.stay hqa)
   have hw2 : B + 1 < w2.heap.size := Nat.lt_of_lt_of_le (lt_of_block HS0.out) HQ2.out.size
   unfold tmv
   go_upto_region 5 with fail
   change Code.wp _ _ _ _ (w3.alloc (.cells (cells9 h o1 l1 c1 o2 l2 c2) 29))
   rw [<- hW4]
   clear hW4 hq4 hq3 hqa hs1 hs2 hr
   generalize w3.heap.size = yb at *
   have hb4 := HB4.out
   obtain ⟨s0, s1, s2, s3⟩ := box2 HS4.out
   obtain ⟨⟨t0, t1, t2, t3, t4, t5, t6, t7, t8⟩, u0, u1, u2, u3, u4, u5, u6, u7, u8⟩ := block9 hb4
   obtain ⟨⟨r0, r1, r2, r3, r4, r5, r6, r7, r8⟩, v0, v1, v2, v3, v4, v5, v6, v7, v8⟩ := block9 hx4
   clear hb4 hx4
   go_wp2_with fail
   obtain ⟨hf, hb9, hs9⟩ := put11_all HB4.out HS4.out (by omega) (.int .i64 h.k) (.string h.nm) (.int .i64 h.n) (.int .i64 h.tk) (.int .i64 h.tn) (.slice o1 l1 c1) (.slice o2 l2 c2) (.int .i64 h.fr) (.int .i64 h.en) (.int .i64 0) (.int .i64 0)
   change bodyPost _ _ _ _ _ (put11 W4 B (B + 1) (.int .i64 h.k) (.string h.nm) (.int .i64 h.n) (.int .i64 h.tk) (.int .i64 h.tn) (.slice o1 l1 c1) (.slice o2 l2 c2) (.int .i64 h.fr) (.int .i64 h.en) (.int .i64 0) (.int .i64 0))
   generalize (put11 W4 B (B + 1) (.int .i64 h.k) (.string h.nm) (.int .i64 h.n) (.int .i64 h.tk) (.int .i64 h.tn) (.slice o1 l1 c1) (.slice o2 l2 c2) (.int .i64 h.fr) (.int .i64 h.en) (.int .i64 0) (.int .i64 0)) = wf at *
   obtain ⟨⟨x0, x1, x2, x3, x4, x5, x6, x7, x8⟩, _⟩ := block9 hb9
   obtain ⟨y0, y1, _, _⟩ := box2 hs9
   have hqf : Quiet0 w wf := (HQ4.out).trans' hf (fun k hk e => by have := HBE.out; omega)
   refine bodyPost_ret (by simp [results, Tryz.results26, go_sem, x0, x1, x2, x3, x4, x5, x6, x7, x8, y0, y1]; rfl) rfl ?_
   rw [HTR.out]
   exact ⟨o1, l1, c1, o2, l2, c2, rfl, HS1.out.fr hf (fun b _ k => by have k' : w2.heap.size <= b := k; exact ⟨by have := HBE.out; show w.heap.size <= b; omega, by omega⟩), HS2.out.fr hf (fun b _ k => by have k' : w2.heap.size <= b := k; exact ⟨by have := HBE.out; show w.heap.size <= b; omega, by omega⟩), hqf⟩
end Pa
end
end Go.Proofs.YtcninopmelmajaaGreatDoor
