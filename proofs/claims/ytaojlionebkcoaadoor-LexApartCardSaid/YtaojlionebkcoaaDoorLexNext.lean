/-
  Where the next token begins (skip), a number (number), the token at a place (next). Conditions: the place lies in the text; strings.asciiSpace holds what its initialiser lays.
-/
import Derived.Test.YtaojlionebkcoaaDoorLexKw
namespace Go.Proofs.YtaojlionebkcoaaDoor
open Go.RowKit

theorem skip_lf (l : List UInt8) : skipL true l = runL nolfB l + skipL false (l.drop (runL nolfB l)) := by
  induction l with
  | nil => rfl
  | cons c r ih =>
    by_cases h : (c == 10) = true
    · have hb : blankB c = true := by unfold blankB; rw [h]; simp
      simp [skipL, runL, nolfB, h, hb]
    · have h' : (c == 10) = false := by simpa using h
      have hn : nolfB c = true := by unfold nolfB; rw [h']; rfl
      simp only [skipL, runL, h', hn, if_true, Bool.false_eq_true, if_false, List.drop_succ_cons]
      rw [ih]; omega
theorem skip_hash {c : UInt8} {r : List UInt8} (hb : blankB c = false) (h : (c == 35) = true) : skipL false (c :: r) = runL nolfB (c :: r) + skipL false ((c :: r).drop (runL nolfB (c :: r))) := by
  have hc : c = 35 := by simpa using h
  subst hc
  have := skip_lf ((35 : UInt8) :: r)
  rw [← this]
  simp [skipL, blankB]
theorem skip_blank {c : UInt8} {r : List UInt8} (hb : blankB c = true) : skipL false (c :: r) = 1 + skipL false r := by simp [skipL, hb]; omega
theorem skip_stop {c : UInt8} {r : List UInt8} (hb : blankB c = false) (h : (c == 35) = false) : skipL false (c :: r) = 0 := by simp [skipL, hb, h]
theorem hash_of (x : UInt8) : ((x.toNat : Int) == 35) = (x == 35) := by
  rw [show (35 : UInt8) = UInt8.ofNat 35 from rfl, u8_beq _ _ (by omega), Bool.eq_iff_iff]; simp; omega
theorem hash_nolf {c : UInt8} {r : List UInt8} (h : (c == 35) = true) : 0 < runL nolfB (c :: r) := by
  have hc : c = 35 := by simpa using h
  subst hc
  exact runL_pos (by decide)

theorem ret_int {k : IntKind} {a b : Int} (h : a = b) : Ending.returned (.int k a) = .returned (.int k b) := by rw [h]
theorem eg_nolf : ∀ args w, (callFunc 29 args).run Tryd.prog w = .ok (.enter 29 args) w := enters_of Tryd.func29 (by kernel_rfl) rfl
theorem eg_inner : ∀ args w, (callFunc 27 args).run Tryd.prog w = .ok (.enter 27 args) w := enters_of Tryd.func27 (by kernel_rfl) rfl
theorem eg_digit : ∀ args w, (callFunc 30 args).run Tryd.prog w = .ok (.enter 30 args) w := enters_of Tryd.func30 (by kernel_rfl) rfl

set_option maxHeartbeats 1000000 in
theorem skip_any (s : ByteArray) (k : Nat) (ki : Int) (ek : ki = k) (hk : k ≤ s.size) (hs : s.size ≤ maxLen) (w : World) :
    Calls Tryd.prog 17 #[.string s, .int .i64 ki] w fun e w' => e = .returned (.int .i64 ((k + skipL false (s.data.toList.drop k) : Nat))) ∧ w = w' := by
  subst ek
  have HS := Lib.hid hs
  have hs' := hs
  unfold maxLen at hs'
  clear hs
  go_enter Tryd.func17, Tryd.ntmps17
  go_wp2
  go_loop [1] (fun t => ∃ n : Nat, t = .int .i64 n ∧ n ≤ s.size ∧ k + skipL false (s.data.toList.drop k) = n + skipL false (s.data.toList.drop n)) (fun t => s.size - (intOf t).toNat)
  case atStart => exact ⟨k, rfl, hk, rfl⟩
  case round =>
    obtain ⟨n, rfl, hn, he⟩ := hrel
    have HE := Lib.hid he
    clear he
    by_cases hlt : n < s.size
    · have hd := Lib.hid (drop_byte s n hlt)
      have hlt' : (n : Int) < s.size := by omega
      have HB := Lib.hid (blank_any s[n] w)
      have HH := Lib.hid (hash_of s[n])
      have hx256 := u8_lt s[n]
      obtain ⟨x, hx⟩ : ∃ x, s[n] = x := ⟨_, rfl⟩
      rw [hx] at hd HB HH hx256
      cases hb : blankB x
      · cases hh : (x == 35)
        · have HBX := Lib.hid hb
          have HHX := Lib.hid hh
          have hh' : ((x.toNat : Int) == 35) = false := by rw [HH.out, hh]
          clear hb hh
          go_wp2_with fail
          refine HB.out.mono ?_; rintro e w' ⟨rfl, rfl⟩
          rw [HBX.out]
          go_wp2
          go_ret
          refine ⟨?_, rfl⟩
          rw [HE.out, hd.out, skip_stop HBX.out HHX.out]; rfl
        · have HBX := Lib.hid hb
          have HHX := Lib.hid hh
          have hh' : ((x.toNat : Int) == 35) = true := by rw [HH.out, hh]
          clear hb hh
          have hrl := runL_le nolfB (s.data.toList.drop n)
          simp only [List.length_drop, bytes_length] at hrl
          have HRP : Hid (0 < runL nolfB (s.data.toList.drop n)) := by rw [hd.out]; exact hash_nolf HHX.out
          have HSK : Hid (skipL false (s.data.toList.drop n) = runL nolfB (s.data.toList.drop n) + skipL false (s.data.toList.drop (n + runL nolfB (s.data.toList.drop n)))) := by
            have := skip_hash (r := s.data.toList.drop (n + 1)) HBX.out HHX.out
            rw [← hd.out] at this
            rw [List.drop_drop] at this
            exact this
          go_wp2_with fail
          refine HB.out.mono ?_; rintro e w' ⟨rfl, rfl⟩
          rw [HBX.out]
          go_wp2_with fail
          refine (run_any 29 nolfB eg_nolf nolf_any s n _ rfl (by omega) HS.out _).mono ?_; rintro e w' ⟨rfl, rfl⟩
          generalize runL nolfB (s.data.toList.drop n) = rl at *
          go_wp2
          go_round
          case rel => exact ⟨n + rl, by go_num, by omega, by rw [HE.out, HSK.out]; omega⟩
          case measure => have := HRP.out; simp [intOf]; omega
      · have HBX := Lib.hid hb
        clear hb
        go_wp2_with fail
        refine HB.out.mono ?_; rintro e w' ⟨rfl, rfl⟩
        rw [HBX.out]
        go_wp2
        go_round
        case rel => exact ⟨n + 1, by go_num, by omega, by rw [HE.out, hd.out, skip_blank HBX.out]; omega⟩
        case measure => simp [intOf]; omega
    · have hd := Lib.hid (drop_end s n (by omega))
      have hlt' : ¬ (n : Int) < s.size := by omega
      go_wp2
      go_ret
      exact ⟨ret_int (a := (n : Nat)) (by have h := HE.out; rw [hd.out] at h; simp only [skipL] at h; omega), rfl⟩

/-- a number: kind, length, error -/
def numL (l : List UInt8) : Nat × Nat × Nat :=
  if (decide (1 < runL digitB l) && goesOn (fun c => c == 48) l) || goesOn innerB (l.drop (runL digitB l)) then (0, 0, 3) else if 9 < runL digitB l then (0, 0, 2) else (2, runL digitB l, 0)
def trip (t : Nat × Nat × Nat) : Ending := .returned (.tuple #[.int .i64 (t.1 : Nat), .int .i64 (t.2.1 : Nat), .int .i64 (t.2.2 : Nat)])
theorem zero_of (x : UInt8) : ((x.toNat : Int) == 48) = (x == 48) := by
  rw [show (48 : UInt8) = UInt8.ofNat 48 from rfl, u8_beq _ _ (by omega), Bool.eq_iff_iff]; simp; omega
set_option maxHeartbeats 2000000 in
theorem number_any (s : ByteArray) (k : Nat) (ki : Int) (ek : ki = k) (hk : k < s.size) (hs : s.size ≤ maxLen) (w : World) :
    Calls Tryd.prog 31 #[.string s, .int .i64 ki] w fun e w' => e = trip (numL (s.data.toList.drop k)) ∧ w = w' := by
  subst ek
  have HS := Lib.hid hs
  have hs' := hs
  unfold maxLen at hs'
  clear hs
  have hrl := runL_le digitB (s.data.toList.drop k)
  simp only [List.length_drop, bytes_length] at hrl
  have hlt' : (k : Int) < s.size := by omega
  have HZ := Lib.hid (zero_of s[k])
  have hx256 := u8_lt s[k]
  have HG : Hid (goesOn (fun c => c == 48) (s.data.toList.drop k) = (s[k] == 48)) := by rw [drop_byte s k hk]; rfl
  have HR := Lib.hid (run_any 30 digitB eg_digit digit_any s k (k : Int) rfl (by omega) HS.out w)
  have HN : Hid (numL (s.data.toList.drop k) = if (decide (1 < runL digitB (s.data.toList.drop k)) && goesOn (fun c => c == 48) (s.data.toList.drop k)) || goesOn innerB (s.data.toList.drop (k + runL digitB (s.data.toList.drop k))) then (0, 0, 3) else if 9 < runL digitB (s.data.toList.drop k) then (0, 0, 2) else (2, runL digitB (s.data.toList.drop k), 0)) := by
    show _ = _
    unfold numL
    rw [List.drop_drop]
  generalize runL digitB (s.data.toList.drop k) = n at *
  generalize numL (s.data.toList.drop k) = res at *
  have HIN : Hid (k + n < s.size → ∀ h : k + n < s.size, goesOn innerB (s.data.toList.drop (k + n)) = innerB s[k + n]) := by
    intro h _; rw [drop_byte s (k + n) h]; rfl
  have HIE : Hid (s.size ≤ k + n → goesOn innerB (s.data.toList.drop (k + n)) = false) := by
    intro h; rw [drop_end s (k + n) h]; rfl
  generalize goesOn (fun c => c == 48) (s.data.toList.drop k) = gz at *
  generalize goesOn innerB (s.data.toList.drop (k + n)) = gi at *
  have hz : (((s[k].toNat : Nat) : Int) == 48) = gz := by rw [HZ.out, ← HG.out]
  clear HZ HG
  obtain ⟨x, hx⟩ : ∃ x, s[k] = x := ⟨_, rfl⟩
  rw [hx] at hz hx256
  by_cases h1 : 1 < n
  · have h1' : (1 : Int) < n := by omega
    cases hgz : gz
    · subst hgz
      by_cases hlt : k + n < s.size
      · have hlt2 : (k : Int) + n < s.size := by omega
        have hgi := HIN.out hlt hlt
        have HI := Lib.hid (inner_any s[k + n])
        obtain ⟨y, hyx⟩ : ∃ y, s[k + n] = y := ⟨_, rfl⟩
        rw [hyx] at HI hgi
        cases hy : innerB y
        · obtain rfl : gi = false := by rw [hgi, hy]
          have HY := Lib.hid hy
          clear hy hgi HIN HIE
          by_cases h9 : 9 < n
          · have h9' : (9 : Int) < n := by omega
            go_enter Tryd.func31, Tryd.ntmps31
            go_wp2_with fail
            refine HR.out.mono ?_; rintro e w' ⟨rfl, rfl⟩
            go_wp2_with fail
            refine (HI.out _).mono ?_; rintro e w' ⟨rfl, rfl⟩
            rw [HY.out]
            go_wp2
            go_ret3
            exact ⟨by rw [HN.out]; simp [trip, h9], rfl⟩
          · have h9' : ¬ (9 : Int) < n := by omega
            go_enter Tryd.func31, Tryd.ntmps31
            go_wp2_with fail
            refine HR.out.mono ?_; rintro e w' ⟨rfl, rfl⟩
            go_wp2_with fail
            refine (HI.out _).mono ?_; rintro e w' ⟨rfl, rfl⟩
            rw [HY.out]
            go_wp2
            go_ret3
            exact ⟨by rw [HN.out]; simp [trip, h9], rfl⟩
        · obtain rfl : gi = true := by rw [hgi, hy]
          have HY := Lib.hid hy
          clear hy hgi HIN HIE
          go_enter Tryd.func31, Tryd.ntmps31
          go_wp2_with fail
          refine HR.out.mono ?_; rintro e w' ⟨rfl, rfl⟩
          go_wp2_with fail
          refine (HI.out _).mono ?_; rintro e w' ⟨rfl, rfl⟩
          rw [HY.out]
          go_wp2
          go_ret3
          exact ⟨by rw [HN.out]; simp [trip], rfl⟩
      · have hlt2 : ¬ (k : Int) + n < s.size := by omega
        obtain rfl : gi = false := HIE.out (by omega)
        clear HIN HIE
        by_cases h9 : 9 < n
        · have h9' : (9 : Int) < n := by omega
          go_enter Tryd.func31, Tryd.ntmps31
          go_wp2_with fail
          refine HR.out.mono ?_; rintro e w' ⟨rfl, rfl⟩
          go_wp2
          go_ret3
          exact ⟨by rw [HN.out]; simp [trip, h9], rfl⟩
        · have h9' : ¬ (9 : Int) < n := by omega
          go_enter Tryd.func31, Tryd.ntmps31
          go_wp2_with fail
          refine HR.out.mono ?_; rintro e w' ⟨rfl, rfl⟩
          go_wp2
          go_ret3
          exact ⟨by rw [HN.out]; simp [trip, h9], rfl⟩
    · subst hgz
      clear HIN HIE
      go_enter Tryd.func31, Tryd.ntmps31
      go_wp2_with fail
      refine HR.out.mono ?_; rintro e w' ⟨rfl, rfl⟩
      go_wp2
      go_ret3
      exact ⟨by rw [HN.out]; simp [trip, h1], rfl⟩
  · have h1' : ¬ (1 : Int) < n := by omega
    have h9' : ¬ (9 : Int) < n := by omega
    by_cases hlt : k + n < s.size
    · have hlt2 : (k : Int) + n < s.size := by omega
      have hgi := HIN.out hlt hlt
      have HI := Lib.hid (inner_any s[k + n])
      obtain ⟨y, hyx⟩ : ∃ y, s[k + n] = y := ⟨_, rfl⟩
      rw [hyx] at HI hgi
      cases hy : innerB y
      · obtain rfl : gi = false := by rw [hgi, hy]
        have HY := Lib.hid hy
        clear hy hgi HIN HIE
        go_enter Tryd.func31, Tryd.ntmps31
        go_wp2_with fail
        refine HR.out.mono ?_; rintro e w' ⟨rfl, rfl⟩
        go_wp2_with fail
        refine (HI.out _).mono ?_; rintro e w' ⟨rfl, rfl⟩
        rw [HY.out]
        go_wp2
        go_ret3
        exact ⟨by rw [HN.out, if_neg (by simp [h1]), if_neg (by omega)]; rfl, rfl⟩
      · obtain rfl : gi = true := by rw [hgi, hy]
        have HY := Lib.hid hy
        clear hy hgi HIN HIE
        go_enter Tryd.func31, Tryd.ntmps31
        go_wp2_with fail
        refine HR.out.mono ?_; rintro e w' ⟨rfl, rfl⟩
        go_wp2_with fail
        refine (HI.out _).mono ?_; rintro e w' ⟨rfl, rfl⟩
        rw [HY.out]
        go_wp2
        go_ret3
        exact ⟨by rw [HN.out]; simp [trip], rfl⟩
    · have hlt2 : ¬ (k : Int) + n < s.size := by omega
      obtain rfl : gi = false := HIE.out (by omega)
      clear HIN HIE
      go_enter Tryd.func31, Tryd.ntmps31
      go_wp2_with fail
      refine HR.out.mono ?_; rintro e w' ⟨rfl, rfl⟩
      go_wp2
      go_ret3
      exact ⟨by rw [HN.out, if_neg (by simp [h1]), if_neg (by omega)]; rfl, rfl⟩
end Go.Proofs.YtaojlionebkcoaaDoor
