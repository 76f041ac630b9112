/-
  What a byte is (small, digit, inner, blank; the reference's Letter, Digit, Inner), and how many bytes in a row are of a kind (run). No condition but that a place lies in its text.
-/
import Derived.Test.YtggidhgifaekbaaDoorProg
import Derived.Test.YtggidhgifaekbaaDoorMem
import Derived.Test.YtggidhgifaekbaaDoorLexPlain
namespace Go.Proofs.YtggidhgifaekbaaDoor.Lx
open Go.RowKit

theorem u8_beq (x : UInt8) (n : Nat) (hn : n < 256) : (x == UInt8.ofNat n) = decide (x.toNat = n) := by
  rw [Bool.eq_iff_iff, beq_iff_eq, decide_eq_true_eq]
  constructor
  · intro h; rw [h]; simp; omega
  · intro h; rw [← h]; simp
theorem u8_lt (x : UInt8) : x.toNat < 256 := x.toNat_lt
theorem small_of (x : UInt8) : smallB x = (decide ((97 : Int) ≤ (x.toNat : Int)) && decide ((x.toNat : Int) ≤ 122)) := by
  unfold smallB; congr 1 <;> (rw [Bool.eq_iff_iff]; simp; omega)
theorem digit_of (x : UInt8) : digitB x = (decide ((48 : Int) ≤ (x.toNat : Int)) && decide ((x.toNat : Int) ≤ 57)) := by
  unfold digitB; congr 1 <;> (rw [Bool.eq_iff_iff]; simp; omega)
theorem blank_of (x : UInt8) : blankB x = (((x.toNat : Int) == 32) || ((x.toNat : Int) == 9) || ((x.toNat : Int) == 10) || ((x.toNat : Int) == 13)) := by
  unfold blankB
  rw [show (32 : UInt8) = UInt8.ofNat 32 from rfl, show (9 : UInt8) = UInt8.ofNat 9 from rfl, show (10 : UInt8) = UInt8.ofNat 10 from rfl, show (13 : UInt8) = UInt8.ofNat 13 from rfl]
  rw [u8_beq _ _ (by omega), u8_beq _ _ (by omega), u8_beq _ _ (by omega), u8_beq _ _ (by omega)]
  rw [Bool.eq_iff_iff]; simp; omega
theorem under_of (x : UInt8) : (x == 95) = ((x.toNat : Int) == 95) := by
  rw [show (95 : UInt8) = UInt8.ofNat 95 from rfl, u8_beq _ _ (by omega), Bool.eq_iff_iff]; simp; omega
theorem nolf_of (x : UInt8) : nolfB x = ((x.toNat : Int) != 10) := by
  unfold nolfB
  rw [show (10 : UInt8) = UInt8.ofNat 10 from rfl, u8_beq _ _ (by omega), Bool.eq_iff_iff]; simp; omega

/-- what a function on bytes tells -/
def Tells (g : Nat) (p : UInt8 → Bool) : Prop := ∀ (x : UInt8) (w : World), Calls Tryd.prog g #[.int .u8 (x.toNat : Int)] w fun e w' => e = .returned (.bool (p x)) ∧ w = w'

theorem small_any : Tells 127 smallB := by
  intro x w
  have hb := u8_lt x
  by_cases h1 : (97 : Int) ≤ (x.toNat : Int)
  · go_enter Tryd.func127, Tryd.ntmps127
    go_wp2
    go_ret
    exact ⟨by rw [small_of]; (first | (simp [h1]; done) | (simp [h1]; omega)), rfl⟩
  · go_enter Tryd.func127, Tryd.ntmps127
    go_wp2
    go_ret
    exact ⟨by rw [small_of]; (first | (simp; done) | (simp; omega)), rfl⟩
theorem letter_any : Tells 132 smallB := by
  intro x w
  have hb := u8_lt x
  by_cases h1 : (97 : Int) ≤ (x.toNat : Int)
  · go_enter Tryd.func132, Tryd.ntmps132
    go_wp2
    go_ret
    exact ⟨by rw [small_of]; (first | (simp [h1]; done) | (simp [h1]; omega)), rfl⟩
  · go_enter Tryd.func132, Tryd.ntmps132
    go_wp2
    go_ret
    exact ⟨by rw [small_of]; (first | (simp; done) | (simp; omega)), rfl⟩
theorem digit_any : Tells 137 digitB := by
  intro x w
  have hb := u8_lt x
  by_cases h1 : (48 : Int) ≤ (x.toNat : Int)
  · go_enter Tryd.func137, Tryd.ntmps137
    go_wp2
    go_ret
    exact ⟨by rw [digit_of]; (first | (simp [h1]; done) | (simp [h1]; omega)), rfl⟩
  · go_enter Tryd.func137, Tryd.ntmps137
    go_wp2
    go_ret
    exact ⟨by rw [digit_of]; (first | (simp; done) | (simp; omega)), rfl⟩
theorem refDigit_any : Tells 140 digitB := by
  intro x w
  have hb := u8_lt x
  by_cases h1 : (48 : Int) ≤ (x.toNat : Int)
  · go_enter Tryd.func140, Tryd.ntmps140
    go_wp2
    go_ret
    exact ⟨by rw [digit_of]; (first | (simp [h1]; done) | (simp [h1]; omega)), rfl⟩
  · go_enter Tryd.func140, Tryd.ntmps140
    go_wp2
    go_ret
    exact ⟨by rw [digit_of]; (first | (simp; done) | (simp; omega)), rfl⟩
theorem inner_any : Tells 129 innerB := by
  intro x w
  have hb := u8_lt x
  cases h1 : smallB x <;> cases h2 : digitB x
  all_goals
    have H1 := Lib.hid h1
    have H2 := Lib.hid h2
    clear h1 h2
    go_enter Tryd.func129, Tryd.ntmps129
    go_wp2_with fail
    refine (small_any x _).mono ?_; rintro e w' ⟨rfl, rfl⟩
    rw [H1.out]
    go_wp2_with fail
    try (refine (digit_any x _).mono ?_; rintro e w' ⟨rfl, rfl⟩; rw [H2.out]; go_wp2_with fail)
    go_ret
    exact ⟨by unfold innerB; rw [H1.out, H2.out, under_of]; simp, rfl⟩
theorem refInner_any : Tells 131 innerB := by
  intro x w
  have hb := u8_lt x
  cases h1 : smallB x <;> cases h2 : digitB x
  all_goals
    have H1 := Lib.hid h1
    have H2 := Lib.hid h2
    clear h1 h2
    go_enter Tryd.func131, Tryd.ntmps131
    go_wp2_with fail
    refine (letter_any x _).mono ?_; rintro e w' ⟨rfl, rfl⟩
    rw [H1.out]
    go_wp2_with fail
    try (refine (refDigit_any x _).mono ?_; rintro e w' ⟨rfl, rfl⟩; rw [H2.out]; go_wp2_with fail)
    go_ret
    exact ⟨by unfold innerB; rw [H1.out, H2.out, under_of]; simp, rfl⟩

theorem drop_byte (s : ByteArray) (k : Nat) (h : k < s.size) : s.data.toList.drop k = s[k] :: s.data.toList.drop (k + 1) := by
  rw [List.drop_eq_getElem_cons (by simpa using h)]; rfl
theorem drop_end (s : ByteArray) (k : Nat) (h : s.size ≤ k) : s.data.toList.drop k = [] := by
  rw [List.drop_eq_nil_iff]; simpa using h
theorem runL_cons (p : UInt8 → Bool) (c : UInt8) (r : List UInt8) : runL p (c :: r) = if p c then runL p r + 1 else 0 := rfl
theorem bytes_length (s : ByteArray) : s.data.toList.length = s.size := by simp

set_option maxHeartbeats 1000000 in
theorem run_any (g : Nat) (p : UInt8 → Bool) (eg : ∀ args w, (callFunc g args).run Tryd.prog w = .ok (.enter g args) w) (hp : Tells g p) (s : ByteArray) (k : Nat) (ki : Int) (ek : ki = k) (hk : k ≤ s.size) (hs : s.size ≤ maxLen) (w : World) :
    Calls Tryd.prog 128 #[.string s, .int .i64 ki, .func (.func g) #[] #[]] w fun e w' => e = .returned (.int .i64 (runL p (s.data.toList.drop k) : Nat)) ∧ w = w' := by
  subst ek
  unfold maxLen at hs
  have HP := Lib.hid hp
  clear hp
  go_enter Tryd.func128, Tryd.ntmps128
  go_wp2
  go_loop [7] (fun t => ∃ n : Nat, t = .int .i64 n ∧ k + n ≤ s.size ∧ runL p (s.data.toList.drop k) = n + runL p (s.data.toList.drop (k + n))) (fun t => s.size - k - (intOf t).toNat)
  case atStart => exact ⟨0, rfl, by omega, by simp⟩
  case round =>
    obtain ⟨n, rfl, hn, he⟩ := hrel
    have HE := Lib.hid he
    clear he
    by_cases hlt : k + n < s.size
    · have hd := Lib.hid (drop_byte s (k + n) hlt)
      have hlt' : (k : Int) + n < s.size := by omega
      cases hx : p s[k + n]
      all_goals
        have HX := Lib.hid hx
        clear hx
        go_wp2_with fail
        have HPX := HP.out s[k + n] w
        rw [HX.out] at HPX
        refine HPX.mono ?_; rintro e w' ⟨rfl, rfl⟩
        clear HPX
        go_wp2
      · go_ret
        refine ⟨?_, rfl⟩
        rw [HE.out, hd.out, runL_cons, HX.out]; rfl
      · go_round
        case rel =>
          refine ⟨n + 1, by go_num, by omega, ?_⟩
          rw [HE.out, hd.out, runL_cons, HX.out]
          simp only [if_true]
          rw [show k + (n + 1) = k + n + 1 from by omega]; omega
        case measure => simp [intOf]; omega
    · have hd := Lib.hid (drop_end s (k + n) (by omega))
      have hlt' : ¬ (k : Int) + n < s.size := by omega
      go_wp2
      go_ret
      refine ⟨?_, rfl⟩
      rw [HE.out, hd.out]; rfl
end Go.Proofs.YtggidhgifaekbaaDoor.Lx
