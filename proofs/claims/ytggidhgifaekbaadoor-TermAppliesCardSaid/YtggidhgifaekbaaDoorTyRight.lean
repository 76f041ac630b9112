/-
  Whether a type is: the program's Right (plain, known, and a closure handed to slices.ContainsFunc), the reference's Right. Condition: the types lie in memory as told.
-/
import Derived.Test.YtggidhgifaekbaaDoorTySame
namespace Go.Proofs.YtggidhgifaekbaaDoor
open Go.RowKit

def rightT (k n : Int) (ps : Fo) : Bool := Fo.plain k n ps.length && ps.right
theorem right_cons (k n : Int) (ps r : Fo) : (Fo.cons k n ps r).right = (rightT k n ps && r.right) := by simp [Fo.right, rightT]
/-- a tree's first place at which something holds -/
def idxF (p : Int → Int → Fo → Bool) : Fo → Nat → Int
  | .nil, _ => -1
  | .cons k n ps r, i => if p k n ps then (i : Int) else idxF p r (i + 1)
def anyF (p : Int → Int → Fo → Bool) : Fo → Bool
  | .nil => false
  | .cons k n ps r => p k n ps || anyF p r
theorem idx_any (p : Int → Int → Fo → Bool) : ∀ (f : Fo) (i : Nat), decide (0 ≤ idxF p f i) = anyF p f
  | .nil, i => by simp [idxF, anyF]
  | .cons k n ps r, i => by
    unfold idxF anyF
    cases h : p k n ps
    · simp only [Bool.false_eq_true, if_false, Bool.false_or]; exact idx_any p r (i + 1)
    · simp
theorem any_not_right : ∀ f : Fo, anyF (fun k n ps => !rightT k n ps) f = !f.right
  | .nil => rfl
  | .cons k n ps r => by unfold anyF; rw [right_cons, any_not_right r, Bool.not_and]

theorem known_any (n : Int) (w : World) : Calls Tryd.prog 84 #[.int .i64 n] w fun e w' => e = .returned (.bool (decide (0 ≤ n) && decide (n < 1073741824))) ∧ w = w' := by
  by_cases h : 0 ≤ n
  · go_enter Tryd.func84, Tryd.ntmps84
    go_wp2_with fail
    go_ret
    exact ⟨by first | (simp [h]; done) | (simp; omega), rfl⟩
  · go_enter Tryd.func84, Tryd.ntmps84
    go_wp2_with fail
    go_ret
    exact ⟨by first | (simp; done) | (simp; omega), rfl⟩

set_option maxHeartbeats 2000000 in
theorem plain_any (k n : Int) (len : Nat) (o : Option Addr) (cap : Nat) (w : World) : Calls Tryd.prog 89 #[tyv k n o len cap] w fun e w' => e = .returned (.bool (Fo.plain k n len)) ∧ Quiet0 w w' := by
  obtain ⟨res, hres⟩ : ∃ res, res = Fo.plain k n len := ⟨_, rfl⟩
  have HR := Lib.hid hres
  rw [← hres]
  clear hres
  unfold tyv
  by_cases k1 : k = 1
  · subst k1
    cases hkn : (decide (0 ≤ n) && decide (n < 1073741824))
    · have HK := Lib.hid (known_any n)
      rw [hkn] at HK
      have HF : Hid (res = false) := by show _ = _; rw [HR.out]; unfold Fo.plain; simp only [beq_self_eq_true, if_true]; rw [hkn]; rfl
      clear hkn
      go_enter Tryd.func89, Tryd.ntmps89
      go_wp2_with fail
      refine (HK.out _).mono ?_; rintro e w1 ⟨rfl, rfl⟩
      go_wp2_with fail
      go_ret
      exact ⟨by rw [HF.out]; rfl, Quiet0.alloc _ _⟩
    · have HK := Lib.hid (known_any n)
      rw [hkn] at HK
      have HF : Hid (res = ((len : Int) == 0)) := by
        show _ = _
        rw [HR.out]; unfold Fo.plain; simp only [beq_self_eq_true, if_true]; rw [hkn, Bool.eq_iff_iff]; simp
      clear hkn
      go_enter Tryd.func89, Tryd.ntmps89
      go_wp2_with fail
      refine (HK.out _).mono ?_; rintro e w1 ⟨rfl, rfl⟩
      go_wp2_with fail
      all_goals
        go_ret
        exact ⟨by rw [HF.out]; first | rfl | simp_all, Quiet0.alloc _ _⟩
  have b1 : (k == 1) = false := by simpa using k1
  by_cases hn : n = 0
  · subst hn
    by_cases k2 : k = 2
    · subst k2
      have HF : Hid (res = ((len : Int) == 0)) := by show _ = _; rw [HR.out, Bool.eq_iff_iff]; simp [Fo.plain]
      go_enter Tryd.func89, Tryd.ntmps89
      go_wp2_with fail
      all_goals
        go_ret
        exact ⟨by rw [HF.out]; first | rfl | simp_all, Quiet0.alloc _ _⟩
    have b2 : (k == 2) = false := by simpa using k2
    by_cases k3 : k = 3
    · subst k3
      have HF : Hid (res = ((len : Int) == 0)) := by show _ = _; rw [HR.out, Bool.eq_iff_iff]; simp [Fo.plain]
      go_enter Tryd.func89, Tryd.ntmps89
      go_wp2_with fail
      all_goals
        go_ret
        exact ⟨by rw [HF.out]; first | rfl | simp_all, Quiet0.alloc _ _⟩
    have b3 : (k == 3) = false := by simpa using k3
    by_cases k4 : k = 4
    · subst k4
      have HF : Hid (res = ((len : Int) == 2)) := by show _ = _; rw [HR.out, Bool.eq_iff_iff]; simp [Fo.plain]; omega
      go_enter Tryd.func89, Tryd.ntmps89
      go_wp2_with fail
      all_goals
        go_ret
        exact ⟨by rw [HF.out]; first | rfl | simp_all, Quiet0.alloc _ _⟩
    have b4 : (k == 4) = false := by simpa using k4
    by_cases k5 : k = 5
    · subst k5
      by_cases h2 : 2 ≤ len
      · have h2' : (2 : Int) ≤ (len : Int) := by omega
        by_cases h8 : len ≤ 8
        · have h8' : (len : Int) ≤ 8 := by omega
          have HF : Hid (res = true) := by show _ = _; rw [HR.out]; simp [Fo.plain, h2, h8]
          go_enter Tryd.func89, Tryd.ntmps89
          go_wp2_with fail
          go_ret
          exact ⟨by rw [HF.out]; rfl, Quiet0.alloc _ _⟩
        · have h8' : ¬ (len : Int) ≤ 8 := by omega
          have HF : Hid (res = false) := by show _ = _; rw [HR.out]; simp [Fo.plain, h8]
          go_enter Tryd.func89, Tryd.ntmps89
          go_wp2_with fail
          go_ret
          exact ⟨by rw [HF.out]; rfl, Quiet0.alloc _ _⟩
      · have h2' : ¬ (2 : Int) ≤ (len : Int) := by omega
        have HF : Hid (res = false) := by show _ = _; rw [HR.out]; simp [Fo.plain, h2]
        go_enter Tryd.func89, Tryd.ntmps89
        go_wp2_with fail
        go_ret
        exact ⟨by rw [HF.out]; rfl, Quiet0.alloc _ _⟩
    have b5 : (k == 5) = false := by simpa using k5
    have HF : Hid (res = false) := by show _ = _; rw [HR.out]; unfold Fo.plain; simp only [b1, b2, b3, b4, b5]; rfl
    clear k1 k2 k3 k4 k5
    go_enter Tryd.func89, Tryd.ntmps89
    go_wp2_with fail
    go_ret
    exact ⟨by rw [HF.out]; rfl, Quiet0.alloc _ _⟩
  · have HF : Hid (res = false) := by
      show _ = _
      rw [HR.out]
      have hn' : (n == 0) = false := by simpa using hn
      unfold Fo.plain
      simp only [b1, hn', Bool.false_and]
      repeat' split
      all_goals first | rfl | simp_all
    have hn' : (n == 0) = false := by simpa using hn
    clear k1 hn
    go_enter Tryd.func89, Tryd.ntmps89
    go_wp2_with fail
    all_goals
      go_ret
      exact ⟨by rw [HF.out]; rfl, Quiet0.alloc _ _⟩

/-- what a predicate handed to slices.IndexFunc has to tell of each type of a row -/
def PredTy (g : Nat) (lb : Array Value) (w0 : World) (f : Fo) (p : Int → Int → Fo → Bool) : Prop := ∀ i k n ps, f.get i = some (k, n, ps) → ∀ (W : World) (o : Option Addr) (len cap : Nat), Quiet0 w0 W → Slc W o len ps →
  Calls Tryd.prog g (#[tyv k n o len cap] ++ lb) W fun e W' => e = .returned (.bool (p k n ps)) ∧ Quiet0 W W'
set_option maxHeartbeats 1000000 in
theorem indexFunc_any (g : Nat) (lb : Array Value) (p : Int → Int → Fo → Bool) (eg : ∀ args w, (callFunc g args).run Tryd.prog w = .ok (.enter g args) w) (f : Fo) (o : Option Addr) (len cap : Nat) (w : World) (hs : Slc w o len f) (hp : PredTy g lb w f p) :
    Calls Tryd.prog 119 #[.slice o len cap, .func (.func g) #[] lb] w fun e w' => e = .returned (.int .i64 (idxF p f 0)) ∧ Quiet0 w w' := by
  have HS := Lib.hid hs
  have HP := Lib.hid hp
  have HL := Lib.hid hs.1
  have hmx := hs.2.1
  unfold maxLen at hmx
  clear hs hp
  obtain ⟨res, hres⟩ : ∃ res, res = idxF p f 0 := ⟨_, rfl⟩
  have HR := Lib.hid hres
  rw [← hres]
  clear hres
  go_enter Tryd.func119, Tryd.ntmps119
  go_wp2_with fail
  go_loopw [8] (fun t wr => ∃ i : Nat, t = .int .i64 i ∧ i ≤ len ∧ res = idxF p (f.drop i) i ∧ Quiet0 w wr) (fun t _ => len - (intOf t).toNat)
  case atStart => exact ⟨0, rfl, Nat.zero_le _, by rw [Fo.drop_zero]; exact HR.out, Quiet0.refl _⟩
  case round =>
    obtain ⟨i, rfl, hi, hr, hq⟩ := hrel
    have HRR := Lib.hid hr
    have HQ := Lib.hid hq
    clear hr hq
    by_cases hlt : i < len
    · have hlt' : (i : Int) < len := by omega
      obtain ⟨b, off, k1, n1, qs, o1, len1, cap1, rfl, hd, hg, e0, e1, e2, hs1⟩ := (HS.out.stay HQ.out).nth hlt
      have HD := Lib.hid hd
      have HC := Lib.hid (HP.out i k1 n1 qs hg wr o1 len1 cap1 HQ.out hs1)
      unfold tyv at HC
      clear hd hg hs1
      cases hb : p k1 n1 qs
      all_goals
        have HBV := Lib.hid hb
        rw [hb] at HC
        clear hb
        go_wp2_with fail
        refine HC.out.mono ?_; rintro e w1 ⟨rfl, hq1⟩
        have HQ1 := Lib.hid (HQ.out.trans hq1)
        clear hq1
        go_wp2_with fail
      · go_roundw
        case rel => exact ⟨i + 1, by go_num, by omega, by rw [HRR.out, HD.out, idxF, HBV.out]; rfl, HQ1.out⟩
        case measure => simp [intOf]; omega
      · go_ret
        exact ⟨by rw [HRR.out, HD.out, idxF, HBV.out]; rfl, HQ1.out⟩
    · have hlt' : ¬ (i : Int) < len := by omega
      go_wp2_with fail
      go_ret
      exact ⟨by rw [HRR.out, Fo.drop_end f i (by have := HL.out; omega)]; rfl, HQ.out⟩
set_option maxHeartbeats 1000000 in
theorem containsFunc_any (g : Nat) (lb : Array Value) (p : Int → Int → Fo → Bool) (eg : ∀ args w, (callFunc g args).run Tryd.prog w = .ok (.enter g args) w) (f : Fo) (o : Option Addr) (len cap : Nat) (w : World) (hs : Slc w o len f) (hp : PredTy g lb w f p) :
    Calls Tryd.prog 90 #[.slice o len cap, .func (.func g) #[] lb] w fun e w' => e = .returned (.bool (anyF p f)) ∧ Quiet0 w w' := by
  have HC := Lib.hid (indexFunc_any g lb p eg f o len cap w hs hp)
  rw [← idx_any p f 0]
  clear hs hp eg
  generalize idxF p f 0 = r at *
  go_enter Tryd.func90, Tryd.ntmps90
  go_wp2_with fail
  refine HC.out.mono ?_; rintro e w1 ⟨rfl, hq⟩
  go_wp2_with fail
  go_ret
  exact ⟨rfl, hq⟩
end Go.Proofs.YtggidhgifaekbaaDoor
