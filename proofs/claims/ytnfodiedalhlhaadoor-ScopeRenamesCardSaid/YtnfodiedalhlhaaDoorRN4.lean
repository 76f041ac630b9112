/-
  Texts laid together (TyRight, TyRight2): laws and walks, with their conditions in their statements.
-/
import Derived.Shelf.Abstract
import Derived.Test.YtnfodiedalhlhaaDoorRN3
section
namespace Go.Proofs.YtnfodiedalhlhaaDoor
open Go.RowKit
def rightT (k n : Int) (ps : Fo) : Bool := Fo.plain k n ps.length && ps.right
theorem right_cons (k n : Int) (ps r : Fo) : (Fo.cons k n ps r).right = (rightT k n ps && r.right) := by simp [Fo.right, rightT]
def idxF (p : Int → Int → Fo → Bool) : Fo → Nat → Int
  | .nil, _ => -1
  | .cons k n ps r, i => if p k n ps then (i : Int) else idxF p r (i + 1)
def anyF (p : Int → Int → Fo → Bool) : Fo → Bool
  | .nil => false
  | .cons k n ps r => p k n ps || anyF p r
theorem idx_any (p : Int → Int → Fo → Bool) : ∀ (f : Fo) (i : Nat), decide (0 ≤ idxF p f i) = anyF p f
  | .nil, i => by simp [idxF, anyF]
  | .cons k n ps r, i => by
    unfold idxF anyF
    cases h : p k n ps
    · simp only [Bool.false_eq_true, if_false, Bool.false_or]; exact idx_any p r (i + 1)
    · simp
theorem any_not_right : ∀ f : Fo, anyF (fun k n ps => !rightT k n ps) f = !f.right
  | .nil => rfl
  | .cons k n ps r => by unfold anyF; rw [right_cons, any_not_right r, Bool.not_and]
theorem known_any (n : Int) (w : World) : Calls Tryd.prog 124 #[.int .i64 n] w fun e w' => e = .returned (.bool (decide (0 ≤ n) && decide (n < 1073741824))) ∧ w = w' := by
  by_cases h : 0 ≤ n
  · go_enter Tryd.func124, Tryd.ntmps124
    go_wp2_with fail
    go_ret
    exact ⟨by first | (simp [h]; done) | (simp; omega), rfl⟩
  · go_enter Tryd.func124, Tryd.ntmps124
    go_wp2_with fail
    go_ret
    exact ⟨by first | (simp; done) | (simp; omega), rfl⟩
set_option maxHeartbeats 2000000 in
theorem plain_any (k n : Int) (len : Nat) (o : Option Addr) (cap : Nat) (w : World) : Calls Tryd.prog 116 #[tyv k n o len cap] w fun e w' => e = .returned (.bool (Fo.plain k n len)) ∧ Quiet0 w w' := by
  obtain ⟨res, hres⟩ : ∃ res, res = Fo.plain k n len := ⟨_, rfl⟩
  have HR := Lib.hid hres
  rw [← hres]
  clear hres
  unfold tyv
  by_cases k1 : k = 1
  · subst k1
    cases hkn : (decide (0 ≤ n) && decide (n < 1073741824))
    · have HK := Lib.hid (known_any n)
      rw [hkn] at HK
      have HF : Hid (res = false) := by show _ = _; rw [HR.out]; unfold Fo.plain; simp only [beq_self_eq_true, if_true]; rw [hkn]; rfl
      clear hkn
      go_enter Tryd.func116, Tryd.ntmps116
      go_wp2_with fail
      refine (HK.out _).mono ?_; rintro e w1 ⟨rfl, rfl⟩
      go_wp2_with fail
      go_ret
      exact ⟨by rw [HF.out]; rfl, Quiet0.alloc _ _⟩
    · have HK := Lib.hid (known_any n)
      rw [hkn] at HK
      have HF : Hid (res = ((len : Int) == 0)) := by
        show _ = _
        rw [HR.out]; unfold Fo.plain; simp only [beq_self_eq_true, if_true]; rw [hkn, Bool.eq_iff_iff]; simp
      clear hkn
      go_enter Tryd.func116, Tryd.ntmps116
      go_wp2_with fail
      refine (HK.out _).mono ?_; rintro e w1 ⟨rfl, rfl⟩
      go_wp2_with fail
      all_goals
        go_ret
        exact ⟨by rw [HF.out]; first | rfl | simp_all, Quiet0.alloc _ _⟩
  have b1 : (k == 1) = false := by simpa using k1
  by_cases hn : n = 0
  · subst hn
    by_cases k2 : k = 2
    · subst k2
      have HF : Hid (res = ((len : Int) == 0)) := by show _ = _; rw [HR.out, Bool.eq_iff_iff]; simp [Fo.plain]
      go_enter Tryd.func116, Tryd.ntmps116
      go_wp2_with fail
      all_goals
        go_ret
        exact ⟨by rw [HF.out]; first | rfl | simp_all, Quiet0.alloc _ _⟩
    have b2 : (k == 2) = false := by simpa using k2
    by_cases k3 : k = 3
    · subst k3
      have HF : Hid (res = ((len : Int) == 0)) := by show _ = _; rw [HR.out, Bool.eq_iff_iff]; simp [Fo.plain]
      go_enter Tryd.func116, Tryd.ntmps116
      go_wp2_with fail
      all_goals
        go_ret
        exact ⟨by rw [HF.out]; first | rfl | simp_all, Quiet0.alloc _ _⟩
    have b3 : (k == 3) = false := by simpa using k3
    by_cases k4 : k = 4
    · subst k4
      have HF : Hid (res = ((len : Int) == 2)) := by show _ = _; rw [HR.out, Bool.eq_iff_iff]; simp [Fo.plain]; omega
      go_enter Tryd.func116, Tryd.ntmps116
      go_wp2_with fail
      all_goals
        go_ret
        exact ⟨by rw [HF.out]; first | rfl | simp_all, Quiet0.alloc _ _⟩
    have b4 : (k == 4) = false := by simpa using k4
    by_cases k5 : k = 5
    · subst k5
      by_cases h2 : 2 ≤ len
      · have h2' : (2 : Int) ≤ (len : Int) := by omega
        by_cases h8 : len ≤ 8
        · have h8' : (len : Int) ≤ 8 := by omega
          have HF : Hid (res = true) := by show _ = _; rw [HR.out]; simp [Fo.plain, h2, h8]
          go_enter Tryd.func116, Tryd.ntmps116
          go_wp2_with fail
          go_ret
          exact ⟨by rw [HF.out]; rfl, Quiet0.alloc _ _⟩
        · have h8' : ¬ (len : Int) ≤ 8 := by omega
          have HF : Hid (res = false) := by show _ = _; rw [HR.out]; simp [Fo.plain, h8]
          go_enter Tryd.func116, Tryd.ntmps116
          go_wp2_with fail
          go_ret
          exact ⟨by rw [HF.out]; rfl, Quiet0.alloc _ _⟩
      · have h2' : ¬ (2 : Int) ≤ (len : Int) := by omega
        have HF : Hid (res = false) := by show _ = _; rw [HR.out]; simp [Fo.plain, h2]
        go_enter Tryd.func116, Tryd.ntmps116
        go_wp2_with fail
        go_ret
        exact ⟨by rw [HF.out]; rfl, Quiet0.alloc _ _⟩
    have b5 : (k == 5) = false := by simpa using k5
    have HF : Hid (res = false) := by show _ = _; rw [HR.out]; unfold Fo.plain; simp only [b1, b2, b3, b4, b5]; rfl
    clear k1 k2 k3 k4 k5
    go_enter Tryd.func116, Tryd.ntmps116
    go_wp2_with fail
    go_ret
    exact ⟨by rw [HF.out]; rfl, Quiet0.alloc _ _⟩
  · have HF : Hid (res = false) := by
      show _ = _
      rw [HR.out]
      have hn' : (n == 0) = false := by simpa using hn
      unfold Fo.plain
      simp only [b1, hn', Bool.false_and]
      repeat' split
      all_goals first | rfl | simp_all
    have hn' : (n == 0) = false := by simpa using hn
    clear k1 hn
    go_enter Tryd.func116, Tryd.ntmps116
    go_wp2_with fail
    all_goals
      go_ret
      exact ⟨by rw [HF.out]; rfl, Quiet0.alloc _ _⟩
def PredTy (g : Nat) (lb : Array Value) (w0 : World) (f : Fo) (p : Int → Int → Fo → Bool) : Prop := ∀ i k n ps, f.get i = some (k, n, ps) → ∀ (W : World) (o : Option Addr) (len cap : Nat), Quiet0 w0 W → Slc W o len ps →
  Calls Tryd.prog g (#[tyv k n o len cap] ++ lb) W fun e W' => e = .returned (.bool (p k n ps)) ∧ Quiet0 W W'
set_option maxHeartbeats 1000000 in
theorem indexFunc_any (g : Nat) (lb : Array Value) (p : Int → Int → Fo → Bool) (eg : ∀ args w, (callFunc g args).run Tryd.prog w = .ok (.enter g args) w) (f : Fo) (o : Option Addr) (len cap : Nat) (w : World) (hs : Slc w o len f) (hp : PredTy g lb w f p) :
    Calls Tryd.prog 125 #[.slice o len cap, .func (.func g) #[] lb] w fun e w' => e = .returned (.int .i64 (idxF p f 0)) ∧ Quiet0 w w' := by
  have HS := Lib.hid hs
  have HP := Lib.hid hp
  have HL := Lib.hid hs.1
  have hmx := hs.2.1
  unfold maxLen at hmx
  clear hs hp
  obtain ⟨res, hres⟩ : ∃ res, res = idxF p f 0 := ⟨_, rfl⟩
  have HR := Lib.hid hres
  rw [← hres]
  clear hres
  go_enter Tryd.func125, Tryd.ntmps125
  go_wp2_with fail
  go_loopw [8] (fun t wr => ∃ i : Nat, t = .int .i64 i ∧ i ≤ len ∧ res = idxF p (f.drop i) i ∧ Quiet0 w wr) (fun t _ => len - (intOf t).toNat)
  case atStart => exact ⟨0, rfl, Nat.zero_le _, by rw [Fo.drop_zero]; exact HR.out, Quiet0.refl _⟩
  case round =>
    obtain ⟨i, rfl, hi, hr, hq⟩ := hrel
    have HRR := Lib.hid hr
    have HQ := Lib.hid hq
    clear hr hq
    by_cases hlt : i < len
    · have hlt' : (i : Int) < len := by omega
      obtain ⟨b, off, k1, n1, qs, o1, len1, cap1, rfl, hd, hg, e0, e1, e2, hs1⟩ := (HS.out.stay HQ.out).nth hlt
      have HD := Lib.hid hd
      have HC := Lib.hid (HP.out i k1 n1 qs hg wr o1 len1 cap1 HQ.out hs1)
      unfold tyv at HC
      clear hd hg hs1
      cases hb : p k1 n1 qs
      all_goals
        have HBV := Lib.hid hb
        rw [hb] at HC
        clear hb
        go_wp2_with fail
        refine HC.out.mono ?_; rintro e w1 ⟨rfl, hq1⟩
        have HQ1 := Lib.hid (HQ.out.trans hq1)
        clear hq1
        go_wp2_with fail
      · go_roundw
        case rel => exact ⟨i + 1, by go_num, by omega, by rw [HRR.out, HD.out, idxF, HBV.out]; rfl, HQ1.out⟩
        case measure => simp [intOf]; omega
      · go_ret
        exact ⟨by rw [HRR.out, HD.out, idxF, HBV.out]; rfl, HQ1.out⟩
    · have hlt' : ¬ (i : Int) < len := by omega
      go_wp2_with fail
      go_ret
      exact ⟨by rw [HRR.out, Fo.drop_end f i (by have := HL.out; omega)]; rfl, HQ.out⟩
set_option maxHeartbeats 1000000 in
theorem containsFunc_any (g : Nat) (lb : Array Value) (p : Int → Int → Fo → Bool) (eg : ∀ args w, (callFunc g args).run Tryd.prog w = .ok (.enter g args) w) (f : Fo) (o : Option Addr) (len cap : Nat) (w : World) (hs : Slc w o len f) (hp : PredTy g lb w f p) :
    Calls Tryd.prog 117 #[.slice o len cap, .func (.func g) #[] lb] w fun e w' => e = .returned (.bool (anyF p f)) ∧ Quiet0 w w' := by
  have HC := Lib.hid (indexFunc_any g lb p eg f o len cap w hs hp)
  rw [← idx_any p f 0]
  clear hs hp eg
  generalize idxF p f 0 = r at *
  go_enter Tryd.func117, Tryd.ntmps117
  go_wp2_with fail
  refine HC.out.mono ?_; rintro e w1 ⟨rfl, hq⟩
  go_wp2_with fail
  go_ret
  exact ⟨rfl, hq⟩
end Go.Proofs.YtnfodiedalhlhaaDoor
end
section
namespace Go.Proofs.YtnfodiedalhlhaaDoor
open Go.RowKit Go.Shelf
theorem eg_right : ∀ args w, (callFunc 118 args).run Tryd.prog w = .ok (.enter 118 args) w := enters_of Tryd.func118 (by kernel_rfl) rfl
def TRight (k n : Int) (ps : Fo) : Prop := ∀ (w : World) (o : Option Addr) (len cap : Nat), Slc w o len ps →
  Calls Tryd.prog 101 #[tyv k n o len cap] w fun e w' => e = .returned (.bool (rightT k n ps)) ∧ Quiet0 w w'
set_option maxHeartbeats 1000000 in
theorem not_right (k n : Int) (ps : Fo) (h : TRight k n ps) (w : World) (o : Option Addr) (len cap : Nat) (hs : Slc w o len ps) :
    Calls Tryd.prog 118 #[tyv k n o len cap] w fun e w' => e = .returned (.bool (!rightT k n ps)) ∧ Quiet0 w w' := by
  have HC := Lib.hid (fun (W : World) (hq : Quiet0 w W) => h W o len cap (hs.stay hq))
  clear h hs
  generalize rightT k n ps = r at *
  unfold tyv at *
  go_enter Tryd.func118, Tryd.ntmps118
  go_wp2_with fail
  refine (HC.out _ (Quiet0.alloc _ _)).mono ?_; rintro e w1 ⟨rfl, hq⟩
  go_wp2_with fail
  go_ret
  exact ⟨rfl, (Quiet0.alloc _ _).trans hq⟩
set_option maxHeartbeats 1000000 in
theorem right_any (k n : Int) (ps : Fo) : TRight k n ps := by
  refine Fo.ind' (T := TRight) ?_ k n ps
  intro k n ps ih w o len cap hs
  have hl := hs.1
  have HP := Lib.hid (plain_any k n len o cap)
  have HC : Hid (∀ W, Quiet0 w W → Calls Tryd.prog 117 #[.slice o len cap, .func (.func 118) #[] #[]] W fun e w' => e = .returned (.bool (!ps.right)) ∧ Quiet0 W w') := by
    intro W hq
    have := containsFunc_any 118 #[] (fun k n ps => !rightT k n ps) eg_right ps o len cap W (hs.stay hq) (fun i k1 n1 qs hg W1 o1 len1 cap1 _ hs1 => not_right k1 n1 qs (ih i k1 n1 qs hg) W1 o1 len1 cap1 hs1)
    rw [any_not_right] at this
    exact this
  have HR : Hid (rightT k n ps = (Fo.plain k n len && ps.right)) := by show _ = _; unfold rightT; rw [hl]
  rw [HR.out]
  clear hs ih hl HR
  cases hp : Fo.plain k n len
  · have HPV := Lib.hid hp
    rw [hp] at HP
    clear hp
    unfold tyv at *
    go_enter Tryd.func101, Tryd.ntmps101
    go_wp2_with fail
    refine (HP.out _).mono ?_; rintro e w1 ⟨rfl, hq⟩
    go_wp2_with fail
    go_ret
    exact ⟨rfl, (Quiet0.alloc _ _).trans hq⟩
  · have HPV := Lib.hid hp
    rw [hp] at HP
    clear hp
    generalize ps.right = r at *
    unfold tyv at *
    go_enter Tryd.func101, Tryd.ntmps101
    go_wp2_with fail
    refine (HP.out _).mono ?_; rintro e w1 ⟨rfl, hq⟩
    have HQ := Lib.hid ((Quiet0.alloc w (.cells #[.int .i64 k, .int .i64 n, .slice o len cap] 25)).trans hq)
    have c2 := (box_cells w k n o len cap 25 w1 hq).2.2
    clear hq
    go_wp2_with fail
    refine (HC.out _ HQ.out).mono ?_; rintro e w2 ⟨rfl, hq2⟩
    go_wp2_with fail
    go_ret
    exact ⟨by simp, HQ.out.trans hq2⟩
def RRight (k n : Int) (ps : Fo) : Prop := ∀ (w : World) (o : Option Addr) (len cap : Nat), Slc w o len ps →
  Calls Tryd.prog 77 #[tyv k n o len cap] w fun e w' => e = .returned (.bool (rightT k n ps)) ∧ Quiet0 w w'
theorem not_plain {k n : Int} {m : Nat} (h : Fo.plain k n m = false) : (k = 1 ∧ (n < 0 ∨ 1073741824 ≤ n ∨ 0 < m)) ∨ (k ≠ 1 ∧ n ≠ 0) ∨ (n = 0 ∧ (k = 2 ∨ k = 3) ∧ 0 < m) ∨ (n = 0 ∧ k = 4 ∧ m ≠ 2) ∨ (n = 0 ∧ k = 5 ∧ (m < 2 ∨ 8 < m)) ∨ (n = 0 ∧ (k < 1 ∨ 5 < k)) := by
  unfold Fo.plain at h
  by_cases k1 : k = 1
  · subst k1; simp at h; omega
  by_cases hn : n = 0
  · subst hn
    by_cases k2 : k = 2
    · subst k2; simp at h; omega
    by_cases k3 : k = 3
    · subst k3; simp at h; omega
    by_cases k4 : k = 4
    · subst k4; simp at h; omega
    by_cases k5 : k = 5
    · subst k5; simp at h; omega
    omega
  · omega
theorem is_plain {k n : Int} {m : Nat} (h : Fo.plain k n m = true) : (k = 1 ∧ 0 ≤ n ∧ n < 1073741824 ∧ m = 0) ∨ (n = 0 ∧ k = 2 ∧ m = 0) ∨ (n = 0 ∧ k = 3 ∧ m = 0) ∨ (n = 0 ∧ k = 4 ∧ m = 2) ∨ (n = 0 ∧ k = 5 ∧ 2 ≤ m ∧ m ≤ 8) := by
  unfold Fo.plain at h
  by_cases k1 : k = 1
  · subst k1; simp at h; omega
  by_cases k2 : k = 2
  · subst k2; simp at h; omega
  by_cases k3 : k = 3
  · subst k3; simp at h; omega
  by_cases k4 : k = 4
  · subst k4; simp at h; omega
  by_cases k5 : k = 5
  · subst k5; simp at h; omega
  · simp [k1, k2, k3, k4, k5] at h
set_option maxRecDepth 100000 in
set_option maxHeartbeats 4000000 in
theorem refRight_any (k n : Int) (ps : Fo) : RRight k n ps := by
  refine Fo.ind' (T := RRight) ?_ k n ps
  intro k n ps ih w o len cap hs
  have HS := Lib.hid hs
  have IH := Lib.hid ih
  have HL := Lib.hid hs.1
  have hmx := hs.2.1
  unfold maxLen at hmx
  have HR : Hid (rightT k n ps = (Fo.plain k n len && ps.right)) := by show _ = _; unfold rightT; rw [hs.1]
  rw [HR.out]
  clear hs ih HR
  cases hp : Fo.plain k n len
  · simp only [Bool.false_and]
    have hw := not_plain hp
    clear hp HS IH HL
    unfold tyv
    rcases hw with ⟨rfl, h | h | h⟩ | ⟨h1, h2⟩ | ⟨rfl, rfl | rfl, h⟩ | ⟨rfl, rfl, h⟩ | ⟨rfl, rfl, h | h⟩ | ⟨rfl, h | h⟩
    · go_enter Tryd.func77, Tryd.ntmps77
      go_wp2_with fail
      all_goals
        go_ret
        exact ⟨rfl, Quiet0.alloc _ _⟩
    · go_enter Tryd.func77, Tryd.ntmps77
      go_wp2_with fail
      all_goals
        go_ret
        exact ⟨rfl, Quiet0.alloc _ _⟩
    · have h' : (0 : Int) < (len : Int) := by omega
      go_enter Tryd.func77, Tryd.ntmps77
      go_wp2_with fail
      all_goals
        go_ret
        exact ⟨rfl, Quiet0.alloc _ _⟩
    · have b1 : (k == 1) = false := by simpa using h1
      have b2 : (k != 1) = true := by simpa using h1
      have b3 : (n != 0) = true := by simpa using h2
      clear h1 h2
      go_enter Tryd.func77, Tryd.ntmps77
      go_wp2_with fail
      all_goals
        go_ret
        exact ⟨rfl, Quiet0.alloc _ _⟩
    · have h' : (0 : Int) < (len : Int) := by omega
      go_enter Tryd.func77, Tryd.ntmps77
      go_wp2_with fail
      all_goals
        go_ret
        exact ⟨rfl, Quiet0.alloc _ _⟩
    · have h' : (0 : Int) < (len : Int) := by omega
      go_enter Tryd.func77, Tryd.ntmps77
      go_wp2_with fail
      all_goals
        go_ret
        exact ⟨rfl, Quiet0.alloc _ _⟩
    · have h' : ((len : Int) != 2) = true := by simp; omega
      go_enter Tryd.func77, Tryd.ntmps77
      go_wp2_with fail
      all_goals
        go_ret
        exact ⟨rfl, Quiet0.alloc _ _⟩
    · have h' : (len : Int) < 2 := by omega
      go_enter Tryd.func77, Tryd.ntmps77
      go_wp2_with fail
      all_goals
        go_ret
        exact ⟨rfl, Quiet0.alloc _ _⟩
    · have h' : (8 : Int) < (len : Int) := by omega
      have h2 : ¬ (len : Int) < 2 := by omega
      go_enter Tryd.func77, Tryd.ntmps77
      go_wp2_with fail
      all_goals
        go_ret
        exact ⟨rfl, Quiet0.alloc _ _⟩
    · have b1 : (k == 1) = false := by simp; omega
      have b1' : (k != 1) = true := by simp; omega
      have b2 : (k == 2) = false := by simp; omega
      have b3 : (k == 3) = false := by simp; omega
      have b4 : (k == 4) = false := by simp; omega
      have b5 : (k == 5) = false := by simp; omega
      go_enter Tryd.func77, Tryd.ntmps77
      go_wp2_with fail
      all_goals
        go_ret
        exact ⟨rfl, Quiet0.alloc _ _⟩
    · have b1 : (k == 1) = false := by simp; omega
      have b1' : (k != 1) = true := by simp; omega
      have b2 : (k == 2) = false := by simp; omega
      have b3 : (k == 3) = false := by simp; omega
      have b4 : (k == 4) = false := by simp; omega
      have b5 : (k == 5) = false := by simp; omega
      have h' : ¬ k < 1 := by omega
      go_enter Tryd.func77, Tryd.ntmps77
      go_wp2_with fail
      all_goals
        go_ret
        exact ⟨rfl, Quiet0.alloc _ _⟩
  · simp only [Bool.true_and]
    obtain ⟨res, hres⟩ : ∃ res, res = ps.right := ⟨_, rfl⟩
    have HRES := Lib.hid hres
    rw [← hres]
    have hw := is_plain hp
    clear hp hres
    rcases hw with ⟨rfl, h1, h2, h3⟩ | ⟨rfl, rfl, h3⟩ | ⟨rfl, rfl, h3⟩ | ⟨rfl, rfl, h3⟩ | ⟨rfl, rfl, h3, h4⟩
    · have h3' : ¬ (0 : Int) < (len : Int) := by omega
      clear h3
      unfold tyv
      obtain ⟨W0, hW0⟩ : ∃ W0, W0 = w.alloc (.cells #[.int .i64 1, .int .i64 n, .slice o len cap] 25) := ⟨_, rfl⟩
      have HB : Hid (∀ W, Quiet0 W0 W → W.cell? ⟨w.heap.size, 2, none⟩ = some (.slice o len cap)) := by
        intro W hq; rw [hW0] at hq; exact (box_cells w _ _ o len cap _ W hq).2.2
      have HQ0 : Hid (Quiet0 w W0) := by rw [hW0]; exact Quiet0.alloc _ _
      go_enter Tryd.func77, Tryd.ntmps77
      go_wp2_with fail
      change Code.wp _ _ _ _ (w.alloc (.cells #[.int .i64 1, .int .i64 n, .slice o len cap] 25))
      rw [← hW0]
      clear hW0
      generalize w.heap.size = nb at *
      go_loopw [4] (fun t wr => ∃ i : Nat, t = .int .i64 i ∧ i ≤ len ∧ res = (ps.drop i).right ∧ Quiet0 W0 wr) (fun t _ => len - (intOf t).toNat)
      case atStart => exact ⟨0, rfl, Nat.zero_le _, by rw [Fo.drop_zero]; exact HRES.out, Quiet0.refl _⟩
      case round =>
        obtain ⟨i, rfl, hi, hr, hq⟩ := hrel
        have HRR := Lib.hid hr
        have HQ := Lib.hid hq
        have c2 := HB.out wr hq
        clear hr hq
        by_cases hlt : i < len
        · exact absurd hlt (by omega)
        · have hlt' : ¬ (i : Int) < len := by omega
          go_wp2_with fail
          go_ret
          exact ⟨by rw [HRR.out, Fo.drop_end ps i (by have := HL.out; omega)]; rfl, HQ0.out.trans HQ.out⟩
    · have h3' : ¬ (0 : Int) < (len : Int) := by omega
      clear h3
      unfold tyv
      obtain ⟨W0, hW0⟩ : ∃ W0, W0 = w.alloc (.cells #[.int .i64 2, .int .i64 0, .slice o len cap] 25) := ⟨_, rfl⟩
      have HB : Hid (∀ W, Quiet0 W0 W → W.cell? ⟨w.heap.size, 2, none⟩ = some (.slice o len cap)) := by
        intro W hq; rw [hW0] at hq; exact (box_cells w _ _ o len cap _ W hq).2.2
      have HQ0 : Hid (Quiet0 w W0) := by rw [hW0]; exact Quiet0.alloc _ _
      go_enter Tryd.func77, Tryd.ntmps77
      go_wp2_with fail
      change Code.wp _ _ _ _ (w.alloc (.cells #[.int .i64 2, .int .i64 0, .slice o len cap] 25))
      rw [← hW0]
      clear hW0
      generalize w.heap.size = nb at *
      go_loopw [4] (fun t wr => ∃ i : Nat, t = .int .i64 i ∧ i ≤ len ∧ res = (ps.drop i).right ∧ Quiet0 W0 wr) (fun t _ => len - (intOf t).toNat)
      case atStart => exact ⟨0, rfl, Nat.zero_le _, by rw [Fo.drop_zero]; exact HRES.out, Quiet0.refl _⟩
      case round =>
        obtain ⟨i, rfl, hi, hr, hq⟩ := hrel
        have HRR := Lib.hid hr
        have HQ := Lib.hid hq
        have c2 := HB.out wr hq
        clear hr hq
        by_cases hlt : i < len
        · exact absurd hlt (by omega)
        · have hlt' : ¬ (i : Int) < len := by omega
          go_wp2_with fail
          go_ret
          exact ⟨by rw [HRR.out, Fo.drop_end ps i (by have := HL.out; omega)]; rfl, HQ0.out.trans HQ.out⟩
    · have h3' : ¬ (0 : Int) < (len : Int) := by omega
      clear h3
      unfold tyv
      obtain ⟨W0, hW0⟩ : ∃ W0, W0 = w.alloc (.cells #[.int .i64 3, .int .i64 0, .slice o len cap] 25) := ⟨_, rfl⟩
      have HB : Hid (∀ W, Quiet0 W0 W → W.cell? ⟨w.heap.size, 2, none⟩ = some (.slice o len cap)) := by
        intro W hq; rw [hW0] at hq; exact (box_cells w _ _ o len cap _ W hq).2.2
      have HQ0 : Hid (Quiet0 w W0) := by rw [hW0]; exact Quiet0.alloc _ _
      go_enter Tryd.func77, Tryd.ntmps77
      go_wp2_with fail
      change Code.wp _ _ _ _ (w.alloc (.cells #[.int .i64 3, .int .i64 0, .slice o len cap] 25))
      rw [← hW0]
      clear hW0
      generalize w.heap.size = nb at *
      go_loopw [4] (fun t wr => ∃ i : Nat, t = .int .i64 i ∧ i ≤ len ∧ res = (ps.drop i).right ∧ Quiet0 W0 wr) (fun t _ => len - (intOf t).toNat)
      case atStart => exact ⟨0, rfl, Nat.zero_le _, by rw [Fo.drop_zero]; exact HRES.out, Quiet0.refl _⟩
      case round =>
        obtain ⟨i, rfl, hi, hr, hq⟩ := hrel
        have HRR := Lib.hid hr
        have HQ := Lib.hid hq
        have c2 := HB.out wr hq
        clear hr hq
        by_cases hlt : i < len
        · exact absurd hlt (by omega)
        · have hlt' : ¬ (i : Int) < len := by omega
          go_wp2_with fail
          go_ret
          exact ⟨by rw [HRR.out, Fo.drop_end ps i (by have := HL.out; omega)]; rfl, HQ0.out.trans HQ.out⟩
    · have h3' : ((len : Int) != 2) = false := by simp; omega
      clear h3
      unfold tyv
      obtain ⟨W0, hW0⟩ : ∃ W0, W0 = w.alloc (.cells #[.int .i64 4, .int .i64 0, .slice o len cap] 25) := ⟨_, rfl⟩
      have HB : Hid (∀ W, Quiet0 W0 W → W.cell? ⟨w.heap.size, 2, none⟩ = some (.slice o len cap)) := by
        intro W hq; rw [hW0] at hq; exact (box_cells w _ _ o len cap _ W hq).2.2
      have HQ0 : Hid (Quiet0 w W0) := by rw [hW0]; exact Quiet0.alloc _ _
      go_enter Tryd.func77, Tryd.ntmps77
      go_wp2_with fail
      change Code.wp _ _ _ _ (w.alloc (.cells #[.int .i64 4, .int .i64 0, .slice o len cap] 25))
      rw [← hW0]
      clear hW0
      generalize w.heap.size = nb at *
      go_loopw [4] (fun t wr => ∃ i : Nat, t = .int .i64 i ∧ i ≤ len ∧ res = (ps.drop i).right ∧ Quiet0 W0 wr) (fun t _ => len - (intOf t).toNat)
      case atStart => exact ⟨0, rfl, Nat.zero_le _, by rw [Fo.drop_zero]; exact HRES.out, Quiet0.refl _⟩
      case round =>
        obtain ⟨i, rfl, hi, hr, hq⟩ := hrel
        have HRR := Lib.hid hr
        have HQ := Lib.hid hq
        have c2 := HB.out wr hq
        clear hr hq
        by_cases hlt : i < len
        · have hlt' : (i : Int) < len := by omega
          obtain ⟨b, off, k1, n1, qs, o1, len1, cap1, rfl, hd, hg, e0, e1, e2, hs1⟩ := (HS.out.stay (HQ0.out.trans HQ.out)).nth hlt
          have HD := Lib.hid hd
          have HC := Lib.hid (IH.out i k1 n1 qs hg wr o1 len1 cap1 hs1)
          unfold tyv at HC
          clear hd hg hs1
          cases hb : rightT k1 n1 qs
          all_goals
            have HBV := Lib.hid hb
            rw [hb] at HC
            clear hb
            go_wp2_with fail
            refine HC.out.mono ?_; rintro e w1 ⟨rfl, hq1⟩
            have HQ1 := Lib.hid (HQ.out.trans hq1)
            clear hq1
            go_wp2_with fail
          · go_ret
            exact ⟨by rw [HRR.out, HD.out, right_cons, HBV.out]; rfl, HQ0.out.trans HQ1.out⟩
          · go_roundw
            case rel => exact ⟨i + 1, by go_num, by omega, by rw [HRR.out, HD.out, right_cons, HBV.out]; rfl, HQ1.out⟩
            case measure => simp [intOf]; omega
        · have hlt' : ¬ (i : Int) < len := by omega
          go_wp2_with fail
          go_ret
          exact ⟨by rw [HRR.out, Fo.drop_end ps i (by have := HL.out; omega)]; rfl, HQ0.out.trans HQ.out⟩
    · have h3' : ¬ (len : Int) < 2 := by omega
      have h4' : ¬ (8 : Int) < (len : Int) := by omega
      unfold tyv
      obtain ⟨W0, hW0⟩ : ∃ W0, W0 = w.alloc (.cells #[.int .i64 5, .int .i64 0, .slice o len cap] 25) := ⟨_, rfl⟩
      have HB : Hid (∀ W, Quiet0 W0 W → W.cell? ⟨w.heap.size, 2, none⟩ = some (.slice o len cap)) := by
        intro W hq; rw [hW0] at hq; exact (box_cells w _ _ o len cap _ W hq).2.2
      have HQ0 : Hid (Quiet0 w W0) := by rw [hW0]; exact Quiet0.alloc _ _
      go_enter Tryd.func77, Tryd.ntmps77
      go_wp2_with fail
      change Code.wp _ _ _ _ (w.alloc (.cells #[.int .i64 5, .int .i64 0, .slice o len cap] 25))
      rw [← hW0]
      clear hW0
      generalize w.heap.size = nb at *
      go_loopw [4] (fun t wr => ∃ i : Nat, t = .int .i64 i ∧ i ≤ len ∧ res = (ps.drop i).right ∧ Quiet0 W0 wr) (fun t _ => len - (intOf t).toNat)
      case atStart => exact ⟨0, rfl, Nat.zero_le _, by rw [Fo.drop_zero]; exact HRES.out, Quiet0.refl _⟩
      case round =>
        obtain ⟨i, rfl, hi, hr, hq⟩ := hrel
        have HRR := Lib.hid hr
        have HQ := Lib.hid hq
        have c2 := HB.out wr hq
        clear hr hq
        by_cases hlt : i < len
        · have hlt' : (i : Int) < len := by omega
          obtain ⟨b, off, k1, n1, qs, o1, len1, cap1, rfl, hd, hg, e0, e1, e2, hs1⟩ := (HS.out.stay (HQ0.out.trans HQ.out)).nth hlt
          have HD := Lib.hid hd
          have HC := Lib.hid (IH.out i k1 n1 qs hg wr o1 len1 cap1 hs1)
          unfold tyv at HC
          clear hd hg hs1
          cases hb : rightT k1 n1 qs
          all_goals
            have HBV := Lib.hid hb
            rw [hb] at HC
            clear hb
            go_wp2_with fail
            refine HC.out.mono ?_; rintro e w1 ⟨rfl, hq1⟩
            have HQ1 := Lib.hid (HQ.out.trans hq1)
            clear hq1
            go_wp2_with fail
          · go_ret
            exact ⟨by rw [HRR.out, HD.out, right_cons, HBV.out]; rfl, HQ0.out.trans HQ1.out⟩
          · go_roundw
            case rel => exact ⟨i + 1, by go_num, by omega, by rw [HRR.out, HD.out, right_cons, HBV.out]; rfl, HQ1.out⟩
            case measure => simp [intOf]; omega
        · have hlt' : ¬ (i : Int) < len := by omega
          go_wp2_with fail
          go_ret
          exact ⟨by rw [HRR.out, Fo.drop_end ps i (by have := HL.out; omega)]; rfl, HQ0.out.trans HQ.out⟩
end Go.Proofs.YtnfodiedalhlhaaDoor
end
