/-
  Texts laid together (TyRight, TyRight2, TyEach, TySize, TyIn): what each one proves, and its conditions, stands at its head.
-/
import Derived.Shelf.Abstract
import Derived.OneCell
import Derived.Test.YtggidhgifaekbaaDoorMB1
/-
  Whether a type is: the program's Right (plain, known, and a closure handed to slices.ContainsFunc), the reference's Right. Condition: the types lie in memory as told.
-/
namespace Go.Proofs.YtggidhgifaekbaaDoor
open Go.RowKit

def rightT (k n : Int) (ps : Fo) : Bool := Fo.plain k n ps.length && ps.right
theorem right_cons (k n : Int) (ps r : Fo) : (Fo.cons k n ps r).right = (rightT k n ps && r.right) := by simp [Fo.right, rightT]
/-- a tree's first place at which something holds -/
def idxF (p : Int → Int → Fo → Bool) : Fo → Nat → Int
  | .nil, _ => -1
  | .cons k n ps r, i => if p k n ps then (i : Int) else idxF p r (i + 1)
def anyF (p : Int → Int → Fo → Bool) : Fo → Bool
  | .nil => false
  | .cons k n ps r => p k n ps || anyF p r
theorem idx_any (p : Int → Int → Fo → Bool) : ∀ (f : Fo) (i : Nat), decide (0 ≤ idxF p f i) = anyF p f
  | .nil, i => by simp [idxF, anyF]
  | .cons k n ps r, i => by
    unfold idxF anyF
    cases h : p k n ps
    · simp only [Bool.false_eq_true, if_false, Bool.false_or]; exact idx_any p r (i + 1)
    · simp
theorem any_not_right : ∀ f : Fo, anyF (fun k n ps => !rightT k n ps) f = !f.right
  | .nil => rfl
  | .cons k n ps r => by unfold anyF; rw [right_cons, any_not_right r, Bool.not_and]

theorem known_any (n : Int) (w : World) : Calls Tryd.prog 84 #[.int .i64 n] w fun e w' => e = .returned (.bool (decide (0 ≤ n) && decide (n < 1073741824))) ∧ w = w' := by
  by_cases h : 0 ≤ n
  · go_enter Tryd.func84, Tryd.ntmps84
    go_wp2_with fail
    go_ret
    exact ⟨by first | (simp [h]; done) | (simp; omega), rfl⟩
  · go_enter Tryd.func84, Tryd.ntmps84
    go_wp2_with fail
    go_ret
    exact ⟨by first | (simp; done) | (simp; omega), rfl⟩

set_option maxHeartbeats 2000000 in
theorem plain_any (k n : Int) (len : Nat) (o : Option Addr) (cap : Nat) (w : World) : Calls Tryd.prog 89 #[tyv k n o len cap] w fun e w' => e = .returned (.bool (Fo.plain k n len)) ∧ Quiet0 w w' := by
  obtain ⟨res, hres⟩ : ∃ res, res = Fo.plain k n len := ⟨_, rfl⟩
  have HR := Lib.hid hres
  rw [← hres]
  clear hres
  unfold tyv
  by_cases k1 : k = 1
  · subst k1
    cases hkn : (decide (0 ≤ n) && decide (n < 1073741824))
    · have HK := Lib.hid (known_any n)
      rw [hkn] at HK
      have HF : Hid (res = false) := by show _ = _; rw [HR.out]; unfold Fo.plain; simp only [beq_self_eq_true, if_true]; rw [hkn]; rfl
      clear hkn
      go_enter Tryd.func89, Tryd.ntmps89
      go_wp2_with fail
      refine (HK.out _).mono ?_; rintro e w1 ⟨rfl, rfl⟩
      go_wp2_with fail
      go_ret
      exact ⟨by rw [HF.out]; rfl, Quiet0.alloc _ _⟩
    · have HK := Lib.hid (known_any n)
      rw [hkn] at HK
      have HF : Hid (res = ((len : Int) == 0)) := by
        show _ = _
        rw [HR.out]; unfold Fo.plain; simp only [beq_self_eq_true, if_true]; rw [hkn, Bool.eq_iff_iff]; simp
      clear hkn
      go_enter Tryd.func89, Tryd.ntmps89
      go_wp2_with fail
      refine (HK.out _).mono ?_; rintro e w1 ⟨rfl, rfl⟩
      go_wp2_with fail
      all_goals
        go_ret
        exact ⟨by rw [HF.out]; first | rfl | simp_all, Quiet0.alloc _ _⟩
  have b1 : (k == 1) = false := by simpa using k1
  by_cases hn : n = 0
  · subst hn
    by_cases k2 : k = 2
    · subst k2
      have HF : Hid (res = ((len : Int) == 0)) := by show _ = _; rw [HR.out, Bool.eq_iff_iff]; simp [Fo.plain]
      go_enter Tryd.func89, Tryd.ntmps89
      go_wp2_with fail
      all_goals
        go_ret
        exact ⟨by rw [HF.out]; first | rfl | simp_all, Quiet0.alloc _ _⟩
    have b2 : (k == 2) = false := by simpa using k2
    by_cases k3 : k = 3
    · subst k3
      have HF : Hid (res = ((len : Int) == 0)) := by show _ = _; rw [HR.out, Bool.eq_iff_iff]; simp [Fo.plain]
      go_enter Tryd.func89, Tryd.ntmps89
      go_wp2_with fail
      all_goals
        go_ret
        exact ⟨by rw [HF.out]; first | rfl | simp_all, Quiet0.alloc _ _⟩
    have b3 : (k == 3) = false := by simpa using k3
    by_cases k4 : k = 4
    · subst k4
      have HF : Hid (res = ((len : Int) == 2)) := by show _ = _; rw [HR.out, Bool.eq_iff_iff]; simp [Fo.plain]; omega
      go_enter Tryd.func89, Tryd.ntmps89
      go_wp2_with fail
      all_goals
        go_ret
        exact ⟨by rw [HF.out]; first | rfl | simp_all, Quiet0.alloc _ _⟩
    have b4 : (k == 4) = false := by simpa using k4
    by_cases k5 : k = 5
    · subst k5
      by_cases h2 : 2 ≤ len
      · have h2' : (2 : Int) ≤ (len : Int) := by omega
        by_cases h8 : len ≤ 8
        · have h8' : (len : Int) ≤ 8 := by omega
          have HF : Hid (res = true) := by show _ = _; rw [HR.out]; simp [Fo.plain, h2, h8]
          go_enter Tryd.func89, Tryd.ntmps89
          go_wp2_with fail
          go_ret
          exact ⟨by rw [HF.out]; rfl, Quiet0.alloc _ _⟩
        · have h8' : ¬ (len : Int) ≤ 8 := by omega
          have HF : Hid (res = false) := by show _ = _; rw [HR.out]; simp [Fo.plain, h8]
          go_enter Tryd.func89, Tryd.ntmps89
          go_wp2_with fail
          go_ret
          exact ⟨by rw [HF.out]; rfl, Quiet0.alloc _ _⟩
      · have h2' : ¬ (2 : Int) ≤ (len : Int) := by omega
        have HF : Hid (res = false) := by show _ = _; rw [HR.out]; simp [Fo.plain, h2]
        go_enter Tryd.func89, Tryd.ntmps89
        go_wp2_with fail
        go_ret
        exact ⟨by rw [HF.out]; rfl, Quiet0.alloc _ _⟩
    have b5 : (k == 5) = false := by simpa using k5
    have HF : Hid (res = false) := by show _ = _; rw [HR.out]; unfold Fo.plain; simp only [b1, b2, b3, b4, b5]; rfl
    clear k1 k2 k3 k4 k5
    go_enter Tryd.func89, Tryd.ntmps89
    go_wp2_with fail
    go_ret
    exact ⟨by rw [HF.out]; rfl, Quiet0.alloc _ _⟩
  · have HF : Hid (res = false) := by
      show _ = _
      rw [HR.out]
      have hn' : (n == 0) = false := by simpa using hn
      unfold Fo.plain
      simp only [b1, hn', Bool.false_and]
      repeat' split
      all_goals first | rfl | simp_all
    have hn' : (n == 0) = false := by simpa using hn
    clear k1 hn
    go_enter Tryd.func89, Tryd.ntmps89
    go_wp2_with fail
    all_goals
      go_ret
      exact ⟨by rw [HF.out]; rfl, Quiet0.alloc _ _⟩

/-- what a predicate handed to slices.IndexFunc has to tell of each type of a row -/
def PredTy (g : Nat) (lb : Array Value) (w0 : World) (f : Fo) (p : Int → Int → Fo → Bool) : Prop := ∀ i k n ps, f.get i = some (k, n, ps) → ∀ (W : World) (o : Option Addr) (len cap : Nat), Quiet0 w0 W → Slc W o len ps →
  Calls Tryd.prog g (#[tyv k n o len cap] ++ lb) W fun e W' => e = .returned (.bool (p k n ps)) ∧ Quiet0 W W'
set_option maxHeartbeats 1000000 in
theorem indexFunc_any (g : Nat) (lb : Array Value) (p : Int → Int → Fo → Bool) (eg : ∀ args w, (callFunc g args).run Tryd.prog w = .ok (.enter g args) w) (f : Fo) (o : Option Addr) (len cap : Nat) (w : World) (hs : Slc w o len f) (hp : PredTy g lb w f p) :
    Calls Tryd.prog 119 #[.slice o len cap, .func (.func g) #[] lb] w fun e w' => e = .returned (.int .i64 (idxF p f 0)) ∧ Quiet0 w w' := by
  have HS := Lib.hid hs
  have HP := Lib.hid hp
  have HL := Lib.hid hs.1
  have hmx := hs.2.1
  unfold maxLen at hmx
  clear hs hp
  obtain ⟨res, hres⟩ : ∃ res, res = idxF p f 0 := ⟨_, rfl⟩
  have HR := Lib.hid hres
  rw [← hres]
  clear hres
  go_enter Tryd.func119, Tryd.ntmps119
  go_wp2_with fail
  go_loopw [8] (fun t wr => ∃ i : Nat, t = .int .i64 i ∧ i ≤ len ∧ res = idxF p (f.drop i) i ∧ Quiet0 w wr) (fun t _ => len - (intOf t).toNat)
  case atStart => exact ⟨0, rfl, Nat.zero_le _, by rw [Fo.drop_zero]; exact HR.out, Quiet0.refl _⟩
  case round =>
    obtain ⟨i, rfl, hi, hr, hq⟩ := hrel
    have HRR := Lib.hid hr
    have HQ := Lib.hid hq
    clear hr hq
    by_cases hlt : i < len
    · have hlt' : (i : Int) < len := by omega
      obtain ⟨b, off, k1, n1, qs, o1, len1, cap1, rfl, hd, hg, e0, e1, e2, hs1⟩ := (HS.out.stay HQ.out).nth hlt
      have HD := Lib.hid hd
      have HC := Lib.hid (HP.out i k1 n1 qs hg wr o1 len1 cap1 HQ.out hs1)
      unfold tyv at HC
      clear hd hg hs1
      cases hb : p k1 n1 qs
      all_goals
        have HBV := Lib.hid hb
        rw [hb] at HC
        clear hb
        go_wp2_with fail
        refine HC.out.mono ?_; rintro e w1 ⟨rfl, hq1⟩
        have HQ1 := Lib.hid (HQ.out.trans hq1)
        clear hq1
        go_wp2_with fail
      · go_roundw
        case rel => exact ⟨i + 1, by go_num, by omega, by rw [HRR.out, HD.out, idxF, HBV.out]; rfl, HQ1.out⟩
        case measure => simp [intOf]; omega
      · go_ret
        exact ⟨by rw [HRR.out, HD.out, idxF, HBV.out]; rfl, HQ1.out⟩
    · have hlt' : ¬ (i : Int) < len := by omega
      go_wp2_with fail
      go_ret
      exact ⟨by rw [HRR.out, Fo.drop_end f i (by have := HL.out; omega)]; rfl, HQ.out⟩
set_option maxHeartbeats 1000000 in
theorem containsFunc_any (g : Nat) (lb : Array Value) (p : Int → Int → Fo → Bool) (eg : ∀ args w, (callFunc g args).run Tryd.prog w = .ok (.enter g args) w) (f : Fo) (o : Option Addr) (len cap : Nat) (w : World) (hs : Slc w o len f) (hp : PredTy g lb w f p) :
    Calls Tryd.prog 90 #[.slice o len cap, .func (.func g) #[] lb] w fun e w' => e = .returned (.bool (anyF p f)) ∧ Quiet0 w w' := by
  have HC := Lib.hid (indexFunc_any g lb p eg f o len cap w hs hp)
  rw [← idx_any p f 0]
  clear hs hp eg
  generalize idxF p f 0 = r at *
  go_enter Tryd.func90, Tryd.ntmps90
  go_wp2_with fail
  refine HC.out.mono ?_; rintro e w1 ⟨rfl, hq⟩
  go_wp2_with fail
  go_ret
  exact ⟨rfl, hq⟩
end Go.Proofs.YtggidhgifaekbaaDoor
/-
  Whether a type is: the program's Right and the reference's Right, by induction over the type. Condition: the types lie in memory as told.
-/
namespace Go.Proofs.YtggidhgifaekbaaDoor
open Go.RowKit Go.Shelf

theorem eg_right : ∀ args w, (callFunc 91 args).run Tryd.prog w = .ok (.enter 91 args) w := enters_of Tryd.func91 (by kernel_rfl) rfl
/-- types.Right -/
def TRight (k n : Int) (ps : Fo) : Prop := ∀ (w : World) (o : Option Addr) (len cap : Nat), Slc w o len ps →
  Calls Tryd.prog 44 #[tyv k n o len cap] w fun e w' => e = .returned (.bool (rightT k n ps)) ∧ Quiet0 w w'
set_option maxHeartbeats 1000000 in
theorem not_right (k n : Int) (ps : Fo) (h : TRight k n ps) (w : World) (o : Option Addr) (len cap : Nat) (hs : Slc w o len ps) :
    Calls Tryd.prog 91 #[tyv k n o len cap] w fun e w' => e = .returned (.bool (!rightT k n ps)) ∧ Quiet0 w w' := by
  have HC := Lib.hid (fun (W : World) (hq : Quiet0 w W) => h W o len cap (hs.stay hq))
  clear h hs
  generalize rightT k n ps = r at *
  unfold tyv at *
  go_enter Tryd.func91, Tryd.ntmps91
  go_wp2_with fail
  refine (HC.out _ (Quiet0.alloc _ _)).mono ?_; rintro e w1 ⟨rfl, hq⟩
  go_wp2_with fail
  go_ret
  exact ⟨rfl, (Quiet0.alloc _ _).trans hq⟩
set_option maxHeartbeats 1000000 in
theorem right_any (k n : Int) (ps : Fo) : TRight k n ps := by
  refine Fo.ind' (T := TRight) ?_ k n ps
  intro k n ps ih w o len cap hs
  have hl := hs.1
  have HP := Lib.hid (plain_any k n len o cap)
  have HC : Hid (∀ W, Quiet0 w W → Calls Tryd.prog 90 #[.slice o len cap, .func (.func 91) #[] #[]] W fun e w' => e = .returned (.bool (!ps.right)) ∧ Quiet0 W w') := by
    intro W hq
    have := containsFunc_any 91 #[] (fun k n ps => !rightT k n ps) eg_right ps o len cap W (hs.stay hq) (fun i k1 n1 qs hg W1 o1 len1 cap1 _ hs1 => not_right k1 n1 qs (ih i k1 n1 qs hg) W1 o1 len1 cap1 hs1)
    rw [any_not_right] at this
    exact this
  have HR : Hid (rightT k n ps = (Fo.plain k n len && ps.right)) := by show _ = _; unfold rightT; rw [hl]
  rw [HR.out]
  clear hs ih hl HR
  cases hp : Fo.plain k n len
  · have HPV := Lib.hid hp
    rw [hp] at HP
    clear hp
    unfold tyv at *
    go_enter Tryd.func44, Tryd.ntmps44
    go_wp2_with fail
    refine (HP.out _).mono ?_; rintro e w1 ⟨rfl, hq⟩
    go_wp2_with fail
    go_ret
    exact ⟨rfl, (Quiet0.alloc _ _).trans hq⟩
  · have HPV := Lib.hid hp
    rw [hp] at HP
    clear hp
    generalize ps.right = r at *
    unfold tyv at *
    go_enter Tryd.func44, Tryd.ntmps44
    go_wp2_with fail
    refine (HP.out _).mono ?_; rintro e w1 ⟨rfl, hq⟩
    have HQ := Lib.hid ((Quiet0.alloc w (.cells #[.int .i64 k, .int .i64 n, .slice o len cap] 24)).trans hq)
    have c2 := (box_cells w k n o len cap 24 w1 hq).2.2
    clear hq
    go_wp2_with fail
    refine (HC.out _ HQ.out).mono ?_; rintro e w2 ⟨rfl, hq2⟩
    go_wp2_with fail
    go_ret
    exact ⟨by simp, HQ.out.trans hq2⟩

/-- ref.Right -/
def RRight (k n : Int) (ps : Fo) : Prop := ∀ (w : World) (o : Option Addr) (len cap : Nat), Slc w o len ps →
  Calls Tryd.prog 16 #[tyv k n o len cap] w fun e w' => e = .returned (.bool (rightT k n ps)) ∧ Quiet0 w w'
/-- why a type isn't, but for its parts -/
theorem not_plain {k n : Int} {m : Nat} (h : Fo.plain k n m = false) : (k = 1 ∧ (n < 0 ∨ 1073741824 ≤ n ∨ 0 < m)) ∨ (k ≠ 1 ∧ n ≠ 0) ∨ (n = 0 ∧ (k = 2 ∨ k = 3) ∧ 0 < m) ∨ (n = 0 ∧ k = 4 ∧ m ≠ 2) ∨ (n = 0 ∧ k = 5 ∧ (m < 2 ∨ 8 < m)) ∨ (n = 0 ∧ (k < 1 ∨ 5 < k)) := by
  unfold Fo.plain at h
  by_cases k1 : k = 1
  · subst k1; simp at h; omega
  by_cases hn : n = 0
  · subst hn
    by_cases k2 : k = 2
    · subst k2; simp at h; omega
    by_cases k3 : k = 3
    · subst k3; simp at h; omega
    by_cases k4 : k = 4
    · subst k4; simp at h; omega
    by_cases k5 : k = 5
    · subst k5; simp at h; omega
    omega
  · omega
theorem is_plain {k n : Int} {m : Nat} (h : Fo.plain k n m = true) : (k = 1 ∧ 0 ≤ n ∧ n < 1073741824 ∧ m = 0) ∨ (n = 0 ∧ k = 2 ∧ m = 0) ∨ (n = 0 ∧ k = 3 ∧ m = 0) ∨ (n = 0 ∧ k = 4 ∧ m = 2) ∨ (n = 0 ∧ k = 5 ∧ 2 ≤ m ∧ m ≤ 8) := by
  unfold Fo.plain at h
  by_cases k1 : k = 1
  · subst k1; simp at h; omega
  by_cases k2 : k = 2
  · subst k2; simp at h; omega
  by_cases k3 : k = 3
  · subst k3; simp at h; omega
  by_cases k4 : k = 4
  · subst k4; simp at h; omega
  by_cases k5 : k = 5
  · subst k5; simp at h; omega
  · simp [k1, k2, k3, k4, k5] at h
set_option maxRecDepth 100000 in
set_option maxHeartbeats 4000000 in
theorem refRight_any (k n : Int) (ps : Fo) : RRight k n ps := by
  refine Fo.ind' (T := RRight) ?_ k n ps
  intro k n ps ih w o len cap hs
  have HS := Lib.hid hs
  have IH := Lib.hid ih
  have HL := Lib.hid hs.1
  have hmx := hs.2.1
  unfold maxLen at hmx
  have HR : Hid (rightT k n ps = (Fo.plain k n len && ps.right)) := by show _ = _; unfold rightT; rw [hs.1]
  rw [HR.out]
  clear hs ih HR
  cases hp : Fo.plain k n len
  · simp only [Bool.false_and]
    have hw := not_plain hp
    clear hp HS IH HL
    unfold tyv
    rcases hw with ⟨rfl, h | h | h⟩ | ⟨h1, h2⟩ | ⟨rfl, rfl | rfl, h⟩ | ⟨rfl, rfl, h⟩ | ⟨rfl, rfl, h | h⟩ | ⟨rfl, h | h⟩
    · go_enter Tryd.func16, Tryd.ntmps16
      go_wp2_with fail
      all_goals
        go_ret
        exact ⟨rfl, Quiet0.alloc _ _⟩
    · go_enter Tryd.func16, Tryd.ntmps16
      go_wp2_with fail
      all_goals
        go_ret
        exact ⟨rfl, Quiet0.alloc _ _⟩
    · have h' : (0 : Int) < (len : Int) := by omega
      go_enter Tryd.func16, Tryd.ntmps16
      go_wp2_with fail
      all_goals
        go_ret
        exact ⟨rfl, Quiet0.alloc _ _⟩
    · have b1 : (k == 1) = false := by simpa using h1
      have b2 : (k != 1) = true := by simpa using h1
      have b3 : (n != 0) = true := by simpa using h2
      clear h1 h2
      go_enter Tryd.func16, Tryd.ntmps16
      go_wp2_with fail
      all_goals
        go_ret
        exact ⟨rfl, Quiet0.alloc _ _⟩
    · have h' : (0 : Int) < (len : Int) := by omega
      go_enter Tryd.func16, Tryd.ntmps16
      go_wp2_with fail
      all_goals
        go_ret
        exact ⟨rfl, Quiet0.alloc _ _⟩
    · have h' : (0 : Int) < (len : Int) := by omega
      go_enter Tryd.func16, Tryd.ntmps16
      go_wp2_with fail
      all_goals
        go_ret
        exact ⟨rfl, Quiet0.alloc _ _⟩
    · have h' : ((len : Int) != 2) = true := by simp; omega
      go_enter Tryd.func16, Tryd.ntmps16
      go_wp2_with fail
      all_goals
        go_ret
        exact ⟨rfl, Quiet0.alloc _ _⟩
    · have h' : (len : Int) < 2 := by omega
      go_enter Tryd.func16, Tryd.ntmps16
      go_wp2_with fail
      all_goals
        go_ret
        exact ⟨rfl, Quiet0.alloc _ _⟩
    · have h' : (8 : Int) < (len : Int) := by omega
      have h2 : ¬ (len : Int) < 2 := by omega
      go_enter Tryd.func16, Tryd.ntmps16
      go_wp2_with fail
      all_goals
        go_ret
        exact ⟨rfl, Quiet0.alloc _ _⟩
    · have b1 : (k == 1) = false := by simp; omega
      have b1' : (k != 1) = true := by simp; omega
      have b2 : (k == 2) = false := by simp; omega
      have b3 : (k == 3) = false := by simp; omega
      have b4 : (k == 4) = false := by simp; omega
      have b5 : (k == 5) = false := by simp; omega
      go_enter Tryd.func16, Tryd.ntmps16
      go_wp2_with fail
      all_goals
        go_ret
        exact ⟨rfl, Quiet0.alloc _ _⟩
    · have b1 : (k == 1) = false := by simp; omega
      have b1' : (k != 1) = true := by simp; omega
      have b2 : (k == 2) = false := by simp; omega
      have b3 : (k == 3) = false := by simp; omega
      have b4 : (k == 4) = false := by simp; omega
      have b5 : (k == 5) = false := by simp; omega
      have h' : ¬ k < 1 := by omega
      go_enter Tryd.func16, Tryd.ntmps16
      go_wp2_with fail
      all_goals
        go_ret
        exact ⟨rfl, Quiet0.alloc _ _⟩
  · simp only [Bool.true_and]
    obtain ⟨res, hres⟩ : ∃ res, res = ps.right := ⟨_, rfl⟩
    have HRES := Lib.hid hres
    rw [← hres]
    have hw := is_plain hp
    clear hp hres
    rcases hw with ⟨rfl, h1, h2, h3⟩ | ⟨rfl, rfl, h3⟩ | ⟨rfl, rfl, h3⟩ | ⟨rfl, rfl, h3⟩ | ⟨rfl, rfl, h3, h4⟩
    · have h3' : ¬ (0 : Int) < (len : Int) := by omega
      clear h3
      unfold tyv
      obtain ⟨W0, hW0⟩ : ∃ W0, W0 = w.alloc (.cells #[.int .i64 1, .int .i64 n, .slice o len cap] 24) := ⟨_, rfl⟩
      have HB : Hid (∀ W, Quiet0 W0 W → W.cell? ⟨w.heap.size, 2, none⟩ = some (.slice o len cap)) := by
        intro W hq; rw [hW0] at hq; exact (box_cells w _ _ o len cap _ W hq).2.2
      have HQ0 : Hid (Quiet0 w W0) := by rw [hW0]; exact Quiet0.alloc _ _
      go_enter Tryd.func16, Tryd.ntmps16
      go_wp2_with fail
      change Code.wp _ _ _ _ (w.alloc (.cells #[.int .i64 1, .int .i64 n, .slice o len cap] 24))
      rw [← hW0]
      clear hW0
      generalize w.heap.size = nb at *
      go_loopw [4] (fun t wr => ∃ i : Nat, t = .int .i64 i ∧ i ≤ len ∧ res = (ps.drop i).right ∧ Quiet0 W0 wr) (fun t _ => len - (intOf t).toNat)
      case atStart => exact ⟨0, rfl, Nat.zero_le _, by rw [Fo.drop_zero]; exact HRES.out, Quiet0.refl _⟩
      case round =>
        obtain ⟨i, rfl, hi, hr, hq⟩ := hrel
        have HRR := Lib.hid hr
        have HQ := Lib.hid hq
        have c2 := HB.out wr hq
        clear hr hq
        by_cases hlt : i < len
        · exact absurd hlt (by omega)
        · have hlt' : ¬ (i : Int) < len := by omega
          go_wp2_with fail
          go_ret
          exact ⟨by rw [HRR.out, Fo.drop_end ps i (by have := HL.out; omega)]; rfl, HQ0.out.trans HQ.out⟩
    · have h3' : ¬ (0 : Int) < (len : Int) := by omega
      clear h3
      unfold tyv
      obtain ⟨W0, hW0⟩ : ∃ W0, W0 = w.alloc (.cells #[.int .i64 2, .int .i64 0, .slice o len cap] 24) := ⟨_, rfl⟩
      have HB : Hid (∀ W, Quiet0 W0 W → W.cell? ⟨w.heap.size, 2, none⟩ = some (.slice o len cap)) := by
        intro W hq; rw [hW0] at hq; exact (box_cells w _ _ o len cap _ W hq).2.2
      have HQ0 : Hid (Quiet0 w W0) := by rw [hW0]; exact Quiet0.alloc _ _
      go_enter Tryd.func16, Tryd.ntmps16
      go_wp2_with fail
      change Code.wp _ _ _ _ (w.alloc (.cells #[.int .i64 2, .int .i64 0, .slice o len cap] 24))
      rw [← hW0]
      clear hW0
      generalize w.heap.size = nb at *
      go_loopw [4] (fun t wr => ∃ i : Nat, t = .int .i64 i ∧ i ≤ len ∧ res = (ps.drop i).right ∧ Quiet0 W0 wr) (fun t _ => len - (intOf t).toNat)
      case atStart => exact ⟨0, rfl, Nat.zero_le _, by rw [Fo.drop_zero]; exact HRES.out, Quiet0.refl _⟩
      case round =>
        obtain ⟨i, rfl, hi, hr, hq⟩ := hrel
        have HRR := Lib.hid hr
        have HQ := Lib.hid hq
        have c2 := HB.out wr hq
        clear hr hq
        by_cases hlt : i < len
        · exact absurd hlt (by omega)
        · have hlt' : ¬ (i : Int) < len := by omega
          go_wp2_with fail
          go_ret
          exact ⟨by rw [HRR.out, Fo.drop_end ps i (by have := HL.out; omega)]; rfl, HQ0.out.trans HQ.out⟩
    · have h3' : ¬ (0 : Int) < (len : Int) := by omega
      clear h3
      unfold tyv
      obtain ⟨W0, hW0⟩ : ∃ W0, W0 = w.alloc (.cells #[.int .i64 3, .int .i64 0, .slice o len cap] 24) := ⟨_, rfl⟩
      have HB : Hid (∀ W, Quiet0 W0 W → W.cell? ⟨w.heap.size, 2, none⟩ = some (.slice o len cap)) := by
        intro W hq; rw [hW0] at hq; exact (box_cells w _ _ o len cap _ W hq).2.2
      have HQ0 : Hid (Quiet0 w W0) := by rw [hW0]; exact Quiet0.alloc _ _
      go_enter Tryd.func16, Tryd.ntmps16
      go_wp2_with fail
      change Code.wp _ _ _ _ (w.alloc (.cells #[.int .i64 3, .int .i64 0, .slice o len cap] 24))
      rw [← hW0]
      clear hW0
      generalize w.heap.size = nb at *
      go_loopw [4] (fun t wr => ∃ i : Nat, t = .int .i64 i ∧ i ≤ len ∧ res = (ps.drop i).right ∧ Quiet0 W0 wr) (fun t _ => len - (intOf t).toNat)
      case atStart => exact ⟨0, rfl, Nat.zero_le _, by rw [Fo.drop_zero]; exact HRES.out, Quiet0.refl _⟩
      case round =>
        obtain ⟨i, rfl, hi, hr, hq⟩ := hrel
        have HRR := Lib.hid hr
        have HQ := Lib.hid hq
        have c2 := HB.out wr hq
        clear hr hq
        by_cases hlt : i < len
        · exact absurd hlt (by omega)
        · have hlt' : ¬ (i : Int) < len := by omega
          go_wp2_with fail
          go_ret
          exact ⟨by rw [HRR.out, Fo.drop_end ps i (by have := HL.out; omega)]; rfl, HQ0.out.trans HQ.out⟩
    · have h3' : ((len : Int) != 2) = false := by simp; omega
      clear h3
      unfold tyv
      obtain ⟨W0, hW0⟩ : ∃ W0, W0 = w.alloc (.cells #[.int .i64 4, .int .i64 0, .slice o len cap] 24) := ⟨_, rfl⟩
      have HB : Hid (∀ W, Quiet0 W0 W → W.cell? ⟨w.heap.size, 2, none⟩ = some (.slice o len cap)) := by
        intro W hq; rw [hW0] at hq; exact (box_cells w _ _ o len cap _ W hq).2.2
      have HQ0 : Hid (Quiet0 w W0) := by rw [hW0]; exact Quiet0.alloc _ _
      go_enter Tryd.func16, Tryd.ntmps16
      go_wp2_with fail
      change Code.wp _ _ _ _ (w.alloc (.cells #[.int .i64 4, .int .i64 0, .slice o len cap] 24))
      rw [← hW0]
      clear hW0
      generalize w.heap.size = nb at *
      go_loopw [4] (fun t wr => ∃ i : Nat, t = .int .i64 i ∧ i ≤ len ∧ res = (ps.drop i).right ∧ Quiet0 W0 wr) (fun t _ => len - (intOf t).toNat)
      case atStart => exact ⟨0, rfl, Nat.zero_le _, by rw [Fo.drop_zero]; exact HRES.out, Quiet0.refl _⟩
      case round =>
        obtain ⟨i, rfl, hi, hr, hq⟩ := hrel
        have HRR := Lib.hid hr
        have HQ := Lib.hid hq
        have c2 := HB.out wr hq
        clear hr hq
        by_cases hlt : i < len
        · have hlt' : (i : Int) < len := by omega
          obtain ⟨b, off, k1, n1, qs, o1, len1, cap1, rfl, hd, hg, e0, e1, e2, hs1⟩ := (HS.out.stay (HQ0.out.trans HQ.out)).nth hlt
          have HD := Lib.hid hd
          have HC := Lib.hid (IH.out i k1 n1 qs hg wr o1 len1 cap1 hs1)
          unfold tyv at HC
          clear hd hg hs1
          cases hb : rightT k1 n1 qs
          all_goals
            have HBV := Lib.hid hb
            rw [hb] at HC
            clear hb
            go_wp2_with fail
            refine HC.out.mono ?_; rintro e w1 ⟨rfl, hq1⟩
            have HQ1 := Lib.hid (HQ.out.trans hq1)
            clear hq1
            go_wp2_with fail
          · go_ret
            exact ⟨by rw [HRR.out, HD.out, right_cons, HBV.out]; rfl, HQ0.out.trans HQ1.out⟩
          · go_roundw
            case rel => exact ⟨i + 1, by go_num, by omega, by rw [HRR.out, HD.out, right_cons, HBV.out]; rfl, HQ1.out⟩
            case measure => simp [intOf]; omega
        · have hlt' : ¬ (i : Int) < len := by omega
          go_wp2_with fail
          go_ret
          exact ⟨by rw [HRR.out, Fo.drop_end ps i (by have := HL.out; omega)]; rfl, HQ0.out.trans HQ.out⟩
    · have h3' : ¬ (len : Int) < 2 := by omega
      have h4' : ¬ (8 : Int) < (len : Int) := by omega
      unfold tyv
      obtain ⟨W0, hW0⟩ : ∃ W0, W0 = w.alloc (.cells #[.int .i64 5, .int .i64 0, .slice o len cap] 24) := ⟨_, rfl⟩
      have HB : Hid (∀ W, Quiet0 W0 W → W.cell? ⟨w.heap.size, 2, none⟩ = some (.slice o len cap)) := by
        intro W hq; rw [hW0] at hq; exact (box_cells w _ _ o len cap _ W hq).2.2
      have HQ0 : Hid (Quiet0 w W0) := by rw [hW0]; exact Quiet0.alloc _ _
      go_enter Tryd.func16, Tryd.ntmps16
      go_wp2_with fail
      change Code.wp _ _ _ _ (w.alloc (.cells #[.int .i64 5, .int .i64 0, .slice o len cap] 24))
      rw [← hW0]
      clear hW0
      generalize w.heap.size = nb at *
      go_loopw [4] (fun t wr => ∃ i : Nat, t = .int .i64 i ∧ i ≤ len ∧ res = (ps.drop i).right ∧ Quiet0 W0 wr) (fun t _ => len - (intOf t).toNat)
      case atStart => exact ⟨0, rfl, Nat.zero_le _, by rw [Fo.drop_zero]; exact HRES.out, Quiet0.refl _⟩
      case round =>
        obtain ⟨i, rfl, hi, hr, hq⟩ := hrel
        have HRR := Lib.hid hr
        have HQ := Lib.hid hq
        have c2 := HB.out wr hq
        clear hr hq
        by_cases hlt : i < len
        · have hlt' : (i : Int) < len := by omega
          obtain ⟨b, off, k1, n1, qs, o1, len1, cap1, rfl, hd, hg, e0, e1, e2, hs1⟩ := (HS.out.stay (HQ0.out.trans HQ.out)).nth hlt
          have HD := Lib.hid hd
          have HC := Lib.hid (IH.out i k1 n1 qs hg wr o1 len1 cap1 hs1)
          unfold tyv at HC
          clear hd hg hs1
          cases hb : rightT k1 n1 qs
          all_goals
            have HBV := Lib.hid hb
            rw [hb] at HC
            clear hb
            go_wp2_with fail
            refine HC.out.mono ?_; rintro e w1 ⟨rfl, hq1⟩
            have HQ1 := Lib.hid (HQ.out.trans hq1)
            clear hq1
            go_wp2_with fail
          · go_ret
            exact ⟨by rw [HRR.out, HD.out, right_cons, HBV.out]; rfl, HQ0.out.trans HQ1.out⟩
          · go_roundw
            case rel => exact ⟨i + 1, by go_num, by omega, by rw [HRR.out, HD.out, right_cons, HBV.out]; rfl, HQ1.out⟩
            case measure => simp [intOf]; omega
        · have hlt' : ¬ (i : Int) < len := by omega
          go_wp2_with fail
          go_ret
          exact ⟨by rw [HRR.out, Fo.drop_end ps i (by have := HL.out; omega)]; rfl, HQ0.out.trans HQ.out⟩
end Go.Proofs.YtggidhgifaekbaaDoor
/-
  each: a type, and all that it is made of, handed to a function; with it Size and Has. Conditions: the types lie in memory as told; there are few of them.
-/
namespace Go.Proofs.YtggidhgifaekbaaDoor
open Go.RowKit Go.Shelf

def foldF {σ : Type} (step : σ → Int → Int → Fo → σ) : σ → Fo → σ
  | s, .nil => s
  | s, .cons k n ps r => foldF step (foldF step (step s k n ps) ps) r
/-- what a function that is handed to each does: m types have come, the state is s -/
structure EachK (g : Nat) (lb : Array Value) (N : Nat) (w0 : World) (G : Int → Prop) (S : World → Nat → Prop) {σ : Type} (step : σ → Int → Int → Fo → σ) (J : Nat → σ → World → Prop) : Prop where
  quiet : ∀ m s W, J m s W → Quiet0 w0 W
  alloc : ∀ m s W o, J m s W → J m s (W.alloc o)
  low : ∀ m s W, J m s W → ∀ k, S W k → k < W.heap.size
  back : ∀ m s W o k, J m s W → S (W.alloc o) k → S W k
  call : ∀ m s k n ps (W : World) (o : Option Addr) (len cap : Nat), m < N → J m s W → Slc w0 o len ps → G n →
    Calls Tryd.prog g (#[tyv k n o len cap] ++ lb) W fun e W' => e = .returned (.tuple #[]) ∧ J (m + 1) (step s k n ps) W' ∧ Fr (S W) W W'

section
variable {g : Nat} {lb : Array Value} {N : Nat} {w0 : World} {G : Int → Prop} {S : World → Nat → Prop} {σ : Type} {step : σ → Int → Int → Fo → σ} {J : Nat → σ → World → Prop}
def TEach (g : Nat) (lb : Array Value) (N : Nat) (w0 : World) (G : Int → Prop) {σ : Type} (step : σ → Int → Int → Fo → σ) (J : Nat → σ → World → Prop) (k n : Int) (ps : Fo) : Prop :=
  ∀ (m : Nat) (s : σ) (w : World) (o : Option Addr) (len cap : Nat), J m s w → Slc w0 o len ps → m + (ps.size + 1) ≤ N → G n → allF G ps →
    Calls Tryd.prog 81 #[tyv k n o len cap, .func (.func g) #[] lb] w fun e w' => e = .returned (.tuple #[]) ∧ J (m + (ps.size + 1)) (foldF step (step s k n ps) ps) w'
set_option maxHeartbeats 2000000 in
theorem each_any (eg : ∀ args w, (callFunc g args).run Tryd.prog w = .ok (.enter g args) w) (hK : EachK g lb N w0 G S step J) (k n : Int) (ps : Fo) : TEach g lb N w0 G step J k n ps := by
  refine Fo.ind' (T := TEach g lb N w0 G step J) ?_ k n ps
  intro k n ps ih m s w o len cap hJ hs hN hgn hgp
  have HGP := Lib.hid hgp
  have HS := Lib.hid hs
  have IH := Lib.hid ih
  have HL := Lib.hid hs.1
  have hmx := hs.2.1
  unfold maxLen at hmx
  have HK := Lib.hid hK
  have HJ := Lib.hid (hK.alloc m s w (.cells #[.int .i64 k, .int .i64 n, .slice o len cap] 24) hJ)
  have HLOW := Lib.hid (hK.low m s w hJ)
  have HBACK := Lib.hid (fun j => hK.back m s w (.cells #[.int .i64 k, .int .i64 n, .slice o len cap] 24) j hJ)
  have HC := Lib.hid (hK.call m s k n ps _ o len cap (by omega) HJ.out hs hgn)
  clear hs ih hJ hK hgn hgp
  unfold tyv at HC ⊢
  go_enter Tryd.func81, Tryd.ntmps81
  go_wp2_with fail
  refine HC.out.mono ?_; rintro e w1 ⟨rfl, hj1, hf1⟩
  have HJ1 := Lib.hid hj1
  have c2 : w1.cell? ⟨w.heap.size, 2, none⟩ = some (.slice o len cap) := by
    rw [hf1.cellb (by simp) (fun h => absurd (HLOW.out _ (HBACK.out _ h)) (Nat.lt_irrefl _)), cell_of_row _ _ _ _ _ (0, 0) (heap_alloc_new w _)]; rfl
  clear hj1 hf1
  go_wp2_with fail
  clear c2
  go_loopw [12] (fun t wr => ∃ (i m' : Nat) (s' : σ), t = .int .i64 i ∧ i ≤ len ∧ m' + (ps.drop i).size = m + (ps.size + 1) ∧ foldF step s' (ps.drop i) = foldF step (step s k n ps) ps ∧ J m' s' wr) (fun t _ => len - (intOf t).toNat)
  case atStart => exact ⟨0, m + 1, _, rfl, Nat.zero_le _, by rw [Fo.drop_zero]; omega, by rw [Fo.drop_zero], HJ1.out⟩
  case round =>
    obtain ⟨i, m', s', rfl, hi, hm, hfo, hj⟩ := hrel
    have HM := Lib.hid hm
    have HFO := Lib.hid hfo
    have HJJ := Lib.hid hj
    clear hm hfo hj
    by_cases hlt : i < len
    · have hlt' : (i : Int) < len := by omega
      have HQ := Lib.hid (HK.out.quiet _ _ _ HJJ.out)
      obtain ⟨b, off, k1, n1, qs, o1, len1, cap1, rfl, hd, hg, e0, e1, e2, hs1⟩ := (HS.out.stay HQ.out).nth hlt
      obtain ⟨_, _, _, _, _, _, _, _, ho, hd', hg', _, _, f2, hs0⟩ := HS.out.nth hlt
      have HD := Lib.hid hd
      rw [hg] at hg'
      cases hg'
      cases ho
      have f2' := HQ.out.at f2
      rw [e2] at f2'
      cases f2'
      have HC1 := Lib.hid (IH.out i k1 n1 qs hg m' s' _ o1 len1 cap1 (HK.out.alloc m' s' wr (.cells #[.int .i64 k1, .int .i64 n1, .slice o1 len1 cap1] 24) HJJ.out) hs0 (by
        have := HM.out; rw [hd] at this; simp only [Fo.size] at this; omega) (allF_get ps i k1 n1 qs HGP.out hg).1 (allF_get ps i k1 n1 qs HGP.out hg).2)
      have HM2 : Hid (m' + (qs.size + 1) + (ps.drop (i + 1)).size = m + (ps.size + 1)) := by
        have := HM.out; rw [hd] at this; simp only [Fo.size] at this; show _ = _; omega
      have HFO2 : Hid (foldF step (foldF step (step s' k1 n1 qs) qs) (ps.drop (i + 1)) = foldF step (step s k n ps) ps) := by
        show _ = _
        rw [← HFO.out, hd]; rfl
      unfold tyv at HC1
      clear hd hg hs1 hd' f2 hs0
      go_wp2_with fail
      refine HC1.out.mono ?_; rintro e w2 ⟨rfl, hj2⟩
      have HJ2 := Lib.hid hj2
      clear hj2
      go_wp2_with fail
      go_roundw
      case rel => exact ⟨i + 1, m' + (qs.size + 1), _, by go_num, by omega, HM2.out, HFO2.out, HJ2.out⟩
      case measure => simp [intOf]; omega
    · have hlt' : ¬ (i : Int) < len := by omega
      have HE : Hid (J (m + (ps.size + 1)) (foldF step (step s k n ps) ps) wr) := by
        have h1 := HM.out
        have h2 := HFO.out
        rw [Fo.drop_end ps i (by have := HL.out; omega)] at h1 h2
        simp only [Fo.size, Nat.add_zero, foldF] at h1 h2
        show J _ _ _
        rw [← h1, ← h2]; exact HJJ.out
      go_wp2_with fail
      go_end0
      exact ⟨rfl, HE.out⟩
end
end Go.Proofs.YtggidhgifaekbaaDoor
/-
  The program's Size, Has and Depth. Conditions: the types lie in memory as told; there are few of them.
-/
namespace Go.Proofs.YtggidhgifaekbaaDoor
open Go.RowKit Go.Shelf

/-- a captured variable -/
def Box1 (w : World) (c : Nat) (v : Value) (t : TypeId) : Prop := w.heap[c]? = some (.cells #[v] t (0, 0))
theorem Box1.alloc {w : World} {c : Nat} {v : Value} {t : TypeId} (h : Box1 w c v t) (o : Obj) : Box1 (w.alloc o) c v t := by
  unfold Box1 at *
  rw [Below.heap_alloc _ _ _ (lt_of_block h)]; exact h
theorem Box1.new (w : World) (v : Value) (t : TypeId) : Box1 (w.alloc (.cells #[v] t)) w.heap.size v t := heap_alloc_new w _
theorem Quiet0.setCell_new {w0 w : World} (h : Quiet0 w0 w) {p : Addr} (hp : w0.heap.size ≤ p.block) (u : Value) : Quiet0 w0 (w.setCell p u) :=
  Fr.trans' h (Fr.setCell (fun k => k = p.block) w p u rfl) (fun i hi e => by omega)
def SizeJ (w0 : World) (c : Nat) (m : Nat) (_ : Unit) (W : World) : Prop := Box1 W c (.int .i64 (m : Nat)) 3 ∧ Quiet0 w0 W
set_option maxHeartbeats 1000000 in
theorem size1_any (w0 : World) (c : Nat) (hc : w0.heap.size ≤ c) : EachK 92 #[.pointer (some ⟨c, 0, none⟩)] 10000000 w0 (fun _ => True) (fun _ k => k = c) (fun _ _ _ _ => ()) (SizeJ w0 c) where
  quiet := fun m s W h => h.2
  alloc := fun m s W o h => ⟨h.1.alloc o, h.2.trans (Quiet0.alloc _ _)⟩
  low := fun m s W h k hk => by subst hk; exact lt_of_block h.1
  back := fun m s W o k h hk => hk
  call := by
    intro m s k n ps W o len cap hm hJ hs _
    have HJ := Lib.hid hJ
    have hb := hJ.1.alloc (.cells #[.int .i64 k, .int .i64 n, .slice o len cap] 24)
    have c1 := cell_of_one hb
    have z1 := free_of_one hb
    have HB := Lib.hid hb
    have hcl := lt_of_block hJ.1
    have HEND : Hid (∀ u : Value, u = .int .i64 ((m + 1 : Nat) : Int) → (SizeJ w0 c (m + 1) () ((W.setCell ⟨c, 0, none⟩ u).alloc (.cells #[.int .i64 k, .int .i64 n, .slice o len cap] 24)) ∧ Fr (fun k => k = c) W ((W.setCell ⟨c, 0, none⟩ u).alloc (.cells #[.int .i64 k, .int .i64 n, .slice o len cap] 24)))) := by
      rintro u rfl
      exact ⟨⟨Box1.alloc (one_setCell HJ.out.1) _, (HJ.out.2.setCell_new (p := ⟨c, 0, none⟩) hc _).trans (Quiet0.alloc _ _)⟩, (Fr.setCell (fun k => k = c) W ⟨c, 0, none⟩ _ rfl).trans (Fr.alloc _ _ _)⟩
    clear hJ hs hb
    unfold tyv
    go_enter Tryd.func92, Tryd.ntmps92
    go_wp2_with fail
    go_end0
    exact ⟨rfl, HEND.out _ (by go_num)⟩
theorem eg_size : ∀ args w, (callFunc 92 args).run Tryd.prog w = .ok (.enter 92 args) w := enters_of Tryd.func92 (by kernel_rfl) rfl
set_option maxHeartbeats 1000000 in
theorem size_any (k n : Int) (ps : Fo) (w : World) (o : Option Addr) (len cap : Nat) (hs : Slc w o len ps) (hsz : ps.size ≤ 1000000) :
    Calls Tryd.prog 45 #[tyv k n o len cap] w fun e w' => e = .returned (.int .i64 ((ps.size + 1 : Nat) : Int)) ∧ Quiet0 w w' := by
  obtain ⟨c, hc⟩ : ∃ c, c = w.heap.size + 1 := ⟨_, rfl⟩
  have HE := Lib.hid (each_any eg_size (size1_any w c (by omega)) k n ps 0 () ((w.alloc (.cells #[.int .i64 k, .int .i64 n, .slice o len cap] 24)).alloc (.cells #[.int .i64 0] 3)) o len cap ⟨by
      have := Box1.new (w.alloc (.cells #[.int .i64 k, .int .i64 n, .slice o len cap] 24)) (.int .i64 0) 3
      have e : (w.alloc (.cells #[.int .i64 k, .int .i64 n, .slice o len cap] 24)).heap.size = c := by rw [hc]; simp
      rw [e] at this; exact this, (Quiet0.alloc _ _).trans (Quiet0.alloc _ _)⟩ hs (by omega) trivial (allF_true (fun _ => trivial) ps))
  rw [Nat.zero_add] at HE
  rw [hc] at HE
  clear hs hc
  unfold tyv at *
  go_enter Tryd.func45, Tryd.ntmps45
  go_wp2_with fail
  refine HE.out.mono ?_; rintro e w1 ⟨rfl, hj⟩
  have c1 := cell_of_one hj.1
  have HJ := Lib.hid hj
  clear hj
  go_wp2_with fail
  go_ret
  exact ⟨rfl, HJ.out.2⟩

/-- types.Has -/
def hasStep (v : Int) (s : Bool) (k n : Int) (_ : Fo) : Bool := s || ((k == 1) && (n == v))
def HasJ (w0 : World) (c d : Nat) (v : Int) (_ : Nat) (s : Bool) (W : World) : Prop := Box1 W c (.bool s) 4 ∧ Box1 W d (.int .i64 v) 3 ∧ Quiet0 w0 W
set_option maxHeartbeats 1000000 in
theorem has1_any (w0 : World) (c d : Nat) (v : Int) (hc : w0.heap.size ≤ c) (hcd : c ≠ d) : EachK 93 #[.pointer (some ⟨c, 0, none⟩), .pointer (some ⟨d, 0, none⟩)] 10000000 w0 (fun _ => True) (fun _ k => k = c) (hasStep v) (HasJ w0 c d v) where
  quiet := fun m s W h => h.2.2
  alloc := fun m s W o h => ⟨h.1.alloc o, h.2.1.alloc o, h.2.2.trans (Quiet0.alloc _ _)⟩
  low := fun m s W h k hk => by subst hk; exact lt_of_block h.1
  back := fun m s W o k h hk => hk
  call := by
    intro m s k n ps W o len cap hm hJ hs _
    have HJ := Lib.hid hJ
    have hb := hJ.1.alloc (.cells #[.int .i64 k, .int .i64 n, .slice o len cap] 24)
    have hd := hJ.2.1.alloc (.cells #[.int .i64 k, .int .i64 n, .slice o len cap] 24)
    have c1 := cell_of_one hb
    have z1 := free_of_one hb
    have d1 := cell_of_one hd
    have HB := Lib.hid hb
    have HD := Lib.hid hd
    have hcl := lt_of_block hJ.1
    have hdl := lt_of_block hJ.2.1
    have HEND : Hid (∀ u : Value, u = .bool (hasStep v s k n ps) → (HasJ w0 c d v (m + 1) (hasStep v s k n ps) ((W.setCell ⟨c, 0, none⟩ u).alloc (.cells #[.int .i64 k, .int .i64 n, .slice o len cap] 24)) ∧ Fr (fun k => k = c) W ((W.setCell ⟨c, 0, none⟩ u).alloc (.cells #[.int .i64 k, .int .i64 n, .slice o len cap] 24)))) := by
      rintro u rfl
      refine ⟨⟨Box1.alloc (one_setCell HJ.out.1) _, ?_, (HJ.out.2.2.setCell_new (p := ⟨c, 0, none⟩) hc _).trans (Quiet0.alloc _ _)⟩, (Fr.setCell (fun k => k = c) W ⟨c, 0, none⟩ _ rfl).trans (Fr.alloc _ _ _)⟩
      refine Box1.alloc ?_ _
      have := HJ.out.2.1
      unfold Box1 at *
      rw [Below.heap_setCell _ _ _ _ (fun e => hcd e.symm)]; exact this
    clear hJ hs hb hd
    unfold tyv
    cases s
    · cases hk : (k == 1)
      · go_enter Tryd.func93, Tryd.ntmps93
        go_wp2_with fail
        go_end0
        exact ⟨rfl, HEND.out _ (by simp [hasStep, hk])⟩
      · go_enter Tryd.func93, Tryd.ntmps93
        go_wp2_with fail
        go_end0
        exact ⟨rfl, HEND.out _ (by simp [hasStep, hk])⟩
    · go_enter Tryd.func93, Tryd.ntmps93
      go_wp2_with fail
      go_end0
      exact ⟨rfl, HEND.out _ (by simp [hasStep])⟩
theorem eg_has : ∀ args w, (callFunc 93 args).run Tryd.prog w = .ok (.enter 93 args) w := enters_of Tryd.func93 (by kernel_rfl) rfl
def hasT (v k n : Int) (ps : Fo) : Bool := foldF (hasStep v) (hasStep v false k n ps) ps
set_option maxHeartbeats 1000000 in
theorem has_any (k n v : Int) (ps : Fo) (w : World) (o : Option Addr) (len cap : Nat) (hs : Slc w o len ps) (hsz : ps.size ≤ 1000000) :
    Calls Tryd.prog 50 #[tyv k n o len cap, .int .i64 v] w fun e w' => e = .returned (.bool (hasT v k n ps)) ∧ Quiet0 w w' := by
  obtain ⟨c, hc⟩ : ∃ c, c = w.heap.size + 1 + 1 := ⟨_, rfl⟩
  obtain ⟨d, hd⟩ : ∃ d, d = w.heap.size + 1 := ⟨_, rfl⟩
  have HE := Lib.hid (each_any eg_has (has1_any w c d v (by omega) (by omega)) k n ps 0 false (((w.alloc (.cells #[.int .i64 k, .int .i64 n, .slice o len cap] 24)).alloc (.cells #[.int .i64 v] 3)).alloc (.cells #[.bool false] 4)) o len cap ⟨by
      have := Box1.new ((w.alloc (.cells #[.int .i64 k, .int .i64 n, .slice o len cap] 24)).alloc (.cells #[.int .i64 v] 3)) (.bool false) 4
      have e : ((w.alloc (.cells #[.int .i64 k, .int .i64 n, .slice o len cap] 24)).alloc (.cells #[.int .i64 v] 3)).heap.size = c := by rw [hc]; simp
      rw [e] at this; exact this, by
      have := (Box1.new (w.alloc (.cells #[.int .i64 k, .int .i64 n, .slice o len cap] 24)) (.int .i64 v) 3).alloc (.cells #[.bool false] 4)
      have e : (w.alloc (.cells #[.int .i64 k, .int .i64 n, .slice o len cap] 24)).heap.size = d := by rw [hd]; simp
      rw [e] at this; exact this, ((Quiet0.alloc _ _).trans (Quiet0.alloc _ _)).trans (Quiet0.alloc _ _)⟩ hs (by omega) trivial (allF_true (fun _ => trivial) ps))
  rw [Nat.zero_add] at HE
  rw [hc, hd] at HE
  unfold hasT
  clear hs hc hd
  generalize foldF (hasStep v) (hasStep v false k n ps) ps = r at *
  unfold tyv at *
  go_enter Tryd.func50, Tryd.ntmps50
  go_wp2_with fail
  refine HE.out.mono ?_; rintro e w1 ⟨rfl, hj⟩
  have c1 := cell_of_one hj.1
  have HJ := Lib.hid hj
  clear hj
  go_wp2_with fail
  go_ret
  exact ⟨rfl, HJ.out.2.2⟩

/-- types.Depth -/
def TDepth (k n : Int) (ps : Fo) : Prop := ∀ (w : World) (o : Option Addr) (len cap : Nat), Slc w o len ps → ps.size ≤ 1000000 →
  Calls Tryd.prog 47 #[tyv k n o len cap] w fun e w' => e = .returned (.int .i64 ((ps.depth + 1 : Nat) : Int)) ∧ Quiet0 w w'
set_option maxHeartbeats 1000000 in
theorem depth_any (k n : Int) (ps : Fo) : TDepth k n ps := by
  refine Fo.ind' (T := TDepth) ?_ k n ps
  intro k n ps ih w o len cap hs hsz
  have HS := Lib.hid hs
  have IH := Lib.hid ih
  have hl := hs.1
  have hll := Fo.length_le ps
  rw [← hl] at hll
  have HL := Lib.hid hl
  have hdp := Fo.depth_le ps
  clear hs ih hl
  unfold tyv
  go_enter Tryd.func47, Tryd.ntmps47
  go_wp2_with fail
  obtain ⟨W0, hW0⟩ : ∃ W0, W0 = w.alloc (.cells #[.int .i64 k, .int .i64 n, .slice o len cap] 24) := ⟨_, rfl⟩
  have HB0 : Hid (∀ W, Quiet0 W0 W → W.cell? ⟨w.heap.size, 0, none⟩ = some (.int .i64 k)) := by
    intro W hq; rw [hW0] at hq; exact (box_cells w k n o len cap _ W hq).1
  have HB1 : Hid (∀ W, Quiet0 W0 W → W.cell? ⟨w.heap.size, 1, none⟩ = some (.int .i64 n)) := by
    intro W hq; rw [hW0] at hq; exact (box_cells w k n o len cap _ W hq).2.1
  have HB : Hid (∀ W, Quiet0 W0 W → W.cell? ⟨w.heap.size, 2, none⟩ = some (.slice o len cap)) := by
    intro W hq; rw [hW0] at hq; exact (box_cells w k n o len cap _ W hq).2.2
  have HQ0 : Hid (Quiet0 w W0) := by rw [hW0]; exact Quiet0.alloc _ _
  change Code.wp _ _ _ _ (w.alloc (.cells #[.int .i64 k, .int .i64 n, .slice o len cap] 24))
  rw [← hW0]
  clear hW0
  generalize w.heap.size = nb at *
  go_loopw [3, 9] (fun s t wr => ∃ (i m : Nat), t = .int .i64 i ∧ s = .int .i64 m ∧ i ≤ len ∧ max m (ps.drop i).depth = ps.depth ∧ Quiet0 W0 wr) (fun _ t _ => len - (intOf t).toNat)
  case atStart => exact ⟨0, 0, rfl, rfl, Nat.zero_le _, by rw [Fo.drop_zero]; omega, Quiet0.refl _⟩
  case round =>
    obtain ⟨i, m, rfl, rfl, hi, hm, hq⟩ := hrel
    have HM := Lib.hid hm
    have HQ := Lib.hid hq
    have hmb : m ≤ 1000001 := by omega
    clear hm hq
    by_cases hlt : i < len
    · have hlt' : (i : Int) < len := by omega
      obtain ⟨b, off, k', n', qs, o', len', cap', rfl, hd, hg, e0, e1, e2, hs'⟩ := (HS.out.stay (HQ0.out.trans HQ.out)).nth hlt
      have hsq := Fo.size_get ps i k' n' qs hg
      have hqd := Fo.depth_le qs
      have hqs : qs.depth ≤ 1000001 := by omega
      have HC := Lib.hid (IH.out i k' n' qs hg (wr.alloc (.cells #[.int .i64 k', .int .i64 n', .slice o' len' cap'] 24)) o' len' cap' (hs'.stay (Quiet0.alloc _ _)) (by omega))
      have HD : Hid (max (max m (qs.depth + 1)) (ps.drop (i + 1)).depth = ps.depth) := by
        have := HM.out; rw [hd] at this; simp only [Fo.depth] at this; show _ = _; omega
      unfold tyv at HC
      clear hd hg hs' hsq hqd
      go_wp2_with fail
      refine HC.out.mono ?_; rintro e w1 ⟨rfl, hq1⟩
      have HQ1 := Lib.hid ((HQ.out.trans (Quiet0.alloc _ _)).trans hq1)
      clear hq1
      by_cases hgt : m < qs.depth + 1
      · have hgt' : (m : Int) < (qs.depth : Int) + 1 := by omega
        go_wp2_with fail
        go_roundw
        case rel => exact ⟨i + 1, qs.depth + 1, by go_num, by first | rfl | go_num | (simp; omega), by omega, by have := HD.out; omega, HQ1.out⟩
        case measure => simp [intOf]; omega
      · have hgt' : ¬ (m : Int) < (qs.depth : Int) + 1 := by omega
        go_wp2_with fail
        go_roundw
        case rel => exact ⟨i + 1, m, by go_num, by first | rfl | go_num | (simp; omega), by omega, by have := HD.out; omega, HQ1.out⟩
        case measure => simp [intOf]; omega
    · have hlt' : ¬ (i : Int) < len := by omega
      go_wp2_with fail
      go_ret
      refine ⟨ret_int (a := ((m : Nat) : Int) + 1) ?_, HQ0.out.trans HQ.out⟩
      have := HM.out
      rw [Fo.drop_end ps i (by have := HL.out; omega)] at this
      simp only [Fo.depth] at this
      omega
end Go.Proofs.YtggidhgifaekbaaDoor
/-
  Types in memory, in blocks of which something is so; a row of them that a call owns. No condition.
-/
namespace Go.Proofs.YtggidhgifaekbaaDoor
open Go.RowKit

def AtIn (R : Nat → Prop) (w : World) : Nat → Nat → Fo → Prop
  | _, _, .nil => True
  | b, off, .cons k n ps r => R b ∧ w.cell? ⟨b, off, none⟩ = some (.int .i64 k) ∧ w.cell? ⟨b, off + 1, none⟩ = some (.int .i64 n) ∧
      (∃ o len cap, w.cell? ⟨b, off + 2, none⟩ = some (.slice o len cap) ∧ len = ps.length ∧ len ≤ maxLen ∧ (0 < len → ∃ b' off', o = some ⟨b', off', none⟩ ∧ AtIn R w b' off' ps)) ∧ AtIn R w b (off + 3) r
def SlcIn (R : Nat → Prop) (w : World) (o : Option Addr) (len : Nat) (f : Fo) : Prop := len = f.length ∧ len ≤ maxLen ∧ (0 < len → ∃ b off, o = some ⟨b, off, none⟩ ∧ AtIn R w b off f)
theorem AtIn.at {R : Nat → Prop} {w : World} : ∀ (f : Fo) (b off : Nat), AtIn R w b off f → At w b off f
  | .nil, _, _, _ => trivial
  | .cons k n ps r, b, off, h => by
    obtain ⟨_, h1, h2, ⟨o, len, cap, h3, h4, h4', h5⟩, h6⟩ := h
    refine ⟨h1, h2, ⟨o, len, cap, h3, h4, h4', fun hl => ?_⟩, AtIn.at r b (off + 3) h6⟩
    obtain ⟨b', off', ho, ha⟩ := h5 hl
    exact ⟨b', off', ho, AtIn.at ps b' off' ha⟩
theorem SlcIn.slc {R : Nat → Prop} {w : World} {o : Option Addr} {len : Nat} {f : Fo} (h : SlcIn R w o len f) : Slc w o len f := by
  refine ⟨h.1, h.2.1, fun hl => ?_⟩
  obtain ⟨b, off, ho, ha⟩ := h.2.2 hl
  exact ⟨b, off, ho, AtIn.at f b off ha⟩
theorem AtIn.fr {R T S : Nat → Prop} {w w' : World} (hf : Fr S w w') (hR : ∀ k, k < w.heap.size → R k → T k ∧ ¬ S k) : ∀ (f : Fo) (b off : Nat), AtIn R w b off f → AtIn T w' b off f
  | .nil, _, _, _ => trivial
  | .cons k n ps r, b, off, h => by
    obtain ⟨h0, h1, h2, ⟨o, len, cap, h3, h4, h4', h5⟩, h6⟩ := h
    have hb : b < w.heap.size := World.block_lt_of_cell? w _ h1
    obtain ⟨hT, hS⟩ := hR b hb h0
    refine ⟨hT, (hf.cellb hb hS).trans h1, (hf.cellb hb hS).trans h2, ⟨o, len, cap, (hf.cellb hb hS).trans h3, h4, h4', fun hl => ?_⟩, AtIn.fr hf hR r b (off + 3) h6⟩
    obtain ⟨b', off', ho, ha⟩ := h5 hl
    exact ⟨b', off', ho, AtIn.fr hf hR ps b' off' ha⟩
theorem SlcIn.fr {R T S : Nat → Prop} {w w' : World} {o : Option Addr} {len : Nat} {f : Fo} (h : SlcIn R w o len f) (hf : Fr S w w') (hR : ∀ k, k < w.heap.size → R k → T k ∧ ¬ S k) : SlcIn T w' o len f := by
  refine ⟨h.1, h.2.1, fun hl => ?_⟩
  obtain ⟨b, off, ho, ha⟩ := h.2.2 hl
  exact ⟨b, off, ho, AtIn.fr hf hR f b off ha⟩
theorem SlcIn.nil (R : Nat → Prop) (w : World) (o : Option Addr) : SlcIn R w o 0 .nil := ⟨rfl, Nat.zero_le _, fun h => absurd h (Nat.lt_irrefl _)⟩
/-- cells that are types -/
def RowOf (R : Nat → Prop) (w : World) : List Value → Fo → Prop
  | xs, .nil => xs = []
  | xs, .cons k n ps r => ∃ o len cap ys, xs = .int .i64 k :: .int .i64 n :: .slice o len cap :: ys ∧ SlcIn R w o len ps ∧ RowOf R w ys r
theorem RowOf.fr {R T S : Nat → Prop} {w w' : World} (hf : Fr S w w') (hR : ∀ k, k < w.heap.size → R k → T k ∧ ¬ S k) : ∀ (f : Fo) (xs : List Value), RowOf R w xs f → RowOf T w' xs f
  | .nil, _, h => h
  | .cons k n ps r, xs, h => by
    obtain ⟨o, len, cap, ys, rfl, hs, hr⟩ := h
    exact ⟨o, len, cap, ys, rfl, hs.fr hf hR, RowOf.fr hf hR r ys hr⟩
theorem RowOf.snoc {R : Nat → Prop} {w : World} {k n : Int} {ps : Fo} {o : Option Addr} {len cap : Nat} (hs : SlcIn R w o len ps) : ∀ (f : Fo) (xs : List Value), RowOf R w xs f → RowOf R w (xs ++ [.int .i64 k, .int .i64 n, .slice o len cap]) (f.app (.cons k n ps .nil))
  | .nil, xs, h => by
    cases h
    exact ⟨o, len, cap, [], rfl, hs, rfl⟩
  | .cons k' n' ps' r, xs, h => by
    obtain ⟨o', len', cap', ys, rfl, hs', hr⟩ := h
    exact ⟨o', len', cap', _, rfl, hs', RowOf.snoc hs r ys hr⟩
theorem RowOf.length {R : Nat → Prop} {w : World} : ∀ (f : Fo) (xs : List Value), RowOf R w xs f → xs.length = 3 * f.length
  | .nil, xs, h => by cases h; rfl
  | .cons k' n' ps' r, xs, h => by
    obtain ⟨o', len', cap', ys, rfl, hs', hr⟩ := h
    have := RowOf.length r ys hr
    simp [Fo.length]; omega
theorem RowOf.at {R : Nat → Prop} {w : World} {g : Nat} (hg : R g) : ∀ (f : Fo) (xs : List Value) (off : Nat), RowOf R w xs f → (∀ j u, xs[j]? = some u → w.cell? ⟨g, off + j, none⟩ = some u) → AtIn R w g off f
  | .nil, _, _, _, _ => trivial
  | .cons k n ps r, xs, off, h, hc => by
    obtain ⟨o, len, cap, ys, rfl, hs, hr⟩ := h
    refine ⟨hg, hc 0 _ rfl, hc 1 _ rfl, ⟨o, len, cap, hc 2 _ rfl, hs.1, hs.2.1, hs.2.2⟩, RowOf.at hg r ys (off + 3) hr ?_⟩
    intro j u hj
    have := hc (j + 3) u (by simpa using hj)
    rw [← this]; congr 2; omega
/-- a row of types of the call's own -/
structure TyRow (w : World) (B : Nat) (v : Value) (f : Fo) (xs : List Value) : Prop where
  own : w.ownsRow 0 24 3 v f.length xs
  low : ∀ k, v.ownBlock = some k → B ≤ k
  cells : RowOf (fun k => B ≤ k ∧ v.ownBlock ≠ some k) w xs f
theorem TyRow.nil (w : World) (B : Nat) : TyRow w B (.slice none 0 0) .nil [] := ⟨World.ownsRow_nil _ _ _ _, fun k hk => (by cases hk), rfl⟩
theorem TyRow.fr {w w' : World} {B : Nat} {v : Value} {f : Fo} {xs : List Value} {S : Nat → Prop} (h : TyRow w B v f xs) (hf : Fr S w w') (hS : ∀ k, S k → k < B) : TyRow w' B v f xs := by
  refine ⟨ownsRow_fr h.own hf (fun k hk hs => ?_), h.low, RowOf.fr hf (fun k _ hk => ⟨hk, fun hs => ?_⟩) f xs h.cells⟩
  · have := h.low k hk; have := hS k hs; omega
  · have := hS k hs; omega
theorem TyRow.stay {w w' : World} {B : Nat} {v : Value} {f : Fo} {xs : List Value} (h : TyRow w B v f xs) (hf : Quiet0 w w') : TyRow w' B v f xs := h.fr hf (fun _ hk => hk.elim)
theorem TyRow.snoc {W w1 : World} {B : Nat} {v : Value} {f : Fo} {xs : List Value} {k n : Int} {ps : Fo} {o : Option Addr} {len cap g c : Nat} (hr : TyRow W B v f xs)
    (hs : SlcIn (fun k => B ≤ k ∧ v.ownBlock ≠ some k) W o len ps)
    (ho : w1.ownsRow 0 24 3 (.slice (some ⟨g, 0, none⟩) (f.length + 1) c) (f.length + 1) (xs ++ [.int .i64 k, .int .i64 n, .slice o len cap])) (hf : Fr (fun k => v.ownBlock = some k) W w1) (hg : v.ownBlock = some g ∨ W.heap.size ≤ g) (hB : B ≤ W.heap.size) :
    TyRow w1 B (.slice (some ⟨g, 0, none⟩) (f.length + 1) c) (f.app (.cons k n ps .nil)) (xs ++ [.int .i64 k, .int .i64 n, .slice o len cap]) := by
  refine ⟨by rw [Fo.app_length]; exact ho, ?_, ?_⟩
  · intro k hk
    simp [Value.ownBlock] at hk
    subst hk
    rcases hg with h | h
    · exact hr.low g h
    · omega
  · have hk : ∀ k, k < W.heap.size → (B ≤ k ∧ v.ownBlock ≠ some k) → ((B ≤ k ∧ (Value.slice (some ⟨g, 0, none⟩) (f.length + 1) c).ownBlock ≠ some k) ∧ ¬ v.ownBlock = some k) := by
      rintro k hk ⟨h1, h2⟩
      refine ⟨⟨h1, fun h => ?_⟩, h2⟩
      simp [Value.ownBlock] at h
      subst h
      rcases hg with h | h
      · exact h2 h
      · omega
    exact RowOf.snoc (hs.fr hf hk) f xs (RowOf.fr hf hk f xs hr.cells)
theorem TyRow.slc {w : World} {B : Nat} {o : Option Addr} {len cap : Nat} {f : Fo} {xs : List Value} (h : TyRow w B (.slice o len cap) f xs) (hl : len = f.length) (hm : len ≤ maxLen) : SlcIn (fun k => B ≤ k) w o len f := by
  refine ⟨hl, hm, fun h0 => ?_⟩
  rcases h.own.2 with ⟨_, h2⟩ | ⟨g, cap', cur, he, _⟩
  · omega
  · injection he with h1 h2 h3
    subst h1
    refine ⟨g, 0, rfl, RowOf.at (h.low g rfl) f xs 0 (RowOf.fr (Fr.refl (fun _ => False) w) (fun k _ hk => ⟨hk.1, fun h => h⟩) f xs h.cells) ?_⟩
    intro j u hj
    have := h.own.cells (g := g) rfl j u hj
    simpa [Addr.add_lit] using this
end Go.Proofs.YtggidhgifaekbaaDoor
