/-
  Texts laid together (TyRight2, TyChange, TyArrow, Blk, TyAux, TeRef, TeSize, SpPlain): what each one proves, and its conditions, stands at its head.
-/
import Derived.Shelf.Abstract
import Derived.Handy
import Derived.Deep.RegionHeld3
import Derived.Deep.DeepCutAuto
import Derived.Deep.AppendLies
import Derived.RangeFuncLeaves
import Derived.RangeFuncCalls
import Derived.Test.YtdlcakmjihfgfaaGreatDoorSB1
import Derived.Test.YtdlcakmjihfgfaaGreatDoorSB2
import Derived.Test.YtdlcakmjihfgfaaGreatDoorSB3
section
/-
  Whether a type is: the program's Right and the reference's Right, by induction over the type. Condition: the types lie in memory as told.
-/
namespace Go.Proofs.YtdlcakmjihfgfaaGreatDoor
open Go.RowKit Go.Shelf

theorem eg_right : ∀ args w, (callFunc 76 args).run Tryz.prog w = .ok (.enter 76 args) w := enters_of Tryz.func76 (by kernel_rfl) rfl
/-- types.Right -/
def TRight (k n : Int) (ps : Fo) : Prop := ∀ (w : World) (o : Option Addr) (len cap : Nat), Slc w o len ps →
  Calls Tryz.prog 52 #[tyv k n o len cap] w fun e w' => e = .returned (.bool (rightT k n ps)) ∧ Quiet0 w w'
set_option maxHeartbeats 1000000 in
theorem not_right (k n : Int) (ps : Fo) (h : TRight k n ps) (w : World) (o : Option Addr) (len cap : Nat) (hs : Slc w o len ps) :
    Calls Tryz.prog 76 #[tyv k n o len cap] w fun e w' => e = .returned (.bool (!rightT k n ps)) ∧ Quiet0 w w' := by
  have HC := Lib.hid (fun (W : World) (hq : Quiet0 w W) => h W o len cap (hs.stay hq))
  clear h hs
  generalize rightT k n ps = r at *
  unfold tyv at *
  go_enter Tryz.func76, Tryz.ntmps76
  go_wp2_with fail
  refine (HC.out _ (Quiet0.alloc _ _)).mono ?_; rintro e w1 ⟨rfl, hq⟩
  go_wp2_with fail
  go_ret
  exact ⟨rfl, (Quiet0.alloc _ _).trans hq⟩
set_option maxHeartbeats 1000000 in
theorem right_any (k n : Int) (ps : Fo) : TRight k n ps := by
  refine Fo.ind' (T := TRight) ?_ k n ps
  intro k n ps ih w o len cap hs
  have hl := hs.1
  have HP := Lib.hid (plain_any k n len o cap)
  have HC : Hid (∀ W, Quiet0 w W → Calls Tryz.prog 75 #[.slice o len cap, .func (.func 76) #[] #[]] W fun e w' => e = .returned (.bool (!ps.right)) ∧ Quiet0 W w') := by
    intro W hq
    have := containsFunc_any 76 #[] (fun k n ps => !rightT k n ps) eg_right ps o len cap W (hs.stay hq) (fun i k1 n1 qs hg W1 o1 len1 cap1 _ hs1 => not_right k1 n1 qs (ih i k1 n1 qs hg) W1 o1 len1 cap1 hs1)
    rw [any_not_right] at this
    exact this
  have HR : Hid (rightT k n ps = (Fo.plain k n len && ps.right)) := by show _ = _; unfold rightT; rw [hl]
  rw [HR.out]
  clear hs ih hl HR
  cases hp : Fo.plain k n len
  · have HPV := Lib.hid hp
    rw [hp] at HP
    clear hp
    unfold tyv at *
    go_enter Tryz.func52, Tryz.ntmps52
    go_wp2_with fail
    refine (HP.out _).mono ?_; rintro e w1 ⟨rfl, hq⟩
    go_wp2_with fail
    go_ret
    exact ⟨rfl, (Quiet0.alloc _ _).trans hq⟩
  · have HPV := Lib.hid hp
    rw [hp] at HP
    clear hp
    generalize ps.right = r at *
    unfold tyv at *
    go_enter Tryz.func52, Tryz.ntmps52
    go_wp2_with fail
    refine (HP.out _).mono ?_; rintro e w1 ⟨rfl, hq⟩
    have HQ := Lib.hid ((Quiet0.alloc w (.cells #[.int .i64 k, .int .i64 n, .slice o len cap] 24)).trans hq)
    have c2 := (box_cells w k n o len cap 24 w1 hq).2.2
    clear hq
    go_wp2_with fail
    refine (HC.out _ HQ.out).mono ?_; rintro e w2 ⟨rfl, hq2⟩
    go_wp2_with fail
    go_ret
    exact ⟨by simp, HQ.out.trans hq2⟩

/-- ref.Right -/
def RRight (k n : Int) (ps : Fo) : Prop := ∀ (w : World) (o : Option Addr) (len cap : Nat), Slc w o len ps →
  Calls Tryz.prog 34 #[tyv k n o len cap] w fun e w' => e = .returned (.bool (rightT k n ps)) ∧ Quiet0 w w'
/-- why a type isn't, but for its parts -/
theorem not_plain {k n : Int} {m : Nat} (h : Fo.plain k n m = false) : (k = 1 ∧ (n < 0 ∨ 1073741824 ≤ n ∨ 0 < m)) ∨ (k ≠ 1 ∧ n ≠ 0) ∨ (n = 0 ∧ (k = 2 ∨ k = 3) ∧ 0 < m) ∨ (n = 0 ∧ k = 4 ∧ m ≠ 2) ∨ (n = 0 ∧ k = 5 ∧ (m < 2 ∨ 8 < m)) ∨ (n = 0 ∧ (k < 1 ∨ 5 < k)) := by
  unfold Fo.plain at h
  by_cases k1 : k = 1
  · subst k1; simp at h; omega
  by_cases hn : n = 0
  · subst hn
    by_cases k2 : k = 2
    · subst k2; simp at h; omega
    by_cases k3 : k = 3
    · subst k3; simp at h; omega
    by_cases k4 : k = 4
    · subst k4; simp at h; omega
    by_cases k5 : k = 5
    · subst k5; simp at h; omega
    omega
  · omega
theorem is_plain {k n : Int} {m : Nat} (h : Fo.plain k n m = true) : (k = 1 ∧ 0 ≤ n ∧ n < 1073741824 ∧ m = 0) ∨ (n = 0 ∧ k = 2 ∧ m = 0) ∨ (n = 0 ∧ k = 3 ∧ m = 0) ∨ (n = 0 ∧ k = 4 ∧ m = 2) ∨ (n = 0 ∧ k = 5 ∧ 2 ≤ m ∧ m ≤ 8) := by
  unfold Fo.plain at h
  by_cases k1 : k = 1
  · subst k1; simp at h; omega
  by_cases k2 : k = 2
  · subst k2; simp at h; omega
  by_cases k3 : k = 3
  · subst k3; simp at h; omega
  by_cases k4 : k = 4
  · subst k4; simp at h; omega
  by_cases k5 : k = 5
  · subst k5; simp at h; omega
  · simp [k1, k2, k3, k4, k5] at h
set_option maxRecDepth 100000 in
set_option maxHeartbeats 4000000 in
theorem refRight_any (k n : Int) (ps : Fo) : RRight k n ps := by
  refine Fo.ind' (T := RRight) ?_ k n ps
  intro k n ps ih w o len cap hs
  have HS := Lib.hid hs
  have IH := Lib.hid ih
  have HL := Lib.hid hs.1
  have hmx := hs.2.1
  unfold maxLen at hmx
  have HR : Hid (rightT k n ps = (Fo.plain k n len && ps.right)) := by show _ = _; unfold rightT; rw [hs.1]
  rw [HR.out]
  clear hs ih HR
  cases hp : Fo.plain k n len
  · simp only [Bool.false_and]
    have hw := not_plain hp
    clear hp HS IH HL
    unfold tyv
    rcases hw with ⟨rfl, h | h | h⟩ | ⟨h1, h2⟩ | ⟨rfl, rfl | rfl, h⟩ | ⟨rfl, rfl, h⟩ | ⟨rfl, rfl, h | h⟩ | ⟨rfl, h | h⟩
    · go_enter Tryz.func34, Tryz.ntmps34
      go_wp2_with fail
      all_goals
        go_ret
        exact ⟨rfl, Quiet0.alloc _ _⟩
    · go_enter Tryz.func34, Tryz.ntmps34
      go_wp2_with fail
      all_goals
        go_ret
        exact ⟨rfl, Quiet0.alloc _ _⟩
    · have h' : (0 : Int) < (len : Int) := by omega
      go_enter Tryz.func34, Tryz.ntmps34
      go_wp2_with fail
      all_goals
        go_ret
        exact ⟨rfl, Quiet0.alloc _ _⟩
    · have b1 : (k == 1) = false := by simpa using h1
      have b2 : (k != 1) = true := by simpa using h1
      have b3 : (n != 0) = true := by simpa using h2
      clear h1 h2
      go_enter Tryz.func34, Tryz.ntmps34
      go_wp2_with fail
      all_goals
        go_ret
        exact ⟨rfl, Quiet0.alloc _ _⟩
    · have h' : (0 : Int) < (len : Int) := by omega
      go_enter Tryz.func34, Tryz.ntmps34
      go_wp2_with fail
      all_goals
        go_ret
        exact ⟨rfl, Quiet0.alloc _ _⟩
    · have h' : (0 : Int) < (len : Int) := by omega
      go_enter Tryz.func34, Tryz.ntmps34
      go_wp2_with fail
      all_goals
        go_ret
        exact ⟨rfl, Quiet0.alloc _ _⟩
    · have h' : ((len : Int) != 2) = true := by simp; omega
      go_enter Tryz.func34, Tryz.ntmps34
      go_wp2_with fail
      all_goals
        go_ret
        exact ⟨rfl, Quiet0.alloc _ _⟩
    · have h' : (len : Int) < 2 := by omega
      go_enter Tryz.func34, Tryz.ntmps34
      go_wp2_with fail
      all_goals
        go_ret
        exact ⟨rfl, Quiet0.alloc _ _⟩
    · have h' : (8 : Int) < (len : Int) := by omega
      have h2 : ¬ (len : Int) < 2 := by omega
      go_enter Tryz.func34, Tryz.ntmps34
      go_wp2_with fail
      all_goals
        go_ret
        exact ⟨rfl, Quiet0.alloc _ _⟩
    · have b1 : (k == 1) = false := by simp; omega
      have b1' : (k != 1) = true := by simp; omega
      have b2 : (k == 2) = false := by simp; omega
      have b3 : (k == 3) = false := by simp; omega
      have b4 : (k == 4) = false := by simp; omega
      have b5 : (k == 5) = false := by simp; omega
      go_enter Tryz.func34, Tryz.ntmps34
      go_wp2_with fail
      all_goals
        go_ret
        exact ⟨rfl, Quiet0.alloc _ _⟩
    · have b1 : (k == 1) = false := by simp; omega
      have b1' : (k != 1) = true := by simp; omega
      have b2 : (k == 2) = false := by simp; omega
      have b3 : (k == 3) = false := by simp; omega
      have b4 : (k == 4) = false := by simp; omega
      have b5 : (k == 5) = false := by simp; omega
      have h' : ¬ k < 1 := by omega
      go_enter Tryz.func34, Tryz.ntmps34
      go_wp2_with fail
      all_goals
        go_ret
        exact ⟨rfl, Quiet0.alloc _ _⟩
  · simp only [Bool.true_and]
    obtain ⟨res, hres⟩ : ∃ res, res = ps.right := ⟨_, rfl⟩
    have HRES := Lib.hid hres
    rw [← hres]
    have hw := is_plain hp
    clear hp hres
    rcases hw with ⟨rfl, h1, h2, h3⟩ | ⟨rfl, rfl, h3⟩ | ⟨rfl, rfl, h3⟩ | ⟨rfl, rfl, h3⟩ | ⟨rfl, rfl, h3, h4⟩
    · have h3' : ¬ (0 : Int) < (len : Int) := by omega
      clear h3
      unfold tyv
      obtain ⟨W0, hW0⟩ : ∃ W0, W0 = w.alloc (.cells #[.int .i64 1, .int .i64 n, .slice o len cap] 24) := ⟨_, rfl⟩
      have HB : Hid (∀ W, Quiet0 W0 W → W.cell? ⟨w.heap.size, 2, none⟩ = some (.slice o len cap)) := by
        intro W hq; rw [hW0] at hq; exact (box_cells w _ _ o len cap _ W hq).2.2
      have HQ0 : Hid (Quiet0 w W0) := by rw [hW0]; exact Quiet0.alloc _ _
      go_enter Tryz.func34, Tryz.ntmps34
      go_wp2_with fail
      change Code.wp _ _ _ _ (w.alloc (.cells #[.int .i64 1, .int .i64 n, .slice o len cap] 24))
      rw [← hW0]
      clear hW0
      generalize w.heap.size = nb at *
      go_loopw [4] (fun t wr => ∃ i : Nat, t = .int .i64 i ∧ i ≤ len ∧ res = (ps.drop i).right ∧ Quiet0 W0 wr) (fun t _ => len - (intOf t).toNat)
      case atStart => exact ⟨0, rfl, Nat.zero_le _, by rw [Fo.drop_zero]; exact HRES.out, Quiet0.refl _⟩
      case round =>
        obtain ⟨i, rfl, hi, hr, hq⟩ := hrel
        have HRR := Lib.hid hr
        have HQ := Lib.hid hq
        have c2 := HB.out wr hq
        clear hr hq
        by_cases hlt : i < len
        · exact absurd hlt (by omega)
        · have hlt' : ¬ (i : Int) < len := by omega
          go_wp2_with fail
          go_ret
          exact ⟨by rw [HRR.out, Fo.drop_end ps i (by have := HL.out; omega)]; rfl, HQ0.out.trans HQ.out⟩
    · have h3' : ¬ (0 : Int) < (len : Int) := by omega
      clear h3
      unfold tyv
      obtain ⟨W0, hW0⟩ : ∃ W0, W0 = w.alloc (.cells #[.int .i64 2, .int .i64 0, .slice o len cap] 24) := ⟨_, rfl⟩
      have HB : Hid (∀ W, Quiet0 W0 W → W.cell? ⟨w.heap.size, 2, none⟩ = some (.slice o len cap)) := by
        intro W hq; rw [hW0] at hq; exact (box_cells w _ _ o len cap _ W hq).2.2
      have HQ0 : Hid (Quiet0 w W0) := by rw [hW0]; exact Quiet0.alloc _ _
      go_enter Tryz.func34, Tryz.ntmps34
      go_wp2_with fail
      change Code.wp _ _ _ _ (w.alloc (.cells #[.int .i64 2, .int .i64 0, .slice o len cap] 24))
      rw [← hW0]
      clear hW0
      generalize w.heap.size = nb at *
      go_loopw [4] (fun t wr => ∃ i : Nat, t = .int .i64 i ∧ i ≤ len ∧ res = (ps.drop i).right ∧ Quiet0 W0 wr) (fun t _ => len - (intOf t).toNat)
      case atStart => exact ⟨0, rfl, Nat.zero_le _, by rw [Fo.drop_zero]; exact HRES.out, Quiet0.refl _⟩
      case round =>
        obtain ⟨i, rfl, hi, hr, hq⟩ := hrel
        have HRR := Lib.hid hr
        have HQ := Lib.hid hq
        have c2 := HB.out wr hq
        clear hr hq
        by_cases hlt : i < len
        · exact absurd hlt (by omega)
        · have hlt' : ¬ (i : Int) < len := by omega
          go_wp2_with fail
          go_ret
          exact ⟨by rw [HRR.out, Fo.drop_end ps i (by have := HL.out; omega)]; rfl, HQ0.out.trans HQ.out⟩
    · have h3' : ¬ (0 : Int) < (len : Int) := by omega
      clear h3
      unfold tyv
      obtain ⟨W0, hW0⟩ : ∃ W0, W0 = w.alloc (.cells #[.int .i64 3, .int .i64 0, .slice o len cap] 24) := ⟨_, rfl⟩
      have HB : Hid (∀ W, Quiet0 W0 W → W.cell? ⟨w.heap.size, 2, none⟩ = some (.slice o len cap)) := by
        intro W hq; rw [hW0] at hq; exact (box_cells w _ _ o len cap _ W hq).2.2
      have HQ0 : Hid (Quiet0 w W0) := by rw [hW0]; exact Quiet0.alloc _ _
      go_enter Tryz.func34, Tryz.ntmps34
      go_wp2_with fail
      change Code.wp _ _ _ _ (w.alloc (.cells #[.int .i64 3, .int .i64 0, .slice o len cap] 24))
      rw [← hW0]
      clear hW0
      generalize w.heap.size = nb at *
      go_loopw [4] (fun t wr => ∃ i : Nat, t = .int .i64 i ∧ i ≤ len ∧ res = (ps.drop i).right ∧ Quiet0 W0 wr) (fun t _ => len - (intOf t).toNat)
      case atStart => exact ⟨0, rfl, Nat.zero_le _, by rw [Fo.drop_zero]; exact HRES.out, Quiet0.refl _⟩
      case round =>
        obtain ⟨i, rfl, hi, hr, hq⟩ := hrel
        have HRR := Lib.hid hr
        have HQ := Lib.hid hq
        have c2 := HB.out wr hq
        clear hr hq
        by_cases hlt : i < len
        · exact absurd hlt (by omega)
        · have hlt' : ¬ (i : Int) < len := by omega
          go_wp2_with fail
          go_ret
          exact ⟨by rw [HRR.out, Fo.drop_end ps i (by have := HL.out; omega)]; rfl, HQ0.out.trans HQ.out⟩
    · have h3' : ((len : Int) != 2) = false := by simp; omega
      clear h3
      unfold tyv
      obtain ⟨W0, hW0⟩ : ∃ W0, W0 = w.alloc (.cells #[.int .i64 4, .int .i64 0, .slice o len cap] 24) := ⟨_, rfl⟩
      have HB : Hid (∀ W, Quiet0 W0 W → W.cell? ⟨w.heap.size, 2, none⟩ = some (.slice o len cap)) := by
        intro W hq; rw [hW0] at hq; exact (box_cells w _ _ o len cap _ W hq).2.2
      have HQ0 : Hid (Quiet0 w W0) := by rw [hW0]; exact Quiet0.alloc _ _
      go_enter Tryz.func34, Tryz.ntmps34
      go_wp2_with fail
      change Code.wp _ _ _ _ (w.alloc (.cells #[.int .i64 4, .int .i64 0, .slice o len cap] 24))
      rw [← hW0]
      clear hW0
      generalize w.heap.size = nb at *
      go_loopw [4] (fun t wr => ∃ i : Nat, t = .int .i64 i ∧ i ≤ len ∧ res = (ps.drop i).right ∧ Quiet0 W0 wr) (fun t _ => len - (intOf t).toNat)
      case atStart => exact ⟨0, rfl, Nat.zero_le _, by rw [Fo.drop_zero]; exact HRES.out, Quiet0.refl _⟩
      case round =>
        obtain ⟨i, rfl, hi, hr, hq⟩ := hrel
        have HRR := Lib.hid hr
        have HQ := Lib.hid hq
        have c2 := HB.out wr hq
        clear hr hq
        by_cases hlt : i < len
        · have hlt' : (i : Int) < len := by omega
          obtain ⟨b, off, k1, n1, qs, o1, len1, cap1, rfl, hd, hg, e0, e1, e2, hs1⟩ := (HS.out.stay (HQ0.out.trans HQ.out)).nth hlt
          have HD := Lib.hid hd
          have HC := Lib.hid (IH.out i k1 n1 qs hg wr o1 len1 cap1 hs1)
          unfold tyv at HC
          clear hd hg hs1
          cases hb : rightT k1 n1 qs
          all_goals
            have HBV := Lib.hid hb
            rw [hb] at HC
            clear hb
            go_wp2_with fail
            refine HC.out.mono ?_; rintro e w1 ⟨rfl, hq1⟩
            have HQ1 := Lib.hid (HQ.out.trans hq1)
            clear hq1
            go_wp2_with fail
          · go_ret
            exact ⟨by rw [HRR.out, HD.out, right_cons, HBV.out]; rfl, HQ0.out.trans HQ1.out⟩
          · go_roundw
            case rel => exact ⟨i + 1, by go_num, by omega, by rw [HRR.out, HD.out, right_cons, HBV.out]; rfl, HQ1.out⟩
            case measure => simp [intOf]; omega
        · have hlt' : ¬ (i : Int) < len := by omega
          go_wp2_with fail
          go_ret
          exact ⟨by rw [HRR.out, Fo.drop_end ps i (by have := HL.out; omega)]; rfl, HQ0.out.trans HQ.out⟩
    · have h3' : ¬ (len : Int) < 2 := by omega
      have h4' : ¬ (8 : Int) < (len : Int) := by omega
      unfold tyv
      obtain ⟨W0, hW0⟩ : ∃ W0, W0 = w.alloc (.cells #[.int .i64 5, .int .i64 0, .slice o len cap] 24) := ⟨_, rfl⟩
      have HB : Hid (∀ W, Quiet0 W0 W → W.cell? ⟨w.heap.size, 2, none⟩ = some (.slice o len cap)) := by
        intro W hq; rw [hW0] at hq; exact (box_cells w _ _ o len cap _ W hq).2.2
      have HQ0 : Hid (Quiet0 w W0) := by rw [hW0]; exact Quiet0.alloc _ _
      go_enter Tryz.func34, Tryz.ntmps34
      go_wp2_with fail
      change Code.wp _ _ _ _ (w.alloc (.cells #[.int .i64 5, .int .i64 0, .slice o len cap] 24))
      rw [← hW0]
      clear hW0
      generalize w.heap.size = nb at *
      go_loopw [4] (fun t wr => ∃ i : Nat, t = .int .i64 i ∧ i ≤ len ∧ res = (ps.drop i).right ∧ Quiet0 W0 wr) (fun t _ => len - (intOf t).toNat)
      case atStart => exact ⟨0, rfl, Nat.zero_le _, by rw [Fo.drop_zero]; exact HRES.out, Quiet0.refl _⟩
      case round =>
        obtain ⟨i, rfl, hi, hr, hq⟩ := hrel
        have HRR := Lib.hid hr
        have HQ := Lib.hid hq
        have c2 := HB.out wr hq
        clear hr hq
        by_cases hlt : i < len
        · have hlt' : (i : Int) < len := by omega
          obtain ⟨b, off, k1, n1, qs, o1, len1, cap1, rfl, hd, hg, e0, e1, e2, hs1⟩ := (HS.out.stay (HQ0.out.trans HQ.out)).nth hlt
          have HD := Lib.hid hd
          have HC := Lib.hid (IH.out i k1 n1 qs hg wr o1 len1 cap1 hs1)
          unfold tyv at HC
          clear hd hg hs1
          cases hb : rightT k1 n1 qs
          all_goals
            have HBV := Lib.hid hb
            rw [hb] at HC
            clear hb
            go_wp2_with fail
            refine HC.out.mono ?_; rintro e w1 ⟨rfl, hq1⟩
            have HQ1 := Lib.hid (HQ.out.trans hq1)
            clear hq1
            go_wp2_with fail
          · go_ret
            exact ⟨by rw [HRR.out, HD.out, right_cons, HBV.out]; rfl, HQ0.out.trans HQ1.out⟩
          · go_roundw
            case rel => exact ⟨i + 1, by go_num, by omega, by rw [HRR.out, HD.out, right_cons, HBV.out]; rfl, HQ1.out⟩
            case measure => simp [intOf]; omega
        · have hlt' : ¬ (i : Int) < len := by omega
          go_wp2_with fail
          go_ret
          exact ⟨by rw [HRR.out, Fo.drop_end ps i (by have := HL.out; omega)]; rfl, HQ0.out.trans HQ.out⟩
end Go.Proofs.YtdlcakmjihfgfaaGreatDoor
end
section
/-
  types.change and Copy. Conditions: the type lies in memory as told; there are few of them.
-/
namespace Go.Proofs.YtdlcakmjihfgfaaGreatDoor
open Go.RowKit Go.Shelf

theorem elemTy : Elem Tryz.prog 22 24 (.agg #[.int .i64 0, .int .i64 0, .slice none 0 0]) 3 40 :=
  ⟨Tryz.underlying22, by kernel_rfl, by decide, by decide⟩
/-- what a function that is handed to change does -/
def DoK (g : Nat) (lb : Array Value) (w0 : World) (G : Int → Prop) (p : Int → Int) : Prop := ∀ (n : Int) (W : World), G n → Quiet0 w0 W →
  Calls Tryz.prog g (#[.int .i64 n] ++ lb) W fun e W' => e = .returned (.int .i64 (p n)) ∧ Quiet0 W W'
def newN (p : Int → Int) (k n : Int) : Int := if k == 1 then p n else n
theorem box_after {w W : World} {a b c : Value} {t : TypeId} {B : Nat} (h : w.heap[B]? = some (.cells #[a, b, c] t (0, 0))) (hq : Quiet0 w W) : W.heap[B]? = some (.cells #[a, b, c] t (0, 0)) := by
  rw [hq.block B (lt_of_block h) (fun h => h)]; exact h
theorem box_cells3 {w : World} {a b c : Value} {t : TypeId} {B : Nat} (h : w.heap[B]? = some (.cells #[a, b, c] t (0, 0))) : w.cell? ⟨B, 0, none⟩ = some a ∧ w.cell? ⟨B, 1, none⟩ = some b ∧ w.cell? ⟨B, 2, none⟩ = some c ∧ w.frozen? ⟨B, 0, none⟩ = false ∧ w.frozen? ⟨B, 1, none⟩ = false ∧ w.frozen? ⟨B, 2, none⟩ = false := by
  refine ⟨?_, ?_, ?_, ?_, ?_, ?_⟩
  · rw [cell_of_row _ _ _ _ _ (0, 0) h]; rfl
  · rw [cell_of_row _ _ _ _ _ (0, 0) h]; rfl
  · rw [cell_of_row _ _ _ _ _ (0, 0) h]; rfl
  · simp [World.frozen?, h]
  · simp [World.frozen?, h]
  · simp [World.frozen?, h]
theorem box_set1 {w : World} {a b c u : Value} {t : TypeId} {B : Nat} (h : w.heap[B]? = some (.cells #[a, b, c] t (0, 0))) : (w.setCell ⟨B, 1, none⟩ u).heap[B]? = some (.cells #[a, u, c] t (0, 0)) := by
  have hlt := lt_of_block h
  have h' : w.heap[B] = .cells #[a, b, c] t (0, 0) := by simpa [Array.getElem?_eq_getElem hlt] using h
  show (w.heap.modify B _)[B]? = _
  rw [Array.getElem?_eq_getElem (by simpa using hlt), Array.getElem_modify_self, h']
  rfl
theorem box_set0 {w : World} {a b c u : Value} {t : TypeId} {B : Nat} (h : w.heap[B]? = some (.cells #[a, b, c] t (0, 0))) : (w.setCell ⟨B, 0, none⟩ u).heap[B]? = some (.cells #[u, b, c] t (0, 0)) := by
  have hlt := lt_of_block h
  have h' : w.heap[B] = .cells #[a, b, c] t (0, 0) := by simpa [Array.getElem?_eq_getElem hlt] using h
  show (w.heap.modify B _)[B]? = _
  rw [Array.getElem?_eq_getElem (by simpa using hlt), Array.getElem_modify_self, h']
  rfl
theorem box_set2 {w : World} {a b c u : Value} {t : TypeId} {B : Nat} (h : w.heap[B]? = some (.cells #[a, b, c] t (0, 0))) : (w.setCell ⟨B, 2, none⟩ u).heap[B]? = some (.cells #[a, b, u] t (0, 0)) := by
  have hlt := lt_of_block h
  have h' : w.heap[B] = .cells #[a, b, c] t (0, 0) := by simpa [Array.getElem?_eq_getElem hlt] using h
  show (w.heap.modify B _)[B]? = _
  rw [Array.getElem?_eq_getElem (by simpa using hlt), Array.getElem_modify_self, h']
  rfl
end Go.Proofs.YtdlcakmjihfgfaaGreatDoor
end
section
/-
  types.Copy, Var and Arrow. Conditions: the types lie in memory as told; there are few of them.
-/
namespace Go.Proofs.YtdlcakmjihfgfaaGreatDoor
open Go.RowKit Go.Shelf

/-- a world whose block B gets three cells anew -/
def put3 (w : World) (B : Nat) (a b c : Value) : World := ((w.setCell ⟨B, 0, none⟩ a).setCell ⟨B, 1, none⟩ b).setCell ⟨B, 2, none⟩ c
theorem put3_fr (w : World) (B : Nat) (a b c : Value) : Fr (fun k => k = B) w (put3 w B a b c) :=
  ((Fr.setCell (fun k => k = B) w ⟨B, 0, none⟩ a rfl).trans (Fr.setCell (fun k => k = B) _ ⟨B, 1, none⟩ b rfl)).trans (Fr.setCell (fun k => k = B) _ ⟨B, 2, none⟩ c rfl)
theorem put3_cells {w : World} {B : Nat} {a b c a' b' c' : Value} {t : TypeId} (h : w.heap[B]? = some (.cells #[a', b', c'] t (0, 0))) :
    (put3 w B a b c).cell? ⟨B, 0, none⟩ = some a ∧ (put3 w B a b c).cell? ⟨B, 1, none⟩ = some b ∧ (put3 w B a b c).cell? ⟨B, 2, none⟩ = some c := by
  have hbf := box_set2 (u := c) (box_set1 (u := b) (box_set0 (u := a) h))
  obtain ⟨f0, f1, f2, _, _, _⟩ := box_cells3 hbf
  exact ⟨f0, f1, f2⟩

def arrK : Fo → Int
  | .nil => 0
  | .cons k _ _ .nil => k
  | .cons _ _ _ (.cons _ _ _ _) => 4
def arrN : Fo → Int
  | .nil => 0
  | .cons _ n _ .nil => n
  | .cons _ _ _ (.cons _ _ _ _) => 0
def arrP : Fo → Fo
  | .nil => .nil
  | .cons _ _ ps .nil => ps
  | .cons k n ps (.cons k' n' ps' r) => .cons k n ps (.cons (arrK (.cons k' n' ps' r)) (arrN (.cons k' n' ps' r)) (arrP (.cons k' n' ps' r)) .nil)
end Go.Proofs.YtdlcakmjihfgfaaGreatDoor
end
section
/-
  Blocks and frames carried on, for arms of drawn regions. No condition.
-/
namespace Go.Proofs.YtdlcakmjihfgfaaGreatDoor
open Go.RowKit

theorem with_q {w0 W w3 : World} {G : Prop} (h : Quiet0 w0 W) (hq : Quiet0 W w3) (k : Quiet0 w0 w3 → G) : G := k (h.trans hq)
theorem blk_new (w : World) (b : Nat) (cs : Array Value) (t : TypeId) (h : b = w.heap.size) : (w.alloc (.cells cs t)).heap[b]? = some (.cells cs t (0, 0)) := by
  subst h; exact heap_alloc_new w _
theorem blk_after {w W : World} {b : Nat} {o : Obj} (hq : Quiet0 w W) (h : w.heap[b]? = some o) : W.heap[b]? = some o := by
  have hlt : b < w.heap.size := (Array.getElem?_eq_some_iff.1 h).1
  rw [hq.block b hlt (fun h => h)]; exact h
theorem blk_drew {w : World} {b : Nat} {o : Obj} (h : w.heap[b]? = some o) : w.drew.heap[b]? = some o := h
theorem with_fr {w0 W w3 : World} {B : Nat} {G : Prop} (h : Fr (fun k => B ≤ k) w0 W) (hq : Quiet0 W w3) (k : Fr (fun k => B ≤ k) w0 w3 → w0.heap.size ≤ w3.heap.size → G) : G :=
  k (h.trans (hq.mono (fun _ _ h => h.elim))) (h.trans (hq.mono (fun _ _ h => h.elim))).size
theorem Quiet0.fr {S : Nat → Prop} {w w' : World} (h : Quiet0 w w') : Fr S w w' := h.mono (fun _ _ h => h.elim)
theorem with_frq {S : Nat → Prop} {w0 W w3 : World} {G : Prop} (h : Fr S w0 W) (hq : Quiet0 W w3) (k : Fr S w0 w3 → G) : G := k (h.trans hq.fr)
/-- a cell of a block is set: what the block is then -/
theorem set_block {w : World} {b i : Nat} {cs : Array Value} {u : Value} {t : TypeId} {z : Nat × Nat} (h : w.heap[b]? = some (.cells cs t z)) : (w.setCell ⟨b, i, none⟩ u).heap[b]? = some (.cells (cs.setIfInBounds i u) t z) := by
  have hlt := (Array.getElem?_eq_some_iff.1 h).1
  have h' : w.heap[b] = .cells cs t z := by simpa [Array.getElem?_eq_getElem hlt] using h
  show (w.heap.modify b _)[b]? = _
  rw [Array.getElem?_eq_getElem (by simpa using hlt), Array.getElem_modify_self, h']
  rfl
theorem blk_fr {S : Nat → Prop} {w W : World} {b : Nat} {o : Obj} (hf : Fr S w W) (hb : ¬ S b) (h : w.heap[b]? = some o) : W.heap[b]? = some o := by
  rw [hf.block b (Array.getElem?_eq_some_iff.1 h).1 hb]; exact h
theorem with_fr2 {w0 W w3 : World} {S : Nat → Prop} {G : Prop} (h : Quiet0 w0 W) (hf : Fr S W w3) (hS : ∀ k, S k → w0.heap.size ≤ k) (k : Quiet0 w0 w3 → w0.heap.size ≤ w3.heap.size → G) : G :=
  have hq : Quiet0 w0 w3 := Fr.trans' h hf (fun i hi hs => by have := hS i hs; omega)
  k hq hq.size
end Go.Proofs.YtdlcakmjihfgfaaGreatDoor
end
section
/-
  Small facts for laws: rows of one and of two types, blocks, frames. No condition.
-/
namespace Go.Proofs.YtdlcakmjihfgfaaGreatDoor
open Go.RowKit

theorem slc1 {W : World} {b : Nat} {k n : Int} {o : Option Addr} {len cap : Nat} {ps : Fo} (hb : W.heap[b]? = some (.cells #[.int .i64 k, .int .i64 n, .slice o len cap] 24 (0, 0))) (h1 : Slc W o len ps) : Slc W (some ⟨b, 0, none⟩) 1 (.cons k n ps .nil) :=
  ⟨rfl, by decide, fun _ => ⟨_, 0, rfl, by rw [cell_of_row _ _ _ _ _ (0, 0) hb]; rfl, by rw [cell_of_row _ _ _ _ _ (0, 0) hb]; rfl, ⟨o, len, cap, by rw [cell_of_row _ _ _ _ _ (0, 0) hb]; rfl, h1.1, h1.2.1, h1.2.2⟩, trivial⟩⟩
theorem slc2 {W : World} {b : Nat} {k1 n1 : Int} {o1 : Option Addr} {l1 c1 : Nat} {p1 : Fo} {k2 n2 : Int} {o2 : Option Addr} {l2 c2 : Nat} {p2 : Fo}
    (hb : W.heap[b]? = some (.cells #[.int .i64 k1, .int .i64 n1, .slice o1 l1 c1, .int .i64 k2, .int .i64 n2, .slice o2 l2 c2] 24 (0, 0))) (h1 : Slc W o1 l1 p1) (h2 : Slc W o2 l2 p2) :
    Slc W (some ⟨b, 0, none⟩) 2 (.cons k1 n1 p1 (.cons k2 n2 p2 .nil)) :=
  ⟨rfl, by decide, fun _ => ⟨b, 0, rfl, by rw [cell_of_row _ _ _ _ _ (0, 0) hb]; rfl, by rw [cell_of_row _ _ _ _ _ (0, 0) hb]; rfl, ⟨o1, l1, c1, by rw [cell_of_row _ _ _ _ _ (0, 0) hb]; rfl, h1.1, h1.2.1, h1.2.2⟩,
    by rw [cell_of_row _ _ _ _ _ (0, 0) hb]; rfl, by rw [cell_of_row _ _ _ _ _ (0, 0) hb]; rfl, ⟨o2, l2, c2, by rw [cell_of_row _ _ _ _ _ (0, 0) hb]; rfl, h2.1, h2.2.1, h2.2.2⟩, trivial⟩⟩
theorem box_use {w : World} {b : Nat} {a0 a1 a2 : Value} {t : TypeId} {G : Prop} (h : w.heap[b]? = some (.cells #[a0, a1, a2] t (0, 0)))
    (k : w.cell? ⟨b, 0, none⟩ = some a0 → w.cell? ⟨b, 1, none⟩ = some a1 → w.cell? ⟨b, 2, none⟩ = some a2 → w.frozen? ⟨b, 0, none⟩ = false → w.frozen? ⟨b, 1, none⟩ = false → w.frozen? ⟨b, 2, none⟩ = false → w.heap[b]? = some (.cells #[a0, a1, a2] t (0, 0)) → G) : G := by
  obtain ⟨z0, z1, z2, y0, y1, y2⟩ := box_cells3 h
  exact k z0 z1 z2 y0 y1 y2 h
theorem box5_use {w : World} {b : Nat} {a0 a1 a2 a3 a4 : Value} {t : TypeId} {G : Prop} (h : w.heap[b]? = some (.cells #[a0, a1, a2, a3, a4] t (0, 0)))
    (k : w.cell? ⟨b, 0, none⟩ = some a0 → w.cell? ⟨b, 1, none⟩ = some a1 → w.cell? ⟨b, 2, none⟩ = some a2 → w.cell? ⟨b, 3, none⟩ = some a3 → w.cell? ⟨b, 4, none⟩ = some a4 →
      w.frozen? ⟨b, 0, none⟩ = false → w.frozen? ⟨b, 1, none⟩ = false → w.frozen? ⟨b, 2, none⟩ = false → w.frozen? ⟨b, 3, none⟩ = false → w.frozen? ⟨b, 4, none⟩ = false → w.heap[b]? = some (.cells #[a0, a1, a2, a3, a4] t (0, 0)) → G) : G := by
  refine k ?_ ?_ ?_ ?_ ?_ ?_ ?_ ?_ ?_ ?_ h
  all_goals first | (rw [cell_of_row _ _ _ _ _ (0, 0) h]; rfl) | simp [World.frozen?, h]
theorem put_end {W0 w5 : World} {d : Nat} {a0 a1 a2 : Value} {o5 : Option Addr} {cp5 : Nat} {PS : Fo} {R : Nat → Prop}
    (hz : w5.heap[d]? = some (.cells #[a0, a1, a2] 24 (0, 0))) (hs : SlcIn R w5 o5 2 PS) (hd : ∀ k, R k → k ≠ d) (hf : Fr (fun k => W0.heap.size ≤ k) W0 w5) (hdd : W0.heap.size ≤ d) :
    ∃ d' o cp, Value.pointer (some ⟨d, 0, none⟩) = Value.pointer (some ⟨d', 0, none⟩) ∧ (put3 w5 d (.int .i64 4) (.int .i64 0) (.slice o5 2 cp5)).heap[d']? = some (.cells #[.int .i64 4, .int .i64 0, .slice o 2 cp] 24 (0, 0)) ∧ Slc (put3 w5 d (.int .i64 4) (.int .i64 0) (.slice o5 2 cp5)) o 2 PS ∧ Quiet0 W0 (put3 w5 d (.int .i64 4) (.int .i64 0) (.slice o5 2 cp5)) := by
  refine ⟨d, o5, cp5, rfl, box_set2 (box_set1 (box_set0 hz)), (hs.fr (T := R) (put3_fr w5 d _ _ _) (fun k _ hk => ⟨hk, hd k hk⟩)).slc, ?_⟩
  exact Fr.trans' (hf.mono (fun k hk h => by omega)) (put3_fr w5 d _ _ _) (fun i hi h => by omega)
end Go.Proofs.YtdlcakmjihfgfaaGreatDoor
end
section
/-
  Depth of a term, by the reference and by the program; the law's bound (room, Great). Conditions: the term lies in memory as told; where numbers are added up, there are few terms.
-/
namespace Go.Proofs.YtdlcakmjihfgfaaGreatDoor
open Go.RowKit

theorem box9 (w : World) (h : Nd) (o1 : Option Addr) (l1 c1 : Nat) (o2 : Option Addr) (l2 c2 : Nat) (t : TypeId) (W : World) (hq : Quiet0 (w.alloc (.cells (cells9 h o1 l1 c1 o2 l2 c2) t)) W) : Cells9 W w.heap.size 0 h o1 l1 c1 o2 l2 c2 :=
  (cells9_new w h o1 l1 c1 o2 l2 c2 t).fr hq (fun h => h)
end Go.Proofs.YtdlcakmjihfgfaaGreatDoor
end
section
/-
  term.Size: a range over all terms. Conditions: the term lies in memory as told; there are few of them.
-/
namespace Go.Proofs.YtdlcakmjihfgfaaGreatDoor
open Go.RowKit Go.Shelf

attribute [local go_sem] Oper.semAt_some
theorem encT_size {R : Nat → Prop} {i : Nat} {x : Nd × To} {va : Array Value} {W : World} (h : EncT R i x va W) : va.size = 2 := by
  obtain ⟨o1, l1, c1, o2, l2, c2, rfl, _⟩ := h; rfl
/-- a number in a box of the call's own, between two rounds -/
def BoxI (nb : Nat) (w : World) (v : Nat → Value) (T : TypeId) (i : Nat) (D : Nat → Prop) (W : World) : Prop :=
  (∀ k, D k ↔ k = nb) ∧ W.heap[nb]? = some (.cells #[v i] T (0, 0)) ∧ Quiet0 w W
theorem BoxI.fr {nb : Nat} {w : World} {v : Nat → Value} {T : TypeId} {i : Nat} {D S : Nat → Prop} {W W' : World} (h : BoxI nb w v T i D W) (hf : Fr S W W') (h1 : ¬ S nb) (h2 : ∀ k, k < w.heap.size → ¬ S k) : BoxI nb w v T i D W' :=
  ⟨h.1, (hf.block _ (lt_of_block h.2.1) h1).trans h.2.1, Fr.trans' h.2.2 hf (fun k hk hs => h2 k hk hs)⟩
end Go.Proofs.YtdlcakmjihfgfaaGreatDoor
end
section
/-
  Spans, merged: that the program's way and the document's are the same; how many bytes, which parts. Plain laws: no program, no condition.
-/
namespace Go.Proofs.YtdlcakmjihfgfaaGreatDoor
namespace SpanPlain
abbrev Sp := Int × Int
/-- a span has bytes -/
abbrev ne (s : Sp) : Bool := decide (s.1 < s.2)
/-- some of the spans has a byte -/
def Cov (l : List Sp) (x : Int) : Prop := ∃ s ∈ l, s.1 ≤ x ∧ x < s.2
/-- spans that lie one behind the other, with a gap between, none empty -/
def Canon (l : List Sp) : Prop := (∀ s ∈ l, s.1 < s.2) ∧ l.Pairwise (fun s t => s.2 < t.1)
theorem Cov.cons {s : Sp} {l : List Sp} {x : Int} : Cov (s :: l) x ↔ (s.1 ≤ x ∧ x < s.2) ∨ Cov l x := by
  simp [Cov]
theorem Cov.append {a b : List Sp} {x : Int} : Cov (a ++ b) x ↔ Cov a x ∨ Cov b x := by
  simp only [Cov, List.mem_append]
  constructor
  · rintro ⟨s, h | h, k⟩
    · exact .inl ⟨s, h, k⟩
    · exact .inr ⟨s, h, k⟩
  · rintro (⟨s, h, k⟩ | ⟨s, h, k⟩)
    · exact ⟨s, .inl h, k⟩
    · exact ⟨s, .inr h, k⟩
theorem Canon.tail {s : Sp} {l : List Sp} (h : Canon (s :: l)) : Canon l :=
  ⟨fun t ht => h.1 t (List.mem_cons_of_mem _ ht), (List.pairwise_cons.1 h.2).2⟩
theorem canon_unique : ∀ (a b : List Sp), Canon a → Canon b → (∀ x, Cov a x ↔ Cov b x) → a = b
  | [], [], _, _, _ => rfl
  | [], t :: b, _, hb, h => by
    have := hb.1 t (List.mem_cons_self ..)
    have := (h t.1).2 (Cov.cons.2 (.inl ⟨Int.le_refl _, this⟩))
    simp [Cov] at this
  | s :: a, [], ha, _, h => by
    have := ha.1 s (List.mem_cons_self ..)
    have := (h s.1).1 (Cov.cons.2 (.inl ⟨Int.le_refl _, this⟩))
    simp [Cov] at this
  | s :: a, t :: b, ha, hb, h => by
    have hs := ha.1 s (List.mem_cons_self ..)
    have ht := hb.1 t (List.mem_cons_self ..)
    have la := (List.pairwise_cons.1 ha.2).1
    have lb := (List.pairwise_cons.1 hb.2).1
    have fa : ∀ x, Cov a x → s.2 < x := by rintro x ⟨u, hu, k⟩; have := la u hu; omega
    have fb : ∀ x, Cov b x → t.2 < x := by rintro x ⟨u, hu, k⟩; have := lb u hu; omega
    have e1 : s.1 = t.1 := by
      have h1 := Cov.cons.1 ((h s.1).1 (Cov.cons.2 (.inl ⟨Int.le_refl _, hs⟩)))
      have h2 := Cov.cons.1 ((h t.1).2 (Cov.cons.2 (.inl ⟨Int.le_refl _, ht⟩)))
      rcases h1 with h1 | h1 <;> rcases h2 with h2 | h2
      · omega
      · have := fa _ h2; omega
      · have := fb _ h1; omega
      · have := fb _ h1; have := fa _ h2; omega
    have e2 : s.2 = t.2 := by
      by_cases c1 : s.2 < t.2
      · rcases Cov.cons.1 ((h s.2).2 (Cov.cons.2 (.inl ⟨by omega, c1⟩))) with k | k
        · omega
        · have := fa _ k; omega
      · by_cases c2 : t.2 < s.2
        · rcases Cov.cons.1 ((h t.2).1 (Cov.cons.2 (.inl ⟨by omega, c2⟩))) with k | k
          · omega
          · have := fb _ k; omega
        · omega
    have e : s = t := Prod.ext e1 e2
    subst e
    rw [canon_unique a b ha.tail hb.tail (fun x => ⟨fun k => ?_, fun k => ?_⟩)]
    · rcases Cov.cons.1 ((h x).1 (Cov.cons.2 (.inr k))) with k' | k'
      · have := fa _ k; omega
      · exact k'
    · rcases Cov.cons.1 ((h x).2 (Cov.cons.2 (.inr k))) with k' | k'
      · have := fb _ k; omega
      · exact k'
/-- the program's step: a span onto merged ones -/
def mstep (o : List Sp) (s : Sp) : List Sp :=
  match o.getLast? with
  | some t => if s.1 ≤ t.2 then o.dropLast ++ [(t.1, max t.2 s.2)] else o ++ [s]
  | none => o ++ [s]
theorem Canon.snoc {o : List Sp} {s : Sp} (h : Canon o) (hs : s.1 < s.2) (hl : ∀ t ∈ o, t.2 < s.1) : Canon (o ++ [s]) := by
  refine ⟨?_, List.pairwise_append.2 ⟨h.2, List.pairwise_singleton .., ?_⟩⟩
  · intro t ht
    rcases List.mem_append.1 ht with k | k
    · exact h.1 t k
    · simp at k; subst k; exact hs
  · intro a ha b hb; simp at hb; subst hb; exact hl a ha
theorem Canon.left {a b : List Sp} (h : Canon (a ++ b)) : Canon a :=
  ⟨fun s hs => h.1 s (List.mem_append_left _ hs), (List.pairwise_append.1 h.2).1⟩
theorem Canon.right {a b : List Sp} (h : Canon (a ++ b)) : Canon b :=
  ⟨fun s hs => h.1 s (List.mem_append_right _ hs), (List.pairwise_append.1 h.2).2.1⟩
theorem getLast?_split {o : List Sp} {t : Sp} (h : o.getLast? = some t) : o = o.dropLast ++ [t] := by
  have hne : o ≠ [] := by rintro rfl; simp at h
  rw [List.getLast?_eq_some_getLast hne] at h
  cases h
  exact (List.dropLast_concat_getLast hne).symm
theorem mstep_ok {o : List Sp} {s : Sp} (h : Canon o) (hs : s.1 < s.2) (hl : ∀ t ∈ o, t.1 ≤ s.1) :
    Canon (mstep o s) ∧ (∀ x, Cov (mstep o s) x ↔ Cov o x ∨ (s.1 ≤ x ∧ x < s.2)) ∧ (∀ t ∈ mstep o s, t.1 ≤ s.1) := by
  unfold mstep
  split
  · rename_i t ht
    have hsp := getLast?_split ht
    generalize o.dropLast = d at hsp
    subst hsp
    have h1 := hl t (by simp)
    have h2 := h.1 t (by simp)
    have h3 := (List.pairwise_append.1 h.2).2.2
    have h4 : ∀ u ∈ d, u.2 < t.1 := fun u hu => h3 u hu t (by simp)
    by_cases c : s.1 ≤ t.2
    · rw [if_pos c]
      refine ⟨h.left.snoc (by show t.1 < max t.2 s.2; omega) h4, fun x => ?_, ?_⟩
      · simp only [Cov.append, Cov.cons]
        have : ¬ Cov [] x := by simp [Cov]
        simp only [this, or_false]
        constructor
        · rintro (k | k)
          · exact .inl (.inl k)
          · have k' : t.1 ≤ x ∧ x < max t.2 s.2 := k
            by_cases c1 : x < t.2
            · exact .inl (.inr ⟨k'.1, c1⟩)
            · exact .inr (by omega)
        · rintro ((k | k) | k)
          · exact .inl k
          · exact .inr (show t.1 ≤ x ∧ x < max t.2 s.2 by omega)
          · exact .inr (show t.1 ≤ x ∧ x < max t.2 s.2 by omega)
      · intro u hu
        rcases List.mem_append.1 hu with k | k
        · exact hl u (List.mem_append_left _ k)
        · simp at k; subst k; exact h1
    · rw [if_neg c]
      refine ⟨h.snoc hs (fun u hu => ?_), fun x => ?_, ?_⟩
      · rcases List.mem_append.1 hu with k | k
        · have := h4 u k; omega
        · simp at k; subst k; omega
      · rw [Cov.append]; simp [Cov]
      · intro u hu
        rcases List.mem_append.1 hu with k | k
        · exact hl u k
        · simp at k; subst k; exact Int.le_refl _
  · rename_i ht
    have : o = [] := by simpa using ht
    subst this
    refine ⟨⟨by simpa using hs, by simp⟩, fun x => by simp [Cov], by simp⟩
theorem mfold_ok (l : List Sp) : ∀ (o : List Sp), Canon o → (∀ s ∈ l, s.1 < s.2) → l.Pairwise (fun s t => s.1 ≤ t.1) → (∀ t ∈ o, ∀ s ∈ l, t.1 ≤ s.1) →
    Canon (l.foldl mstep o) ∧ ∀ x, Cov (l.foldl mstep o) x ↔ Cov o x ∨ Cov l x := by
  induction l with
  | nil => intro o ho _ _ _; exact ⟨ho, fun x => by simp [Cov]⟩
  | cons s l ih =>
    intro o ho hn hp hl
    obtain ⟨a1, a2, a3⟩ := mstep_ok ho (hn s (by simp)) (fun t ht => hl t ht s (by simp))
    obtain ⟨b1, b2⟩ := ih (mstep o s) a1 (fun t ht => hn t (by simp [ht])) (List.pairwise_cons.1 hp).2 (fun t ht u hu => by
      have := a3 t ht; have := (List.pairwise_cons.1 hp).1 u hu; omega)
    refine ⟨b1, fun x => ?_⟩
    rw [List.foldl_cons, b2, a2, Cov.cons, or_assoc]
/-- the document's step: of the merged ones those that touch s go into it -/
def absorb (p : Sp × List Sp) (t : Sp) : Sp × List Sp :=
  if t.1 ≤ p.1.2 ∧ p.1.1 ≤ t.2 then ((min p.1.1 t.1, max p.1.2 t.2), p.2) else (p.1, p.2 ++ [t])
def rins (s : Sp) (r : List Sp) : List Sp := r.takeWhile (fun t => decide (t.1 < s.1)) ++ [s] ++ r.dropWhile (fun t => decide (t.1 < s.1))
def rstep (o : List Sp) (s : Sp) : List Sp :=
  if s.1 ≥ s.2 then o else rins (o.foldl absorb (s, [])).1 (o.foldl absorb (s, [])).2
theorem absorb_ok (o : List Sp) : ∀ (s : Sp) (r : List Sp), Canon (r ++ o) → s.1 < s.2 → (∀ t ∈ r, t.2 < s.1 ∨ s.2 < t.1) →
    Canon (o.foldl absorb (s, r)).2 ∧ (o.foldl absorb (s, r)).1.1 < (o.foldl absorb (s, r)).1.2 ∧ (∀ t ∈ (o.foldl absorb (s, r)).2, t.2 < (o.foldl absorb (s, r)).1.1 ∨ (o.foldl absorb (s, r)).1.2 < t.1) ∧
    ∀ x, (Cov (o.foldl absorb (s, r)).2 x ∨ ((o.foldl absorb (s, r)).1.1 ≤ x ∧ x < (o.foldl absorb (s, r)).1.2)) ↔ Cov r x ∨ Cov o x ∨ (s.1 ≤ x ∧ x < s.2) := by
  induction o with
  | nil => intro s r hc hs hr; rw [List.append_nil] at hc; exact ⟨hc, hs, hr, fun x => by simp [Cov]⟩
  | cons t o ih =>
    intro s r hc hs hr
    have ht := hc.1 t (by simp)
    have hrt : ∀ u ∈ r, u.2 < t.1 := fun u hu => (List.pairwise_append.1 hc.2).2.2 u hu t (by simp)
    rw [List.foldl_cons]
    unfold absorb
    by_cases c : t.1 ≤ s.2 ∧ s.1 ≤ t.2
    · rw [if_pos (show t.1 ≤ (s, r).1.2 ∧ (s, r).1.1 ≤ t.2 from c)]
      have hc' : Canon (r ++ o) := by
        refine ⟨fun u hu => hc.1 u ?_, ?_⟩
        · rcases List.mem_append.1 hu with k | k
          · simp [k]
          · simp [k]
        · have := List.pairwise_append.1 hc.2
          exact List.pairwise_append.2 ⟨this.1, (List.pairwise_cons.1 this.2.1).2, fun a ha b hb => this.2.2 a ha b (by simp [hb])⟩
      obtain ⟨b1, b2, b3, b4⟩ := ih (min s.1 t.1, max s.2 t.2) r hc' (by show min s.1 t.1 < max s.2 t.2; omega) (fun u hu => by
        show u.2 < min s.1 t.1 ∨ max s.2 t.2 < u.1
        have h1 := hrt u hu
        have h2 := hc.1 u (by simp [hu])
        rcases hr u hu with h | h
        · left; omega
        · omega)
      refine ⟨b1, b2, b3, fun x => ?_⟩
      rw [show (fun p t => if t.1 ≤ p.1.2 ∧ p.1.1 ≤ t.2 then ((min p.1.1 t.1, max p.1.2 t.2), p.2) else (p.1, p.2 ++ [t])) = absorb from rfl, b4 x, Cov.cons]
      show Cov r x ∨ Cov o x ∨ (min s.1 t.1 ≤ x ∧ x < max s.2 t.2) ↔ _
      have : (min s.1 t.1 ≤ x ∧ x < max s.2 t.2) ↔ (t.1 ≤ x ∧ x < t.2) ∨ (s.1 ≤ x ∧ x < s.2) := by omega
      rw [this]
      constructor
      · rintro (k | k | k | k) <;> simp [k]
      · rintro (k | (k | k) | k) <;> simp [k]
    · rw [if_neg (show ¬ (t.1 ≤ (s, r).1.2 ∧ (s, r).1.1 ≤ t.2) from c)]
      obtain ⟨b1, b2, b3, b4⟩ := ih s (r ++ [t]) (by rw [List.append_assoc]; exact hc) hs (fun u hu => by
        rcases List.mem_append.1 hu with k | k
        · exact hr u k
        · simp at k; subst k; omega)
      refine ⟨b1, b2, b3, fun x => ?_⟩
      rw [show (fun p t => if t.1 ≤ p.1.2 ∧ p.1.1 ≤ t.2 then ((min p.1.1 t.1, max p.1.2 t.2), p.2) else (p.1, p.2 ++ [t])) = absorb from rfl, b4 x, Cov.cons, Cov.append]
      have : Cov [t] x ↔ (t.1 ≤ x ∧ x < t.2) := by simp [Cov]
      rw [this]
      constructor
      · rintro ((k | k) | k | k) <;> simp [k]
      · rintro (k | (k | k) | k) <;> simp [k]
theorem mem_takeWhile {p : Sp → Bool} {l : List Sp} {u : Sp} (h : u ∈ l.takeWhile p) : p u = true := by
  induction l with
  | nil => simp at h
  | cons a l ih =>
    rw [List.takeWhile_cons] at h
    split at h
    · rename_i c
      rcases List.mem_cons.1 h with k | k
      · subst k; exact c
      · exact ih k
    · simp at h
theorem dropWhile_ge {s : Sp} : ∀ {r : List Sp}, Canon r → ∀ u ∈ r.dropWhile (fun t => decide (t.1 < s.1)), s.1 ≤ u.1
  | [], _, u, hu => by simp at hu
  | a :: r, h, u, hu => by
    rw [List.dropWhile_cons] at hu
    split at hu
    · exact dropWhile_ge h.tail u hu
    · rename_i c
      have c' : ¬ a.1 < s.1 := by simpa using c
      rcases List.mem_cons.1 hu with k | k
      · subst k; omega
      · have := (List.pairwise_cons.1 h.2).1 u k
        have := h.1 a (by simp)
        omega
theorem rstep_ok {o : List Sp} {s : Sp} (h : Canon o) : Canon (rstep o s) ∧ ∀ x, Cov (rstep o s) x ↔ Cov o x ∨ (s.1 ≤ x ∧ x < s.2) := by
  unfold rstep
  by_cases c : s.1 ≥ s.2
  · rw [if_pos c]; exact ⟨h, fun x => ⟨.inl, fun k => k.elim id (fun k => by omega)⟩⟩
  · rw [if_neg c]
    obtain ⟨b1, b2, b3, b4⟩ := absorb_ok o s [] (by simpa using h) (by omega) (by simp)
    generalize o.foldl absorb (s, []) = p at *
    obtain ⟨s', r⟩ := p
    simp only at *
    unfold rins
    have e : r.takeWhile (fun t => decide (t.1 < s'.1)) ++ r.dropWhile (fun t => decide (t.1 < s'.1)) = r := List.takeWhile_append_dropWhile
    have hT : ∀ u ∈ r.takeWhile (fun t => decide (t.1 < s'.1)), u.1 < s'.1 := fun u hu => by simpa using mem_takeWhile hu
    have hD : ∀ u ∈ r.dropWhile (fun t => decide (t.1 < s'.1)), s'.1 ≤ u.1 := dropWhile_ge b1
    generalize r.takeWhile (fun t => decide (t.1 < s'.1)) = A at *
    generalize r.dropWhile (fun t => decide (t.1 < s'.1)) = B at *
    subst e
    have hA : ∀ u ∈ A, u.2 < s'.1 := fun u hu => by
      have h1 := hT u hu
      have h2 := b1.1 u (by simp [hu])
      rcases b3 u (by simp [hu]) with k | k
      · exact k
      · omega
    have hB : ∀ u ∈ B, s'.2 < u.1 := fun u hu => by
      have h1 := hD u hu
      have h2 := b1.1 u (by simp [hu])
      rcases b3 u (by simp [hu]) with k | k
      · omega
      · exact k
    refine ⟨⟨?_, ?_⟩, fun x => ?_⟩
    · intro u hu
      simp only [List.mem_append, List.mem_singleton] at hu
      rcases hu with (k | k) | k
      · exact b1.1 u (by simp [k])
      · subst k; exact b2
      · exact b1.1 u (by simp [k])
    · have hp := List.pairwise_append.1 b1.2
      rw [List.append_assoc]
      refine List.pairwise_append.2 ⟨hp.1, List.pairwise_append.2 ⟨List.pairwise_singleton .., hp.2.1, ?_⟩, ?_⟩
      · intro a ha b hb; simp at ha; subst ha; exact hB b hb
      · intro a ha b hb
        rcases List.mem_append.1 hb with k | k
        · simp at k; subst k; exact hA a ha
        · exact hp.2.2 a ha b k
    · have := b4 x
      simp only [Cov.append, Cov.cons] at this ⊢
      have n0 : ¬ Cov [] x := by simp [Cov]
      simp only [n0, or_false, false_or] at this ⊢
      rw [← this]
      constructor
      · rintro ((k | k) | k) <;> simp [k]
      · rintro ((k | k) | k) <;> simp [k]
theorem rfold_ok (l : List Sp) : ∀ (o : List Sp), Canon o → Canon (l.foldl rstep o) ∧ ∀ x, Cov (l.foldl rstep o) x ↔ Cov o x ∨ Cov l x := by
  induction l with
  | nil => intro o ho; exact ⟨ho, fun x => by simp [Cov]⟩
  | cons s l ih =>
    intro o ho
    obtain ⟨a1, a2⟩ := rstep_ok (s := s) ho
    obtain ⟨b1, b2⟩ := ih (rstep o s) a1
    refine ⟨b1, fun x => ?_⟩
    rw [List.foldl_cons, b2, a2, Cov.cons, or_assoc]
/-- the document's merged spans -/
def rmerge (l : List Sp) : List Sp := l.foldl rstep []
theorem rmerge_canon (l : List Sp) : Canon (rmerge l) := (rfold_ok l [] ⟨by simp, by simp⟩).1
theorem rmerge_cov (l : List Sp) (x : Int) : Cov (rmerge l) x ↔ Cov l x := by
  rw [rmerge, (rfold_ok l [] ⟨by simp, by simp⟩).2]; simp [Cov]
/-- spans, sorted, of which none is empty, merged as the program does, are the document's -/
theorem merge_same (l l' : List Sp) (hn : ∀ s ∈ l', s.1 < s.2) (hp : l'.Pairwise (fun s t => s.1 ≤ t.1)) (hm : ∀ s, s ∈ l' ↔ s ∈ l ∧ s.1 < s.2) : l'.foldl mstep [] = rmerge l := by
  obtain ⟨a1, a2⟩ := mfold_ok l' [] ⟨by simp, by simp⟩ hn hp (by simp)
  refine canon_unique _ _ a1 (rmerge_canon l) (fun x => ?_)
  rw [a2, rmerge_cov]
  constructor
  · rintro (k | ⟨s, hs, k⟩)
    · simp [Cov] at k
    · exact ⟨s, ((hm s).1 hs).1, k⟩
  · rintro ⟨s, hs, k⟩
    exact .inr ⟨s, (hm s).2 ⟨hs, by omega⟩, k⟩
theorem leInd {m : Nat} {P : (n : Nat) → m ≤ n → Prop} (base : P m (Nat.le_refl m)) (succ : ∀ (n : Nat) (h : m ≤ n), P n h → P (n + 1) (Nat.le_succ_of_le h)) : ∀ (n : Nat) (h : m ≤ n), P n h := by
  intro n h
  induction n with
  | zero => have : m = 0 := by omega
            subst this; exact base
  | succ n ih =>
    by_cases c : m ≤ n
    · exact succ n c (ih c)
    · have : m = n + 1 := by omega
      subst this; exact base
def clip1 (n : Nat) (s : Sp) : Option (Nat × Nat) := if max 0 s.1 < min (n : Int) s.2 then some ((max 0 s.1).toNat, (min (n : Int) s.2).toNat) else none
/-- merged spans, as far as they lie in the first n bytes -/
def clipN (n : Nat) (m : List Sp) : List (Nat × Nat) := m.filterMap (clip1 n)
/-- parts that lie from i to n, one behind the other, with a gap between -/
def InN : Nat → Nat → List (Nat × Nat) → Prop
  | i, n, [] => i ≤ n + 1
  | i, n, s :: r => i ≤ s.1 ∧ s.1 < s.2 ∧ s.2 ≤ n ∧ InN (s.2 + 1) n r
def Hass (i n : Nat) (c : List (Nat × Nat)) (has : Nat → Bool) : Prop := ∀ x, i ≤ x → x < n → (has x = true ↔ ∃ s ∈ c, s.1 ≤ x ∧ x < s.2)
theorem clipN_far (n : Nat) : ∀ (m : List Sp), (∀ s ∈ m, (n : Int) ≤ s.1) → clipN n m = []
  | [], _ => rfl
  | s :: m, h => by
    have h1 := h s (by simp)
    rw [clipN, List.filterMap_cons, clip1, if_neg (by omega)]
    exact clipN_far n m (fun t ht => h t (by simp [ht]))
theorem clip_in (n : Nat) : ∀ (m : List Sp) (i : Nat), Canon m → (∀ s ∈ m, (i : Int) ≤ max 0 s.1) → i ≤ n + 1 → InN i n (clipN n m)
  | [], i, _, _, hi => hi
  | s :: m, i, hc, hi, hin => by
    have h1 := hc.1 s (by simp)
    have h2 := (List.pairwise_cons.1 hc.2).1
    have h3 := hi s (by simp)
    rw [clipN, List.filterMap_cons, clip1]
    by_cases c : max 0 s.1 < min (n : Int) s.2
    · rw [if_pos c]
      refine ⟨by show i ≤ (max 0 s.1).toNat; omega, by show (max 0 s.1).toNat < (min (n : Int) s.2).toNat; omega, by show (min (n : Int) s.2).toNat ≤ n; omega, ?_⟩
      show InN ((min (n : Int) s.2).toNat + 1) n (clipN n m)
      by_cases c2 : s.2 ≤ n
      · refine clip_in n m _ hc.tail (fun t ht => ?_) (by omega)
        have := h2 t ht; omega
      · rw [clipN_far n m (fun t ht => by have := h2 t ht; omega)]
        show _ ≤ n + 1; omega
    · rw [if_neg c]
      exact clip_in n m i hc.tail (fun t ht => hi t (by simp [ht])) hin
theorem clip_has (n : Nat) (m : List Sp) (x : Nat) (hx : x < n) : (∃ s ∈ clipN n m, s.1 ≤ x ∧ x < s.2) ↔ Cov m (x : Int) := by
  simp only [clipN, List.mem_filterMap, Cov]
  constructor
  · rintro ⟨t, ⟨s, hs, h⟩, k⟩
    unfold clip1 at h
    split at h
    · cases h
      refine ⟨s, hs, ?_⟩
      have k1 : (max 0 s.1).toNat ≤ x ∧ x < (min (n : Int) s.2).toNat := k
      omega
    · cases h
  · rintro ⟨s, hs, k⟩
    refine ⟨((max 0 s.1).toNat, (min (n : Int) s.2).toNat), ⟨s, hs, ?_⟩, ?_⟩
    · unfold clip1; rw [if_pos (by omega)]
    · show (max 0 s.1).toNat ≤ x ∧ x < (min (n : Int) s.2).toNat; omega
theorem Hass.tail {i n : Nat} {s : Nat × Nat} {c : List (Nat × Nat)} {has : Nat → Bool} (hi : InN i n (s :: c)) (h : Hass i n (s :: c) has) : Hass (s.2 + 1) n c has := by
  intro x hx hn
  obtain ⟨h1, h2, h3, h4⟩ := hi
  rw [h x (by omega) hn]
  simp only [List.mem_cons]
  constructor
  · rintro ⟨u, rfl | hu, k⟩
    · omega
    · exact ⟨u, hu, k⟩
  · rintro ⟨u, hu, k⟩; exact ⟨u, .inr hu, k⟩
theorem InN.from_le : ∀ {c : List (Nat × Nat)} {i n : Nat}, InN i n c → ∀ u ∈ c, i ≤ u.1
  | [], _, _, _, u, hu => by simp at hu
  | s :: c, i, n, h, u, hu => by
    obtain ⟨h1, h2, h3, h4⟩ := h
    rcases List.mem_cons.1 hu with k | k
    · subst k; exact h1
    · have := InN.from_le h4 u k; omega
/-- where the first part begins: none before; all in it; none at its end -/
theorem Hass.parts {i n : Nat} {s : Nat × Nat} {c : List (Nat × Nat)} {has : Nat → Bool} (hi : InN i n (s :: c)) (h : Hass i n (s :: c) has) :
    (∀ x, i ≤ x → x < s.1 → has x = false) ∧ (∀ x, s.1 ≤ x → x < s.2 → has x = true) ∧ (s.2 < n → has s.2 = false) := by
  obtain ⟨h1, h2, h3, h4⟩ := hi
  have hf := fun u hu => InN.from_le h4 u hu
  refine ⟨fun x a b => ?_, fun x a b => (h x (by omega) (by omega)).2 ⟨s, by simp, a, b⟩, fun a => ?_⟩
  · rw [← Bool.not_eq_true, h x a (by omega)]
    rintro ⟨u, hu, k⟩
    rcases List.mem_cons.1 hu with k' | k'
    · subst k'; omega
    · have := hf u k'; omega
  · rw [← Bool.not_eq_true, h s.2 (by omega) a]
    rintro ⟨u, hu, k⟩
    rcases List.mem_cons.1 hu with k' | k'
    · subst k'; omega
    · have := hf u k'; omega
/-- a run of steps from a on to b -/
def run {σ : Type} (step : σ → Nat → σ) (a b : Nat) (st : σ) : σ := (List.range' a (b - a)).foldl step st
theorem run_same {σ : Type} (step : σ → Nat → σ) (a : Nat) (st : σ) : run step a a st = st := by simp [run]
theorem run_succ {σ : Type} (step : σ → Nat → σ) (a b : Nat) (h : a ≤ b) (st : σ) : run step a (b + 1) st = step (run step a b st) b := by
  have e : b + 1 - a = (b - a) + 1 := by omega
  rw [run, e, List.range'_concat, List.foldl_append]
  simp [run]; congr 1; omega
theorem run_append {σ : Type} (step : σ → Nat → σ) (a b c : Nat) (h1 : a ≤ b) (h2 : b ≤ c) (st : σ) : run step a c st = run step b c (run step a b st) := by
  induction c, h2 using leInd with
  | base => rw [run_same]
  | succ c hc ih => rw [run_succ _ _ _ (by omega), run_succ _ _ _ hc, ih]
theorem run_one {σ : Type} (step : σ → Nat → σ) (a : Nat) (st : σ) : run step a (a + 1) st = step st a := by
  rw [run_succ _ _ _ (Nat.le_refl a), run_same]
/-- how many of the bytes from a on to b -/
def cnt (has : Nat → Bool) (a b : Nat) : Nat := run (fun k x => if has x then k + 1 else k) a b 0
theorem cnt_run (has : Nat → Bool) (a b k : Nat) (h : a ≤ b) : run (fun k x => if has x then k + 1 else k) a b k = k + cnt has a b := by
  induction b, h using leInd with
  | base => simp [cnt, run_same]
  | succ b hb ih =>
    rw [cnt, run_succ _ _ _ hb, run_succ _ _ _ hb, ih]
    rw [← cnt]
    split <;> omega
theorem cnt_add (has : Nat → Bool) (a b c : Nat) (h1 : a ≤ b) (h2 : b ≤ c) : cnt has a c = cnt has a b + cnt has b c := by
  rw [cnt, run_append _ a b c h1 h2, cnt_run _ _ _ _ h2]; rfl
theorem cnt_none (has : Nat → Bool) (a b : Nat) (h : a ≤ b) (hn : ∀ x, a ≤ x → x < b → has x = false) : cnt has a b = 0 := by
  induction b, h using leInd with
  | base => simp [cnt, run_same]
  | succ b hb ih =>
    have ih' := ih (fun x h1 h2 => hn x h1 (by omega))
    rw [cnt] at ih' ⊢
    rw [run_succ _ _ _ hb, ih', hn b hb (by omega)]; rfl
theorem cnt_all (has : Nat → Bool) (a b : Nat) (h : a ≤ b) (hn : ∀ x, a ≤ x → x < b → has x = true) : cnt has a b = b - a := by
  induction b, h using leInd with
  | base => simp [cnt, run_same]
  | succ b hb ih =>
    have ih' := ih (fun x h1 h2 => hn x h1 (by omega))
    rw [cnt] at ih' ⊢
    rw [run_succ _ _ _ hb, ih', hn b hb (by omega)]
    simp; omega
def sumN (c : List (Nat × Nat)) : Nat := c.foldl (fun k s => k + (s.2 - s.1)) 0
theorem sumN_fold (c : List (Nat × Nat)) : ∀ k, c.foldl (fun k s => k + (s.2 - s.1)) k = k + sumN c := by
  induction c with
  | nil => intro k; rfl
  | cons s c ih => intro k; rw [sumN, List.foldl_cons, List.foldl_cons, ih, ih (0 + _)]; omega
theorem cnt_parts (n : Nat) (has : Nat → Bool) : ∀ (c : List (Nat × Nat)) (i : Nat), i ≤ n → InN i n c → Hass i n c has → cnt has i n = sumN c
  | [], i, hin, _, h => by
    rw [cnt_none has i n hin (fun x a b => by rw [← Bool.not_eq_true, h x a b]; simp)]; rfl
  | s :: c, i, hin, hi, h => by
    obtain ⟨p1, p2, p3⟩ := h.parts hi
    have ht := h.tail hi
    obtain ⟨h1, h2, h3, h4⟩ := hi
    rw [cnt_add has i s.1 n h1 (by omega), cnt_none has i s.1 h1 p1, cnt_add has s.1 s.2 n (by omega) h3, cnt_all has s.1 s.2 (by omega) p2, sumN, List.foldl_cons, sumN_fold]
    by_cases c2 : s.2 < n
    · have ih := cnt_parts n has c (s.2 + 1) (by omega) h4 ht
      rw [cnt_add has s.2 (s.2 + 1) n (by omega) (by omega), ih]
      have : cnt has s.2 (s.2 + 1) = 0 := cnt_none has _ _ (by omega) (fun x a b => by
        have : x = s.2 := by omega
        subst this; exact p3 c2)
      omega
    · have e : s.2 = n := by omega
      have ec : c = [] := by
        cases c with
        | nil => rfl
        | cons t c => obtain ⟨k1, k2, k3, _⟩ := h4; omega
      subst ec
      rw [e, cnt_none has n n (Nat.le_refl _) (fun x a b => by omega)]
      rfl
def cutStep (text : ByteArray) (has : Nat → Bool) (st : ByteArray × List ByteArray) (i : Nat) : ByteArray × List ByteArray :=
  if i < text.size && has i then (st.1 ++ text.extract i (i + 1), st.2) else if st.1 ≠ ByteArray.empty then (ByteArray.empty, st.2 ++ [st.1]) else st
theorem ext_add (text : ByteArray) (a b c : Nat) (h1 : a ≤ b) (h2 : b ≤ c) : text.extract a b ++ text.extract b c = text.extract a c := by
  rw [ByteArray.extract_append_extract]
  congr 1 <;> omega
theorem ext_ne (text : ByteArray) (a b : Nat) (h1 : a < b) (h2 : b ≤ text.size) : text.extract a b ≠ ByteArray.empty := by
  intro h
  have := congrArg ByteArray.size h
  simp at this
  omega
theorem ext_same (text : ByteArray) (a : Nat) : text.extract a a = ByteArray.empty := by
  rw [← ByteArray.size_eq_zero_iff]; simp
theorem cut_none (text : ByteArray) (has : Nat → Bool) (a b : Nat) (h : a ≤ b) (hn : ∀ x, a ≤ x → x < b → (x < text.size && has x) = false) (out : List ByteArray) :
    run (cutStep text has) a b (ByteArray.empty, out) = (ByteArray.empty, out) := by
  induction b, h using leInd with
  | base => rw [run_same]
  | succ b hb ih =>
    rw [run_succ _ _ _ hb, ih (fun x h1 h2 => hn x h1 (by omega)), cutStep, hn b hb (by omega)]; simp
theorem cut_all (text : ByteArray) (has : Nat → Bool) (a b : Nat) (h : a ≤ b) (hb : b ≤ text.size) (hn : ∀ x, a ≤ x → x < b → has x = true) (out : List ByteArray) :
    run (cutStep text has) a b (ByteArray.empty, out) = (text.extract a b, out) := by
  induction b, h using leInd with
  | base => rw [run_same, ext_same]
  | succ b hab ih =>
    rw [run_succ _ _ _ hab, ih (by omega) (fun x h1 h2 => hn x h1 (by omega)), cutStep, hn b hab (by omega)]
    simp only [Bool.and_true, decide_eq_true_eq]
    rw [if_pos (by omega), ext_add _ _ _ _ hab (by omega)]
theorem cut_parts (text : ByteArray) (has : Nat → Bool) : ∀ (c : List (Nat × Nat)) (i : Nat) (out : List ByteArray), i ≤ text.size + 1 → InN i text.size c → Hass i text.size c has →
    run (cutStep text has) i (text.size + 1) (ByteArray.empty, out) = (ByteArray.empty, out ++ c.map (fun s => text.extract s.1 s.2))
  | [], i, out, hin, _, h => by
    rw [cut_none text has i _ hin (fun x a b => ?_)]
    · simp
    · by_cases c : x < text.size
      · have : has x = false := by rw [← Bool.not_eq_true, h x a c]; simp
        simp [this]
      · simp [c]
  | s :: c, i, out, hin, hi, h => by
    obtain ⟨p1, p2, p3⟩ := h.parts hi
    have ht := h.tail hi
    obtain ⟨h1, h2, h3, h4⟩ := hi
    rw [run_append _ i s.1 _ h1 (by omega), cut_none text has i s.1 h1 (fun x a b => by simp [p1 x a b]), run_append _ s.1 s.2 _ (by omega) (by omega), cut_all text has s.1 s.2 (by omega) h3 p2,
      run_append _ s.2 (s.2 + 1) _ (by omega) (by omega), run_one]
    have e : cutStep text has (text.extract s.1 s.2, out) s.2 = (ByteArray.empty, out ++ [text.extract s.1 s.2]) := by
      rw [cutStep]
      have : (decide (s.2 < text.size) && has s.2) = false := by
        by_cases c2 : s.2 < text.size
        · simp [p3 c2]
        · simp [c2]
      rw [if_neg (by simp [this]), if_pos (ext_ne _ _ _ h2 h3)]
    rw [e, cut_parts text has c (s.2 + 1) _ (by omega) h4 ht]
    simp
end SpanPlain
end Go.Proofs.YtdlcakmjihfgfaaGreatDoor
end
