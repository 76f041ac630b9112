/-
  The document's in, Marked and Skeleton. Conditions: the spans lie in memory as told; there are few; the text is short.
-/
import Derived.Test.YtdlcakmjihfgfaaDoorSlMarked
import Derived.Test.YtdlcakmjihfgfaaDoorSlLines
import Derived.Test.YtdlcakmjihfgfaaDoorSpHas
import Derived.IntWalk
namespace Go.Proofs.YtdlcakmjihfgfaaDoor
open Go.RowKit Go.Shelf SpanPlain

def inI (n : Nat) (l : List Sp) (i : Int) : Bool := decide (0 ≤ i) && decide (i < n) && l.any (hasP i)
theorem inI_nat (n : Nat) (l : List Sp) (i : Nat) : inI n l (i : Int) = inM n (hasN l) i := by
  unfold inI inM hasN; simp
theorem inI_pre (n : Nat) (l : List Sp) (i : Nat) : inI n l ((i : Int) - 1) = preM n (hasN l) i := by
  unfold preM
  by_cases h : 0 < i
  · have e : ((i : Int) - 1) = ((i - 1 : Nat) : Int) := by omega
    rw [e, inI_nat]; simp [h]
  · have : decide (0 ≤ (i : Int) - 1) = false := by simp; omega
    unfold inI; rw [this]; simp [h]
theorem inI_next (n : Nat) (l : List Sp) (i : Nat) : inI n l ((i : Int) + 1) = inM n (hasN l) (i + 1) := by
  have e : ((i : Int) + 1) = ((i + 1 : Nat) : Int) := by omega
  rw [e, inI_nat]
set_option maxHeartbeats 1000000 in
theorem refInS_any (text : ByteArray) (i : Int) (l : List Sp) (o : Option Addr) (cap : Nat) (w : World) (R : Nat → Prop) (hs : SpAt R w o l) (hz : l.length ≤ 1000000) (_ : text.size ≤ 1000000) :
    Calls Tryd.prog 24 #[.string text, .int .i64 i, .slice o l.length cap] w fun e w' => e = .returned (.bool (inI text.size l i)) ∧ w = w' := by
  have HC := Lib.hid (refHasS_any i l o cap w R hs hz)
  clear hs
  unfold inI
  generalize l.any (hasP i) = r at *
  by_cases h0 : 0 ≤ i
  · by_cases h1 : i < text.size
    · have e : (decide (0 ≤ i) && decide (i < (text.size : Int)) && r) = r := by simp [h0, h1]
      rw [e]
      go_enter Tryd.func24, Tryd.ntmps24
      go_wp2_with fail
      refine HC.out.mono ?_; rintro e w1 ⟨rfl, rfl⟩
      go_wp2_with fail
      go_ret
      exact ⟨rfl, rfl⟩
    · have e : (decide (0 ≤ i) && decide (i < (text.size : Int)) && r) = false := by simp [h1]
      rw [e]
      go_enter Tryd.func24, Tryd.ntmps24
      go_wp2_with fail
      go_ret
      exact ⟨rfl, rfl⟩
  · have e : (decide (0 ≤ i) && decide (i < (text.size : Int)) && r) = false := by simp [h0]
    rw [e]
    go_enter Tryd.func24, Tryd.ntmps24
    go_wp2_with fail
    go_ret
    exact ⟨rfl, rfl⟩
set_option maxRecDepth 100000 in
set_option maxHeartbeats 4000000 in
theorem refMarked_any (text : ByteArray) (l : List Sp) (o : Option Addr) (cap : Nat) (w : World) (R : Nat → Prop) (hs : SpAt R w o l) (hz : l.length ≤ 1000000) (hn : text.size ≤ 1000000) (fin : ByteArray) (hfin : run (markStep text (hasN l)) 0 text.size ByteArray.empty = fin) :
    Calls Tryd.prog 8 #[.string text, .slice o l.length cap] w (fun e w' => e = .returned (.string fin) ∧ w = w') := by
  have HIN := Lib.hid (fun (i : Int) => refInS_any text i l o cap w R hs hz hn)
  have HFIN := Lib.hid hfin
  clear hs hfin
  go_enter Tryd.func8, Tryd.ntmps8
  go_wp2_with fail
  go_loop [5, 6] (fun v t => ∃ (i : Nat) (acc : ByteArray), t = .int .i64 i ∧ i ≤ text.size ∧ v = .string acc ∧ run (markStep text (hasN l)) i text.size acc = fin ∧ acc.size ≤ 5 * i) (fun _ t => text.size - (intOf t).toNat)
  case atStart => exact ⟨0, ByteArray.empty, rfl, Nat.zero_le _, rfl, HFIN.out, Nat.le_refl _⟩
  case round =>
    obtain ⟨i, acc, rfl, hi, rfl, hr, ha⟩ := hrel
    have HR := Lib.hid hr
    clear hr
    by_cases hlt : i < text.size
    · have hlt' : (i : Int) < text.size := by omega
      have HN : Hid (run (markStep text (hasN l)) (i + 1) text.size (markStep text (hasN l) acc i) = fin) := by
        show _ = _; rw [← HR.out, run_append _ i (i + 1) _ (by omega) (by omega), run_one]
      have H0 := HIN.out (i : Int)
      have H1 := HIN.out ((i : Int) - 1)
      have H2 := HIN.out ((i : Int) + 1)
      rw [inI_nat] at H0
      rw [inI_pre] at H1
      rw [inI_next] at H2
      obtain ⟨b0, hb0⟩ : ∃ b0, inM text.size (hasN l) i = b0 := ⟨_, rfl⟩
      obtain ⟨b1, hb1⟩ : ∃ b1, preM text.size (hasN l) i = b1 := ⟨_, rfl⟩
      obtain ⟨b2, hb2⟩ : ∃ b2, inM text.size (hasN l) (i + 1) = b2 := ⟨_, rfl⟩
      rw [hb0] at H0
      rw [hb1] at H1
      rw [hb2] at H2
      have HC0 := Lib.hid H0
      have HC1 := Lib.hid H1
      have HC2 := Lib.hid H2
      have HB := Lib.hid (And.intro hb0 (And.intro hb1 hb2))
      have hzx : (text.extract i (i + 1)).size = 1 := by simp; omega
      have HZX := Lib.hid hzx
      clear H0 H1 H2 hb0 hb1 hb2
      cases b0
      · have HM : Hid (markStep text (hasN l) acc i = acc ++ text.extract i (i + 1)) := by show _ = _; unfold markStep; simp [HB.out.1]
        rw [HM.out] at HN
        go_wp2_with fail
        refine HC0.out.mono ?_; rintro e w1 ⟨rfl, rfl⟩
        go_wp2_with fail
        refine HC0.out.mono ?_; rintro e w1 ⟨rfl, rfl⟩
        go_wp2_with fail
        go_round
        case rel => exact ⟨i + 1, _, by go_num, by omega, rfl, HN.out, by rw [ByteArray.size_append, HZX.out]; omega⟩
        case measure => simp [intOf]; omega
      · cases b1
        · cases b2
          · have HM : Hid (markStep text (hasN l) acc i = acc ++ mL ++ text.extract i (i + 1) ++ mR) := by show _ = _; unfold markStep; simp [HB.out.1, HB.out.2.1, HB.out.2.2]
            rw [HM.out] at HN
            go_wp2_with fail
            refine HC0.out.mono ?_; rintro e w1 ⟨rfl, rfl⟩
            go_wp2_with fail
            refine HC1.out.mono ?_; rintro e w1 ⟨rfl, rfl⟩
            go_wp2_with fail
            refine HC0.out.mono ?_; rintro e w1 ⟨rfl, rfl⟩
            go_wp2_with fail
            refine HC2.out.mono ?_; rintro e w1 ⟨rfl, rfl⟩
            go_wp2_with fail
            go_round
            case rel => exact ⟨i + 1, _, by go_num, by omega, rfl, HN.out, by simp only [ByteArray.size_append, HZX.out]; have e1 : mL.size = 2 := rfl; have q1 : (ByteArray.mk #[194, 171]).size = 2 := rfl; have e2 : mR.size = 2 := rfl; have q2 : (ByteArray.mk #[194, 187]).size = 2 := rfl; omega⟩
            case measure => simp [intOf]; omega
          · have HM : Hid (markStep text (hasN l) acc i = acc ++ mL ++ text.extract i (i + 1)) := by show _ = _; unfold markStep; simp [HB.out.1, HB.out.2.1, HB.out.2.2]
            rw [HM.out] at HN
            go_wp2_with fail
            refine HC0.out.mono ?_; rintro e w1 ⟨rfl, rfl⟩
            go_wp2_with fail
            refine HC1.out.mono ?_; rintro e w1 ⟨rfl, rfl⟩
            go_wp2_with fail
            refine HC0.out.mono ?_; rintro e w1 ⟨rfl, rfl⟩
            go_wp2_with fail
            refine HC2.out.mono ?_; rintro e w1 ⟨rfl, rfl⟩
            go_wp2_with fail
            go_round
            case rel => exact ⟨i + 1, _, by go_num, by omega, rfl, HN.out, by simp only [ByteArray.size_append, HZX.out]; have e1 : mL.size = 2 := rfl; have q1 : (ByteArray.mk #[194, 171]).size = 2 := rfl; omega⟩
            case measure => simp [intOf]; omega
        · cases b2
          · have HM : Hid (markStep text (hasN l) acc i = acc ++ text.extract i (i + 1) ++ mR) := by show _ = _; unfold markStep; simp [HB.out.1, HB.out.2.1, HB.out.2.2]
            rw [HM.out] at HN
            go_wp2_with fail
            refine HC0.out.mono ?_; rintro e w1 ⟨rfl, rfl⟩
            go_wp2_with fail
            refine HC1.out.mono ?_; rintro e w1 ⟨rfl, rfl⟩
            go_wp2_with fail
            refine HC0.out.mono ?_; rintro e w1 ⟨rfl, rfl⟩
            go_wp2_with fail
            refine HC2.out.mono ?_; rintro e w1 ⟨rfl, rfl⟩
            go_wp2_with fail
            go_round
            case rel => exact ⟨i + 1, _, by go_num, by omega, rfl, HN.out, by simp only [ByteArray.size_append, HZX.out]; have e1 : mR.size = 2 := rfl; have q2 : (ByteArray.mk #[194, 187]).size = 2 := rfl; omega⟩
            case measure => simp [intOf]; omega
          · have HM : Hid (markStep text (hasN l) acc i = acc ++ text.extract i (i + 1)) := by show _ = _; unfold markStep; simp [HB.out.1, HB.out.2.1, HB.out.2.2]
            rw [HM.out] at HN
            go_wp2_with fail
            refine HC0.out.mono ?_; rintro e w1 ⟨rfl, rfl⟩
            go_wp2_with fail
            refine HC1.out.mono ?_; rintro e w1 ⟨rfl, rfl⟩
            go_wp2_with fail
            refine HC0.out.mono ?_; rintro e w1 ⟨rfl, rfl⟩
            go_wp2_with fail
            refine HC2.out.mono ?_; rintro e w1 ⟨rfl, rfl⟩
            go_wp2_with fail
            go_round
            case rel => exact ⟨i + 1, _, by go_num, by omega, rfl, HN.out, by rw [ByteArray.size_append, HZX.out]; omega⟩
            case measure => simp [intOf]; omega
    · have hlt' : ¬ (i : Int) < text.size := by omega
      have HY : Hid (acc = fin) := by
        show _ = _; have := HR.out; have e : i = text.size := by omega
        rw [e, run_same] at this; exact this
      go_wp2_with fail
      go_ret
      exact ⟨by rw [HY.out]; rfl, rfl⟩
set_option maxRecDepth 100000 in
set_option maxHeartbeats 4000000 in
theorem refSkeleton_any (text : ByteArray) (l : List Sp) (o : Option Addr) (cap : Nat) (w : World) (R : Nat → Prop) (hs : SpAt R w o l) (hz : l.length ≤ 1000000) (hn : text.size ≤ 1000000) (fin : ByteArray) (hfin : skelEnd (run (skelStep text (hasN l)) 0 text.size (ByteArray.empty, false)) = fin) :
    Calls Tryd.prog 10 #[.string text, .slice o l.length cap] w (fun e w' => e = .returned (.string fin) ∧ w = w') := by
  have HIN := Lib.hid (fun (i : Int) => refInS_any text i l o cap w R hs hz hn)
  have HFIN := Lib.hid hfin
  clear hs hfin
  go_enter Tryd.func10, Tryd.ntmps10
  go_wp2_with fail
  go_loop [5, 6, 7] (fun v u t => ∃ (i : Nat) (acc : ByteArray) (gap : Bool), t = .int .i64 i ∧ i ≤ text.size ∧ v = .string acc ∧ u = .bool gap ∧ skelEnd (run (skelStep text (hasN l)) i text.size (acc, gap)) = fin ∧ acc.size ≤ 3 * i) (fun _ _ t => text.size - (intOf t).toNat)
  case atStart => exact ⟨0, ByteArray.empty, false, rfl, Nat.zero_le _, rfl, rfl, HFIN.out, Nat.le_refl _⟩
  case round =>
    obtain ⟨i, acc, gap, rfl, hi, rfl, rfl, hr, ha⟩ := hrel
    have HR := Lib.hid hr
    clear hr
    by_cases hlt : i < text.size
    · have hlt' : (i : Int) < text.size := by omega
      have HN : Hid (skelEnd (run (skelStep text (hasN l)) (i + 1) text.size (skelStep text (hasN l) (acc, gap) i)) = fin) := by
        show _ = _; rw [← HR.out, run_append _ i (i + 1) _ (by omega) (by omega), run_one]
      have H0 := HIN.out (i : Int)
      rw [inI_nat] at H0
      obtain ⟨b0, hb0⟩ : ∃ b0, inM text.size (hasN l) i = b0 := ⟨_, rfl⟩
      rw [hb0] at H0
      have HC0 := Lib.hid H0
      have HB := Lib.hid hb0
      have hzx : (text.extract i (i + 1)).size = 1 := by simp; omega
      have HZX := Lib.hid hzx
      have hby := byteAt_get text i hlt
      obtain ⟨x, hx⟩ : ∃ x, text[i] = x := ⟨_, rfl⟩
      have HBY : Hid (byteAt text i = x) := Lib.hid (hby.trans hx)
      clear H0 hb0 hby
      cases b0
      · have HM : Hid (skelStep text (hasN l) (acc, gap) i = (acc, gap || !blankB x)) := by show _ = _; unfold skelStep; simp [HB.out, HBY.out]
        rw [HM.out] at HN
        have hxc : ∀ c : UInt8, ((x.toNat : Int) != (c.toNat : Int)) = !(x == c) := by
          intro c
          have : ((x.toNat : Int) == (c.toNat : Int)) = (x == c) := by
            rw [Bool.eq_iff_iff]; simp only [beq_iff_eq]
            exact ⟨fun h => UInt8.toNat_inj.1 (by omega), fun h => by rw [h]⟩
          rw [bne, this]
        have HX := Lib.hid hxc
        clear hxc
        cases k1 : (x == 32)
        · have q1 : ((x.toNat : Int) != 32) = true := by have := HX.out 32; rw [k1] at this; simpa using this
          cases k2 : (x == 9)
          · have q2 : ((x.toNat : Int) != 9) = true := by have := HX.out 9; rw [k2] at this; simpa using this
            cases k3 : (x == 10)
            · have q3 : ((x.toNat : Int) != 10) = true := by have := HX.out 10; rw [k3] at this; simpa using this
              cases k4 : (x == 13)
              · have q4 : ((x.toNat : Int) != 13) = true := by have := HX.out 13; rw [k4] at this; simpa using this
                have HK : Hid (blankB x = false) := by show _ = _; unfold blankB; rw [k1, k2, k3, k4]; rfl
                rw [HK.out] at HN
                clear k1 k2 k3 k4
                go_wp2_with fail
                refine HC0.out.mono ?_; rintro e w1 ⟨rfl, rfl⟩
                go_wp2_with fail
                go_round
                case rel => exact ⟨i + 1, acc, true, by go_num, by omega, rfl, rfl, by have := HN.out; simpa using this, by omega⟩
                case measure => simp [intOf]; omega
              · have q4 : ((x.toNat : Int) != 13) = false := by have := HX.out 13; rw [k4] at this; simpa using this
                have HK : Hid (blankB x = true) := by show _ = _; unfold blankB; rw [k4]; simp
                rw [HK.out] at HN
                clear k1 k2 k3 k4
                go_wp2_with fail
                refine HC0.out.mono ?_; rintro e w1 ⟨rfl, rfl⟩
                go_wp2_with fail
                go_round
                case rel => exact ⟨i + 1, acc, gap, by go_num, by omega, rfl, rfl, by have := HN.out; simpa using this, by omega⟩
                case measure => simp [intOf]; omega
            · have q3 : ((x.toNat : Int) != 10) = false := by have := HX.out 10; rw [k3] at this; simpa using this
              have HK : Hid (blankB x = true) := by show _ = _; unfold blankB; rw [k3]; simp
              rw [HK.out] at HN
              clear k1 k2 k3
              go_wp2_with fail
              refine HC0.out.mono ?_; rintro e w1 ⟨rfl, rfl⟩
              go_wp2_with fail
              go_round
              case rel => exact ⟨i + 1, acc, gap, by go_num, by omega, rfl, rfl, by have := HN.out; simpa using this, by omega⟩
              case measure => simp [intOf]; omega
          · have q2 : ((x.toNat : Int) != 9) = false := by have := HX.out 9; rw [k2] at this; simpa using this
            have HK : Hid (blankB x = true) := by show _ = _; unfold blankB; rw [k2]; simp
            rw [HK.out] at HN
            clear k1 k2
            go_wp2_with fail
            refine HC0.out.mono ?_; rintro e w1 ⟨rfl, rfl⟩
            go_wp2_with fail
            go_round
            case rel => exact ⟨i + 1, acc, gap, by go_num, by omega, rfl, rfl, by have := HN.out; simpa using this, by omega⟩
            case measure => simp [intOf]; omega
        · have q1 : ((x.toNat : Int) != 32) = false := by have := HX.out 32; rw [k1] at this; simpa using this
          have HK : Hid (blankB x = true) := by show _ = _; unfold blankB; rw [k1]; simp
          rw [HK.out] at HN
          clear k1
          go_wp2_with fail
          refine HC0.out.mono ?_; rintro e w1 ⟨rfl, rfl⟩
          go_wp2_with fail
          go_round
          case rel => exact ⟨i + 1, acc, gap, by go_num, by omega, rfl, rfl, by have := HN.out; simpa using this, by omega⟩
          case measure => simp [intOf]; omega
      · cases gap
        · have HM : Hid (skelStep text (hasN l) (acc, false) i = (acc ++ text.extract i (i + 1), false)) := by show _ = _; unfold skelStep; simp [HB.out]
          rw [HM.out] at HN
          go_wp2_with fail
          refine HC0.out.mono ?_; rintro e w1 ⟨rfl, rfl⟩
          go_wp2_with fail
          go_round
          case rel => exact ⟨i + 1, _, false, by go_num, by omega, rfl, rfl, HN.out, by rw [ByteArray.size_append, HZX.out]; omega⟩
          case measure => simp [intOf]; omega
        · have HM : Hid (skelStep text (hasN l) (acc, true) i = (acc ++ dots ++ text.extract i (i + 1), false)) := by show _ = _; unfold skelStep; simp [HB.out]
          rw [HM.out] at HN
          go_wp2_with fail
          refine HC0.out.mono ?_; rintro e w1 ⟨rfl, rfl⟩
          go_wp2_with fail
          go_round
          case rel => exact ⟨i + 1, _, false, by go_num, by omega, rfl, rfl, HN.out, by simp only [ByteArray.size_append, HZX.out]; have e1 : dots.size = 2 := rfl; have q1 : (ByteArray.mk #[46, 46]).size = 2 := rfl; omega⟩
          case measure => simp [intOf]; omega
    · have hlt' : ¬ (i : Int) < text.size := by omega
      have HY : Hid (skelEnd (acc, gap) = fin) := by
        show _ = _; have := HR.out; have e : i = text.size := by omega
        rw [e, run_same] at this; exact this
      cases gap
      · go_wp2_with fail
        go_ret
        exact ⟨by rw [← HY.out]; rfl, rfl⟩
      · go_wp2_with fail
        go_ret
        exact ⟨by rw [← HY.out]; rfl, rfl⟩
end Go.Proofs.YtdlcakmjihfgfaaDoor
