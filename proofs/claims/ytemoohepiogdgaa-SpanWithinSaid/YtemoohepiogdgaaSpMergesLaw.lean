/-
  The law SpanMerges: it returns true. Condition: the spans lie in memory.
-/
import Derived.Test.YtemoohepiogdgaaSpAwake
namespace Go.Proofs.Ytemoohepiogdgaa
open Go.RowKit Go.Shelf SpanPlain

theorem right_step (n x y : Int) (l : List Sp) (i : Nat) (h : l[i]? = some (x, y)) : (!(l.take (i + 1)).any (rightP n)) = ((!(l.take i).any (rightP n)) && decide (0 ≤ x) && decide (y ≤ n) && decide (x ≤ y)) := by
  rw [List.take_add_one, h, List.any_append]
  simp only [Option.toList_some, List.any_cons, List.any_nil, Bool.or_false, Bool.not_or]
  rw [Bool.and_assoc, Bool.and_assoc]
  congr 1
  unfold rightP
  by_cases h1 : x < 0 <;> by_cases h2 : n < y <;> by_cases h3 : y < x <;> simp [h1, h2, h3] <;> omega
set_option maxRecDepth 100000 in
set_option maxHeartbeats 4000000 in
theorem spanMerges_all (l : List Sp) (o : Option Addr) (cap : Nat) (n : Int) (w : World) (hs : SpAt (fun _ => True) w o l) (hmx : l.length ≤ 9223372036854775807) :
    Calls Try.prog 3 #[.slice o l.length cap, .int .i64 n] w fun e w' => e = .returned (.bool true) ∧ Quiet0 w w' := by
  have HS := Lib.hid hs
  have HA : Hid (∀ W, Calls Try.prog 8 #[] W fun e w' => e = .returned (.bool true) ∧ Quiet0 W w') := fun W => awakeS_any W
  by_cases h60 : 60 < l.length
  · have h60' : (60 : Int) < (l.length : Int) := by omega
    clear hs
    go_enter Try.func3, Try.ntmps3
    go_wp2_with fail
    refine (HA.out _).mono ?_; rintro e w1 ⟨rfl, hq⟩
    go_wp2_with fail
    go_ret
    exact ⟨rfl, hq⟩
  · have h60' : ¬ (60 : Int) < (l.length : Int) := by omega
    have HM1 : Hid (∀ W, Quiet0 w W → Calls Try.prog 10 #[.slice o l.length cap] W (SpPost W (rmerge l))) := fun W hq => merge_any l o cap W _ (HS.out.stay hq) (by omega)
    have HM2 : Hid (∀ W, Quiet0 w W → Calls Try.prog 11 #[.slice o l.length cap] W (SpPost W (rmerge l))) := fun W hq => refMerge_any l o cap W _ (HS.out.stay hq) (by omega)
    have HML : Hid ((rmerge l).length ≤ 1000000) := by show _ ≤ _; have := rmerge_length l; omega
    have HR1 : Hid (∀ W, Quiet0 w W → Calls Try.prog 12 #[.int .i64 n, .slice o l.length cap] W fun e w' => e = .returned (.bool (!l.any (rightP n))) ∧ Quiet0 W w') := fun W hq => rightS_any n l o cap W _ (HS.out.stay hq) (by omega)
    clear hs
    go_enter Try.func3, Try.ntmps3
    go_wp2_with fail
    go_loopw [5, 6] (fun v t wr => ∃ (i : Nat), t = .int .i64 i ∧ i ≤ l.length ∧ v = .bool (!(l.take i).any (rightP n)) ∧ Quiet0 w wr) (fun _ t _ => l.length - (intOf t).toNat)
    case atStart => exact ⟨0, rfl, Nat.zero_le _, by simp, Quiet0.refl _⟩
    case round =>
      obtain ⟨i, rfl, hi, rfl, hq⟩ := hrel
      have HQ := Lib.hid hq
      clear hq
      by_cases hlt : i < l.length
      · have hlt' : (i : Int) < l.length := by omega
        obtain ⟨s, hsi⟩ : ∃ s, l[i]? = some s := ⟨_, List.getElem?_eq_getElem hlt⟩
        obtain ⟨x, y⟩ := s
        obtain ⟨b, off, rfl, _, a0, a1⟩ := HS.out.stay HQ.out i _ hsi
        have HN := Lib.hid (right_step n x y l i hsi)
        obtain ⟨r, hr⟩ : ∃ r, (!(l.take i).any (rightP n)) = r := ⟨_, rfl⟩
        obtain ⟨r2, hr2⟩ : ∃ r2, (!(l.take (i + 1)).any (rightP n)) = r2 := ⟨_, rfl⟩
        have HR2 := Lib.hid hr2
        rw [hr, hr2] at HN
        rw [hr]
        clear hr hr2 hsi
        have key : ∀ q : Bool, r2 = q → True := fun _ _ => trivial
        cases r
        · have HF : Hid (r2 = false) := by show _ = _; rw [HN.out]; rfl
          go_wp2_with fail
          go_quiet (fail)
          go_wp2_with fail
          go_roundw
          case rel => exact ⟨i + 1, by go_num, by omega, by rw [HR2.out, HF.out], HQ.out.trans (Quiet0.drewN _ _)⟩
          case measure => simp [intOf]; omega
        · by_cases h1 : 0 ≤ x
          · have d0 : decide (0 ≤ x) = true := by simpa using h1
            by_cases h2 : y ≤ n
            · have d1 : decide (y ≤ n) = true := by simpa using h2
              by_cases h3 : x ≤ y
              · have d2 : decide (x ≤ y) = true := by simpa using h3
                have HF : Hid (r2 = true) := by show _ = _; rw [HN.out, d0, d1, d2]; rfl
                go_wp2_with fail
                go_quiet (fail)
                go_wp2_with fail
                go_roundw
                case rel => exact ⟨i + 1, by go_num, by omega, by rw [HR2.out, HF.out], HQ.out.trans (Quiet0.drewN _ _)⟩
                case measure => simp [intOf]; omega
              · have d2 : decide (x ≤ y) = false := by simpa using h3
                have HF : Hid (r2 = false) := by show _ = _; rw [HN.out, d0, d1, d2]; rfl
                go_wp2_with fail
                go_quiet (fail)
                go_wp2_with fail
                go_roundw
                case rel => exact ⟨i + 1, by go_num, by omega, by rw [HR2.out, HF.out], HQ.out.trans (Quiet0.drewN _ _)⟩
                case measure => simp [intOf]; omega
            · have d1 : decide (y ≤ n) = false := by simpa using h2
              have HF : Hid (r2 = false) := by show _ = _; rw [HN.out, d0, d1]; rfl
              go_wp2_with fail
              go_quiet (fail)
              go_wp2_with fail
              go_roundw
              case rel => exact ⟨i + 1, by go_num, by omega, by rw [HR2.out, HF.out], HQ.out.trans (Quiet0.drewN _ _)⟩
              case measure => simp [intOf]; omega
          · have d0 : decide (0 ≤ x) = false := by simpa using h1
            have HF : Hid (r2 = false) := by show _ = _; rw [HN.out, d0]; rfl
            go_wp2_with fail
            go_quiet (fail)
            go_wp2_with fail
            go_roundw
            case rel => exact ⟨i + 1, by go_num, by omega, by rw [HR2.out, HF.out], HQ.out.trans (Quiet0.drewN _ _)⟩
            case measure => simp [intOf]; omega
      · have hlt' : ¬ (i : Int) < l.length := by omega
        have htk : l.take i = l := List.take_of_length_le (by omega)
        rw [htk]
        clear htk
        generalize (!l.any (rightP n)) = r at *
        go_wp2_with fail
        refine (HM1.out _ HQ.out).mono ?_; rintro e w1 ⟨v1, rfl, hr1, hq1⟩
        obtain ⟨o1, c1, rfl, hmx1⟩ := hr1.form
        have HRA := Lib.hid hr1
        have HQ1 := Lib.hid (HQ.out.trans hq1)
        clear hr1 hq1
        go_wp2_with fail
        refine (HM2.out _ HQ1.out).mono ?_; rintro e w2 ⟨v2, rfl, hr2, hq2⟩
        obtain ⟨o2, c2, rfl, hmx2⟩ := hr2.form
        have HRB := Lib.hid hr2.slc
        have HRA2 := Lib.hid (HRA.out.stay hq2).slc
        have HQ2 := Lib.hid (HQ1.out.trans hq2)
        clear hr2 hq2
        have HE : Hid (∀ W, Quiet0 w2 W → Calls Try.prog 9 #[.slice o1 (rmerge l).length c1, .slice o2 (rmerge l).length c2] W fun e w' => e = .returned (.bool true) ∧ Quiet0 W w') := by
          intro W hq
          have hml : (rmerge l).length ≤ 1000000 := HML.out
          have h := refSameS_any (rmerge l) (rmerge l) o1 c1 o2 c2 W _ _ (HRA2.out.stay hq) (HRB.out.stay hq) hml hml
          rw [show decide (rmerge l = rmerge l) = true from by simp] at h
          exact h
        go_wp2_with fail
        refine (HE.out _ (Quiet0.refl _)).mono ?_; rintro e w3 ⟨rfl, hq3⟩
        have HQ3 := Lib.hid (HQ2.out.trans hq3)
        clear hq3
        go_wp2_with fail
        refine (HR1.out _ HQ3.out).mono ?_; rintro e w4 ⟨rfl, hq4⟩
        have HQ4 := Lib.hid (HQ3.out.trans hq4)
        clear hq4
        go_wp2_with fail
        refine (HA.out _).mono ?_; rintro e w5 ⟨rfl, hq5⟩
        go_wp2_with fail
        go_ret
        exact ⟨rfl, HQ4.out.trans hq5⟩
end Go.Proofs.Ytemoohepiogdgaa
