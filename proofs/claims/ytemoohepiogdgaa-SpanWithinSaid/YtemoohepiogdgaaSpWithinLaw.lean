/-
  The law SpanWithin: it returns true. Condition: the spans lie in memory.
-/
import Derived.Test.YtemoohepiogdgaaSpAwake
import Derived.Test.YtemoohepiogdgaaSpWithin
import Derived.Test.YtemoohepiogdgaaSpMergesLaw
namespace Go.Proofs.Ytemoohepiogdgaa
open Go.RowKit Go.Shelf SpanPlain

theorem any_step {p : Sp → Bool} {l : List Sp} {i : Nat} {t : Sp} (h : l[i]? = some t) : (l.take (i + 1)).any p = ((l.take i).any p || p t) := by
  rw [List.take_add_one, h, List.any_append]; simp
set_option maxRecDepth 100000 in
set_option maxHeartbeats 8000000 in
theorem spanWithin_all (a b : List Sp) (o : Option Addr) (cap : Nat) (p : Option Addr) (pc : Nat) (w : World) (hs : SpAt (fun _ => True) w o a) (ht : SpAt (fun _ => True) w p b) (hma : a.length ≤ 9223372036854775807) (hmb : b.length ≤ 9223372036854775807) :
    Calls Try.prog 5 #[.slice o a.length cap, .slice p b.length pc] w fun e w' => e = .returned (.bool true) ∧ Quiet0 w w' := by
  have HS := Lib.hid hs
  have HT := Lib.hid ht
  have HA : Hid (∀ W, Calls Try.prog 8 #[] W fun e w' => e = .returned (.bool true) ∧ Quiet0 W w') := fun W => awakeS_any W
  clear hs ht
  by_cases h30 : 30 < a.length
  · have h30' : (30 : Int) < (a.length : Int) := by omega
    go_enter Try.func5, Try.ntmps5
    go_wp2_with fail
    refine (HA.out _).mono ?_; rintro e w1 ⟨rfl, hq⟩
    go_wp2_with fail
    go_ret
    exact ⟨rfl, hq⟩
  · have h30' : ¬ (30 : Int) < (a.length : Int) := by omega
    by_cases g30 : 30 < b.length
    · have g30' : (30 : Int) < (b.length : Int) := by omega
      go_enter Try.func5, Try.ntmps5
      go_wp2_with fail
      refine (HA.out _).mono ?_; rintro e w1 ⟨rfl, hq⟩
      go_wp2_with fail
      go_ret
      exact ⟨rfl, hq⟩
    · have g30' : ¬ (30 : Int) < (b.length : Int) := by omega
      have hla := rmerge_length a
      have hlb := rmerge_length b
      have HM1 : Hid (∀ W, Quiet0 w W → Calls Try.prog 11 #[.slice o a.length cap] W (SpPost W (rmerge a))) := fun W hq => refMerge_any a o cap W _ (HS.out.stay hq) (by omega)
      have HM2 : Hid (∀ W, Quiet0 w W → Calls Try.prog 11 #[.slice p b.length pc] W (SpPost W (rmerge b))) := fun W hq => refMerge_any b p pc W _ (HT.out.stay hq) (by omega)
      have HW : Hid (∀ W, Quiet0 w W → Calls Try.prog 13 #[.slice o a.length cap, .slice p b.length pc] W fun e w' => e = .returned (.bool (!(rmerge a).any (outP (rmerge b)))) ∧ Quiet0 W w') := fun W hq => withinS_any a b o cap p pc W _ _ (HS.out.stay hq) (HT.out.stay hq) (by omega) (by omega) (by omega) (by omega)
      generalize rmerge a = xs at *
      generalize rmerge b = ys at *
      go_enter Try.func5, Try.ntmps5
      go_wp2_with fail
      refine (HM1.out _ (Quiet0.refl _)).mono ?_; rintro e w1 ⟨v1, rfl, hr1, hq1⟩
      obtain ⟨o1, c1, rfl, _⟩ := hr1.form
      have HX := Lib.hid hr1.slc
      have HQ1 := Lib.hid hq1
      clear hr1 hq1
      go_wp2_with fail
      refine (HM2.out _ HQ1.out).mono ?_; rintro e w2 ⟨v2, rfl, hr2, hq2⟩
      obtain ⟨o2, c2, rfl, _⟩ := hr2.form
      have HY := Lib.hid hr2.slc
      have HX2 := Lib.hid (HX.out.stay hq2)
      have HQ2 := Lib.hid (HQ1.out.trans hq2)
      clear hr2 hq2
      go_wp2_with fail
      go_loopw [7, 8] (fun v t wr => ∃ (i : Nat), t = .int .i64 i ∧ i ≤ xs.length ∧ v = .bool (!(xs.take i).any (outP ys)) ∧ Quiet0 w2 wr) (fun _ t _ => xs.length - (intOf t).toNat)
      case atStart => exact ⟨0, rfl, Nat.zero_le _, rfl, Quiet0.refl _⟩
      case round =>
        obtain ⟨i, rfl, hi, rfl, hq⟩ := hrel
        have HQ := Lib.hid hq
        clear hq
        by_cases hlt : i < xs.length
        · have hlt' : (i : Int) < xs.length := by omega
          obtain ⟨s, hsi⟩ : ∃ s, xs[i]? = some s := ⟨_, List.getElem?_eq_getElem hlt⟩
          have HN : Hid ((!(xs.take (i + 1)).any (outP ys)) = ((!(xs.take i).any (outP ys)) && ys.any (inP s))) := by
            show _ = _
            rw [any_step hsi]; unfold outP; rw [Bool.not_or, Bool.not_not]
          have HSI := Lib.hid hsi
          clear hsi
          generalize (!(xs.take i).any (outP ys)) = r at *
          go_wp2_with fail
          go_loopw [9, 10] (fun v t w3 => ∃ (k : Nat), t = .int .i64 k ∧ k ≤ ys.length ∧ v = .bool ((ys.take k).any (inP s)) ∧ Quiet0 w2 w3) (fun _ t _ => ys.length - (intOf t).toNat)
          case atStart => exact ⟨0, rfl, Nat.zero_le _, rfl, HQ.out⟩
          case round =>
            obtain ⟨k, rfl, hk, rfl, hq4⟩ := hrel
            have HQ4 := Lib.hid hq4
            by_cases hlt2 : k < ys.length
            · have hlt2' : (k : Int) < ys.length := by omega
              obtain ⟨t, htk⟩ : ∃ t, ys[k]? = some t := ⟨_, List.getElem?_eq_getElem hlt2⟩
              have HN2 := Lib.hid (any_step (p := inP s) htk)
              obtain ⟨x, y⟩ := s
              obtain ⟨u, v⟩ := t
              obtain ⟨b1, off1, rfl, _, a0, a1⟩ := HX2.out.stay hq4 i _ HSI.out
              obtain ⟨b2, off2, rfl, _, d0, d1⟩ := HY.out.stay hq4 k _ htk
              clear htk hq4
              generalize (ys.take k).any (inP (x, y)) = q at *
              cases q
              · by_cases k1 : u ≤ x
                · by_cases k2 : y ≤ v
                  · have HP : Hid (inP (x, y) (u, v) = true) := by show _ = _; unfold inP; simp [k1, k2]
                    go_wp2_with fail
                    go_quiet (fail)
                    go_wp2_with fail
                    go_roundw
                    case rel => exact ⟨k + 1, by go_num, by omega, by rw [HN2.out, HP.out]; rfl, HQ4.out.trans (Quiet0.drewN _ _)⟩
                    case measure => simp [intOf]; omega
                  · have HP : Hid (inP (x, y) (u, v) = false) := by show _ = _; unfold inP; simp [k1, k2]
                    have k2' : decide (y ≤ v) = false := by simpa using k2
                    go_wp2_with fail
                    go_quiet (fail)
                    go_wp2_with fail
                    go_roundw
                    case rel => exact ⟨k + 1, by go_num, by omega, by rw [HN2.out, HP.out]; rfl, HQ4.out.trans (Quiet0.drewN _ _)⟩
                    case measure => simp [intOf]; omega
                · have HP : Hid (inP (x, y) (u, v) = false) := by show _ = _; unfold inP; simp [k1]
                  have k1' : decide (u ≤ x) = false := by simpa using k1
                  go_wp2_with fail
                  go_quiet (fail)
                  go_wp2_with fail
                  go_roundw
                  case rel => exact ⟨k + 1, by go_num, by omega, by rw [HN2.out, HP.out]; rfl, HQ4.out.trans (Quiet0.drewN _ _)⟩
                  case measure => simp [intOf]; omega
              · go_wp2_with fail
                go_quiet (fail)
                go_wp2_with fail
                go_roundw
                case rel => exact ⟨k + 1, by go_num, by omega, by rw [HN2.out]; rfl, HQ4.out.trans (Quiet0.drewN _ _)⟩
                case measure => simp [intOf]; omega
            · have hlt2' : ¬ (k : Int) < ys.length := by omega
              have htk : ys.take k = ys := List.take_of_length_le (by omega)
              rw [htk]
              clear htk hq4
              generalize ys.any (inP s) = q at *
              cases r
              all_goals
                go_wp2_with fail
                go_roundw
                case rel => exact ⟨i + 1, by go_num, by omega, by rw [HN.out]; rfl, HQ4.out⟩
                case measure => simp [intOf]; omega
        · have hlt' : ¬ (i : Int) < xs.length := by omega
          have htk : xs.take i = xs := List.take_of_length_le (by omega)
          rw [htk]
          clear htk
          generalize (!xs.any (outP ys)) = r at *
          go_wp2_with fail
          go_loopw [11] (fun t w3 => ∃ (k : Nat), t = .int .i64 k ∧ k ≤ a.length ∧ k ≤ b.length ∧ Quiet0 w2 w3) (fun t _ => a.length - (intOf t).toNat)
          case atStart => exact ⟨0, rfl, Nat.zero_le _, Nat.zero_le _, HQ.out⟩
          case round =>
            obtain ⟨k, rfl, hk1, hk2, hq4⟩ := hrel
            have HQ4 := Lib.hid hq4
            by_cases hb : k < a.length ∧ k < b.length
            · obtain ⟨hb1, hb2⟩ := hb
              have hb1' : (k : Int) < a.length := by omega
              have hb2' : (k : Int) < b.length := by omega
              obtain ⟨s, hsk⟩ : ∃ s, a[k]? = some s := ⟨_, List.getElem?_eq_getElem hb1⟩
              obtain ⟨t, htk⟩ : ∃ t, b[k]? = some t := ⟨_, List.getElem?_eq_getElem hb2⟩
              obtain ⟨x, y⟩ := s
              obtain ⟨u, v⟩ := t
              obtain ⟨b1, off1, rfl, _, a0, a1⟩ := HS.out.stay (HQ2.out.trans hq4) k _ hsk
              obtain ⟨b2, off2, rfl, _, d0, d1⟩ := HT.out.stay (HQ2.out.trans hq4) k _ htk
              obtain ⟨jj, hj⟩ : ∃ jj, joinS (x, y) (u, v) = jj := ⟨_, rfl⟩
              obtain ⟨j1, j2⟩ := jj
              have HJ1 : Hid (∀ W, Calls Try.prog 14 #[.agg #[.int .i64 x, .int .i64 y], .agg #[.int .i64 u, .int .i64 v]] W fun e w' => e = .returned (.agg #[.int .i64 j1, .int .i64 j2]) ∧ Quiet0 W w') := by
                intro W; have h := joinS_any (x, y) (u, v) W; rw [hj] at h; exact h
              have HJ2 : Hid (∀ W, Calls Try.prog 15 #[.agg #[.int .i64 x, .int .i64 y], .agg #[.int .i64 u, .int .i64 v]] W fun e w' => e = .returned (.agg #[.int .i64 j1, .int .i64 j2]) ∧ Quiet0 W w') := by
                intro W; have h := refJoinS_any (x, y) (u, v) W; rw [hj] at h; exact h
              have HC5 : Hid (∀ W, Quiet0 wr W → W.cell? ⟨b1, off1 + k * 2, none⟩ = some (.int .i64 x) ∧ W.cell? ⟨b1, off1 + k * 2 + 1, none⟩ = some (.int .i64 y) ∧ W.cell? ⟨b2, off2 + k * 2, none⟩ = some (.int .i64 u) ∧ W.cell? ⟨b2, off2 + k * 2 + 1, none⟩ = some (.int .i64 v)) :=
                fun W hq => ⟨hq.at a0, hq.at a1, hq.at d0, hq.at d1⟩
              clear hsk htk hj hq4 hb1 hb2
              go_wp2_with fail
              have hqc := Quiet0.refl wr
              go_region_held3 (fun w' => w'.cell? ⟨b1, off1 + k * 2, none⟩ = some (.int .i64 x) ∧ w'.cell? ⟨b1, off1 + k * 2 + 1, none⟩ = some (.int .i64 y) ∧ w'.cell? ⟨b2, off2 + k * 2, none⟩ = some (.int .i64 u) ∧ w'.cell? ⟨b2, off2 + k * 2 + 1, none⟩ = some (.int .i64 v))
                (((refine HC5.out _ ?_); (repeat (first | with_reducible exact hqc | with_reducible exact Quiet0.refl _ | with_reducible refine Quiet0.trans ?_ (Quiet0.alloc _ _) | with_reducible refine Quiet0.trans ?_ (Quiet0.drew _) | fail))))
                (first
                  | (go_at_call 14; (with_reducible refine Calls.mono (HJ1.out _) ?_); rintro e wx ⟨rfl, hqx⟩; (refine with_q (w0 := wr) ?hq2 hqx ?_); (case hq2 => (repeat (first | with_reducible exact hqc | with_reducible exact Quiet0.refl _ | with_reducible refine Quiet0.trans ?_ (Quiet0.alloc _ _) | with_reducible refine Quiet0.trans ?_ (Quiet0.drew _) | fail))); intro hqc)
                  | (go_at_call 15; (with_reducible refine Calls.mono (HJ2.out _) ?_); rintro e wx ⟨rfl, hqx⟩; (refine with_q (w0 := wr) ?hq2 hqx ?_); (case hq2 => (repeat (first | with_reducible exact hqc | with_reducible exact Quiet0.refl _ | with_reducible refine Quiet0.trans ?_ (Quiet0.alloc _ _) | with_reducible refine Quiet0.trans ?_ (Quiet0.drew _) | fail))); intro hqc)
                  | fail)
              all_goals
                go_wp2_with fail
                go_roundw
                case rel => exact ⟨k + 1, by go_num, by omega, by omega, HQ4.out.trans hqc⟩
                case measure => simp [intOf]; omega
            · by_cases hb1 : k < a.length
              · have hb1' : (k : Int) < a.length := by omega
                have hb2' : ¬ (k : Int) < b.length := by omega
                clear hq4
                go_wp2_with fail
                refine (HW.out _ (HQ2.out.trans HQ4.out)).mono ?_; rintro e w4 ⟨rfl, hq5⟩
                have HQ5 := Lib.hid ((HQ2.out.trans HQ4.out).trans hq5)
                clear hq5
                go_wp2_with fail
                refine (HA.out _).mono ?_; rintro e w5 ⟨rfl, hq6⟩
                go_wp2_with fail
                go_ret
                exact ⟨rfl, HQ5.out.trans hq6⟩
              · have hb1' : ¬ (k : Int) < a.length := by omega
                clear hq4
                go_wp2_with fail
                refine (HW.out _ (HQ2.out.trans HQ4.out)).mono ?_; rintro e w4 ⟨rfl, hq5⟩
                have HQ5 := Lib.hid ((HQ2.out.trans HQ4.out).trans hq5)
                clear hq5
                go_wp2_with fail
                refine (HA.out _).mono ?_; rintro e w5 ⟨rfl, hq6⟩
                go_wp2_with fail
                go_ret
                exact ⟨rfl, HQ5.out.trans hq6⟩
end Go.Proofs.Ytemoohepiogdgaa
