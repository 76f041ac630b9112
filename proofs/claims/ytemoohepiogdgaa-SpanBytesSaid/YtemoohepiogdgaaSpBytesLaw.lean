/-
  The law SpanBytes: it returns true. Condition: the spans lie in memory.
-/
import Derived.Test.YtemoohepiogdgaaSpAwake
import Derived.Test.YtemoohepiogdgaaSpCut
import Derived.Test.YtemoohepiogdgaaSpMergesLaw
namespace Go.Proofs.Ytemoohepiogdgaa
open Go.RowKit Go.Shelf SpanPlain

abbrev hasN (l : List Sp) (x : Nat) : Bool := l.any (hasP (x : Int))
theorem hasN_cov (l : List Sp) (x : Int) : l.any (hasP x) = true ↔ Cov l x := by
  rw [List.any_eq_true]
  unfold Cov hasP
  constructor
  · rintro ⟨s, hs, h⟩; simp at h; exact ⟨s, hs, h⟩
  · rintro ⟨s, hs, h⟩; exact ⟨s, hs, by simpa using h⟩
theorem hass_clip (n : Nat) (l : List Sp) : Hass 0 n (clipN n (rmerge l)) (hasN l) := by
  intro x _ hx
  rw [clip_has n _ x hx, rmerge_cov]
  exact hasN_cov l x
theorem inN_clip (n : Nat) (l : List Sp) : InN 0 n (clipN n (rmerge l)) := clip_in n _ 0 (rmerge_canon l) (fun s _ => by omega) (by omega)
theorem cnt_clip (n : Nat) (l : List Sp) : cnt (hasN l) 0 n = sumN (clipN n (rmerge l)) := cnt_parts n _ _ 0 (Nat.zero_le _) (inN_clip n l) (hass_clip n l)
theorem cut_clip (text : ByteArray) (l : List Sp) : run (cutStep text (hasN l)) 0 (text.size + 1) (ByteArray.empty, []) = (ByteArray.empty, (clipN text.size (rmerge l)).map (part text)) := by
  rw [cut_parts text (hasN l) _ 0 [] (by omega) (inN_clip _ l) (hass_clip _ l)]; rfl
def cntI (l : List Sp) (n : Nat) (i : Int) : Nat := cnt (hasN l) 0 (min i.toNat n)
theorem cntI_in (l : List Sp) (n : Nat) (i : Int) (h0 : 0 ≤ i) (h1 : i < n) : cntI l n (i + 1) = cntI l n i + if l.any (hasP i) then 1 else 0 := by
  unfold cntI
  have e1 : min (i + 1).toNat n = i.toNat + 1 := by omega
  have e2 : min i.toNat n = i.toNat := by omega
  have e3 : ((i.toNat : Nat) : Int) = i := Int.toNat_of_nonneg h0
  rw [e1, e2, cnt, run_succ _ _ _ (Nat.zero_le _)]
  rw [← cnt]
  show (if hasN l i.toNat then _ else _) = _
  unfold hasN
  rw [e3]
  split <;> simp
theorem cntI_out (l : List Sp) (n : Nat) (i : Int) (h : i < 0 ∨ (n : Int) ≤ i) : cntI l n (i + 1) = cntI l n i := by
  unfold cntI
  congr 1
  omega
theorem cntI_le (l : List Sp) (n : Nat) (i : Int) : cntI l n i ≤ n := by
  unfold cntI
  have key : ∀ m, cnt (hasN l) 0 m ≤ m := by
    intro m
    induction m with
    | zero => simp [cnt, run_same]
    | succ m ih =>
      rw [cnt, run_succ _ _ _ (Nat.zero_le _), ← cnt]
      split <;> omega
  have := key (min i.toNat n)
  omega
set_option maxRecDepth 100000 in
set_option maxHeartbeats 4000000 in
theorem spanBytes_all (l : List Sp) (o : Option Addr) (cap : Nat) (text : ByteArray) (w : World) (hs : SpAt (fun _ => True) w o l) (hmx : l.length ≤ 9223372036854775807) (htx : text.size ≤ 9223372036854775807) :
    Calls Try.prog 6 #[.slice o l.length cap, .string text] w fun e w' => e = .returned (.bool true) ∧ Quiet0 w w' := by
  have HS := Lib.hid hs
  have HA : Hid (∀ W, Calls Try.prog 8 #[] W fun e w' => e = .returned (.bool true) ∧ Quiet0 W w') := fun W => awakeS_any W
  by_cases h40 : 40 < l.length
  · have h40' : (40 : Int) < (l.length : Int) := by omega
    clear hs
    go_enter Try.func6, Try.ntmps6
    go_wp2_with fail
    refine (HA.out _).mono ?_; rintro e w1 ⟨rfl, hq⟩
    go_wp2_with fail
    go_ret
    exact ⟨rfl, hq⟩
  · have h40' : ¬ (40 : Int) < (l.length : Int) := by omega
    by_cases h200 : 200 < text.size
    · have h200' : (200 : Int) < (text.size : Int) := by omega
      clear hs
      go_enter Try.func6, Try.ntmps6
      go_wp2_with fail
      refine (HA.out _).mono ?_; rintro e w1 ⟨rfl, hq⟩
      go_wp2_with fail
      go_ret
      exact ⟨rfl, hq⟩
    · have h200' : ¬ (200 : Int) < (text.size : Int) := by omega
      have HML : Hid ((rmerge l).length ≤ 1000000) := by show _ ≤ _; have := rmerge_length l; omega
      have HH1 : Hid (∀ i W, Quiet0 w W → Calls Try.prog 16 #[.int .i64 i, .slice o l.length cap] W fun e w' => e = .returned (.bool (l.any (hasP i))) ∧ W = w') := fun i W hq => refHasS_any i l o cap W _ (HS.out.stay hq) (by omega)
      have HH2 : Hid (∀ i W, Quiet0 w W → Calls Try.prog 17 #[.int .i64 i, .slice o l.length cap] W fun e w' => e = .returned (.bool (l.any (hasP i))) ∧ Quiet0 W w') := fun i W hq => hasS_any i l o cap W _ (HS.out.stay hq) (by omega)
      have HCT : Hid (∀ W, Quiet0 w W → Calls Try.prog 18 #[.int .i64 text.size, .slice o l.length cap] W fun e w' => e = .returned (.int .i64 (sumN (clipN text.size (rmerge l)) : Nat)) ∧ Quiet0 W w') := fun W hq => countS_any text.size l o cap W _ (HS.out.stay hq) (by omega) HML.out (by omega)
      have HCU : Hid (∀ W, Quiet0 w W → Calls Try.prog 20 #[.string text, .slice o l.length cap] W (StPost W ((clipN text.size (rmerge l)).map (part text)))) := fun W hq => cutS_any text l o cap W _ (HS.out.stay hq) (by omega) HML.out (by omega)
      have HRC : Hid (∀ W, Quiet0 w W → Calls Try.prog 21 #[.string text, .slice o l.length cap] W (StPost W ((clipN text.size (rmerge l)).map (part text)))) := fun W hq => refCutS_any text l o cap W _ (HS.out.stay hq) (by omega) (by omega) _ (cut_clip text l)
      have HSUM := Lib.hid (cnt_clip text.size l)
      have hpl : ((clipN text.size (rmerge l)).map (part text)).length ≤ 1000000 := by rw [List.length_map]; have := clipN_length text.size (rmerge l); have := HML.out; omega
      generalize hpt : (clipN text.size (rmerge l)).map (part text) = pt at *
      generalize hsm : sumN (clipN text.size (rmerge l)) = sm at *
      have HCI := Lib.hid (cntI_le l text.size)
      clear hs hpt hsm
      go_enter Try.func6, Try.ntmps6
      go_wp2_with fail
      go_loopw [5, 6] (fun v t wr => ∃ (i : Int), t = .int .i64 i ∧ -1 ≤ i ∧ i ≤ text.size + 1 ∧ v = .int .i64 (cntI l text.size i : Nat) ∧ Quiet0 w wr) (fun _ t _ => ((text.size : Int) + 1 - intOf t).toNat)
      case atStart => exact ⟨-1, rfl, by omega, by omega, by simp [cntI, cnt, run_same], Quiet0.refl _⟩
      case round =>
        obtain ⟨i, rfl, hi1, hi2, rfl, hq⟩ := hrel
        have HQ := Lib.hid hq
        clear hq
        by_cases hle : i ≤ text.size
        · have hnb := HCI.out i
          obtain ⟨n, hn⟩ : ∃ n, cntI l text.size i = n := ⟨_, rfl⟩
          have HN := Lib.hid hn
          rw [hn] at hnb
          rw [hn]
          obtain ⟨b, hb⟩ : ∃ b, l.any (hasP i) = b := ⟨_, rfl⟩
          have HC1 := HH1.out i wr HQ.out
          have HC2 := HH2.out i wr HQ.out
          rw [hb] at HC1 HC2
          have HB := Lib.hid hb
          have HD1 := Lib.hid HC1
          have HD2 := Lib.hid HC2
          clear HC1 HC2 hb hn
          cases b
          · have HX : Hid (cntI l text.size (i + 1) = n) := by
              show _ = _
              by_cases hin : 0 ≤ i ∧ i < text.size
              · rw [cntI_in l _ i hin.1 hin.2, HB.out, HN.out]; rfl
              · rw [cntI_out l _ i (by omega), HN.out]
            go_wp2_with fail
            refine HD1.out.mono ?_; rintro e w1 ⟨rfl, rfl⟩
            go_wp2_with fail
            refine HD2.out.mono ?_; rintro e w2 ⟨rfl, hq2⟩
            have HQ2 := Lib.hid (HQ.out.trans hq2)
            clear hq2
            go_wp2_with fail
            go_roundw
            case rel => exact ⟨i + 1, by go_num, by omega, by omega, by rw [HX.out], HQ2.out⟩
            case measure => simp [intOf]; omega
          · by_cases k0 : 0 ≤ i
            · by_cases k1 : i < text.size
              · have HX : Hid (cntI l text.size (i + 1) = n + 1) := by
                  show _ = _
                  rw [cntI_in l _ i k0 k1, HB.out, HN.out]; rfl
                go_wp2_with fail
                refine HD1.out.mono ?_; rintro e w1 ⟨rfl, rfl⟩
                go_wp2_with fail
                refine HD2.out.mono ?_; rintro e w2 ⟨rfl, hq2⟩
                have HQ2 := Lib.hid (HQ.out.trans hq2)
                clear hq2
                go_wp2_with fail
                go_roundw
                case rel => exact ⟨i + 1, by go_num, by omega, by omega, by rw [HX.out]; go_num, HQ2.out⟩
                case measure => simp [intOf]; omega
              · have HX : Hid (cntI l text.size (i + 1) = n) := by
                  show _ = _
                  rw [cntI_out l _ i (by omega), HN.out]
                go_wp2_with fail
                refine HD1.out.mono ?_; rintro e w1 ⟨rfl, rfl⟩
                go_wp2_with fail
                refine HD2.out.mono ?_; rintro e w2 ⟨rfl, hq2⟩
                have HQ2 := Lib.hid (HQ.out.trans hq2)
                clear hq2
                go_wp2_with fail
                go_roundw
                case rel => exact ⟨i + 1, by go_num, by omega, by omega, by rw [HX.out], HQ2.out⟩
                case measure => simp [intOf]; omega
            · have HX : Hid (cntI l text.size (i + 1) = n) := by
                show _ = _
                rw [cntI_out l _ i (by omega), HN.out]
              go_wp2_with fail
              refine HD1.out.mono ?_; rintro e w1 ⟨rfl, rfl⟩
              go_wp2_with fail
              refine HD2.out.mono ?_; rintro e w2 ⟨rfl, hq2⟩
              have HQ2 := Lib.hid (HQ.out.trans hq2)
              clear hq2
              go_wp2_with fail
              go_roundw
              case rel => exact ⟨i + 1, by go_num, by omega, by omega, by rw [HX.out], HQ2.out⟩
              case measure => simp [intOf]; omega
        · have hie : i = text.size + 1 := by omega
          have hcm : cntI l text.size i = sm := by rw [← HSUM.out, hie]; unfold cntI; congr 1; omega
          rw [hcm]
          clear hcm
          have hle' : ¬ i ≤ text.size := hle
          clear hie
          go_wp2_with fail
          refine (HCT.out _ HQ.out).mono ?_; rintro e w1 ⟨rfl, hq1⟩
          have HQ1 := Lib.hid (HQ.out.trans hq1)
          clear hq1
          go_wp2_with fail
          refine (HCU.out _ HQ1.out).mono ?_; rintro e w2 ⟨v2, rfl, hr2, hq2⟩
          obtain ⟨o2, c2, rfl, _, hs2⟩ := hr2.form
          have HS2 := Lib.hid hs2
          have HQ2 := Lib.hid (HQ1.out.trans hq2)
          clear hr2 hs2 hq2
          go_wp2_with fail
          refine (HRC.out _ HQ2.out).mono ?_; rintro e w3 ⟨v3, rfl, hr3, hq3⟩
          obtain ⟨o3, c3, rfl, _, hs3⟩ := hr3.form
          have HTX := refTexts_any pt pt o2 c2 o3 c3 w3 (HS2.out.stay hq3) hs3 hpl hpl
          rw [show decide (pt = pt) = true from by simp] at HTX
          have HT := Lib.hid HTX
          have HQ3 := Lib.hid (HQ2.out.trans hq3)
          clear hr3 hs3 hq3 HTX
          go_wp2_with fail
          refine HT.out.mono ?_; rintro e w4 ⟨rfl, hq4⟩
          have HQ4 := Lib.hid (HQ3.out.trans hq4)
          clear hq4
          go_wp2_with fail
          refine (HA.out _).mono ?_; rintro e w5 ⟨rfl, hq5⟩
          go_wp2_with fail
          go_ret
          exact ⟨rfl, HQ4.out.trans hq5⟩
end Go.Proofs.Ytemoohepiogdgaa
