/-
  The law SliceBack: it returns true. Condition: the spans lie in memory.
-/
import Derived.Test.YtdlcakmjihfgfaaDoorSlAwake
import Derived.Test.YtdlcakmjihfgfaaDoorSpCut
import Derived.IntWalk
import Derived.Deep.QuietTactic
import Derived.BigQuiet
namespace Go.Proofs.YtdlcakmjihfgfaaDoor
open Go.RowKit Go.Shelf SpanPlain

theorem quiet_flip {P : Program} {f : FuncId} {args : Array Value} {w : World} {n : Nat} {v : Value}
    (h : Calls P f args (w.drewN n) fun e w' => e = .returned v ∧ w.drewN n = w') : Calls P f args (w.drewN n) fun e w'' => e = .returned v ∧ ∃ m, w'' = w.drewN m :=
  h.mono fun _ _ ⟨he, hm⟩ => ⟨he, n, hm.symm⟩
/-- between two rounds -/
structure BackI (text m : ByteArray) (c : List (Nat × Nat)) (i a k : Nat) : Prop where
  il : i ≤ m.size
  kl : k ≤ c.length
  rest : m.extract i m.size = mkT text (c.drop k) a
  inA : InA text.size a (c.drop k)
  done : ∀ s ∈ c.take k, s.2 ≤ a
theorem BackI.part {text m : ByteArray} {c : List (Nat × Nat)} {i a k : Nat} {s : Nat × Nat} {r : List (Nat × Nat)} (h : BackI text m c i a k) (hd : c.drop k = s :: r) (ha : a = s.1) :
    k < c.length ∧ c[k]? = some s ∧ i + 4 + (text.extract s.1 s.2).size ≤ m.size ∧ m.extract i (i + 4 + (text.extract s.1 s.2).size) = mL ++ text.extract s.1 s.2 ++ mR ∧ a + (text.extract s.1 s.2).size = s.2 ∧ 0 < (text.extract s.1 s.2).size ∧ BackI text m c (i + 4 + (text.extract s.1 s.2).size) s.2 (k + 1) := by
  have hA := h.inA
  rw [hd] at hA
  obtain ⟨h1, h2, h3, h4⟩ := hA
  have hk : k < c.length := by
    rcases Nat.lt_or_ge k c.length with h' | h'
    · exact h'
    · rw [List.drop_of_length_le h'] at hd; cases hd
  have hck : c[k]? = some s := by
    rw [List.drop_eq_getElem_cons hk] at hd
    rw [List.getElem?_eq_getElem hk]
    injection hd with e1 _; rw [e1]
  have hdr : c.drop (k + 1) = r := by
    rw [List.drop_eq_getElem_cons hk] at hd
    injection hd
  have hr := h.rest
  rw [hd, ha, mkT_part] at hr
  obtain ⟨e1, e2, e3⟩ := ext_split m _ _ i h.il hr
  have hsz : (mL ++ text.extract s.1 s.2 ++ mR).size = 4 + (text.extract s.1 s.2).size := by
    simp only [ByteArray.size_append]; have q1 : mL.size = 2 := rfl; have q2 : mR.size = 2 := rfl; omega
  have hsp : (text.extract s.1 s.2).size = s.2 - s.1 := by simp; omega
  rw [hsz, ← Nat.add_assoc] at e1 e2 e3
  refine ⟨hk, hck, by omega, e2, by omega, by omega, ⟨by omega, hk, by rw [hdr]; exact e3, by rw [hdr]; exact h4, ?_⟩⟩
  intro t ht
  rw [List.take_add_one, hck] at ht
  rcases List.mem_append.1 ht with h' | h'
  · have := h.done t h'; omega
  · simp at h'; subst h'; exact Nat.le_refl _
theorem BackI.byte {text m : ByteArray} {c : List (Nat × Nat)} {i a k : Nat} (h : BackI text m c i a k) (hi : i < m.size) (hs : ∀ s r, c.drop k = s :: r → a < s.1) :
    ∃ ha : a < text.size, m[i] = text[a] ∧ BackI text m c (i + 1) (a + 1) k := by
  have hsz : (m.extract i m.size).size = m.size - i := by simp
  have hne := mkT_ne h.inA hs (by rw [← h.rest]; omega)
  obtain ⟨e, hA⟩ := mkT_step text h.inA hne hs
  have hr := h.rest
  rw [e] at hr
  obtain ⟨e1, e2, e3⟩ := ext_split m _ _ i h.il hr
  have h1 : (text.extract a (a + 1)).size = 1 := by simp; omega
  rw [h1] at e1 e2 e3
  refine ⟨hne, ?_, ⟨by omega, h.kl, e3, hA, fun s hs' => by have := h.done s hs'; omega⟩⟩
  have q1 := ext_one_data m i hi
  have q2 := ext_one_data text a hne
  rw [e2, q2] at q1
  rw [← byteAt_get m i hi, ← byteAt_get text a hne]
  injection q1 with q3 _; exact q3.symm
theorem BackI.fin {text m : ByteArray} {c : List (Nat × Nat)} {i a k : Nat} (h : BackI text m c i a k) (hi : ¬ i < m.size) : a = text.size ∧ k = c.length := by
  have h0 := mkT_size text _ _ h.inA
  have h1 : (m.extract i m.size).size = m.size - i := by simp
  rw [← h.rest, h1, List.length_drop] at h0
  have h2 := h.inA.le
  have h3 := h.kl
  omega
set_option maxRecDepth 100000 in
set_option maxHeartbeats 8000000 in
theorem sliceBack_all (text : ByteArray) (l : List Sp) (o : Option Addr) (cap : Nat) (w : World) (hs : SpAt (fun _ => True) w o l) (hmx : l.length ≤ 9223372036854775807) (htx : text.size ≤ 9223372036854775807) :
    Calls Tryd.prog 4 #[.string text, .slice o l.length cap] w fun e w' => e = .returned (.bool true) ∧ Quiet0 w w' := by
  have HS := Lib.hid hs
  have HA : Hid (∀ W, Calls Tryd.prog 6 #[] W fun e w' => e = .returned (.bool true) ∧ Quiet0 W w') := fun W => awakeSl_any W
  by_cases h200 : 200 < text.size
  · have h200' : (200 : Int) < (text.size : Int) := by omega
    clear hs
    go_enter Tryd.func4, Tryd.ntmps4
    go_wp2_with fail
    refine (HA.out _).mono ?_; rintro e w1 ⟨rfl, hq⟩
    go_wp2_with fail
    go_ret
    exact ⟨rfl, hq⟩
  · have h200' : ¬ (200 : Int) < (text.size : Int) := by omega
    by_cases h30 : 30 < l.length
    · have h30' : (30 : Int) < (l.length : Int) := by omega
      clear hs
      go_enter Tryd.func4, Tryd.ntmps4
      go_wp2_with fail
      refine (HA.out _).mono ?_; rintro e w1 ⟨rfl, hq⟩
      go_wp2_with fail
      go_ret
      exact ⟨rfl, hq⟩
    · have h30' : ¬ (30 : Int) < (l.length : Int) := by omega
      have HML : Hid ((rmerge l).length ≤ 1000000) := by show _ ≤ _; have := rmerge_length l; omega
      have HM : Hid (∀ W, Quiet0 w W → Calls Tryd.prog 7 #[.string text, .slice o l.length cap] W (StrQ W (eachF text markF (clipN text.size (rmerge l)) 0 ByteArray.empty))) := fun W hq => marked_any text l o cap W _ (HS.out.stay hq) (by omega) (by omega)
      have HCU : Hid (∀ W, Quiet0 w W → Calls Tryd.prog 14 #[.string text, .slice o l.length cap] W (StPost W ((clipN text.size (rmerge l)).map (part text)))) := fun W hq => cutS_any text l o cap W _ (HS.out.stay hq) (by omega) HML.out (by omega)
      have hHAS := hass_clip text.size l
      have hinA : InA text.size 0 (clipN text.size (rmerge l)) := (inN_clip text.size l).inA (Nat.le_refl _) (Nat.zero_le _)
      have hem := each_mkT text _ 0 ByteArray.empty hinA
      rw [ByteArray.empty_append] at hem
      have hcl := clipN_length text.size (rmerge l)
      have hrl := rmerge_length l
      obtain ⟨c, hc⟩ : ∃ c, clipN text.size (rmerge l) = c := ⟨_, rfl⟩
      rw [hc] at HM HCU hHAS hinA hem hcl
      obtain ⟨m, hm⟩ : ∃ m, eachF text markF c 0 ByteArray.empty = m := ⟨_, rfl⟩
      rw [hm] at HM hem
      have hms := mkT_size text c 0 hinA
      rw [← hem] at hms
      have hI0 : BackI text m c 0 0 0 := ⟨Nat.zero_le _, Nat.zero_le _, by rw [List.drop_zero, ← hem]; simp, by rw [List.drop_zero]; exact hinA, fun s hs => absurd hs (by simp)⟩
      have HI0 := Lib.hid hI0
      have HHAS := Lib.hid hHAS
      have hmz : m.size ≤ 1000 := by omega
      have hcz : c.length ≤ 30 := by omega
      have hms' : ((m.size : Int) != (text.size : Int) + 4 * (c.length : Int)) = false := by simp; omega
      have HPL : Hid ((c.map (part text)).length = c.length) := List.length_map _
      clear hs hc hm hem hcl hrl hms hI0 hHAS hinA
      go_enter Tryd.func4, Tryd.ntmps4
      go_wp2_with fail
      refine (HM.out _ (Quiet0.refl _)).mono ?_; rintro e w1 ⟨rfl, hq1⟩
      have HQ1 := Lib.hid hq1
      clear hq1
      go_wp2_with fail
      refine (HCU.out _ HQ1.out).mono ?_; rintro e w2 ⟨v2, rfl, hr2, hq2⟩
      obtain ⟨o2, c2, rfl, _, hs2⟩ := hr2.form
      have HS2 := Lib.hid hs2
      have HQ2 := Lib.hid (HQ1.out.trans hq2)
      rw [HPL.out]
      clear hr2 hs2 hq2
      go_wp2_with fail
      go_loopw [7, 8, 9] (fun u v t wr => ∃ (i a k : Nat), t = .int .i64 i ∧ u = .int .i64 a ∧ v = .int .i64 k ∧ BackI text m c i a k ∧ Quiet0 w2 wr) (fun _ _ t _ => m.size - (intOf t).toNat)
      case atStart => exact ⟨0, 0, 0, rfl, rfl, rfl, HI0.out, Quiet0.refl _⟩
      case round =>
        obtain ⟨i, a, k, rfl, rfl, rfl, hI, hq⟩ := hrel
        have HI := Lib.hid hI
        have HQ := Lib.hid hq
        have hi1 := hI.il
        have hk1 := hI.kl
        have ha1 := hI.inA.le
        clear hI hq
        by_cases hlt : i < m.size
        · have hlt' : (i : Int) < m.size := by omega
          have hplen : (c.map (part text)).length = c.length := List.length_map _
          by_cases hst : ∃ s r, c.drop k = s :: r ∧ a = s.1
          · obtain ⟨s, r, hd, ha⟩ := hst
            obtain ⟨b1, b2, b3, b4, b5, b6, b7⟩ := HI.out.part hd ha
            have hsA := HI.out.inA
            rw [hd] at hsA
            have hhas : l.any (hasP (a : Int)) = true := by rw [ha]; exact has_start HHAS.out hd hsA.2.1 hsA.2.2.1
            have hgp : (c.map (part text))[k]? = some (text.extract s.1 s.2) := by rw [List.getElem?_map, b2]; rfl
            obtain ⟨g, off, rfl, hcell⟩ := (HS2.out.stay HQ.out) k _ hgp
            have HHC := Lib.hid (fun (W : World) (hq : Quiet0 w W) => refHasS_any (a : Int) l o cap W _ (HS.out.stay hq) (by omega))
            rw [hhas] at HHC
            have HB7 := Lib.hid b7
            have hseq : ((m.extract i (i + 4 + (text.extract s.1 s.2).size)).toList == (mL ++ text.extract s.1 s.2 ++ mR).toList) = true := by rw [b4]; simp
            generalize hp : text.extract s.1 s.2 = p at *
            generalize s.2 = y at *
            obtain ⟨J, hJ⟩ : ∃ J, J = i + 4 + p.size := ⟨_, rfl⟩
            rw [← hJ] at b3 hseq HB7
            have hklt : (k : Int) < c.length := by omega
            have hkl : decide (k < c.length) = true := by simpa using b1
            have hJm : (J : Int) ≤ m.size := by omega
            have hiJ : (i : Int) ≤ J := by omega
            have hJi : i < J := by omega
            have HQW := Lib.hid (HQ2.out.trans HQ.out)
            have e3 : IntKind.i64.wrap ((a : Int) + (p.size : Int)) = (y : Int) := by rw [IntWalk.i64_in _ (by omega)]; omega
            have e4 : IntKind.i64.wrap ((k : Int) + 1) = (k : Int) + 1 := IntWalk.i64_in _ (by omega)
            have e1 : IntKind.i64.wrap ((i : Int) + 4) = (i : Int) + 4 := IntWalk.i64_in _ (by omega)
            have e2 : IntKind.i64.wrap ((i : Int) + 4 + (p.size : Int)) = (J : Int) := by rw [IntWalk.i64_in _ (by omega)]; omega
            have E1 := Lib.hid e1
            have E2 := Lib.hid e2
            have E3 := Lib.hid e3
            have E4 := Lib.hid e4
            have hz1 : (9223372036854775807 < 2 + p.size) = False := by simp; omega
            have hz2 : (9223372036854775807 < 2 + p.size + 2) = False := by simp; omega
            clear b1 b2 b4 b5 b6 b7 hsA hhas hgp hd ha e3 e4 hJ hp
            go_upto_region 10 with fail
            go_quiet ((go_at_call 15; exact quiet_flip (HHC.out _ (HQW.out.trans (Quiet0.drewN _ _)))))
            clear e1 e2 hz1 hz2 hseq
            go_upto_region 11 with fail
            have e1 := E1.out
            have e2 := E2.out
            have e3 := E3.out
            have e4 := E4.out
            go_quiet (fail)
            clear e1 e2 e3 e4
            go_wp2_with fail
            go_roundw
            case rel => exact ⟨J, y, k + 1, rfl, rfl, by go_num, HB7.out, (HQ.out.trans (Quiet0.drewN _ _)).trans (Quiet0.drewN _ _)⟩
            case measure => simp [intOf]; omega
          · have hns : ∀ s r, c.drop k = s :: r → a < s.1 := fun s r hd => by
              have h1 := HI.out.inA
              rw [hd] at h1
              have h2 : a ≠ s.1 := fun e => hst ⟨s, r, hd, e⟩
              have := h1.1; omega
            obtain ⟨han, hbe, hI2⟩ := HI.out.byte hlt hns
            have HI2 := Lib.hid hI2
            have hhas : l.any (hasP (a : Int)) = false := has_not HHAS.out han HI.out.done HI.out.inA hns
            have HHC := Lib.hid (fun (W : World) (hq : Quiet0 w W) => refHasS_any (a : Int) l o cap W _ (HS.out.stay hq) (by omega))
            rw [hhas] at HHC
            obtain ⟨x, hx⟩ : ∃ x, m[i] = x := ⟨_, rfl⟩
            have hy : text[a] = x := by rw [← hbe]; exact hx
            have HX := Lib.hid hx
            have HY := Lib.hid hy
            have han' : (a : Int) < text.size := by omega
            have e5 : IntKind.i64.wrap ((i : Int) + 1) = (i : Int) + 1 := IntWalk.i64_in _ (by omega)
            have e6 : IntKind.i64.wrap ((a : Int) + 1) = (a : Int) + 1 := IntWalk.i64_in _ (by omega)
            have E5 := Lib.hid e5
            have E6 := Lib.hid e6
            have HQW := Lib.hid (HQ2.out.trans HQ.out)
            clear hst hns hI2 hhas hbe e5 e6 hx hy
            by_cases hkl : k < c.length
            · have hgp : (c.map (part text))[k]? = some (part text c[k]) := by rw [List.getElem?_map, List.getElem?_eq_getElem hkl]; rfl
              obtain ⟨g, off, rfl, hcell⟩ := (HS2.out.stay HQ.out) k _ hgp
              have hpz : (part text c[k]).size ≤ text.size := by simp; omega
              generalize part text c[k] = p at *
              have hkl' : decide (k < c.length) = true := by simpa using hkl
              obtain ⟨J, hJ⟩ : ∃ J, J = i + 4 + p.size := ⟨_, rfl⟩
              have hklt : (k : Int) < c.length := by omega
              have hiJ : (i : Int) ≤ J := by omega
              have hiJn : i ≤ J := by omega
              clear hgp
              by_cases hJm : J ≤ m.size
              · have hJm' : (J : Int) ≤ m.size := by omega
                obtain ⟨bq, hbq⟩ : ∃ bq, ((m.extract i J).toList == (mL ++ p ++ mR).toList) = bq := ⟨_, rfl⟩
                have e1 : IntKind.i64.wrap ((i : Int) + 4) = (i : Int) + 4 := IntWalk.i64_in _ (by omega)
                have e2 : IntKind.i64.wrap ((i : Int) + 4 + (p.size : Int)) = (J : Int) := by rw [IntWalk.i64_in _ (by omega)]; omega
                have hz1 : (9223372036854775807 < 2 + p.size) = False := by simp; omega
                have hz2 : (9223372036854775807 < 2 + p.size + 2) = False := by simp; omega
                clear hJ
                cases bq
                · go_upto_region 10 with fail
                  go_quiet (fail)
                  clear e1 e2 hz1 hz2 hbq
                  go_upto_region 12 with fail
                  have hx := HX.out
                  have hy := HY.out
                  have hna : decide (text.size ≤ a) = false := by simp; omega
                  go_quiet (fail)
                  clear hx hy hna
                  go_wp2_with fail
                  go_roundw
                  case rel => exact ⟨i + 1, a + 1, k, by go_num, by go_num, rfl, HI2.out, HQ.out.trans (Quiet0.drewN _ _)⟩
                  case measure => simp [intOf]; omega
                · go_upto_region 10 with fail
                  go_quiet ((go_at_call 15; exact quiet_flip (HHC.out _ (HQW.out.trans (Quiet0.drewN _ _)))))
                  clear e1 e2 hz1 hz2 hbq
                  go_upto_region 12 with fail
                  have hx := HX.out
                  have hy := HY.out
                  have hna : decide (text.size ≤ a) = false := by simp; omega
                  go_quiet (fail)
                  clear hx hy hna
                  go_wp2_with fail
                  go_roundw
                  case rel => exact ⟨i + 1, a + 1, k, by go_num, by go_num, rfl, HI2.out, HQ.out.trans (Quiet0.drewN _ _)⟩
                  case measure => simp [intOf]; omega
              · have hJm' : ¬ (J : Int) ≤ m.size := by omega
                have e1 : IntKind.i64.wrap ((i : Int) + 4) = (i : Int) + 4 := IntWalk.i64_in _ (by omega)
                have e2 : IntKind.i64.wrap ((i : Int) + 4 + (p.size : Int)) = (J : Int) := by rw [IntWalk.i64_in _ (by omega)]; omega
                clear hJ
                go_upto_region 10 with fail
                go_quiet (fail)
                clear e1 e2
                go_upto_region 12 with fail
                have hx := HX.out
                have hy := HY.out
                have hna : decide (text.size ≤ a) = false := by simp; omega
                go_quiet (fail)
                clear hx hy hna
                go_wp2_with fail
                go_roundw
                case rel => exact ⟨i + 1, a + 1, k, by go_num, by go_num, rfl, HI2.out, HQ.out.trans (Quiet0.drewN _ _)⟩
                case measure => simp [intOf]; omega
            · have hkl' : decide (k < c.length) = false := by simpa using hkl
              go_upto_region 10 with fail
              go_quiet (fail)
              go_upto_region 12 with fail
              have hx := HX.out
              have hy := HY.out
              have hna : decide (text.size ≤ a) = false := by simp; omega
              go_quiet (fail)
              clear hx hy hna
              go_wp2_with fail
              go_roundw
              case rel => exact ⟨i + 1, a + 1, k, by go_num, by go_num, rfl, HI2.out, HQ.out.trans (Quiet0.drewN _ _)⟩
              case measure => simp [intOf]; omega
        · have hlt' : ¬ (i : Int) < m.size := by omega
          obtain ⟨rfl, rfl⟩ := HI.out.fin hlt
          go_wp2_with fail
          refine (HA.out _).mono ?_; rintro e w4 ⟨rfl, hq4⟩
          have HQ4 := Lib.hid (HQ2.out.trans (HQ.out.trans hq4))
          clear hq4
          go_wp2_with fail
          go_ret
          exact ⟨rfl, HQ4.out⟩
end Go.Proofs.YtdlcakmjihfgfaaDoor
