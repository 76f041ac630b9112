/-
  LexApart, walked: it returns true and turns nothing that was there. Condition: strings.asciiSpace holds what its initialiser lays.
-/
import Derived.Test.YtaojlionebkcoaaDoorLexBackLaw
namespace Go.Proofs.YtaojlionebkcoaaDoor
open Go.RowKit

theorem apart_words (a b : List UInt8) : wordsL (a ++ 10 :: b) = joinW (wordsL a) (shiftW (a.length + 1) (wordsL b)) := by
  have h1 := wordsA_app a.length a b 0 (Nat.le_refl _)
  have h2 := wordsA_shift b.length b 0 (a.length + 1) (Nat.le_refl _)
  rw [Nat.zero_add] at h1 h2
  exact h1.trans (by rw [h2]; rfl)
theorem glue_bytes (a b : ByteArray) : (a ++ ⟨#[10]⟩ ++ b).data.toList = a.data.toList ++ 10 :: b.data.toList := by simp
theorem glue_size (a b : ByteArray) : (a ++ ⟨#[10]⟩ ++ b).size = a.size + 1 + b.size := by
  rw [← bytes_length, glue_bytes]; simp; omega
theorem glue_left {ts us : List Tok} {i : Nat} {t : Tok} (hi : i < ts.length - 1) (h : ts[i]? = some t) : (ts.dropLast ++ us)[i]? = some t := by
  rw [List.getElem?_append_left (by simpa using hi), List.getElem?_dropLast, if_pos hi, h]
theorem glue_right {ts us : List Tok} {d i : Nat} {t : Tok} (hi : ts.length - 1 ≤ i) (h : us[i - (ts.length - 1)]? = some t) : (ts.dropLast ++ us.map (Tok.shift d))[i]? = some (t.shift d) := by
  rw [List.getElem?_append_right (by simpa using hi), List.getElem?_map]
  simp [h]

theorem wordsA_place : ∀ (at' : Nat) (l : List UInt8) (p : Nat × Nat), wordsA at' l = .inr p → p.1 ≤ at' + l.length := by
  suffices h : ∀ (n : Nat) (at' : Nat) (l : List UInt8) (p : Nat × Nat), l.length ≤ n → wordsA at' l = .inr p → p.1 ≤ at' + l.length from fun a l ts hw => h l.length a l ts (Nat.le_refl _) hw
  intro n
  induction n with
  | zero =>
    intro a l p hl hw
    have : l = [] := List.eq_nil_of_length_eq_zero (by omega)
    subst this
    rw [wordsA_end rfl] at hw
    cases hw
  | succ n ih =>
    intro a l p hl hw
    have hle := skipL_le false l
    by_cases hk : skipL false l = l.length
    · rw [wordsA_end hk] at hw; cases hw
    · by_cases he : (nextL (l.drop (skipL false l))).2.2 = 0
      · have hlen := nextL_len he
        rw [wordsA_tok (by omega) he] at hw
        revert hw
        cases hr : wordsA (a + skipL false l + (nextL (l.drop (skipL false l))).2.1) ((l.drop (skipL false l)).drop (nextL (l.drop (skipL false l))).2.1) with
        | inr e =>
          intro hw
          have := ih _ _ e (by simp only [List.length_drop] at *; omega) hr
          cases hw
          simp only [List.length_drop] at *
          omega
        | inl us => intro hw; cases hw
      · rw [wordsA_bad (by omega) he] at hw; cases hw; simp; omega

set_option maxHeartbeats 1000000 in
theorem lexApart_big (a b : ByteArray) (hs : 200 < a.size ∨ 200 < b.size) (w : World) (ht : Spaces w) : Calls Tryd.prog 4 #[.string a, .string b] w fun e w' => e = .returned (.bool true) ∧ Quiet0 w w' := by
  have HT := Lib.hid ht
  clear ht
  by_cases h1 : (200 : Int) < (a.size : Int)
  · clear hs
    go_enter Tryd.func4, Tryd.ntmps4
    go_wp2_with fail
    refine (awake_any _ HT.out).mono ?_; rintro e w1 ⟨rfl, hq⟩
    go_wp2_with fail
    go_ret
    exact ⟨rfl, hq⟩
  · have h2 : (200 : Int) < (b.size : Int) := by omega
    clear hs
    go_enter Tryd.func4, Tryd.ntmps4
    go_wp2_with fail
    refine (awake_any _ HT.out).mono ?_; rintro e w1 ⟨rfl, hq⟩
    go_wp2_with fail
    go_ret
    exact ⟨rfl, hq⟩

set_option maxRecDepth 100000 in
set_option maxHeartbeats 4000000 in
theorem lexApart_bad1 (a b : ByteArray) (ha : a.size ≤ 200) (hb : b.size ≤ 200) (w : World) (ht : Spaces w) (p er : Nat) (hw : wordsL a.data.toList = .inr (p, er)) : Calls Tryd.prog 4 #[.string a, .string b] w fun e w' => e = .returned (.bool true) ∧ Quiet0 w w' := by
  have HT := Lib.hid ht
  have HW := Lib.hid hw
  have her := wordsA_err _ _ _ hw
  simp only at her
  have HB : Hid (wordsL (a ++ ⟨#[10]⟩ ++ b).data.toList = .inr (p, er)) := by show _ = _; rw [glue_bytes, apart_words, hw]; rfl
  have HSZ : Hid ((a ++ ⟨#[10]⟩ ++ b).size ≤ 100000) := by show _ ≤ _; rw [glue_size]; omega
  clear ht hw
  have h1 : ¬ (200 : Int) < (a.size : Int) := by omega
  have h2 : ¬ (200 : Int) < (b.size : Int) := by omega
  have e1 : ((er : Int) != 0) = true := by simp; omega
  have e2 : ((p : Int) == (p : Int)) = true := by simp
  cases hw2 : wordsL b.data.toList with
  | inl us =>
    have HW2 := Lib.hid hw2
    clear hw2
    go_enter Tryd.func4, Tryd.ntmps4
    go_wp2_with fail
    refine (words_any a (by omega) _ HT.out).mono ?_; rintro e w1 hp
    obtain ⟨hq1, rfl⟩ := hp.bad HW.out
    have HQ1 := Lib.hid hq1
    clear hp hq1
    go_wp2_with fail
    refine (words_any b (by omega) _ (HT.out.stay HQ1.out)).mono ?_; rintro e w2 hp
    obtain ⟨hq2, g, c, rfl, _⟩ := hp.ok HW2.out
    have HQ2 := Lib.hid (HQ1.out.trans hq2)
    clear hp hq2
    go_wp2_with fail
    with_reducible refine (words_any (a ++ ⟨#[10]⟩ ++ b) HSZ.out _ (HT.out.stay HQ2.out)).mono ?_
    rintro e w3 hp
    obtain ⟨hq3, rfl⟩ := hp.bad HB.out
    have HQ3 := Lib.hid (HQ2.out.trans hq3)
    clear hp hq3
    go_wp2_with fail
    refine (words_any a (by omega) _ (HT.out.stay HQ3.out)).mono ?_; rintro e w4 hp
    obtain ⟨hq4, rfl⟩ := hp.bad HW.out
    have HQ4 := Lib.hid (HQ3.out.trans hq4)
    clear hp hq4
    go_wp2_with fail
    refine (awake_any _ (HT.out.stay HQ4.out)).mono ?_; rintro e w5 ⟨rfl, hq⟩
    go_wp2_with fail
    go_ret
    exact ⟨rfl, HQ4.out.trans hq⟩
  | inr q =>
    have HW2 := Lib.hid hw2
    clear hw2
    go_enter Tryd.func4, Tryd.ntmps4
    go_wp2_with fail
    refine (words_any a (by omega) _ HT.out).mono ?_; rintro e w1 hp
    obtain ⟨hq1, rfl⟩ := hp.bad HW.out
    have HQ1 := Lib.hid hq1
    clear hp hq1
    go_wp2_with fail
    refine (words_any b (by omega) _ (HT.out.stay HQ1.out)).mono ?_; rintro e w2 hp
    obtain ⟨hq2, rfl⟩ := hp.bad HW2.out
    have HQ2 := Lib.hid (HQ1.out.trans hq2)
    clear hp hq2
    go_wp2_with fail
    with_reducible refine (words_any (a ++ ⟨#[10]⟩ ++ b) HSZ.out _ (HT.out.stay HQ2.out)).mono ?_
    rintro e w3 hp
    obtain ⟨hq3, rfl⟩ := hp.bad HB.out
    have HQ3 := Lib.hid (HQ2.out.trans hq3)
    clear hp hq3
    go_wp2_with fail
    refine (words_any a (by omega) _ (HT.out.stay HQ3.out)).mono ?_; rintro e w4 hp
    obtain ⟨hq4, rfl⟩ := hp.bad HW.out
    have HQ4 := Lib.hid (HQ3.out.trans hq4)
    clear hp hq4
    go_wp2_with fail
    refine (awake_any _ (HT.out.stay HQ4.out)).mono ?_; rintro e w5 ⟨rfl, hq⟩
    go_wp2_with fail
    go_ret
    exact ⟨rfl, HQ4.out.trans hq⟩

set_option maxRecDepth 100000 in
set_option maxHeartbeats 4000000 in
theorem lexApart_bad2 (a b : ByteArray) (ha : a.size ≤ 200) (hb : b.size ≤ 200) (w : World) (ht : Spaces w) (ts : List Tok) (q er : Nat) (hw : wordsL a.data.toList = .inl ts) (hw2 : wordsL b.data.toList = .inr (q, er)) : Calls Tryd.prog 4 #[.string a, .string b] w fun e w' => e = .returned (.bool true) ∧ Quiet0 w w' := by
  have HT := Lib.hid ht
  have HW := Lib.hid hw
  have HW2 := Lib.hid hw2
  have her := wordsA_err _ _ _ hw2
  simp only at her
  have HB : Hid (wordsL (a ++ ⟨#[10]⟩ ++ b).data.toList = .inr (q + (a.size + 1), er)) := by show _ = _; rw [glue_bytes, apart_words, hw, hw2, bytes_length]; rfl
  have HSZ : Hid ((a ++ ⟨#[10]⟩ ++ b).size ≤ 100000) := by show _ ≤ _; rw [glue_size]; omega
  clear ht hw hw2
  have h1 : ¬ (200 : Int) < (a.size : Int) := by omega
  have h2 : ¬ (200 : Int) < (b.size : Int) := by omega
  have e1 : ((er : Int) != 0) = true := by simp; omega
  have e2 : ((er : Int) == (er : Int)) = true := by simp
  by_cases hqs : q ≤ 100000
  · have e3 : ((((q + (a.size + 1) : Nat) : Int)) == (a.size : Int) + 1 + (q : Int)) = true := by simp; omega
    go_enter Tryd.func4, Tryd.ntmps4
    go_wp2_with fail
    refine (words_any a (by omega) _ HT.out).mono ?_; rintro e w1 hp
    obtain ⟨hq1, g, c, rfl, _⟩ := hp.ok HW.out
    have HQ1 := Lib.hid hq1
    clear hp hq1
    go_wp2_with fail
    refine (words_any b (by omega) _ (HT.out.stay HQ1.out)).mono ?_; rintro e w2 hp
    obtain ⟨hq2, rfl⟩ := hp.bad HW2.out
    have HQ2 := Lib.hid (HQ1.out.trans hq2)
    clear hp hq2
    go_wp2_with fail
    with_reducible refine (words_any (a ++ ⟨#[10]⟩ ++ b) HSZ.out _ (HT.out.stay HQ2.out)).mono ?_
    rintro e w3 hp
    obtain ⟨hq3, rfl⟩ := hp.bad HB.out
    have HQ3 := Lib.hid (HQ2.out.trans hq3)
    clear hp hq3
    go_wp2_with fail
    refine (words_any b (by omega) _ (HT.out.stay HQ3.out)).mono ?_; rintro e w4 hp
    obtain ⟨hq4, rfl⟩ := hp.bad HW2.out
    have HQ4 := Lib.hid (HQ3.out.trans hq4)
    clear hp hq4
    go_wp2_with fail
    refine (awake_any _ (HT.out.stay HQ4.out)).mono ?_; rintro e w5 ⟨rfl, hq⟩
    go_wp2_with fail
    go_ret
    exact ⟨rfl, HQ4.out.trans hq⟩
  · exfalso
    have := wordsA_place _ _ _ HW2.out
    simp only [bytes_length] at this
    omega
set_option maxRecDepth 100000 in
set_option maxHeartbeats 4000000 in
theorem lexApart_good (a b : ByteArray) (ha : a.size ≤ 200) (hb : b.size ≤ 200) (w : World) (ht : Spaces w) (ts us : List Tok) (hw : wordsL a.data.toList = .inl ts) (hw2 : wordsL b.data.toList = .inl us) : Calls Tryd.prog 4 #[.string a, .string b] w fun e w' => e = .returned (.bool true) ∧ Quiet0 w w' := by
  have HT := Lib.hid ht
  have HW := Lib.hid hw
  have HW2 := Lib.hid hw2
  have HB : Hid (wordsL (a ++ ⟨#[10]⟩ ++ b).data.toList = .inl (ts.dropLast ++ us.map (Tok.shift (a.size + 1)))) := by show _ = _; rw [glue_bytes, apart_words, hw, hw2, bytes_length]; rfl
  have HSZ : Hid ((a ++ ⟨#[10]⟩ ++ b).size ≤ 100000) := by show _ ≤ _; rw [glue_size]; omega
  have hl1 := wordsA_len _ _ _ hw
  have hl2 := wordsA_len _ _ _ hw2
  have hp1 := List.length_pos_iff.2 (wordsA_ne _ _ _ hw)
  have hp2 := List.length_pos_iff.2 (wordsA_ne _ _ _ hw2)
  rw [bytes_length] at hl1 hl2
  have hrow1 := wordsA_rowed a.data.toList a.data.toList.length a.data.toList 0 ts (Nat.le_refl _) (by simp) (Nat.zero_le _) hw
  have hrow2 := wordsA_rowed b.data.toList b.data.toList.length b.data.toList 0 us (Nat.le_refl _) (by simp) (Nat.zero_le _) hw2
  have HF1 := Lib.hid (rowed_at hrow1)
  have HF2 := Lib.hid (rowed_at hrow2)
  obtain ⟨n, hn⟩ : ∃ n, ts.length = n + 1 := ⟨ts.length - 1, by omega⟩
  obtain ⟨m, hm⟩ : ∃ m, us.length = m := ⟨_, rfl⟩
  have HN := Lib.hid hn
  have HM := Lib.hid hm
  have HBL : Hid ((ts.dropLast ++ us.map (Tok.shift (a.size + 1))).length = n + m) := by show _ = _; simp [hn, hm]
  have HGL : Hid (∀ (i : Nat) (t : Tok), i < n → ts[i]? = some t → (ts.dropLast ++ us.map (Tok.shift (a.size + 1)))[i]? = some t) := fun i t hi h => glue_left (by have := HN.out; omega) h
  have HGR : Hid (∀ (i : Nat) (t : Tok), n ≤ i → us[i - n]? = some t → (ts.dropLast ++ us.map (Tok.shift (a.size + 1)))[i]? = some (t.shift (a.size + 1))) := fun i t hi h => glue_right (by have := HN.out; omega) (by rw [HN.out]; exact h)
  have hn2 : n ≤ 200 := by omega
  have hm2 : m ≤ 201 := by omega
  have hm0 : 0 < m := by omega
  clear ht hw hw2 hl1 hl2 hp1 hp2 hn hm hrow1 hrow2
  have h1 : ¬ (200 : Int) < (a.size : Int) := by omega
  have h2 : ¬ (200 : Int) < (b.size : Int) := by omega
  have e1 : (((n + 1 : Nat) : Int) == 0) = false := by simp; omega
  have e1' : ((n : Int) + 1 == 0) = false := by simp; omega
  have e2 : (((n + m : Nat) : Int) != (n : Int) + 1 + (m : Int) - 1) = false := by simp; omega
  have e2' : ((n : Int) + (m : Int) != (n : Int) + 1 + (m : Int) - 1) = false := by simp; omega
  go_enter Tryd.func4, Tryd.ntmps4
  go_wp2_with fail
  refine (words_any a (by omega) _ HT.out).mono ?_; rintro e w1 hp
  obtain ⟨hq1, g1, c1, rfl, hr1⟩ := hp.ok HW.out
  have HQ1 := Lib.hid hq1
  have HA1 := Lib.hid hr1.at
  have hg1 := hr1.lt.2
  rw [HN.out]
  clear hp hq1 hr1
  go_wp2_with fail
  refine (words_any b (by omega) _ (HT.out.stay HQ1.out)).mono ?_; rintro e w2 hp
  obtain ⟨hq2, g2, c2, rfl, hr2⟩ := hp.ok HW2.out
  have HQ2 := Lib.hid (HQ1.out.trans hq2)
  have HA12 := Lib.hid (HA1.out.stay hg1 hq2)
  have hg12 := Nat.lt_of_lt_of_le hg1 hq2.size
  have HA2 := Lib.hid hr2.at
  have hg2 := hr2.lt.2
  rw [HM.out]
  clear hp hq2 hr2 HA1 hg1
  go_wp2_with fail
  with_reducible refine (words_any (a ++ ⟨#[10]⟩ ++ b) HSZ.out _ (HT.out.stay HQ2.out)).mono ?_
  rintro e w3 hp
  obtain ⟨hq3, g3, c3, rfl, hr3⟩ := hp.ok HB.out
  have HQ3 := Lib.hid (HQ2.out.trans hq3)
  have HA := Lib.hid (HA12.out.stay hg12 hq3)
  have hg1 := Nat.lt_of_lt_of_le hg12 hq3.size
  have HBB := Lib.hid (HA2.out.stay hg2 hq3)
  have hg2' := Nat.lt_of_lt_of_le hg2 hq3.size
  have HC := Lib.hid hr3.at
  have hg3 := hr3.lt.2
  rw [HBL.out]
  clear hp hq3 hr3 HA12 HA2 hg12 hg2
  go_wp2_with fail
  go_loopw [4, 20] (fun _ t wr => ∃ i : Nat, t = .int .i64 i ∧ i ≤ n + m ∧ Quiet0 w3 wr) (fun _ t _ => n + m - (intOf t).toNat)
  case atStart => exact ⟨0, rfl, Nat.zero_le _, Quiet0.refl _⟩
  case round =>
    obtain ⟨i, rfl, hi, hq⟩ := hrel
    have HQ := Lib.hid hq
    clear hq
    by_cases hlt : i < n + m
    · have hlt' : (i : Int) < (n : Int) + (m : Int) := by omega
      by_cases hin : i < n
      · have hin' : (i : Int) < (n : Int) := by omega
        have hin2 : (i : Int) < (n : Int) + 1 - 1 := by omega
        obtain ⟨t, htt⟩ : ∃ t, ts[i]? = some t := ⟨_, List.getElem?_eq_getElem (by have := HN.out; omega)⟩
        obtain ⟨fact, _⟩ := HF1.out i t htt
        have hins := fact.inside
        have hord := fact.ordered
        rw [bytes_length] at hins
        obtain ⟨a0, a1, a2, a3⟩ := (HA.out.stay hg1 HQ.out) i t htt
        obtain ⟨d0, d1, d2, d3⟩ := (HC.out.stay hg3 HQ.out) i t (HGL.out i t hin htt)
        have hfb : t.fr ≤ 200 := by omega
        have htb : t.to ≤ 200 := by omega
        have hne := fun W => neqTok W (t.kind : Nat) (t.fr : Nat) (t.to : Nat) (toBA t.text)
        have hg3wr := Nat.lt_of_lt_of_le hg3 HQ.out.size
        have hg1wr := Nat.lt_of_lt_of_le hg1 HQ.out.size
        have hg2wr := Nat.lt_of_lt_of_le hg2' HQ.out.size
        clear fact htt hins hord
        go_wp2_with fail
        go_quiet (fail)
        go_wp2_with fail
        go_roundw
        case rel => exact ⟨i + 1, by go_num, by omega, (HQ.out.trans (Quiet0.alloc _ _)).trans (Fr.drewN _ _ _)⟩
        case measure => simp [intOf]; omega
      · have hin' : ¬ (i : Int) < (n : Int) := by omega
        have hin2 : ¬ (i : Int) < (n : Int) + 1 - 1 := by omega
        obtain ⟨t, htt⟩ : ∃ t, us[i - n]? = some t := ⟨_, List.getElem?_eq_getElem (by have := HM.out; omega)⟩
        obtain ⟨fact, _⟩ := HF2.out (i - n) t htt
        have hins := fact.inside
        have hord := fact.ordered
        rw [bytes_length] at hins
        obtain ⟨a0, a1, a2, a3⟩ := (HBB.out.stay hg2' HQ.out) (i - n) t htt
        obtain ⟨d0, d1, d2, d3⟩ := (HC.out.stay hg3 HQ.out) i _ (HGR.out i t (by omega) htt)
        have hfb : t.fr ≤ 200 := by omega
        have htb : t.to ≤ 200 := by omega
        have hne := fun W => neqTok W (t.kind : Nat) ((t.fr : Int) + ((a.size : Int) + 1)) ((t.to : Int) + ((a.size : Int) + 1)) (toBA t.text)
        have hg3wr := Nat.lt_of_lt_of_le hg3 HQ.out.size
        have hg1wr := Nat.lt_of_lt_of_le hg1 HQ.out.size
        have hg2wr := Nat.lt_of_lt_of_le hg2' HQ.out.size
        simp only [Tok.shift] at d0 d1 d2 d3
        rw [show ((t.fr + (a.size + 1) : Nat) : Int) = (t.fr : Int) + ((a.size : Int) + 1) from by omega] at d2
        rw [show ((t.to + (a.size + 1) : Nat) : Int) = (t.to : Int) + ((a.size : Int) + 1) from by omega] at d3
        have hix : (0 : Int) ≤ (i : Int) - ((n : Int) + 1) + 1 := by omega
        have hix2 : (i : Int) - ((n : Int) + 1) + 1 < (m : Int) := by omega
        have hix3 : (i : Int) - ((n : Int) + 1) + 1 = ((i - n : Nat) : Int) := by omega
        clear fact htt hins hord
        go_wp2_with fail
        go_quiet (fail)
        go_wp2_with fail
        go_roundw
        case rel => exact ⟨i + 1, by go_num, by omega, (HQ.out.trans (Quiet0.alloc _ _)).trans (Fr.drewN _ _ _)⟩
        case measure => simp [intOf]; omega
    · have hlt' : ¬ (i : Int) < (n : Int) + (m : Int) := by omega
      go_wp2_with fail
      refine (awake_any _ (HT.out.stay (HQ3.out.trans HQ.out))).mono ?_; rintro e w4 ⟨rfl, hq4⟩
      go_wp2_with fail
      go_ret
      exact ⟨rfl, (HQ3.out.trans HQ.out).trans hq4⟩
theorem lexApart_all (a b : ByteArray) (w : World) (ht : Spaces w) : Calls Tryd.prog 4 #[.string a, .string b] w fun e w' => e = .returned (.bool true) ∧ Quiet0 w w' := by
  by_cases h : 200 < a.size ∨ 200 < b.size
  · exact lexApart_big a b h w ht
  · cases hw : wordsL a.data.toList with
    | inr p => exact lexApart_bad1 a b (by omega) (by omega) w ht p.1 p.2 hw
    | inl ts =>
      cases hw2 : wordsL b.data.toList with
      | inr q => exact lexApart_bad2 a b (by omega) (by omega) w ht ts q.1 q.2 hw hw2
      | inl us => exact lexApart_good a b (by omega) (by omega) w ht ts us hw hw2
end Go.Proofs.YtaojlionebkcoaaDoor
