/-
  LexNames, walked: it returns true and turns nothing that was there. Conditions: the tokens' cells are as told; strings.asciiSpace holds what its initialiser lays.
-/
import Derived.Test.YtaojlionebkcoaaDoorLexAwake
import Derived.Test.YtaojlionebkcoaaDoorLexName
import Derived.Test.YtaojlionebkcoaaDoorLexPrint
namespace Go.Proofs.YtaojlionebkcoaaDoor
open Go.RowKit

theorem prR_bound : ∀ (first : Bool) (s : List UInt8) (ts : List (Int × ByteArray)), (∀ t ∈ ts, t.2.size ≤ 100) → (prR first s ts).length ≤ s.length + 101 * ts.length
  | _, s, [], _ => by simp [prR]
  | first, s, t :: r, h => by
    have ht := h t (by simp)
    have hr : ∀ x ∈ r, x.2.size ≤ 100 := fun x hx => h x (by simp [hx])
    unfold prR
    cases hz : (t.1 == 0)
    · simp only [Bool.false_eq_true, if_false]
      refine Nat.le_trans (prR_bound false _ r hr) ?_
      rw [List.length_append, bytes_length, List.length_cons]
      cases first <;> simp <;> omega
    · simp only [if_true]
      refine Nat.le_trans (prR_bound first s r hr) ?_
      rw [List.length_cons]; omega
theorem printG_bound (ts : List (Int × ByteArray)) (h : ∀ t ∈ ts, t.2.size ≤ 100) : (printG ts).length ≤ 101 * ts.length := by
  rw [← prR_true]
  simpa using prR_bound true [] ts h

set_option maxHeartbeats 1000000 in
theorem lexNames_big (s : ByteArray) (o : Option Addr) (n c : Nat) (h : 100 < s.size ∨ 60 < n) (w : World) (ht : Spaces w) : Calls Tryd.prog 6 #[.string s, .slice o n c] w fun e w' => e = .returned (.bool true) ∧ Quiet0 w w' := by
  have HT := Lib.hid ht
  clear ht
  by_cases h1 : (100 : Int) < (s.size : Int)
  · clear h
    go_enter Tryd.func6, Tryd.ntmps6
    go_wp2_with fail
    refine (awake_any _ HT.out).mono ?_; rintro e w1 ⟨rfl, hq⟩
    go_wp2_with fail
    go_ret
    exact ⟨rfl, hq⟩
  · have h2 : (60 : Int) < (n : Int) := by omega
    clear h
    go_enter Tryd.func6, Tryd.ntmps6
    go_wp2_with fail
    refine (awake_any _ HT.out).mono ?_; rintro e w1 ⟨rfl, hq⟩
    go_wp2_with fail
    go_ret
    exact ⟨rfl, hq⟩
set_option maxHeartbeats 4000000 in
theorem lexNames_small (s : ByteArray) (o : Option Addr) (n c : Nat) (ts : List (Int × ByteArray)) (hs : s.size ≤ 100) (hn6 : n ≤ 60) (w : World) (ht : Spaces w) (hT : GToks w o ts) (hn : ts.length = n) :
    Calls Tryd.prog 6 #[.string s, .slice o n c] w fun e w' => e = .returned (.bool true) ∧ Quiet0 w w' := by
  have HT := Lib.hid ht
  have HG := Lib.hid hT
  have HN := Lib.hid hn
  clear ht hT hn
  have h1 : ¬ (100 : Int) < (s.size : Int) := by omega
  have h2 : ¬ (60 : Int) < (n : Int) := by omega
  go_enter Tryd.func6, Tryd.ntmps6
  go_wp2_with fail
  go_loop [4, 5] (fun _ t => ∃ k : Nat, t = .int .i64 k ∧ k ≤ n ∧ ∀ x ∈ ts.take k, x.2.size ≤ 100) (fun _ t => n - (intOf t).toNat)
  case atStart => exact ⟨0, rfl, Nat.zero_le _, by simp⟩
  case round =>
    obtain ⟨k, rfl, hk, hsm⟩ := hrel
    have HSM := Lib.hid hsm
    clear hsm
    by_cases hlt : k < n
    · have hlt' : (k : Int) < n := by omega
      obtain ⟨t, htk⟩ : ∃ t, ts[k]? = some t := ⟨_, List.getElem?_eq_getElem (by have := HN.out; omega)⟩
      obtain ⟨b, off, rfl, f, u, c0, c1, c2, c3⟩ := HG.out k t htk
      have HTK := Lib.hid htk
      clear htk
      obtain ⟨kd, tx⟩ := t
      simp only at c0 c1
      by_cases h100 : tx.size ≤ 100
      · have h100' : ¬ (100 : Int) < (tx.size : Int) := by omega
        go_wp2_with fail
        go_round
        case rel =>
          refine ⟨k + 1, by go_num, by omega, ?_⟩
          intro x hx
          rw [List.take_add_one, HTK.out] at hx
          simp at hx
          rcases hx with hx | rfl
          · exact HSM.out x hx
          · exact h100
        case measure => simp [intOf]; omega
      · have h100' : (100 : Int) < (tx.size : Int) := by omega
        go_wp2_with fail
        refine (awake_any _ HT.out).mono ?_; rintro e w1 ⟨rfl, hq⟩
        go_wp2_with fail
        go_ret
        exact ⟨rfl, hq⟩
    · have hkn : k = n := by omega
      have hlt' : ¬ (k : Int) < n := by omega
      have HB : Hid ((printG ts).length ≤ 6060) := by
        show _ ≤ _
        have h := printG_bound ts (by have := HSM.out; rwa [List.take_of_length_le (by have := HN.out; omega)] at this)
        have := HN.out
        omega
      clear hkn HSM
      have HK1 := Lib.hid (keyword_any s w HT.out)
      have HK2 := Lib.hid (fun W => refKeyword_any s W)
      have HN1 := Lib.hid (fun W h => name_any s (by omega) W h)
      have HN2 := Lib.hid (fun W => refName_any s (by omega) W)
      have HP1 := Lib.hid (fun W h => print_any o n c ts W h HN.out (by omega) (by have := HB.out; omega))
      have HP2 := Lib.hid (fun W h => refPrint_any o n c ts W h HN.out (by omega) (by have := HB.out; omega))
      generalize printG ts = pg at *
      generalize nameB s.data.toList = nb at *
      generalize kwB s.data.toList = kb at *
      have hkb : (kb == kb) = true := by simp
      have hnb : (nb == nb) = true := by simp
      have hpg : ((toBA pg).toList == (toBA pg).toList) = true := by simp
      go_wp2_with fail
      refine HK1.out.mono ?_; rintro e w1 ⟨rfl, hq1⟩
      have HQ1 := Lib.hid hq1
      clear hq1
      go_wp2_with fail
      refine (HK2.out _).mono ?_; rintro e w2 ⟨rfl, hq2⟩
      have HQ2 := Lib.hid (HQ1.out.trans hq2)
      clear hq2
      go_wp2_with fail
      refine (HN1.out _ (HT.out.stay HQ2.out)).mono ?_; rintro e w3 ⟨rfl, hq3⟩
      have HQ3 := Lib.hid (HQ2.out.trans hq3)
      clear hq3
      go_wp2_with fail
      refine (HN2.out _).mono ?_; rintro e w4 ⟨rfl, hq4⟩
      have HQ4 := Lib.hid (HQ3.out.trans hq4)
      clear hq4
      go_wp2_with fail
      refine (HP1.out _ (HG.out.stay HQ4.out)).mono ?_; rintro e w5 ⟨rfl, hq5⟩
      have HQ5 := Lib.hid (HQ4.out.trans hq5)
      clear hq5
      go_wp2_with fail
      refine (HP2.out _ (HG.out.stay HQ5.out)).mono ?_; rintro e w6 ⟨rfl, rfl⟩
      go_wp2_with fail
      refine (awake_any _ (HT.out.stay HQ5.out)).mono ?_; rintro e w7 ⟨rfl, hq7⟩
      go_wp2_with fail
      go_ret
      exact ⟨rfl, HQ5.out.trans hq7⟩
theorem lexNames_all (s : ByteArray) (o : Option Addr) (n c : Nat) (ts : List (Int × ByteArray)) (w : World) (ht : Spaces w) (hT : GToks w o ts) (hn : ts.length = n) :
    Calls Tryd.prog 6 #[.string s, .slice o n c] w fun e w' => e = .returned (.bool true) ∧ Quiet0 w w' := by
  by_cases h : 100 < s.size ∨ 60 < n
  · exact lexNames_big s o n c h w ht
  · exact lexNames_small s o n c ts (by omega) (by omega) w ht hT hn
end Go.Proofs.YtaojlionebkcoaaDoor
