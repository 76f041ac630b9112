/-
  The reference's Name. No condition.
-/
import Derived.Test.YtggidhgifaekbaaDoorTyDigits
namespace Go.Proofs.YtggidhgifaekbaaDoor
open Go.RowKit

theorem let_slice : ∀ k : Fin 26, (⟨#[97, 98, 99, 100, 101, 102, 103, 104, 105, 106, 107, 108, 109, 110, 111, 112, 113, 114, 115, 116, 117, 118, 119, 120, 121, 122]⟩ : ByteArray).extract k.val (k.val + 1) = tb [UInt8.ofNat (97 + k.val)] := by decide
theorem refName_no (n : Int) (h : ¬ (0 ≤ n ∧ n < 1073741824)) (w : World) : Calls Tryd.prog 71 #[.int .i64 n] w fun e w' => e = .returned (.string (tb (nameL n))) ∧ Quiet0 w w' := by
  have e2 : nameL n = [] := by unfold nameL; rw [if_neg h]
  rw [e2]
  by_cases h0 : n < 0
  · go_enter Tryd.func71, Tryd.ntmps71
    go_wp2_with fail
    go_ret
    exact ⟨rfl, Quiet0.refl _⟩
  · have h1 : 1073741824 ≤ n := by omega
    go_enter Tryd.func71, Tryd.ntmps71
    go_wp2_with fail
    go_ret
    exact ⟨rfl, Quiet0.refl _⟩
set_option maxRecDepth 100000 in
theorem refName_walk (n q : Int) (r : Nat) (s sd : ByteArray) (h0 : 0 ≤ n) (h1 : n < 1073741824) (hq : n.tdiv 26 = q) (hr : n.tmod 26 = r) (hr0 : (0 : Int) ≤ (r : Int)) (hr1 : (r : Int) < 26) (hq0 : 0 ≤ q) (hq1 : q ≤ 1000000000000) (hs : s.size ≤ 1000) (he : (⟨#[97, 98, 99, 100, 101, 102, 103, 104, 105, 106, 107, 108, 109, 110, 111, 112, 113, 114, 115, 116, 117, 118, 119, 120, 121, 122]⟩ : ByteArray).extract r (r + 1) = sd) (hsd : sd.size = 1)
    (HC : ∀ w : World, Calls Tryd.prog 110 #[.int .i64 q] w fun e w' => e = .returned (.string s) ∧ Quiet0 w w') (w : World) :
    Calls Tryd.prog 71 #[.int .i64 n] w fun e w' => e = .returned (.string (if n < 26 then ⟨#[39]⟩ ++ sd else ⟨#[39]⟩ ++ sd ++ s)) ∧ Quiet0 w w' := by
  have HC' := Lib.hid HC
  clear HC
  have n1 : ¬ n < 0 := by omega
  have n2 : ¬ 1073741824 ≤ n := by omega
  have i4 : (0 : Int) ≤ (r : Int) + 1 := by omega
  have i5 : ((r : Int) + 1).toNat = r + 1 := by omega
  have i6 : (r : Int) + 1 ≤ 26 := by omega
  have i7 : (r : Int) ≤ (r : Int) + 1 := by omega
  have hs2 : (⟨#[39]⟩ ++ sd : ByteArray).size = 2 := by rw [ByteArray.size_append, hsd]; rfl
  by_cases hb : n < 26
  · rw [if_pos hb]
    go_enter Tryd.func71, Tryd.ntmps71
    go_wp2_with fail
    go_ret
    exact ⟨rfl, Quiet0.refl _⟩
  · rw [if_neg hb]
    go_enter Tryd.func71, Tryd.ntmps71
    go_wp2_with fail
    with_reducible refine (HC'.out _).mono ?_
    rintro e w1 ⟨rfl, hqw⟩
    go_wp2_with fail
    go_ret
    exact ⟨rfl, hqw⟩
theorem refName_any (n : Int) (w : World) : Calls Tryd.prog 71 #[.int .i64 n] w fun e w' => e = .returned (.string (tb (nameL n))) ∧ Quiet0 w w' := by
  by_cases h : 0 ≤ n ∧ n < 1073741824
  · obtain ⟨m, rfl⟩ := Int.eq_ofNat_of_zero_le h.1
    have hlen := decDigits_len 10 (m / 26) (by omega)
    have hd := dig_any 10 (m / 26) (by omega) (by omega)
    refine (refName_walk m ((m / 26 : Nat) : Int) (m % 26) (tb (Lib.decDigits (m / 26))) (tb [UInt8.ofNat (97 + m % 26)]) h.1 h.2 (by rw [Int.tdiv_eq_ediv_of_nonneg h.1]; rfl) (by rw [Int.tmod_eq_emod_of_nonneg h.1]; rfl) (by omega) (by omega) (by omega) (by omega) (by rw [tb_size]; omega) (let_slice ⟨m % 26, by omega⟩) rfl hd w).mono ?_
    rintro e w' ⟨rfl, hq⟩
    refine ⟨?_, hq⟩
    suffices hs : (if (m : Int) < 26 then ⟨#[39]⟩ ++ tb [UInt8.ofNat (97 + m % 26)] else ⟨#[39]⟩ ++ tb [UInt8.ofNat (97 + m % 26)] ++ tb (Lib.decDigits (m / 26)) : ByteArray) = tb (nameL m) by rw [hs]
    unfold nameL
    rw [if_pos h]
    have e1 : (m : Int).toNat = m := rfl
    rw [e1]
    by_cases hb : (m : Int) < 26
    · rw [if_pos hb, if_pos hb]; rfl
    · rw [if_neg hb, if_neg hb]
      show tb [39] ++ tb [UInt8.ofNat (97 + m % 26)] ++ tb (Lib.decDigits (m / 26)) = _
      rw [tb_app, tb_app]; rfl
  · exact refName_no n h w
end Go.Proofs.YtggidhgifaekbaaDoor
