/-
  The reference's Digits and Name. Condition: the number is of a bounded size.
-/
import Derived.Test.YtggidhgifaekbaaDoorTyName
import Derived.Deep.RegionHeld3
import Derived.IntWalk
namespace Go.Proofs.YtggidhgifaekbaaDoor
open Go.RowKit

theorem dig_slice : ∀ k : Fin 10, (⟨#[48, 49, 50, 51, 52, 53, 54, 55, 56, 57]⟩ : ByteArray).extract k.val (k.val + 1) = tb [UInt8.ofNat (48 + k.val)] := by decide
def TDig (m : Nat) : Prop := ∀ w : World, Calls Tryd.prog 110 #[.int .i64 m] w fun e w' => e = .returned (.string (tb (Lib.decDigits m))) ∧ Quiet0 w w'
set_option maxRecDepth 100000 in
theorem dig_small (m : Nat) (h : m < 10) : TDig m := by
  intro w
  have e : tb (Lib.decDigits m) = (⟨#[48, 49, 50, 51, 52, 53, 54, 55, 56, 57]⟩ : ByteArray).extract m (m + 1) := by
    rw [dig_slice ⟨m, h⟩]; unfold Lib.decDigits; rw [dif_pos h]
  rw [e]
  have h1 : (m : Int) < 10 := by omega
  have h2 : (0 : Int) ≤ m := by omega
  have h3 : (m : Int) + 1 ≤ 10 := by omega
  go_enter Tryd.func110, Tryd.ntmps110
  go_wp2_with fail
  go_ret
  exact ⟨rfl, Quiet0.refl _⟩
set_option maxRecDepth 100000 in
theorem dig_walk (n q : Int) (r : Nat) (s sd : ByteArray) (hn : 10 ≤ n) (hq : n.tdiv 10 = q) (hr : n.tmod 10 = r) (hr0 : (0 : Int) ≤ (r : Int)) (hr1 : (r : Int) < 10) (hq0 : 0 ≤ q) (hq1 : q ≤ 1000000000000) (hs : s.size ≤ 1000) (he : (⟨#[48, 49, 50, 51, 52, 53, 54, 55, 56, 57]⟩ : ByteArray).extract r (r + 1) = sd) (hsd : sd.size = 1)
    (HC : ∀ w : World, Calls Tryd.prog 110 #[.int .i64 q] w fun e w' => e = .returned (.string s) ∧ Quiet0 w w') (w : World) :
    Calls Tryd.prog 110 #[.int .i64 n] w fun e w' => e = .returned (.string (s ++ sd)) ∧ Quiet0 w w' := by
  have HC' := Lib.hid HC
  clear HC
  have h1 : ¬ n < 10 := by omega
  have i2 : IntKind.i64.wrap q = q := IntWalk.i64_in _ (by omega)
  have i3 : IntKind.i64.wrap ((r : Int) + 1) = (r : Int) + 1 := IntWalk.i64_in _ (by omega)
  have i4 : (0 : Int) ≤ (r : Int) + 1 := by omega
  have i5 : ((r : Int) + 1).toNat = r + 1 := by omega
  have i6 : (r : Int) + 1 ≤ 10 := by omega
  have i7 : (r : Int) ≤ (r : Int) + 1 := by omega
  have u1 : (9223372036854775807 < s.size + sd.size) = False := by simp; omega
  have u2 : (9223372036854775807 < s.size + 1) = False := by simp; omega
  go_enter Tryd.func110, Tryd.ntmps110
  go_wp2_with fail
  go_region_held3 (fun w' => True)
    (first | trivial | (go_keep; done))
    (first
      | (go_at_call 110; with_reducible refine (HC'.out _).mono ?_; rintro e w1 ⟨rfl, hqw⟩))
  all_goals
    go_wp2_with fail
    go_ret
    exact ⟨rfl, (Quiet0.drew _).trans hqw⟩
theorem dig_any : ∀ (b m : Nat), b ≤ 12 → m < 10 ^ b → TDig m
  | 0, m, _, h => dig_small m (by omega)
  | b + 1, m, hb, h => by
    by_cases hm : m < 10
    · exact dig_small m hm
    · have hp : m / 10 < 10 ^ b := by rw [Nat.pow_succ] at h; omega
      have h12 : 10 ^ b ≤ 10 ^ 11 := Nat.pow_le_pow_right (by omega) (by omega)
      have hl := decDigits_len b (m / 10) hp
      have ih := dig_any b (m / 10) (by omega) hp
      intro w
      have e : tb (Lib.decDigits m) = tb (Lib.decDigits (m / 10)) ++ tb [UInt8.ofNat (48 + m % 10)] := by
        rw [tb_app]; conv => lhs; unfold Lib.decDigits
        rw [dif_neg hm]
      rw [e]
      refine dig_walk m ((m / 10 : Nat) : Int) (m % 10) _ _ (by omega) ?_ ?_ (by omega) (by omega) (by omega) (by omega) ?_ (dig_slice ⟨m % 10, by omega⟩) rfl ih w
      · rw [Int.tdiv_eq_ediv_of_nonneg (by omega)]; rfl
      · rw [Int.tmod_eq_emod_of_nonneg (by omega)]; rfl
      · rw [tb_size]; omega
end Go.Proofs.YtggidhgifaekbaaDoor
