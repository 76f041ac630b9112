/-
  Texts laid together (CnBound): what each one proves, and its conditions, stands at its head.
-/
import Derived.Test.YtnfodiedalhlhaaDoorShelf
import Derived.Test.YtnfodiedalhlhaaDoorSA1
import Derived.Test.YtnfodiedalhlhaaDoorSA2
import Derived.Test.YtnfodiedalhlhaaDoorSA3
import Derived.Test.YtnfodiedalhlhaaDoorSA4
import Derived.Test.YtnfodiedalhlhaaDoorSA5
import Derived.Test.YtnfodiedalhlhaaDoorSA6
import Derived.Test.YtnfodiedalhlhaaDoorSA7
import Derived.Test.YtnfodiedalhlhaaDoorSA8
import Derived.Test.YtnfodiedalhlhaaDoorSA9
import Derived.Test.YtnfodiedalhlhaaDoorSA10
import Derived.Test.YtnfodiedalhlhaaDoorSA11
import Derived.Test.YtnfodiedalhlhaaDoorSA12
import Derived.Test.YtnfodiedalhlhaaDoorSA13
import Derived.Test.YtnfodiedalhlhaaDoorSA14
import Derived.Test.YtnfodiedalhlhaaDoorSA15
import Derived.Test.YtnfodiedalhlhaaDoorSA16
import Derived.Test.YtnfodiedalhlhaaDoorSA17
import Derived.Test.YtnfodiedalhlhaaDoorST1
import Derived.Test.YtnfodiedalhlhaaDoorST2
import Derived.Test.YtnfodiedalhlhaaDoorST3
import Derived.Test.YtnfodiedalhlhaaDoorST4
import Derived.Test.YtnfodiedalhlhaaDoorST5
import Derived.Test.YtnfodiedalhlhaaDoorST6
import Derived.Test.YtnfodiedalhlhaaDoorCB1
import Derived.Test.YtnfodiedalhlhaaDoorCB2
section
/-
  The law CountBounds: it returns true. Condition: the table of blanks holds what its initialiser lays.
-/
namespace Go.Proofs.YtnfodiedalhlhaaDoor
open Go.RowKit Go.Shelf Lx
namespace Cn

/-- the bound -/
def boundQ (b n : Int) : Int := if b < 0 ∨ n < 0 ∨ b > 1073741824 ∨ n > 1073741824 then 0 else if (n + 1) * (n + 1) * (1000 * (b + 1)) > 4611686018427387904 then 4611686018427387904 else (n + 1) * (n + 1) * (1000 * (b + 1))
theorem quo_lt {n by' : Int} (hn : 0 ≤ n) (hb : 0 < by') : (n + 1 > 4611686018427387904 / (n + 1) / by') ↔ ((n + 1) * (n + 1) * by' > 4611686018427387904) := by
  rw [Int.ediv_ediv_of_nonneg (by omega)]
  constructor
  · intro h
    have h1 : 4611686018427387904 / ((n + 1) * by') < n + 1 := h
    rw [Int.ediv_lt_iff_lt_mul (Int.mul_pos (by omega) hb)] at h1
    rw [Int.mul_assoc]; exact h1
  · intro h
    show 4611686018427387904 / ((n + 1) * by') < n + 1
    rw [Int.ediv_lt_iff_lt_mul (Int.mul_pos (by omega) hb)]
    rw [Int.mul_assoc] at h; exact h
theorem mul64_at (x y : Nat) (ax ay : Int) (ex : ax = x) (ey : ay = y) (hx : x < 18446744073709551616) (hy : y < 18446744073709551616) (w : World) :
    Calls Tryd.prog 59 #[.int .u64 ax, .int .u64 ay] w fun e w' => e = .returned (.tuple #[.int .u64 ((x * y / 18446744073709551616 : Nat) : Int), .int .u64 ((x * y % 18446744073709551616 : Nat) : Int)]) ∧ w' = w := by
  subst ex ey; exact Tryd.bits_Mul64 x y hx hy w
set_option maxHeartbeats 4000000 in
theorem bound_any (b n : Int) (w : World) : Calls Tryd.prog 31 #[.int .i64 b, .int .i64 n] w fun e w' => e = .returned (.int .i64 (boundQ b n)) ∧ w = w' := by
  by_cases h1 : b < 0
  · have HV : Hid (boundQ b n = 0) := by show _ = _; unfold boundQ; rw [if_pos (.inl h1)]
    rw [HV.out]
    go_enter Tryd.func31, Tryd.ntmps31
    go_wp2_with fail
    go_ret
    exact ⟨rfl, rfl⟩
  · by_cases h2 : n < 0
    · have HV : Hid (boundQ b n = 0) := by show _ = _; unfold boundQ; rw [if_pos (.inr (.inl h2))]
      rw [HV.out]
      go_enter Tryd.func31, Tryd.ntmps31
      go_wp2_with fail
      go_ret
      exact ⟨rfl, rfl⟩
    · by_cases h3 : b > 1073741824
      · have h3' : (1073741824 : Int) < b := h3
        have HV : Hid (boundQ b n = 0) := by show _ = _; unfold boundQ; rw [if_pos (.inr (.inr (.inl h3)))]
        rw [HV.out]
        go_enter Tryd.func31, Tryd.ntmps31
        go_wp2_with fail
        go_ret
        exact ⟨rfl, rfl⟩
      · have h3' : ¬ (1073741824 : Int) < b := h3
        by_cases h4 : n > 1073741824
        · have h4' : (1073741824 : Int) < n := h4
          have HV : Hid (boundQ b n = 0) := by show _ = _; unfold boundQ; rw [if_pos (.inr (.inr (.inr h4)))]
          rw [HV.out]
          go_enter Tryd.func31, Tryd.ntmps31
          go_wp2_with fail
          go_ret
          exact ⟨rfl, rfl⟩
        · have h4' : ¬ (1073741824 : Int) < n := h4
          have HV : Hid (boundQ b n = if (n + 1) * (n + 1) * (1000 * (b + 1)) > 4611686018427387904 then 4611686018427387904 else (n + 1) * (n + 1) * (1000 * (b + 1))) := by show _ = _; unfold boundQ; rw [if_neg (by omega)]
          obtain ⟨x, hx⟩ : ∃ x : Nat, (n + 1) * (n + 1) = x := ⟨((n + 1) * (n + 1)).toNat, by rw [Int.toNat_of_nonneg (Int.mul_nonneg (by omega) (by omega))]⟩
          obtain ⟨y, hy⟩ : ∃ y : Nat, 1000 * (b + 1) = y := ⟨(1000 * (b + 1)).toNat, by omega⟩
          have hxl : (n + 1) * (n + 1) ≤ 1073741825 * 1073741825 := Int.mul_le_mul (by omega) (by omega) (by omega) (by omega)
          have hx64 : x < 18446744073709551616 := by omega
          have hy64 : y < 18446744073709551616 := by omega
          have e1 : IntKind.u64.wrap (n + 1) = n + 1 := by rw [IntWalk.u64_in _ (by omega)]
          have e2 : IntKind.u64.wrap (b + 1) = b + 1 := by rw [IntWalk.u64_in _ (by omega)]
          have e3 : IntKind.u64.wrap ((n + 1) * (n + 1)) = (n + 1) * (n + 1) := by rw [IntWalk.u64_in _ (by omega)]
          have e4 : IntKind.u64.wrap (1000 * (b + 1)) = 1000 * (b + 1) := by rw [IntWalk.u64_in _ (by omega)]
          have HM := Lib.hid (mul64_at x y ((n + 1) * (n + 1)) (1000 * (b + 1)) hx hy hx64 hy64 w)
          rw [hx, hy, ← Int.natCast_mul] at HV
          have HP : Hid (x * y / 18446744073709551616 * 18446744073709551616 + x * y % 18446744073709551616 = x * y ∧ x * y % 18446744073709551616 < 18446744073709551616) := ⟨Nat.div_add_mod' _ _, Nat.mod_lt _ (by decide)⟩
          clear hx hy hxl hx64 hy64
          generalize x * y / 18446744073709551616 = hi at *
          generalize x * y % 18446744073709551616 = lo at *
          generalize x * y = p at *
          go_enter Tryd.func31, Tryd.ntmps31
          go_wp2_with fail
          refine HM.out.mono ?_; rintro e w' ⟨rfl, rfl⟩
          by_cases hh : 0 < hi
          · have q1 : (hi : Int) > 0 := by omega
            have q2 : (0 : Int) < hi := by omega
            have HF : Hid (boundQ b n = 4611686018427387904) := by show _ = _; rw [HV.out, if_pos (by have := HP.out; omega)]
            go_wp2_with fail
            go_ret
            exact ⟨by rw [HF.out]; rfl, rfl⟩
          · have q1 : ¬ (hi : Int) > 0 := by omega
            have q2 : ¬ (0 : Int) < hi := by omega
            by_cases hl : 4611686018427387904 < lo
            · have q3 : (lo : Int) > 4611686018427387904 := by omega
              have q4 : (4611686018427387904 : Int) < lo := by omega
              have HF : Hid (boundQ b n = 4611686018427387904) := by show _ = _; rw [HV.out, if_pos (by have := HP.out; omega)]
              go_wp2_with fail
              go_ret
              exact ⟨by rw [HF.out]; rfl, rfl⟩
            · have q3 : ¬ (lo : Int) > 4611686018427387904 := by omega
              have q4 : ¬ (4611686018427387904 : Int) < lo := by omega
              have HF : Hid (boundQ b n = lo) := by show _ = _; rw [HV.out, if_neg (by have := HP.out; omega)]; have := HP.out; omega
              have e5 : IntKind.i64.wrap (lo : Int) = lo := by rw [IntWalk.i64_in _ (by omega)]
              go_wp2_with fail
              go_ret
              exact ⟨by rw [HF.out]; rfl, rfl⟩
set_option maxRecDepth 100000 in
set_option maxHeartbeats 4000000 in
theorem countBounds_all (b n : Int) (w : World) (ht : Lx.Spaces w) : Calls Tryd.prog 9 #[.int .i64 b, .int .i64 n] w fun e w' => e = .returned (.bool true) ∧ Quiet0 w w' := by
  have HA := Lib.hid (awake18_any w ht)
  have HB := Lib.hid (bound_any b n w)
  clear ht
  by_cases h1 : b < 0
  · have HV : Hid (boundQ b n = 0) := by show _ = _; unfold boundQ; rw [if_pos (.inl h1)]
    rw [HV.out] at HB
    clear HV
    go_enter Tryd.func9, Tryd.ntmps9
    go_wp2_with fail
    refine HB.out.mono ?_; rintro e w' ⟨rfl, rfl⟩
    go_wp2_with fail
    refine HA.out.mono ?_; rintro e w2 ⟨rfl, hq2⟩
    have HQ2 := Lib.hid hq2
    clear hq2
    go_wp2_with fail
    go_ret
    exact ⟨rfl, HQ2.out⟩
  · by_cases h2 : n < 0
    · have HV : Hid (boundQ b n = 0) := by show _ = _; unfold boundQ; rw [if_pos (.inr (.inl h2))]
      rw [HV.out] at HB
      clear HV
      go_enter Tryd.func9, Tryd.ntmps9
      go_wp2_with fail
      refine HB.out.mono ?_; rintro e w' ⟨rfl, rfl⟩
      go_wp2_with fail
      refine HA.out.mono ?_; rintro e w2 ⟨rfl, hq2⟩
      have HQ2 := Lib.hid hq2
      clear hq2
      go_wp2_with fail
      go_ret
      exact ⟨rfl, HQ2.out⟩
    · by_cases h3 : b > 1073741824
      · have h3' : (1073741824 : Int) < b := h3
        have HV : Hid (boundQ b n = 0) := by show _ = _; unfold boundQ; rw [if_pos (.inr (.inr (.inl h3)))]
        rw [HV.out] at HB
        clear HV
        go_enter Tryd.func9, Tryd.ntmps9
        go_wp2_with fail
        refine HB.out.mono ?_; rintro e w' ⟨rfl, rfl⟩
        go_wp2_with fail
        refine HA.out.mono ?_; rintro e w2 ⟨rfl, hq2⟩
        have HQ2 := Lib.hid hq2
        clear hq2
        go_wp2_with fail
        go_ret
        exact ⟨rfl, HQ2.out⟩
      · have h3' : ¬ (1073741824 : Int) < b := h3
        by_cases h4 : n > 1073741824
        · have h4' : (1073741824 : Int) < n := h4
          have HV : Hid (boundQ b n = 0) := by show _ = _; unfold boundQ; rw [if_pos (.inr (.inr (.inr h4)))]
          rw [HV.out] at HB
          clear HV
          go_enter Tryd.func9, Tryd.ntmps9
          go_wp2_with fail
          refine HB.out.mono ?_; rintro e w' ⟨rfl, rfl⟩
          go_wp2_with fail
          refine HA.out.mono ?_; rintro e w2 ⟨rfl, hq2⟩
          have HQ2 := Lib.hid hq2
          clear hq2
          go_wp2_with fail
          go_ret
          exact ⟨rfl, HQ2.out⟩
        · have h4' : ¬ (1073741824 : Int) < n := h4
          have HV : Hid (boundQ b n = if (n + 1) * (n + 1) * (1000 * (b + 1)) > 4611686018427387904 then 4611686018427387904 else (n + 1) * (n + 1) * (1000 * (b + 1))) := by show _ = _; unfold boundQ; rw [if_neg (by omega)]
          have hql := quo_lt (n := n) (by' := 1000 * (b + 1)) (by omega) (by omega)
          have e1 : IntKind.i64.wrap (b + 1) = b + 1 := IntWalk.i64_in _ (by omega)
          have e2 : IntKind.i64.wrap (1000 * (b + 1)) = 1000 * (b + 1) := IntWalk.i64_in _ (by omega)
          have e3 : IntKind.i64.wrap (n + 1) = n + 1 := IntWalk.i64_in _ (by omega)
          have e4 : IntKind.i64.wrap (Int.tdiv 4611686018427387904 (n + 1)) = 4611686018427387904 / (n + 1) := IntWalk.i64_quo _ _ (by omega)
          have hd1 := IntWalk.tdiv_le 4611686018427387904 (n + 1) (by omega) (by omega)
          have hy : 1 ≤ 1000 * (b + 1) := by omega
          have hyl : 1000 * (b + 1) ≤ 2000000000000 := by omega
          have hxl : (n + 1) * (n + 1) ≤ 1073741825 * 1073741825 := Int.mul_le_mul (by omega) (by omega) (by omega) (by omega)
          have hx0 : 0 ≤ (n + 1) * (n + 1) := Int.mul_nonneg (by omega) (by omega)
          have e6 : IntKind.i64.wrap ((n + 1) * (n + 1)) = (n + 1) * (n + 1) := IntWalk.i64_in _ (by omega)
          have z1 : ¬ (n + 1 = 0) := by omega
          have z2 : ((n + 1 : Int) == 0) = false := by simp; omega
          have z3 : ¬ (1000 * (b + 1) = 0) := by omega
          have z4 : ((1000 * (b + 1) : Int) == 0) = false := by simp; omega
          have e5 : IntKind.i64.wrap (Int.tdiv (4611686018427387904 / (n + 1)) (1000 * (b + 1))) = 4611686018427387904 / (n + 1) / (1000 * (b + 1)) := IntWalk.i64_quo _ _ (by omega)
          have hp0 : 0 ≤ (n + 1) * (n + 1) * (1000 * (b + 1)) := Int.mul_nonneg hx0 (by omega)
          by_cases hP : (n + 1) * (n + 1) * (1000 * (b + 1)) > 4611686018427387904
          · have f1 : n + 1 > 4611686018427387904 / (n + 1) / (1000 * (b + 1)) := hql.2 hP
            have f2 : 4611686018427387904 / (n + 1) / (1000 * (b + 1)) < n + 1 := f1
            rw [if_pos hP] at HV
            rw [HV.out] at HB
            clear HV hP hql hp0 hx0 hxl e6
            go_enter Tryd.func9, Tryd.ntmps9
            go_wp2_with fail
            refine HB.out.mono ?_; rintro e w' ⟨rfl, rfl⟩
            go_wp2_with fail
            refine HA.out.mono ?_; rintro e w2 ⟨rfl, hq2⟩
            have HQ2 := Lib.hid hq2
            clear hq2
            go_wp2_with fail
            go_ret
            exact ⟨rfl, HQ2.out⟩
          · have f1 : ¬ n + 1 > 4611686018427387904 / (n + 1) / (1000 * (b + 1)) := fun h => hP (hql.1 h)
            have f2 : ¬ 4611686018427387904 / (n + 1) / (1000 * (b + 1)) < n + 1 := f1
            rw [if_neg hP] at HV
            rw [HV.out] at HB
            have e7 : IntKind.i64.wrap ((n + 1) * (n + 1) * (1000 * (b + 1))) = (n + 1) * (n + 1) * (1000 * (b + 1)) := IntWalk.i64_in _ (by omega)
            clear HV hP hql hp0 hx0 hxl
            go_enter Tryd.func9, Tryd.ntmps9
            go_wp2_with fail
            refine HB.out.mono ?_; rintro e w' ⟨rfl, rfl⟩
            go_wp2_with fail
            refine HA.out.mono ?_; rintro e w2 ⟨rfl, hq2⟩
            have HQ2 := Lib.hid hq2
            clear hq2
            go_wp2_with fail
            go_ret
            exact ⟨rfl, HQ2.out⟩
end Cn
end Go.Proofs.YtnfodiedalhlhaaDoor
end
