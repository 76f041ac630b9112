/-
  The small functions of the forest, Join and Same. Conditions: the forest lies in memory as told (FAt), its parents lead to the roots R (Rooted), steps stay small.
-/
import Derived.Test.YtibemcofkgbjhaaFind
namespace Go.Proofs.Ytibemcofkgbjhaa
open Go.RowKit

theorem there_nil (j : Int) (w : World) :
    Calls Try.prog 27 #[.pointer none, .int .i64 j] w fun e w' => e = .returned (.bool false) ∧ w = w' := by
  go_enter Try.func27, Try.ntmps27
  go_wp2
  go_ret
  exact ⟨rfl, rfl⟩
theorem there_yes (fb n c : Nat) (o : Option Addr) (j : Nat) (w : World) (h0 : w.cell? ⟨fb, 0, none⟩ = some (.slice o n c)) (hj : j < n) (hn : n ≤ 1048576) :
    Calls Try.prog 27 #[.pointer (some ⟨fb, 0, none⟩), .int .i64 j] w fun e w' => e = .returned (.bool true) ∧ w = w' := by
  go_enter Try.func27, Try.ntmps27
  go_wp2
  go_ret
  exact ⟨rfl, rfl⟩
theorem there_no (fb n c : Nat) (o : Option Addr) (j : Int) (w : World) (h0 : w.cell? ⟨fb, 0, none⟩ = some (.slice o n c)) (hj : j < 0 ∨ (n : Int) ≤ j) (hn : n ≤ 1048576) :
    Calls Try.prog 27 #[.pointer (some ⟨fb, 0, none⟩), .int .i64 j] w fun e w' => e = .returned (.bool false) ∧ w = w' := by
  by_cases h1 : 0 ≤ j
  · have h2 : (n : Int) ≤ j := by omega
    clear hj
    have hd : decide (j < (n : Int)) = false := by simp; omega
    go_enter Try.func27, Try.ntmps27
    go_wp2
    go_ret
    exact ⟨by simp [h2], rfl⟩
  · clear hj
    go_enter Try.func27, Try.ntmps27
    go_wp2
    go_ret
    exact ⟨rfl, rfl⟩
theorem len_nil (w : World) : Calls Try.prog 20 #[.pointer none] w fun e w' => e = .returned (.int .i64 0) ∧ w = w' := by
  go_enter Try.func20, Try.ntmps20
  go_wp2
  go_ret
  exact ⟨rfl, rfl⟩
theorem len_any (fb n c : Nat) (o : Option Addr) (w : World) (h0 : w.cell? ⟨fb, 0, none⟩ = some (.slice o n c)) (hn : n ≤ 1048576) :
    Calls Try.prog 20 #[.pointer (some ⟨fb, 0, none⟩)] w fun e w' => e = .returned (.int .i64 n) ∧ w = w' := by
  go_enter Try.func20, Try.ntmps20
  go_wp2
  go_ret
  exact ⟨rfl, rfl⟩
theorem sets_nil (w : World) : Calls Try.prog 12 #[.pointer none] w fun e w' => e = .returned (.int .i64 0) ∧ w = w' := by
  go_enter Try.func12, Try.ntmps12
  go_wp2
  go_ret
  exact ⟨rfl, rfl⟩
theorem sets_any (fb s : Nat) (w : World) (h0 : w.cell? ⟨fb, 2, none⟩ = some (.int .i64 s)) :
    Calls Try.prog 12 #[.pointer (some ⟨fb, 0, none⟩)] w fun e w' => e = .returned (.int .i64 s) ∧ w = w' := by
  go_enter Try.func12, Try.ntmps12
  go_wp2
  go_ret
  exact ⟨rfl, rfl⟩
theorem steps_nil (w : World) : Calls Try.prog 25 #[.pointer none] w fun e w' => e = .returned (.int .i64 0) ∧ w = w' := by
  go_enter Try.func25, Try.ntmps25
  go_wp2
  go_ret
  exact ⟨rfl, rfl⟩
theorem steps_any (fb s : Nat) (w : World) (h0 : w.cell? ⟨fb, 3, none⟩ = some (.int .i64 s)) :
    Calls Try.prog 25 #[.pointer (some ⟨fb, 0, none⟩)] w fun e w' => e = .returned (.int .i64 s) ∧ w = w' := by
  go_enter Try.func25, Try.ntmps25
  go_wp2
  go_ret
  exact ⟨rfl, rfl⟩

theorem beq_nat_int (a b : Nat) : ((a : Int) == (b : Int)) = (a == b) := by
  rw [Bool.eq_iff_iff, beq_iff_eq, beq_iff_eq]; omega

def SamePost (fb ub rb uc rc : Nat) (up rk : List Nat) (sets steps : Nat) (R K : Nat → Nat) (M : Nat) (w w' : World) : Prop :=
  ∃ up' st, FAt w' fb ub rb uc rc up' rk sets st ∧ Rooted up' R K M ∧ up'.length = up.length ∧ steps ≤ st ∧ st ≤ steps + 4 * M + 4 ∧ Fr (fun k => k = fb ∨ k = ub) w w' ∧ w'.heap.size = w.heap.size

set_option maxHeartbeats 1000000 in
theorem same_any (fb ub rb uc rc : Nat) (up rk : List Nat) (sets steps : Nat) (R K : Nat → Nat) (M : Nat) (a b : Nat) (w : World)
    (h : FAt w fb ub rb uc rc up rk sets steps) (hr : Rooted up R K M) (ha : a < up.length) (hb : b < up.length) (hs : steps + 4 * M + 4 ≤ 4611686018427387904) :
    Calls Try.prog 11 #[.pointer (some ⟨fb, 0, none⟩), .int .i64 a, .int .i64 b] w fun e w' => e = .returned (.bool (R a == R b)) ∧ SamePost fb ub rb uc rc up rk sets steps R K M w w' := by
  have H := Lib.hid h
  clear h
  have c0 := H.out.c0
  have hbig := H.out.big
  go_enter Try.func11, Try.ntmps11
  go_wp2_with fail
  refine (there_yes fb up.length uc _ a _ c0 ha hbig).mono ?_; rintro e w1 ⟨rfl, rfl⟩
  go_wp2_with fail
  refine (there_yes fb up.length uc _ b _ c0 hb hbig).mono ?_; rintro e w1 ⟨rfl, rfl⟩
  go_wp2_with fail
  refine (find_any fb ub rb uc rc up rk sets steps R K M a _ H.out hr ha (by omega)).mono ?_; rintro e w1 ⟨rfl, up1, st1, h1, hr1, hl1, hs1, ht1, hf1, hz1⟩
  have H1 := Lib.hid h1
  have HL1 := Lib.hid hl1
  have HZ1 := Lib.hid hz1
  have ha1 : a < up1.length := by omega
  have hb1 : b < up1.length := by omega
  clear h1 hl1 hz1
  go_wp2_with fail
  refine (find_any fb ub rb uc rc up1 rk sets st1 R K M b _ H1.out hr1 hb1 (by omega)).mono ?_; rintro e w2 ⟨rfl, up2, st2, h2, hr2, hl2, hs2, ht2, hf2, hz2⟩
  have H2 := Lib.hid h2
  have HL2 := Lib.hid hl2
  have HZ2 := Lib.hid hz2
  clear h2 hl2 hz2
  have HP : Hid (SamePost fb ub rb uc rc up rk sets steps R K M w w2) := ⟨up2, st2, H2.out, hr2, by rw [HL2.out, HL1.out], by omega, by omega, hf1.trans hf2, by rw [HZ2.out, HZ1.out]⟩
  go_wp2
  go_ret
  refine ⟨?_, HP.out⟩
  rw [← beq_nat_int]
  rfl
end Go.Proofs.Ytibemcofkgbjhaa
