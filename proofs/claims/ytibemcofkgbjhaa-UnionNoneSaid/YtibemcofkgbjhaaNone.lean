/-
  UnionNone: which forests there may be; of one that isn't there nothing comes: the walk, for every three integers. No condition but that n is an int.
-/
import Derived.Test.YtibemcofkgbjhaaFs
namespace Go.Proofs.Ytibemcofkgbjhaa
open Go.RowKit

theorem root_nil (j : Int) (w : World) : Calls Try.prog 23 #[.pointer none, .int .i64 j] w fun e w' => e = .returned (.tuple #[.int .i64 0, .bool false]) ∧ w = w' := by
  go_enter Try.func23, Try.ntmps23
  go_wp2_with fail
  refine (there_nil j _).mono ?_; rintro e w1 ⟨rfl, rfl⟩
  go_wp2
  go_ret2
  exact ⟨rfl, rfl⟩
theorem join_nil (i j : Int) (w : World) : Calls Try.prog 10 #[.pointer none, .int .i64 i, .int .i64 j] w fun e w' => e = .returned (.tuple #[.int .i64 0, .bool false]) ∧ w = w' := by
  go_enter Try.func10, Try.ntmps10
  go_wp2_with fail
  refine (there_nil i _).mono ?_; rintro e w1 ⟨rfl, rfl⟩
  go_wp2
  go_ret2
  exact ⟨rfl, rfl⟩
theorem same_nil (i j : Int) (w : World) : Calls Try.prog 11 #[.pointer none, .int .i64 i, .int .i64 j] w fun e w' => e = .returned (.bool false) ∧ w = w' := by
  go_enter Try.func11, Try.ntmps11
  go_wp2_with fail
  refine (there_nil i _).mono ?_; rintro e w1 ⟨rfl, rfl⟩
  go_wp2
  go_ret
  exact ⟨rfl, rfl⟩
theorem set_nil (i : Int) (w : World) : Calls Try.prog 18 #[.pointer none, .int .i64 i] w fun e w' => e = .returned (.slice none 0 0) ∧ w.alloc (.cells #[.pointer none] 25) = w' := by
  go_enter Try.func18, Try.ntmps18
  go_wp2_with fail
  refine (there_nil i _).mono ?_; rintro e w1 ⟨rfl, rfl⟩
  go_wp2
  go_ret
  exact ⟨rfl, rfl⟩
theorem copy_nil (w : World) : Calls Try.prog 15 #[.pointer none] w fun e w' => e = .returned (.pointer none) ∧ w = w' := by
  go_enter Try.func15, Try.ntmps15
  go_wp2
  go_ret
  exact ⟨rfl, rfl⟩

def NewSome (w : World) (w' : World) : Prop := Fr (fun _ => False) w w'
theorem new_some (n : Int) (w : World) (h0 : 0 ≤ n) (h : n ≤ 1048576) : Calls Try.prog 9 #[.int .i64 n] w fun e w' => e = .returned (.tuple #[.pointer (some ⟨w.heap.size, 0, none⟩), .int .i64 0]) ∧ NewSome w w' := by
  obtain ⟨k, rfl⟩ := Int.eq_ofNat_of_zero_le h0
  refine (new_any k w (by omega)).mono ?_
  rintro e w' ⟨h1, uv, rv, _, hfr, _⟩
  exact ⟨h1, hfr⟩

set_option maxHeartbeats 2000000 in
theorem unionNone_walk (n i k : Int) (w : World) : Calls Try.prog 7 #[.int .i64 n, .int .i64 i, .int .i64 k] w fun e w' => e = .returned (.bool true) ∧ NewSome w w' := by
  by_cases hbig : 1048576 < n
  · have hb1 : 2000 < n := by omega
    go_enter Try.func7, Try.ntmps7
    go_wp2_with fail
    refine (new_no n _ (.inr hbig)).mono ?_; rintro e w1 ⟨rfl, rfl⟩
    go_wp2_with fail
    refine (root_nil _ _).mono ?_; rintro e w1 ⟨rfl, rfl⟩
    go_wp2_with fail
    refine (join_nil _ _ _).mono ?_; rintro e w1 ⟨rfl, rfl⟩
    go_wp2_with fail
    refine (add_nil _).mono ?_; rintro e w1 ⟨rfl, rfl⟩
    go_wp2_with fail
    refine (same_nil _ _ _).mono ?_; rintro e w1 ⟨rfl, rfl⟩
    go_wp2_with fail
    refine (len_nil _).mono ?_; rintro e w1 ⟨rfl, rfl⟩
    go_wp2_with fail
    refine (sets_nil _).mono ?_; rintro e w1 ⟨rfl, rfl⟩
    go_wp2_with fail
    refine (set_nil _ _).mono ?_; rintro e w1 ⟨rfl, rfl⟩
    go_wp2_with fail
    refine (steps_nil _).mono ?_; rintro e w1 ⟨rfl, rfl⟩
    go_wp2_with fail
    refine (copy_nil _).mono ?_; rintro e w1 ⟨rfl, rfl⟩
    go_wp2_with fail
    refine (awake_any _).mono ?_; rintro e w2 ⟨rfl, hq⟩
    go_wp2
    go_ret
    exact ⟨rfl, (Fr.alloc _ _ _).trans hq⟩
  · by_cases hneg : n < 0
    · have hb1 : ¬ 2000 < n := by omega
      go_enter Try.func7, Try.ntmps7
      go_wp2_with fail
      refine (new_no n _ (.inl hneg)).mono ?_; rintro e w1 ⟨rfl, rfl⟩
      go_wp2_with fail
      refine (root_nil _ _).mono ?_; rintro e w1 ⟨rfl, rfl⟩
      go_wp2_with fail
      refine (join_nil _ _ _).mono ?_; rintro e w1 ⟨rfl, rfl⟩
      go_wp2_with fail
      refine (add_nil _).mono ?_; rintro e w1 ⟨rfl, rfl⟩
      go_wp2_with fail
      refine (same_nil _ _ _).mono ?_; rintro e w1 ⟨rfl, rfl⟩
      go_wp2_with fail
      refine (len_nil _).mono ?_; rintro e w1 ⟨rfl, rfl⟩
      go_wp2_with fail
      refine (sets_nil _).mono ?_; rintro e w1 ⟨rfl, rfl⟩
      go_wp2_with fail
      refine (set_nil _ _).mono ?_; rintro e w1 ⟨rfl, rfl⟩
      go_wp2_with fail
      refine (steps_nil _).mono ?_; rintro e w1 ⟨rfl, rfl⟩
      go_wp2_with fail
      refine (copy_nil _).mono ?_; rintro e w1 ⟨rfl, rfl⟩
      go_wp2_with fail
      refine (awake_any _).mono ?_; rintro e w2 ⟨rfl, hq⟩
      go_wp2
      go_ret
      exact ⟨rfl, (Fr.alloc _ _ _).trans hq⟩
    · have h0 : 0 ≤ n := by omega
      have h1 : n ≤ 1048576 := by omega
      by_cases hb1 : 2000 < n
      all_goals
        go_enter Try.func7, Try.ntmps7
        go_wp2_with fail
        refine (new_some _ _ (by omega) (by omega)).mono ?_; rintro e w1 ⟨rfl, hn⟩
        go_wp2_with fail
        refine (root_nil _ _).mono ?_; rintro e w1 ⟨rfl, rfl⟩
        go_wp2_with fail
        refine (join_nil _ _ _).mono ?_; rintro e w1 ⟨rfl, rfl⟩
        go_wp2_with fail
        refine (add_nil _).mono ?_; rintro e w1 ⟨rfl, rfl⟩
        go_wp2_with fail
        refine (same_nil _ _ _).mono ?_; rintro e w1 ⟨rfl, rfl⟩
        go_wp2_with fail
        refine (len_nil _).mono ?_; rintro e w1 ⟨rfl, rfl⟩
        go_wp2_with fail
        refine (sets_nil _).mono ?_; rintro e w1 ⟨rfl, rfl⟩
        go_wp2_with fail
        refine (set_nil _ _).mono ?_; rintro e w1 ⟨rfl, rfl⟩
        go_wp2_with fail
        refine (steps_nil _).mono ?_; rintro e w1 ⟨rfl, rfl⟩
        go_wp2_with fail
        refine (copy_nil _).mono ?_; rintro e w1 ⟨rfl, rfl⟩
        go_wp2_with fail
        refine (awake_any _).mono ?_; rintro e w2 ⟨rfl, hq⟩
        go_wp2
        go_ret
        exact ⟨rfl, Fr.trans hn ((Fr.alloc _ _ _).trans hq)⟩
end Go.Proofs.Ytibemcofkgbjhaa
