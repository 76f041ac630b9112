/-
  New: a forest of n elements, each alone, in new memory. No condition on n: without the bounds ErrArg.
-/
import Derived.Test.YtibemcofkgbjhaaAdd
namespace Go.Proofs.Ytibemcofkgbjhaa
open Go.RowKit

theorem wood_new (n : Nat) : Wood (List.range n) (List.replicate n 0) (fun x => x) n := by
  have hg : ∀ x, x < n → (List.range n).getD x 0 = x := by intro x hx; simp [hx]
  have hz : ∀ x, (List.replicate n 0).getD x 0 = 0 := by intro x; simp [List.getElem?_replicate]; split <;> simp
  refine ⟨by simp, ⟨?_, ?_, ?_, ?_, ?_⟩, ?_, ?_⟩
  · intro x hx; simp only [List.length_range] at hx ⊢; rw [hg x hx]; exact hx
  · intro x hx; simp only [List.length_range] at hx; exact hg x hx
  · intro x hx; simp only [List.length_range] at hx; simp [hx]
  · intro x hx h; simp only [List.length_range] at hx; exact absurd (hg x hx) h
  · intro x _; simp only [hz]; omega
  · intro r hr _
    simp only [hz, List.length_range, Nat.pow_zero] at hr ⊢
    unfold cnt
    rw [filter_one n r hr]; omega
  · unfold roots
    rw [List.filter_eq_self.2 (by simp)]; simp

def NewPost (n : Nat) (w w' : World) : Prop :=
  ∃ uv rv, FV w' w.heap.size uv rv (List.range n) (List.replicate n 0) n 0 ∧ Fr (fun _ => False) w w' ∧ (∀ b, uv.ownBlock = some b → w.heap.size < b) ∧ (∀ b, rv.ownBlock = some b → w.heap.size < b)

theorem new_no (n : Int) (w : World) (h : n < 0 ∨ 1048576 < n) :
    Calls Try.prog 9 #[.int .i64 n] w fun e w' => e = .returned (.tuple #[.pointer none, .int .i64 1]) ∧ w = w' := by
  rcases h with h | h
  · go_enter Try.func9, Try.ntmps9
    go_wp2
    go_ret2
    exact ⟨rfl, rfl⟩
  · have h0 : ¬ n < 0 := by omega
    go_enter Try.func9, Try.ntmps9
    go_wp2
    go_ret2
    exact ⟨rfl, rfl⟩

set_option maxHeartbeats 1000000 in
theorem new_any (n : Nat) (w : World) (h : n ≤ 1048576) :
    Calls Try.prog 9 #[.int .i64 n] w fun e w' => e = .returned (.tuple #[.pointer (some ⟨w.heap.size, 0, none⟩), .int .i64 0]) ∧ NewPost n w w' := by
  go_enter Try.func9, Try.ntmps9
  go_wp2_with fail
  go_loopw [14] (fun t wr => ∃ k : Nat, ∃ uv rv, k ≤ n ∧ t = .int .i64 k ∧ FV wr w.heap.size uv rv (List.range k) (List.replicate k 0) k 0 ∧ Fr (fun _ => False) w wr ∧ (∀ b, uv.ownBlock = some b → w.heap.size < b) ∧ (∀ b, rv.ownBlock = some b → w.heap.size < b)) (fun t _ => n - (intOf t).toNat)
  case atStart =>
    refine ⟨0, .slice none 0 0, .slice none 0 0, Nat.zero_le _, rfl, ⟨?_, World.ownsRow_nil _ _ _ _, World.ownsRow_nil _ _ _ _, by simp [Value.ownBlock], by simp [Value.ownBlock], by simp [Value.ownBlock], by simp, by simp⟩, Fr.alloc _ _ _, by simp [Value.ownBlock], by simp [Value.ownBlock]⟩
    exact heap_alloc_new w _
  case round =>
    obtain ⟨k, uv, rv, hk, rfl, hF, hfr, hu, hr⟩ := hrel
    have HF := Lib.hid hF
    clear hF
    have HU := Lib.hid hu
    have HR := Lib.hid hr
    clear hu hr
    by_cases hlt : k < n
    · go_wp2_with fail
      refine (add_any w.heap.size uv rv (List.range k) (List.replicate k 0) k 0 _ HF.out (by simp; omega) (by omega)).mono ?_; rintro e w1 ⟨rfl, hp⟩
      have HP := Lib.hid hp
      clear hp
      go_wp2
      go_roundw
      case rel =>
        obtain ⟨uv', rv', ku, kr, hF', hfr', hku, hku', hkr, hkr'⟩ := HP.out
        have hge := hfr.size
        have fbl : w.heap.size < wr.heap.size := (Array.getElem?_eq_some_iff.1 HF.out.blk).1
        refine ⟨k + 1, uv', rv', by omega, by go_num, ?_, ?_, ?_, ?_⟩
        · have e1 : List.range (k + 1) = List.range k ++ [(List.range k).length] := by rw [List.range_succ, List.length_range]
          have e2 : List.replicate (k + 1) 0 = List.replicate k 0 ++ [0] := by rw [List.replicate_succ']
          rw [e1, e2]
          exact hF'
        · refine hfr.trans' hfr' ?_
          intro i hi hh
          rcases hh with h | h | h
          · omega
          · have := HU.out _ h; omega
          · have := HR.out _ h; omega
        · intro b hb
          rw [hku] at hb
          cases hb
          rcases hku' with h | h
          · exact HU.out _ h
          · omega
        · intro b hb
          rw [hkr] at hb
          cases hb
          rcases hkr' with h | h
          · exact HR.out _ h
          · omega
      case measure => simp [intOf]; omega
    · have hkn : k = n := by omega
      subst hkn
      go_wp2
      go_ret2
      exact ⟨rfl, uv, rv, HF.out, hfr, HU.out, HR.out⟩
end Go.Proofs.Ytibemcofkgbjhaa
