/-
  The plain law of joins in whatever order: two functions that tell roots, each of which holds the same pairs and no more, tell the same sets and as many. No program in sight, no condition.
-/
import Derived.Test.YtibemcofkgbjhaaWood
namespace Go.Proofs.Ytibemcofkgbjhaa

/-- S holds the first k pairs as one -/
def Full (k : Nat) (a b : Nat → Nat) (S : Nat → Nat) : Prop := ∀ j, j < k → S (a j) = S (b j)
/-- what R holds as one, every S of A holds as one -/
def Sound (n : Nat) (A : (Nat → Nat) → Prop) (R : Nat → Nat) : Prop := ∀ S, A S → ∀ x y, x < n → y < n → R x = R y → S x = S y

theorem joined_resp {R : Nat → Nat} {r o x y : Nat} (h : R x = R y) : joined R r o x = joined R r o y := by unfold joined; rw [h]
theorem joined_pair {R : Nat → Nat} {r o a b : Nat} (h : (r = R a ∧ o = R b) ∨ (r = R b ∧ o = R a)) : joined R r o a = joined R r o b := by
  unfold joined
  rcases h with ⟨rfl, rfl⟩ | ⟨rfl, rfl⟩
  · by_cases e : R a = R b
    · simp [e]
    · simp [e]
  · by_cases e : R a = R b
    · simp [e]
    · simp [Ne.symm e]
theorem Full.joined {k : Nat} {a b : Nat → Nat} {R : Nat → Nat} {r o : Nat} (h : Full k a b R) : Full k a b (joined R r o) := fun j hj => joined_resp (h j hj)
theorem Sound.id (n : Nat) (A : (Nat → Nat) → Prop) : Sound n A (fun x => x) := by intro S _ x y _ _ h; simp only at h; rw [h]
theorem Sound.mono {n : Nat} {A B : (Nat → Nat) → Prop} {R : Nat → Nat} (h : Sound n A R) (hAB : ∀ S, B S → A S) : Sound n B R := fun S hS => h S (hAB S hS)
theorem Sound.joined {n : Nat} {A : (Nat → Nat) → Prop} {R : Nat → Nat} {r o a b : Nat} (h : Sound n A R) (ha : a < n) (hb : b < n) (hp : (r = R a ∧ o = R b) ∨ (r = R b ∧ o = R a)) (hab : ∀ S, A S → S a = S b) : Sound n A (joined R r o) := by
  intro S hS x y hx hy he
  have hs := hab S hS
  unfold Proofs.Ytibemcofkgbjhaa.joined at he
  have key : ∀ z, z < n → R z = o → S z = S a := by
    intro z hz hzo
    rcases hp with ⟨_, h2⟩ | ⟨_, h2⟩
    · rw [h S hS z b hz hb (by rw [hzo, h2]), hs]
    · exact h S hS z a hz ha (by rw [hzo, h2])
  have key2 : ∀ z, z < n → R z = r → S z = S a := by
    intro z hz hzo
    rcases hp with ⟨h1, _⟩ | ⟨h1, _⟩
    · exact h S hS z a hz ha (by rw [hzo, h1])
    · rw [h S hS z b hz hb (by rw [hzo, h1]), hs]
  by_cases e1 : R x = o <;> by_cases e2 : R y = o
  · exact h S hS x y hx hy (by rw [e1, e2])
  · rw [if_pos e1, if_neg e2] at he
    rw [key x hx e1, key2 y hy he.symm]
  · rw [if_neg e1, if_pos e2] at he
    rw [key y hy e2, key2 x hx he]
  · rw [if_neg e1, if_neg e2] at he
    exact h S hS x y hx hy he

/-- a list without doubles, sent into another without two to one, is no longer -/
theorem length_le_of_into : ∀ (l : List Nat) (l' : List Nat) (f : Nat → Nat), l.Nodup → (∀ x, x ∈ l → f x ∈ l') → (∀ x y, x ∈ l → y ∈ l → f x = f y → x = y) → l.length ≤ l'.length
  | [], _, _, _, _, _ => by simp
  | x :: t, l', f, hn, hm, hi => by
    have hx := hm x (by simp)
    have hn' := List.nodup_cons.1 hn
    have := length_le_of_into t (l'.erase (f x)) f hn'.2 (fun y hy => by
      have h1 := hm y (List.mem_cons_of_mem _ hy)
      have hne : f y ≠ f x := fun e => by
        have := hi y x (List.mem_cons_of_mem _ hy) (by simp) e
        subst this; exact hn'.1 hy
      exact (List.mem_erase_of_ne hne).2 h1) (fun y z hy hz e => hi y z (List.mem_cons_of_mem _ hy) (List.mem_cons_of_mem _ hz) e)
    rw [List.length_erase_of_mem hx] at this
    have : 0 < l'.length := List.length_pos_of_mem hx
    simp; omega
theorem roots_le {n : Nat} {R S : Nat → Nat} (hS : ∀ x, x < n → S x < n ∧ S (S x) = S x) (h : ∀ x y, x < n → y < n → S x = S y → R x = R y) : roots R n ≤ roots S n := by
  unfold roots
  refine length_le_of_into _ _ S (List.nodup_range.filter _) ?_ ?_
  · intro x hx
    simp only [List.mem_filter, List.mem_range, beq_iff_eq] at hx ⊢
    exact hS x hx.1
  · intro x y hx hy e
    simp only [List.mem_filter, List.mem_range, beq_iff_eq] at hx hy
    have := h x y hx.1 hy.1 e
    omega
theorem same_sets {n k : Nat} {a b : Nat → Nat} {R S : Nat → Nat} (h1 : Full k a b R) (h2 : Sound n (Full k a b) R) (h3 : Full k a b S) (h4 : Sound n (Full k a b) S) {x y : Nat} (hx : x < n) (hy : y < n) : (R x == R y) = (S x == S y) := by
  rw [Bool.eq_iff_iff, beq_iff_eq, beq_iff_eq]
  exact ⟨fun e => h2 S h3 x y hx hy e, fun e => h4 R h1 x y hx hy e⟩
theorem same_roots {n k : Nat} {a b : Nat → Nat} {R S : Nat → Nat} (h1 : Full k a b R) (h2 : Sound n (Full k a b) R) (h3 : Full k a b S) (h4 : Sound n (Full k a b) S)
    (hR : ∀ x, x < n → R x < n ∧ R (R x) = R x) (hS : ∀ x, x < n → S x < n ∧ S (S x) = S x) : roots R n = roots S n :=
  Nat.le_antisymm (roots_le hS (fun x y hx hy e => h4 R h1 x y hx hy e)) (roots_le hR (fun x y hx hy e => h2 S h3 x y hx hy e))
end Go.Proofs.Ytibemcofkgbjhaa
