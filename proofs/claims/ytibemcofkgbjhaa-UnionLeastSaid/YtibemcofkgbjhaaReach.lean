/-
  The plain law of reaching: rounds over the pairs, each of which holds its two as one as soon as one is reached: after as many rounds as there are elements, what is reached is the set. No program in sight, no condition.
-/
import Derived.Test.YtibemcofkgbjhaaPairs
namespace Go.Proofs.Ytibemcofkgbjhaa

def cntB (l : List Bool) : Nat := (l.filter id).length
def stepB (l : List Bool) (a b : Nat) : List Bool := if l.getD a false || l.getD b false then (l.set a true).set b true else l
theorem getDB_set (l : List Bool) (x : Nat) (v : Bool) (y : Nat) (hx : x < l.length) : (l.set x v).getD y false = if y = x then v else l.getD y false := by
  by_cases e : y = x
  · subst e; simp [List.getD, hx]
  · simp [List.getD, e, Ne.symm e]
theorem cntB_le (l : List Bool) : cntB l ≤ l.length := List.length_filter_le _ _
theorem cntB_set : ∀ (l : List Bool) (x : Nat), x < l.length → cntB (l.set x true) = cntB l + (if l.getD x false = true then 0 else 1)
  | [], x, h => by simp at h
  | c :: t, 0, _ => by cases c <;> simp [cntB]
  | c :: t, x + 1, h => by
    have := cntB_set t x (by simpa using h)
    simp only [List.set_cons_succ, List.getD_cons_succ]
    unfold cntB at this ⊢
    cases c <;> simp [this]
    omega
theorem set_same (l : List Bool) (x : Nat) (h : l.getD x false = true) : l.set x true = l := by
  apply List.ext_getElem?
  intro j
  rw [List.getElem?_set]
  by_cases e : x = j
  · subst e
    rw [if_pos rfl]
    by_cases hx : x < l.length
    · rw [if_pos hx]; simp [List.getD, hx] at h ⊢; exact h
    · rw [if_neg hx]; simp; omega
  · rw [if_neg e]
theorem stepB_len (l : List Bool) (a b : Nat) : (stepB l a b).length = l.length := by unfold stepB; split <;> simp
theorem stepB_grow (l : List Bool) (a b : Nat) (ha : a < l.length) (hb : b < l.length) : (stepB l a b = l ∧ l.getD a false = l.getD b false) ∨ cntB l < cntB (stepB l a b) := by
  unfold stepB
  by_cases h1 : l.getD a false = true <;> by_cases h2 : l.getD b false = true
  · left
    rw [h1, h2]; simp only [Bool.or_self, if_true, and_true]
    rw [set_same l a h1, set_same l b h2]
  · right
    rw [h1]; simp only [Bool.true_or, if_true]
    rw [set_same l a h1, cntB_set l b hb, if_neg h2]; omega
  · right
    rw [h2]; simp only [Bool.or_true, if_true]
    have hne : b ≠ a := fun e => h1 (by rw [← e]; exact h2)
    have h3 : (l.set a true).getD b false = true := by rw [getDB_set _ _ _ _ ha, if_neg hne]; exact h2
    rw [set_same _ b h3, cntB_set l a ha, if_neg h1]; omega
  · left
    simp only [Bool.not_eq_true] at h1 h2
    rw [h1, h2]; simp
theorem stepB_get (l : List Bool) (a b x : Nat) (ha : a < l.length) (hb : b < l.length) (h : (stepB l a b).getD x false = true) : l.getD x false = true ∨ ((x = a ∨ x = b) ∧ (l.getD a false = true ∨ l.getD b false = true)) := by
  unfold stepB at h
  split at h
  · rename_i hh
    rw [getDB_set _ _ _ _ (by simpa using hb)] at h
    split at h
    · right; exact ⟨.inr ‹_›, by simpa using hh⟩
    · rw [getDB_set _ _ _ _ ha] at h
      split at h
      · right; exact ⟨.inl ‹_›, by simpa using hh⟩
      · exact .inl h
  · exact .inl h
theorem stepB_keep (l : List Bool) (a b x : Nat) (ha : a < l.length) (hb : b < l.length) (h : l.getD x false = true) : (stepB l a b).getD x false = true := by
  unfold stepB
  split
  · rw [getDB_set _ _ _ _ (by simpa using hb)]; split
    · rfl
    · rw [getDB_set _ _ _ _ ha]; split
      · rfl
      · exact h
  · exact h

/-- all pairs are held as one -/
def ClosedB (len : Nat) (a b : Nat → Nat) (l : List Bool) : Prop := ∀ j, j < len → l.getD (a j) false = l.getD (b j) false
/-- what is reached is of i's set; i is -/
structure ReachB (m i : Nat) (R : Nat → Nat) (l : List Bool) : Prop where
  len : l.length = m
  own : l.getD i false = true
  sound : ∀ x, x < m → l.getD x false = true → R x = R i
/-- behind r rounds -/
def RoundsB (len : Nat) (a b : Nat → Nat) (r : Nat) (l : List Bool) : Prop := ClosedB len a b l ∨ r + 1 ≤ cntB l
/-- in a round that began at l0, behind k pairs -/
structure PartB (len k : Nat) (a b : Nat → Nat) (l0 l : List Bool) : Prop where
  grow : l = l0 ∨ cntB l0 < cntB l
  done : l = l0 → ∀ j, j < k → l.getD (a j) false = l.getD (b j) false
  still : ClosedB len a b l0 → l = l0
theorem ReachB.step {m i : Nat} {R : Nat → Nat} {l : List Bool} {a b : Nat} (h : ReachB m i R l) (ha : a < m) (hb : b < m) (hR : R a = R b) : ReachB m i R (stepB l a b) := by
  have hl := h.len
  refine ⟨by rw [stepB_len]; exact hl, stepB_keep _ _ _ _ (by omega) (by omega) h.own, ?_⟩
  intro x hx hh
  rcases stepB_get l a b x (by omega) (by omega) hh with h1 | ⟨h1, h2⟩
  · exact h.sound x hx h1
  · have : R a = R i := by
      rcases h2 with h2 | h2
      · exact h.sound a ha h2
      · rw [hR]; exact h.sound b hb h2
    rcases h1 with rfl | rfl
    · exact this
    · rw [← hR]; exact this
theorem PartB.start (len : Nat) (a b : Nat → Nat) (l : List Bool) : PartB len 0 a b l l := ⟨.inl rfl, fun _ j hj => by omega, fun _ => rfl⟩
theorem PartB.step {len k : Nat} {a b : Nat → Nat} {l0 l : List Bool} (h : PartB len k a b l0 l) (hk : k < len) (ha : a k < l.length) (hb : b k < l.length) : PartB len (k + 1) a b l0 (stepB l (a k) (b k)) := by
  rcases stepB_grow l (a k) (b k) ha hb with ⟨h1, h2⟩ | h1
  · rw [h1]
    refine ⟨h.grow, fun e j hj => ?_, h.still⟩
    by_cases e2 : j = k
    · subst e2; exact h2
    · exact h.done e j (by omega)
  · refine ⟨.inr ?_, fun e => ?_, fun hc => ?_⟩
    · rcases h.grow with e | e
      · rw [← e]; exact h1
      · omega
    · exfalso
      rcases h.grow with e2 | e2
      · rw [e, ← e2] at h1; omega
      · rw [e] at h1; omega
    · have e := h.still hc
      have h2 := hc k hk
      rw [← e] at h2
      unfold stepB
      split
      · rename_i hh
        rw [h2, Bool.or_self] at hh
        rw [set_same l (a k) (h2.trans hh), set_same l (b k) hh, e]
      · exact e
theorem RoundsB.step {len r : Nat} {a b : Nat → Nat} {l0 l : List Bool} (h : RoundsB len a b r l0) (hp : PartB len len a b l0 l) : RoundsB len a b (r + 1) l := by
  rcases h with h | h
  · rw [hp.still h]; exact .inl h
  · rcases hp.grow with e | e
    · exact .inl (fun j hj => hp.done e j hj)
    · exact .inr (by omega)
theorem reach_end {len m i : Nat} {a b : Nat → Nat} {R : Nat → Nat} {l : List Bool} (hr : ReachB m i R l) (hrr : RoundsB len a b m l) (hs : Sound m (Full len a b) R) (hi : i < m) {k : Nat} (hk : k < m) : (R i == R k) = l.getD k false := by
  have hc : ClosedB len a b l := by
    rcases hrr with h | h
    · exact h
    · have := cntB_le l; have := hr.len; omega
  rw [Bool.eq_iff_iff, beq_iff_eq]
  constructor
  · intro e
    have h := hs (fun x => if l.getD x false = true then 1 else 0) (fun j hj => by simp only [hc j hj]) k i hk hi e.symm
    simp only [hr.own, if_true] at h
    split at h
    · assumption
    · omega
  · intro e; exact (hr.sound k hk e).symm
theorem reach_start (m i : Nat) (R : Nat → Nat) (hi : i < m) : ReachB m i R ((List.replicate m false).set i true) := by
  have hg : ∀ x, (List.replicate m false).getD x false = false := by intro x; simp [List.getD, List.getElem?_replicate]; split <;> simp
  refine ⟨by simp, by rw [getDB_set _ _ _ _ (by simpa using hi), if_pos rfl], ?_⟩
  intro x hx h
  rw [getDB_set _ _ _ _ (by simpa using hi)] at h
  split at h
  · rename_i e; rw [e]
  · rw [hg] at h; cases h
theorem rounds_start (len : Nat) (a b : Nat → Nat) (m i : Nat) (hi : i < m) : RoundsB len a b 0 ((List.replicate m false).set i true) := by
  right
  have hg : (List.replicate m false).getD i false = false := by simp [List.getD, hi]
  rw [cntB_set _ _ (by simpa using hi), hg]; simp
end Go.Proofs.Ytibemcofkgbjhaa
