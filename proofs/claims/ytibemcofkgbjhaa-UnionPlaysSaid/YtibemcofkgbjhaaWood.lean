/-
  The plain law of a forest: who stands below whom, ranks, sizes of sets, the number of roots; what a join does to it. No program in sight, no condition.
-/
import Derived.Test.YtibemcofkgbjhaaForest
namespace Go.Proofs.Ytibemcofkgbjhaa

/-- how many of the first n have root r -/
def cnt (R : Nat → Nat) (n r : Nat) : Nat := ((List.range n).filter (fun x => R x == r)).length
/-- how many of the first n are roots -/
def roots (R : Nat → Nat) (n : Nat) : Nat := ((List.range n).filter (fun x => R x == x)).length

structure Wood (up rk : List Nat) (R : Nat → Nat) (sets : Nat) : Prop where
  len : rk.length = up.length
  rooted : Rooted up R (fun x => rk.getD x 0) (Nat.log2 up.length)
  sized : ∀ r, r < up.length → R r = r → 2 ^ (rk.getD r 0) ≤ cnt R up.length r
  sets : sets = roots R up.length

def joined (R : Nat → Nat) (a b : Nat) : Nat → Nat := fun x => if R x = b then a else R x

theorem filter_len_mono {p q : Nat → Bool} (l : List Nat) (h : ∀ x, x ∈ l → p x = true → q x = true) : (l.filter p).length ≤ (l.filter q).length := by
  induction l with
  | nil => simp
  | cons y t ih =>
    have := ih (fun x hx => h x (List.mem_cons_of_mem _ hx))
    simp only [List.filter_cons]
    by_cases e : p y = true
    · rw [if_pos e, if_pos (h y (by simp) e)]; simpa using this
    · rw [if_neg e]; split
      · simp; omega
      · exact this
theorem filter_len_add {p q s : Nat → Bool} (l : List Nat) (h : ∀ x, x ∈ l → s x = (p x || q x)) (hd : ∀ x, x ∈ l → ¬ (p x = true ∧ q x = true)) :
    (l.filter s).length = (l.filter p).length + (l.filter q).length := by
  induction l with
  | nil => simp
  | cons y t ih =>
    have i1 := ih (fun x hx => h x (List.mem_cons_of_mem _ hx)) (fun x hx => hd x (List.mem_cons_of_mem _ hx))
    have h1 := h y (by simp)
    have h2 := hd y (by simp)
    simp only [List.filter_cons, h1]
    cases hp : p y <;> cases hq : q y <;> simp_all <;> omega
theorem filter_len_congr {p q : Nat → Bool} (l : List Nat) (h : ∀ x, x ∈ l → p x = q x) : (l.filter p).length = (l.filter q).length := by
  rw [List.filter_congr h]
theorem cnt_le (R : Nat → Nat) (n r : Nat) : cnt R n r ≤ n := by
  unfold cnt; exact Nat.le_trans (List.length_filter_le _ _) (by simp)
theorem filter_one (n b : Nat) (hb : b < n) : ((List.range n).filter (fun x => x == b)).length = 1 := by
  induction n with
  | zero => omega
  | succ n ih =>
    rw [List.range_succ, List.filter_append, List.length_append]
    by_cases e : b = n
    · subst e
      have : (List.range b).filter (fun x => x == b) = [] := by
        rw [List.filter_eq_nil_iff]; intro x hx; simp at hx; simp; omega
      simp [this]
    · rw [ih (by omega)]
      have : (n == b) = false := by simp; omega
      simp [this]

theorem Wood.of_rooted {up up' rk : List Nat} {R : Nat → Nat} {s M : Nat} (h : Wood up rk R s) (hl : up'.length = up.length) (hr : Rooted up' R (fun x => rk.getD x 0) M) : Wood up' rk R s := by
  refine ⟨by rw [hl]; exact h.len, ⟨hr.lt, hr.same, hr.fix, hr.rise, ?_⟩, ?_, ?_⟩
  · intro x hx; rw [hl] at hx ⊢; exact h.rooted.top x hx
  · rw [hl]; exact h.sized
  · rw [hl]; exact h.sets

theorem log_le {k n : Nat} (h : 2 ^ k ≤ n) : k ≤ Nat.log2 n := by
  have hn : n ≠ 0 := by have := Nat.two_pow_pos k; omega
  exact (Nat.le_log2 hn).2 h

theorem Wood.join {up rk : List Nat} {R : Nat → Nat} {s a b : Nat} (h : Wood up rk R s) (ha : a < up.length) (hb : b < up.length) (hRa : R a = a) (hRb : R b = b) (hne : a ≠ b)
    (hk : rk.getD b 0 ≤ rk.getD a 0) :
    Wood (up.set b a) (if rk.getD a 0 = rk.getD b 0 then rk.set a (rk.getD a 0 + 1) else rk) (joined R a b) (s - 1) := by
  have hr := h.rooted
  have hrka : a < rk.length := by rw [h.len]; exact ha
  generalize hrk : (if rk.getD a 0 = rk.getD b 0 then rk.set a (rk.getD a 0 + 1) else rk) = rk'
  have k1 : ∀ x, rk'.getD x 0 = if x = a ∧ rk.getD a 0 = rk.getD b 0 then rk.getD a 0 + 1 else rk.getD x 0 := by
    intro x; subst hrk
    by_cases e : rk.getD a 0 = rk.getD b 0
    · rw [if_pos e, getD_set _ _ _ _ hrka]; simp only [e, and_true]
    · rw [if_neg e]; simp only [e, and_false, if_false]
  have k2 : ∀ x, x ≠ a → rk'.getD x 0 = rk.getD x 0 := by intro x hx; rw [k1]; simp [hx]
  have k3 : rk.getD a 0 ≤ rk'.getD a 0 ∧ rk.getD b 0 < rk'.getD a 0 := by
    rw [k1]; split
    · omega
    · rename_i hh; simp only [true_and] at hh; omega
  have c1 : cnt (joined R a b) up.length a = cnt R up.length a + cnt R up.length b := by
    unfold cnt joined
    apply filter_len_add
    · intro x _; rw [Bool.eq_iff_iff]; simp only [beq_iff_eq, Bool.or_eq_true]; split <;> simp_all
    · intro x _; simp only [beq_iff_eq]; omega
  have c2 : ∀ r, r ≠ a → r ≠ b → cnt (joined R a b) up.length r = cnt R up.length r := by
    intro r h1 h2; unfold cnt joined
    apply filter_len_congr
    intro x _; rw [Bool.eq_iff_iff]; simp only [beq_iff_eq]; split <;> simp_all <;> omega
  have hsz : ∀ r, r < up.length → joined R a b r = r → 2 ^ (rk'.getD r 0) ≤ cnt (joined R a b) up.length r := by
    intro r hlt hfix
    have hrb : r ≠ b := by
      intro e; subst e; unfold joined at hfix; rw [if_pos hRb] at hfix; exact hne hfix
    by_cases e : r = a
    · subst e
      rw [c1, k1]
      have s1 := h.sized r ha hRa
      have s2 := h.sized b hb hRb
      split
      · rename_i hh
        rw [hh.2, Nat.pow_succ]
        rw [hh.2] at s1
        omega
      · omega
    · rw [c2 r e hrb, k2 r e]
      refine h.sized r hlt ?_
      unfold joined at hfix
      split at hfix
      · omega
      · exact hfix
  have hlen : rk'.length = up.length := by subst hrk; split <;> simp [h.len]
  have hrt0 : ∀ x, x < up.length → rk'.getD x 0 ≤ rk'.getD (joined R a b x) 0 ∧ joined R a b x < up.length ∧ joined R a b (joined R a b x) = joined R a b x := by
    intro x hx
    have t1 := hr.rootTop hx
    have t2 := hr.rootLt hx
    have t3 := hr.rootFix hx
    unfold joined
    by_cases e : R x = b
    · rw [if_pos e]
      refine ⟨?_, ha, by rw [hRa, if_neg hne]⟩
      by_cases e2 : x = a
      · subst e2; exact Nat.le_refl _
      · rw [k2 x e2]; simp only [e] at t1; omega
    · rw [if_neg e]
      refine ⟨?_, t2, by rw [t3, if_neg e]⟩
      by_cases e2 : x = a
      · subst e2; rw [hRa]; exact Nat.le_refl _
      · rw [k2 x e2]
        by_cases e3 : R x = a
        · rw [e3]; simp only [e3] at t1; omega
        · rw [k2 _ e3]; exact t1
  refine ⟨by simpa using hlen, ⟨?_, ?_, ?_, ?_, ?_⟩, by simpa using hsz, ?_⟩
  · intro x hx; rw [List.length_set] at hx ⊢; rw [getD_set _ _ _ _ hb]; split
    · exact ha
    · exact hr.lt x hx
  · intro x hx; rw [List.length_set] at hx; rw [getD_set _ _ _ _ hb]; split
    · rename_i e; subst e; unfold joined; simp [hRa, hRb, hne]
    · unfold joined; rw [hr.same x hx]
  · intro x hx; rw [List.length_set] at hx; rw [getD_set _ _ _ _ hb]; split
    · rename_i e; subst e; unfold joined; simp [hRb]
    · rename_i e
      rw [hr.fix x hx]; unfold joined
      by_cases e2 : R x = b
      · rw [if_pos e2]
        constructor
        · intro e3; omega
        · intro e3; subst e3; omega
      · rw [if_neg e2]
  · intro x hx; rw [List.length_set] at hx; rw [getD_set _ _ _ _ hb]
    split
    · rename_i e; subst e; intro _; rw [k2 x (Ne.symm hne)]; omega
    · intro hne2
      have hxa : x ≠ a := by intro e; subst e; exact hne2 ((hr.fix x hx).2 hRa)
      have := hr.rise x hx hne2
      rw [k2 x hxa]
      by_cases e3 : up.getD x 0 = a
      · rw [e3]; simp only [e3] at this; omega
      · rw [k2 _ e3]; exact this
  · intro x hx; rw [List.length_set] at hx ⊢
    obtain ⟨t1, t2, t3⟩ := hrt0 x hx
    exact log_le (Nat.le_trans (Nat.le_trans (Nat.pow_le_pow_right (by omega) t1) (hsz _ t2 t3)) (cnt_le _ _ _))
  · rw [List.length_set, h.sets]
    have : roots R up.length = roots (joined R a b) up.length + 1 := by
      rw [← filter_one up.length b hb]
      unfold roots joined
      apply filter_len_add
      · intro x _; rw [Bool.eq_iff_iff]; simp only [beq_iff_eq, Bool.or_eq_true]
        by_cases e : R x = b
        · rw [if_pos e]
          constructor
          · intro e2; right; omega
          · rintro (e2 | e2)
            · subst e2; omega
            · omega
        · rw [if_neg e]
          constructor
          · intro e2; exact .inl e2
          · rintro (e2 | e2)
            · exact e2
            · subst e2; omega
      · intro x _; simp only [beq_iff_eq]; rintro ⟨e1, e2⟩; subst e2; rw [if_pos hRb] at e1; exact hne e1
    omega
end Go.Proofs.Ytibemcofkgbjhaa
