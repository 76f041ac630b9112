/-
  Substitutions: rows of binds, in plain words and in memory. No condition.
-/
import Derived.Test.YtdlcakmjihfgfaaDoorTyMapT
import Derived.Test.YtdlcakmjihfgfaaDoorTyVars2
namespace Go.Proofs.YtdlcakmjihfgfaaDoor
open Go.RowKit Go.Maps

abbrev Bd := Int × Int × Int × Fo
def findB (l : List Bd) (v : Int) : Option Bd := l.find? (fun t => t.1 == v)
def hasB (l : List Bd) (v : Int) : Bool := l.any (fun t => t.1 == v)
def firstStep (acc : List Bd) (t : Bd) : List Bd := if hasB acc t.1 then acc else acc ++ [t]
/-- the binds that count -/
def firstB (l : List Bd) : List Bd := l.foldl firstStep []
def hit (l : List Bd) (k n : Int) : Option Bd := if k == 1 then findB l n else none
def substF (l : List Bd) : Fo → Fo
  | .nil => .nil
  | .cons k n ps r => match hit l k n with
    | some t => .cons t.2.1 t.2.2.1 t.2.2.2 (substF l r)
    | none => .cons k n (substF l ps) (substF l r)
def sK (l : List Bd) (k n : Int) : Int := match hit l k n with | some t => t.2.1 | none => k
def sN (l : List Bd) (k n : Int) : Int := match hit l k n with | some t => t.2.2.1 | none => n
def sP (l : List Bd) (k n : Int) (ps : Fo) : Fo := match hit l k n with | some t => t.2.2.2 | none => substF l ps
theorem substF_cons (l : List Bd) (k n : Int) (ps r : Fo) : substF l (.cons k n ps r) = .cons (sK l k n) (sN l k n) (sP l k n ps) (substF l r) := by
  unfold sK sN sP
  rw [substF]
  cases hit l k n <;> rfl
theorem firstB_snoc (l : List Bd) (t : Bd) : firstB (l ++ [t]) = firstStep (firstB l) t := by unfold firstB; rw [List.foldl_append]; rfl
theorem hasB_snoc (l : List Bd) (t : Bd) (v : Int) : hasB (l ++ [t]) v = (hasB l v || t.1 == v) := by unfold hasB; simp
theorem hasB_step (acc : List Bd) (t : Bd) (v : Int) : hasB (firstStep acc t) v = (hasB acc v || t.1 == v) := by
  unfold firstStep
  cases h : hasB acc t.1
  · simp only [Bool.false_eq_true, if_false]; exact hasB_snoc _ _ _
  · simp only [if_true]
    by_cases he : t.1 = v
    · subst he; rw [h]; rfl
    · simp [he]
theorem hasB_first : ∀ (l : List Bd) (acc : List Bd) (v : Int), hasB (l.foldl firstStep acc) v = (hasB acc v || hasB l v)
  | [], acc, v => by simp [hasB]
  | t :: r, acc, v => by
    rw [List.foldl_cons, hasB_first r, hasB_step]
    unfold hasB; simp [Bool.or_assoc]
theorem first_has (l : List Bd) (v : Int) : hasB (firstB l) v = hasB l v := by unfold firstB; rw [hasB_first]; simp [hasB]
theorem findB_none {l : List Bd} {v : Int} : findB l v = none ↔ hasB l v = false := by unfold findB hasB; simp
theorem findB_snoc (l : List Bd) (t : Bd) (v : Int) : findB (l ++ [t]) v = (findB l v).or (if t.1 == v then some t else none) := by
  unfold findB; rw [List.find?_append]
  congr 1
  simp only [List.find?_cons, List.find?_nil]
  cases (t.1 == v) <;> rfl
theorem findB_step (acc : List Bd) (t : Bd) (v : Int) : findB (firstStep acc t) v = (findB acc v).or (if t.1 == v then some t else none) := by
  unfold firstStep
  cases h : hasB acc t.1
  · simp only [Bool.false_eq_true, if_false]; exact findB_snoc _ _ _
  · simp only [if_true]
    by_cases he : t.1 = v
    · subst he
      cases hf : findB acc t.1 with
      | none => rw [findB_none] at hf; rw [hf] at h; cases h
      | some u => rfl
    · have : (t.1 == v) = false := by simp [he]
      rw [this]; cases findB acc v <;> rfl
theorem findB_first : ∀ (l : List Bd) (acc : List Bd) (v : Int), findB (l.foldl firstStep acc) v = (findB acc v).or (findB l v)
  | [], acc, v => by simp [findB]
  | t :: r, acc, v => by
    rw [List.foldl_cons, findB_first r, findB_step, Option.or_assoc]
    congr 1
    unfold findB
    rw [List.find?_cons]
    cases (t.1 == v) <;> simp
theorem first_find (l : List Bd) (v : Int) : findB (firstB l) v = findB l v := by unfold firstB; rw [findB_first]; simp [findB]
theorem findB_mem {l : List Bd} {v : Int} {t : Bd} (h : findB l v = some t) : t ∈ l ∧ t.1 = v := by
  unfold findB at h
  exact ⟨List.mem_of_find?_eq_some h, by have := List.find?_some h; simpa using this⟩
theorem first_sub : ∀ (l acc : List Bd) (t : Bd), t ∈ l.foldl firstStep acc → t ∈ acc ∨ t ∈ l
  | [], acc, t, h => .inl h
  | u :: r, acc, t, h => by
    rw [List.foldl_cons] at h
    rcases first_sub r _ t h with h | h
    · unfold firstStep at h
      split at h
      · exact .inl h
      · rcases List.mem_append.1 h with h | h
        · exact .inl h
        · right
          have : t = u := by simpa using h
          rw [this]; exact List.mem_cons_self
    · exact .inr (List.mem_cons_of_mem _ h)
theorem first_len : ∀ (l acc : List Bd), (l.foldl firstStep acc).length ≤ acc.length + l.length
  | [], acc => by simp
  | u :: r, acc => by
    rw [List.foldl_cons]
    have := first_len r (firstStep acc u)
    have h2 : (firstStep acc u).length ≤ acc.length + 1 := by unfold firstStep; split <;> simp
    simp; omega

/-- binds that lie in a row -/
def BindsAt (w : World) (o : Option Addr) (l : List Bd) : Prop := ∀ i t, l[i]? = some t → ∃ b off o' len' cap', o = some ⟨b, off, none⟩ ∧
  w.cell? ⟨b, off + i * 4, none⟩ = some (.int .i64 t.1) ∧ w.cell? ⟨b, off + i * 4 + 1, none⟩ = some (.int .i64 t.2.1) ∧ w.cell? ⟨b, off + i * 4 + 2, none⟩ = some (.int .i64 t.2.2.1) ∧ w.cell? ⟨b, off + i * 4 + 3, none⟩ = some (.slice o' len' cap') ∧ Slc w o' len' t.2.2.2
theorem BindsAt.stay {w w' : World} {o : Option Addr} {l : List Bd} (h : BindsAt w o l) (hq : Quiet0 w w') : BindsAt w' o l := by
  intro i t ht
  obtain ⟨b, off, o', len', cap', h0, h1, h2, h3, h4, h5⟩ := h i t ht
  exact ⟨b, off, o', len', cap', h0, hq.at h1, hq.at h2, hq.at h3, hq.at h4, h5.stay hq⟩
/-- cells that are binds -/
def RowB (R : Nat → Prop) (w : World) : List Value → List Bd → Prop
  | xs, [] => xs = []
  | xs, t :: r => ∃ o len cap ys, xs = .int .i64 t.1 :: .int .i64 t.2.1 :: .int .i64 t.2.2.1 :: .slice o len cap :: ys ∧ SlcIn R w o len t.2.2.2 ∧ RowB R w ys r
theorem RowB.fr {R T S : Nat → Prop} {w w' : World} (hf : Fr S w w') (hR : ∀ k, k < w.heap.size → R k → T k ∧ ¬ S k) : ∀ (l : List Bd) (xs : List Value), RowB R w xs l → RowB T w' xs l
  | [], _, h => h
  | t :: r, xs, h => by
    obtain ⟨o, len, cap, ys, rfl, hs, hr⟩ := h
    exact ⟨o, len, cap, ys, rfl, hs.fr hf hR, RowB.fr hf hR r ys hr⟩
theorem RowB.snoc {R : Nat → Prop} {w : World} {t : Bd} {o : Option Addr} {len cap : Nat} (hs : SlcIn R w o len t.2.2.2) : ∀ (l : List Bd) (xs : List Value), RowB R w xs l → RowB R w (xs ++ [.int .i64 t.1, .int .i64 t.2.1, .int .i64 t.2.2.1, .slice o len cap]) (l ++ [t])
  | [], xs, h => by
    cases h
    exact ⟨o, len, cap, [], rfl, hs, rfl⟩
  | u :: r, xs, h => by
    obtain ⟨o', len', cap', ys, rfl, hs', hr⟩ := h
    exact ⟨o', len', cap', _, rfl, hs', RowB.snoc hs r ys hr⟩
theorem RowB.get {R : Nat → Prop} {w : World} : ∀ (l : List Bd) (xs : List Value), RowB R w xs l → ∀ i t, l[i]? = some t → ∃ o len cap, xs[i * 4]? = some (.int .i64 t.1) ∧ xs[i * 4 + 1]? = some (.int .i64 t.2.1) ∧ xs[i * 4 + 2]? = some (.int .i64 t.2.2.1) ∧ xs[i * 4 + 3]? = some (.slice o len cap) ∧ SlcIn R w o len t.2.2.2
  | [], xs, h, i, t, ht => by simp at ht
  | u :: r, xs, h, 0, t, ht => by
    simp at ht
    subst ht
    obtain ⟨o, len, cap, ys, rfl, hs, hr⟩ := h
    exact ⟨o, len, cap, rfl, rfl, rfl, rfl, hs⟩
  | u :: r, xs, h, i + 1, t, ht => by
    obtain ⟨o', len', cap', ys, rfl, hs', hr⟩ := h
    obtain ⟨o, len, cap, h0, h1, h2, h3, h4⟩ := RowB.get r ys hr i t (by simpa using ht)
    refine ⟨o, len, cap, ?_, ?_, ?_, ?_, h4⟩
    · rw [show (i + 1) * 4 = i * 4 + 4 from by omega]; simpa using h0
    · rw [show (i + 1) * 4 + 1 = i * 4 + 1 + 4 from by omega]; simpa using h1
    · rw [show (i + 1) * 4 + 2 = i * 4 + 2 + 4 from by omega]; simpa using h2
    · rw [show (i + 1) * 4 + 3 = i * 4 + 3 + 4 from by omega]; simpa using h3
end Go.Proofs.YtdlcakmjihfgfaaDoor
