/-
  Spans, merged: that the program's way and the document's are the same; how many bytes, which parts. Plain laws: no program, no condition.
-/
import Derived.Test.YtdlcakmjihfgfaaDoorQuiet
namespace Go.Proofs.YtdlcakmjihfgfaaDoor
namespace SpanPlain
abbrev Sp := Int × Int
/-- a span has bytes -/
abbrev ne (s : Sp) : Bool := decide (s.1 < s.2)
/-- some of the spans has a byte -/
def Cov (l : List Sp) (x : Int) : Prop := ∃ s ∈ l, s.1 ≤ x ∧ x < s.2
/-- spans that lie one behind the other, with a gap between, none empty -/
def Canon (l : List Sp) : Prop := (∀ s ∈ l, s.1 < s.2) ∧ l.Pairwise (fun s t => s.2 < t.1)
theorem Cov.cons {s : Sp} {l : List Sp} {x : Int} : Cov (s :: l) x ↔ (s.1 ≤ x ∧ x < s.2) ∨ Cov l x := by
  simp [Cov]
theorem Cov.append {a b : List Sp} {x : Int} : Cov (a ++ b) x ↔ Cov a x ∨ Cov b x := by
  simp only [Cov, List.mem_append]
  constructor
  · rintro ⟨s, h | h, k⟩
    · exact .inl ⟨s, h, k⟩
    · exact .inr ⟨s, h, k⟩
  · rintro (⟨s, h, k⟩ | ⟨s, h, k⟩)
    · exact ⟨s, .inl h, k⟩
    · exact ⟨s, .inr h, k⟩
theorem Canon.tail {s : Sp} {l : List Sp} (h : Canon (s :: l)) : Canon l :=
  ⟨fun t ht => h.1 t (List.mem_cons_of_mem _ ht), (List.pairwise_cons.1 h.2).2⟩
theorem canon_unique : ∀ (a b : List Sp), Canon a → Canon b → (∀ x, Cov a x ↔ Cov b x) → a = b
  | [], [], _, _, _ => rfl
  | [], t :: b, _, hb, h => by
    have := hb.1 t (List.mem_cons_self ..)
    have := (h t.1).2 (Cov.cons.2 (.inl ⟨Int.le_refl _, this⟩))
    simp [Cov] at this
  | s :: a, [], ha, _, h => by
    have := ha.1 s (List.mem_cons_self ..)
    have := (h s.1).1 (Cov.cons.2 (.inl ⟨Int.le_refl _, this⟩))
    simp [Cov] at this
  | s :: a, t :: b, ha, hb, h => by
    have hs := ha.1 s (List.mem_cons_self ..)
    have ht := hb.1 t (List.mem_cons_self ..)
    have la := (List.pairwise_cons.1 ha.2).1
    have lb := (List.pairwise_cons.1 hb.2).1
    have fa : ∀ x, Cov a x → s.2 < x := by rintro x ⟨u, hu, k⟩; have := la u hu; omega
    have fb : ∀ x, Cov b x → t.2 < x := by rintro x ⟨u, hu, k⟩; have := lb u hu; omega
    have e1 : s.1 = t.1 := by
      have h1 := Cov.cons.1 ((h s.1).1 (Cov.cons.2 (.inl ⟨Int.le_refl _, hs⟩)))
      have h2 := Cov.cons.1 ((h t.1).2 (Cov.cons.2 (.inl ⟨Int.le_refl _, ht⟩)))
      rcases h1 with h1 | h1 <;> rcases h2 with h2 | h2
      · omega
      · have := fa _ h2; omega
      · have := fb _ h1; omega
      · have := fb _ h1; have := fa _ h2; omega
    have e2 : s.2 = t.2 := by
      by_cases c1 : s.2 < t.2
      · rcases Cov.cons.1 ((h s.2).2 (Cov.cons.2 (.inl ⟨by omega, c1⟩))) with k | k
        · omega
        · have := fa _ k; omega
      · by_cases c2 : t.2 < s.2
        · rcases Cov.cons.1 ((h t.2).1 (Cov.cons.2 (.inl ⟨by omega, c2⟩))) with k | k
          · omega
          · have := fb _ k; omega
        · omega
    have e : s = t := Prod.ext e1 e2
    subst e
    rw [canon_unique a b ha.tail hb.tail (fun x => ⟨fun k => ?_, fun k => ?_⟩)]
    · rcases Cov.cons.1 ((h x).1 (Cov.cons.2 (.inr k))) with k' | k'
      · have := fa _ k; omega
      · exact k'
    · rcases Cov.cons.1 ((h x).2 (Cov.cons.2 (.inr k))) with k' | k'
      · have := fb _ k; omega
      · exact k'
/-- the program's step: a span onto merged ones -/
def mstep (o : List Sp) (s : Sp) : List Sp :=
  match o.getLast? with
  | some t => if s.1 ≤ t.2 then o.dropLast ++ [(t.1, max t.2 s.2)] else o ++ [s]
  | none => o ++ [s]
theorem Canon.snoc {o : List Sp} {s : Sp} (h : Canon o) (hs : s.1 < s.2) (hl : ∀ t ∈ o, t.2 < s.1) : Canon (o ++ [s]) := by
  refine ⟨?_, List.pairwise_append.2 ⟨h.2, List.pairwise_singleton .., ?_⟩⟩
  · intro t ht
    rcases List.mem_append.1 ht with k | k
    · exact h.1 t k
    · simp at k; subst k; exact hs
  · intro a ha b hb; simp at hb; subst hb; exact hl a ha
theorem Canon.left {a b : List Sp} (h : Canon (a ++ b)) : Canon a :=
  ⟨fun s hs => h.1 s (List.mem_append_left _ hs), (List.pairwise_append.1 h.2).1⟩
theorem Canon.right {a b : List Sp} (h : Canon (a ++ b)) : Canon b :=
  ⟨fun s hs => h.1 s (List.mem_append_right _ hs), (List.pairwise_append.1 h.2).2.1⟩
theorem getLast?_split {o : List Sp} {t : Sp} (h : o.getLast? = some t) : o = o.dropLast ++ [t] := by
  have hne : o ≠ [] := by rintro rfl; simp at h
  rw [List.getLast?_eq_some_getLast hne] at h
  cases h
  exact (List.dropLast_concat_getLast hne).symm
theorem mstep_ok {o : List Sp} {s : Sp} (h : Canon o) (hs : s.1 < s.2) (hl : ∀ t ∈ o, t.1 ≤ s.1) :
    Canon (mstep o s) ∧ (∀ x, Cov (mstep o s) x ↔ Cov o x ∨ (s.1 ≤ x ∧ x < s.2)) ∧ (∀ t ∈ mstep o s, t.1 ≤ s.1) := by
  unfold mstep
  split
  · rename_i t ht
    have hsp := getLast?_split ht
    generalize o.dropLast = d at hsp
    subst hsp
    have h1 := hl t (by simp)
    have h2 := h.1 t (by simp)
    have h3 := (List.pairwise_append.1 h.2).2.2
    have h4 : ∀ u ∈ d, u.2 < t.1 := fun u hu => h3 u hu t (by simp)
    by_cases c : s.1 ≤ t.2
    · rw [if_pos c]
      refine ⟨h.left.snoc (by show t.1 < max t.2 s.2; omega) h4, fun x => ?_, ?_⟩
      · simp only [Cov.append, Cov.cons]
        have : ¬ Cov [] x := by simp [Cov]
        simp only [this, or_false]
        constructor
        · rintro (k | k)
          · exact .inl (.inl k)
          · have k' : t.1 ≤ x ∧ x < max t.2 s.2 := k
            by_cases c1 : x < t.2
            · exact .inl (.inr ⟨k'.1, c1⟩)
            · exact .inr (by omega)
        · rintro ((k | k) | k)
          · exact .inl k
          · exact .inr (show t.1 ≤ x ∧ x < max t.2 s.2 by omega)
          · exact .inr (show t.1 ≤ x ∧ x < max t.2 s.2 by omega)
      · intro u hu
        rcases List.mem_append.1 hu with k | k
        · exact hl u (List.mem_append_left _ k)
        · simp at k; subst k; exact h1
    · rw [if_neg c]
      refine ⟨h.snoc hs (fun u hu => ?_), fun x => ?_, ?_⟩
      · rcases List.mem_append.1 hu with k | k
        · have := h4 u k; omega
        · simp at k; subst k; omega
      · rw [Cov.append]; simp [Cov]
      · intro u hu
        rcases List.mem_append.1 hu with k | k
        · exact hl u k
        · simp at k; subst k; exact Int.le_refl _
  · rename_i ht
    have : o = [] := by simpa using ht
    subst this
    refine ⟨⟨by simpa using hs, by simp⟩, fun x => by simp [Cov], by simp⟩
theorem mfold_ok (l : List Sp) : ∀ (o : List Sp), Canon o → (∀ s ∈ l, s.1 < s.2) → l.Pairwise (fun s t => s.1 ≤ t.1) → (∀ t ∈ o, ∀ s ∈ l, t.1 ≤ s.1) →
    Canon (l.foldl mstep o) ∧ ∀ x, Cov (l.foldl mstep o) x ↔ Cov o x ∨ Cov l x := by
  induction l with
  | nil => intro o ho _ _ _; exact ⟨ho, fun x => by simp [Cov]⟩
  | cons s l ih =>
    intro o ho hn hp hl
    obtain ⟨a1, a2, a3⟩ := mstep_ok ho (hn s (by simp)) (fun t ht => hl t ht s (by simp))
    obtain ⟨b1, b2⟩ := ih (mstep o s) a1 (fun t ht => hn t (by simp [ht])) (List.pairwise_cons.1 hp).2 (fun t ht u hu => by
      have := a3 t ht; have := (List.pairwise_cons.1 hp).1 u hu; omega)
    refine ⟨b1, fun x => ?_⟩
    rw [List.foldl_cons, b2, a2, Cov.cons, or_assoc]
/-- the document's step: of the merged ones those that touch s go into it -/
def absorb (p : Sp × List Sp) (t : Sp) : Sp × List Sp :=
  if t.1 ≤ p.1.2 ∧ p.1.1 ≤ t.2 then ((min p.1.1 t.1, max p.1.2 t.2), p.2) else (p.1, p.2 ++ [t])
def rins (s : Sp) (r : List Sp) : List Sp := r.takeWhile (fun t => decide (t.1 < s.1)) ++ [s] ++ r.dropWhile (fun t => decide (t.1 < s.1))
def rstep (o : List Sp) (s : Sp) : List Sp :=
  if s.1 ≥ s.2 then o else rins (o.foldl absorb (s, [])).1 (o.foldl absorb (s, [])).2
theorem absorb_ok (o : List Sp) : ∀ (s : Sp) (r : List Sp), Canon (r ++ o) → s.1 < s.2 → (∀ t ∈ r, t.2 < s.1 ∨ s.2 < t.1) →
    Canon (o.foldl absorb (s, r)).2 ∧ (o.foldl absorb (s, r)).1.1 < (o.foldl absorb (s, r)).1.2 ∧ (∀ t ∈ (o.foldl absorb (s, r)).2, t.2 < (o.foldl absorb (s, r)).1.1 ∨ (o.foldl absorb (s, r)).1.2 < t.1) ∧
    ∀ x, (Cov (o.foldl absorb (s, r)).2 x ∨ ((o.foldl absorb (s, r)).1.1 ≤ x ∧ x < (o.foldl absorb (s, r)).1.2)) ↔ Cov r x ∨ Cov o x ∨ (s.1 ≤ x ∧ x < s.2) := by
  induction o with
  | nil => intro s r hc hs hr; rw [List.append_nil] at hc; exact ⟨hc, hs, hr, fun x => by simp [Cov]⟩
  | cons t o ih =>
    intro s r hc hs hr
    have ht := hc.1 t (by simp)
    have hrt : ∀ u ∈ r, u.2 < t.1 := fun u hu => (List.pairwise_append.1 hc.2).2.2 u hu t (by simp)
    rw [List.foldl_cons]
    unfold absorb
    by_cases c : t.1 ≤ s.2 ∧ s.1 ≤ t.2
    · rw [if_pos (show t.1 ≤ (s, r).1.2 ∧ (s, r).1.1 ≤ t.2 from c)]
      have hc' : Canon (r ++ o) := by
        refine ⟨fun u hu => hc.1 u ?_, ?_⟩
        · rcases List.mem_append.1 hu with k | k
          · simp [k]
          · simp [k]
        · have := List.pairwise_append.1 hc.2
          exact List.pairwise_append.2 ⟨this.1, (List.pairwise_cons.1 this.2.1).2, fun a ha b hb => this.2.2 a ha b (by simp [hb])⟩
      obtain ⟨b1, b2, b3, b4⟩ := ih (min s.1 t.1, max s.2 t.2) r hc' (by show min s.1 t.1 < max s.2 t.2; omega) (fun u hu => by
        show u.2 < min s.1 t.1 ∨ max s.2 t.2 < u.1
        have h1 := hrt u hu
        have h2 := hc.1 u (by simp [hu])
        rcases hr u hu with h | h
        · left; omega
        · omega)
      refine ⟨b1, b2, b3, fun x => ?_⟩
      rw [show (fun p t => if t.1 ≤ p.1.2 ∧ p.1.1 ≤ t.2 then ((min p.1.1 t.1, max p.1.2 t.2), p.2) else (p.1, p.2 ++ [t])) = absorb from rfl, b4 x, Cov.cons]
      show Cov r x ∨ Cov o x ∨ (min s.1 t.1 ≤ x ∧ x < max s.2 t.2) ↔ _
      have : (min s.1 t.1 ≤ x ∧ x < max s.2 t.2) ↔ (t.1 ≤ x ∧ x < t.2) ∨ (s.1 ≤ x ∧ x < s.2) := by omega
      rw [this]
      constructor
      · rintro (k | k | k | k) <;> simp [k]
      · rintro (k | (k | k) | k) <;> simp [k]
    · rw [if_neg (show ¬ (t.1 ≤ (s, r).1.2 ∧ (s, r).1.1 ≤ t.2) from c)]
      obtain ⟨b1, b2, b3, b4⟩ := ih s (r ++ [t]) (by rw [List.append_assoc]; exact hc) hs (fun u hu => by
        rcases List.mem_append.1 hu with k | k
        · exact hr u k
        · simp at k; subst k; omega)
      refine ⟨b1, b2, b3, fun x => ?_⟩
      rw [show (fun p t => if t.1 ≤ p.1.2 ∧ p.1.1 ≤ t.2 then ((min p.1.1 t.1, max p.1.2 t.2), p.2) else (p.1, p.2 ++ [t])) = absorb from rfl, b4 x, Cov.cons, Cov.append]
      have : Cov [t] x ↔ (t.1 ≤ x ∧ x < t.2) := by simp [Cov]
      rw [this]
      constructor
      · rintro ((k | k) | k | k) <;> simp [k]
      · rintro (k | (k | k) | k) <;> simp [k]
theorem mem_takeWhile {p : Sp → Bool} {l : List Sp} {u : Sp} (h : u ∈ l.takeWhile p) : p u = true := by
  induction l with
  | nil => simp at h
  | cons a l ih =>
    rw [List.takeWhile_cons] at h
    split at h
    · rename_i c
      rcases List.mem_cons.1 h with k | k
      · subst k; exact c
      · exact ih k
    · simp at h
theorem dropWhile_ge {s : Sp} : ∀ {r : List Sp}, Canon r → ∀ u ∈ r.dropWhile (fun t => decide (t.1 < s.1)), s.1 ≤ u.1
  | [], _, u, hu => by simp at hu
  | a :: r, h, u, hu => by
    rw [List.dropWhile_cons] at hu
    split at hu
    · exact dropWhile_ge h.tail u hu
    · rename_i c
      have c' : ¬ a.1 < s.1 := by simpa using c
      rcases List.mem_cons.1 hu with k | k
      · subst k; omega
      · have := (List.pairwise_cons.1 h.2).1 u k
        have := h.1 a (by simp)
        omega
theorem rstep_ok {o : List Sp} {s : Sp} (h : Canon o) : Canon (rstep o s) ∧ ∀ x, Cov (rstep o s) x ↔ Cov o x ∨ (s.1 ≤ x ∧ x < s.2) := by
  unfold rstep
  by_cases c : s.1 ≥ s.2
  · rw [if_pos c]; exact ⟨h, fun x => ⟨.inl, fun k => k.elim id (fun k => by omega)⟩⟩
  · rw [if_neg c]
    obtain ⟨b1, b2, b3, b4⟩ := absorb_ok o s [] (by simpa using h) (by omega) (by simp)
    generalize o.foldl absorb (s, []) = p at *
    obtain ⟨s', r⟩ := p
    simp only at *
    unfold rins
    have e : r.takeWhile (fun t => decide (t.1 < s'.1)) ++ r.dropWhile (fun t => decide (t.1 < s'.1)) = r := List.takeWhile_append_dropWhile
    have hT : ∀ u ∈ r.takeWhile (fun t => decide (t.1 < s'.1)), u.1 < s'.1 := fun u hu => by simpa using mem_takeWhile hu
    have hD : ∀ u ∈ r.dropWhile (fun t => decide (t.1 < s'.1)), s'.1 ≤ u.1 := dropWhile_ge b1
    generalize r.takeWhile (fun t => decide (t.1 < s'.1)) = A at *
    generalize r.dropWhile (fun t => decide (t.1 < s'.1)) = B at *
    subst e
    have hA : ∀ u ∈ A, u.2 < s'.1 := fun u hu => by
      have h1 := hT u hu
      have h2 := b1.1 u (by simp [hu])
      rcases b3 u (by simp [hu]) with k | k
      · exact k
      · omega
    have hB : ∀ u ∈ B, s'.2 < u.1 := fun u hu => by
      have h1 := hD u hu
      have h2 := b1.1 u (by simp [hu])
      rcases b3 u (by simp [hu]) with k | k
      · omega
      · exact k
    refine ⟨⟨?_, ?_⟩, fun x => ?_⟩
    · intro u hu
      simp only [List.mem_append, List.mem_singleton] at hu
      rcases hu with (k | k) | k
      · exact b1.1 u (by simp [k])
      · subst k; exact b2
      · exact b1.1 u (by simp [k])
    · have hp := List.pairwise_append.1 b1.2
      rw [List.append_assoc]
      refine List.pairwise_append.2 ⟨hp.1, List.pairwise_append.2 ⟨List.pairwise_singleton .., hp.2.1, ?_⟩, ?_⟩
      · intro a ha b hb; simp at ha; subst ha; exact hB b hb
      · intro a ha b hb
        rcases List.mem_append.1 hb with k | k
        · simp at k; subst k; exact hA a ha
        · exact hp.2.2 a ha b k
    · have := b4 x
      simp only [Cov.append, Cov.cons] at this ⊢
      have n0 : ¬ Cov [] x := by simp [Cov]
      simp only [n0, or_false, false_or] at this ⊢
      rw [← this]
      constructor
      · rintro ((k | k) | k) <;> simp [k]
      · rintro ((k | k) | k) <;> simp [k]
theorem rfold_ok (l : List Sp) : ∀ (o : List Sp), Canon o → Canon (l.foldl rstep o) ∧ ∀ x, Cov (l.foldl rstep o) x ↔ Cov o x ∨ Cov l x := by
  induction l with
  | nil => intro o ho; exact ⟨ho, fun x => by simp [Cov]⟩
  | cons s l ih =>
    intro o ho
    obtain ⟨a1, a2⟩ := rstep_ok (s := s) ho
    obtain ⟨b1, b2⟩ := ih (rstep o s) a1
    refine ⟨b1, fun x => ?_⟩
    rw [List.foldl_cons, b2, a2, Cov.cons, or_assoc]
/-- the document's merged spans -/
def rmerge (l : List Sp) : List Sp := l.foldl rstep []
theorem rmerge_canon (l : List Sp) : Canon (rmerge l) := (rfold_ok l [] ⟨by simp, by simp⟩).1
theorem rmerge_cov (l : List Sp) (x : Int) : Cov (rmerge l) x ↔ Cov l x := by
  rw [rmerge, (rfold_ok l [] ⟨by simp, by simp⟩).2]; simp [Cov]
/-- spans, sorted, of which none is empty, merged as the program does, are the document's -/
theorem merge_same (l l' : List Sp) (hn : ∀ s ∈ l', s.1 < s.2) (hp : l'.Pairwise (fun s t => s.1 ≤ t.1)) (hm : ∀ s, s ∈ l' ↔ s ∈ l ∧ s.1 < s.2) : l'.foldl mstep [] = rmerge l := by
  obtain ⟨a1, a2⟩ := mfold_ok l' [] ⟨by simp, by simp⟩ hn hp (by simp)
  refine canon_unique _ _ a1 (rmerge_canon l) (fun x => ?_)
  rw [a2, rmerge_cov]
  constructor
  · rintro (k | ⟨s, hs, k⟩)
    · simp [Cov] at k
    · exact ⟨s, ((hm s).1 hs).1, k⟩
  · rintro ⟨s, hs, k⟩
    exact .inr ⟨s, (hm s).2 ⟨hs, by omega⟩, k⟩
theorem leInd {m : Nat} {P : (n : Nat) → m ≤ n → Prop} (base : P m (Nat.le_refl m)) (succ : ∀ (n : Nat) (h : m ≤ n), P n h → P (n + 1) (Nat.le_succ_of_le h)) : ∀ (n : Nat) (h : m ≤ n), P n h := by
  intro n h
  induction n with
  | zero => have : m = 0 := by omega
            subst this; exact base
  | succ n ih =>
    by_cases c : m ≤ n
    · exact succ n c (ih c)
    · have : m = n + 1 := by omega
      subst this; exact base
def clip1 (n : Nat) (s : Sp) : Option (Nat × Nat) := if max 0 s.1 < min (n : Int) s.2 then some ((max 0 s.1).toNat, (min (n : Int) s.2).toNat) else none
/-- merged spans, as far as they lie in the first n bytes -/
def clipN (n : Nat) (m : List Sp) : List (Nat × Nat) := m.filterMap (clip1 n)
/-- parts that lie from i to n, one behind the other, with a gap between -/
def InN : Nat → Nat → List (Nat × Nat) → Prop
  | i, n, [] => i ≤ n + 1
  | i, n, s :: r => i ≤ s.1 ∧ s.1 < s.2 ∧ s.2 ≤ n ∧ InN (s.2 + 1) n r
def Hass (i n : Nat) (c : List (Nat × Nat)) (has : Nat → Bool) : Prop := ∀ x, i ≤ x → x < n → (has x = true ↔ ∃ s ∈ c, s.1 ≤ x ∧ x < s.2)
theorem clipN_far (n : Nat) : ∀ (m : List Sp), (∀ s ∈ m, (n : Int) ≤ s.1) → clipN n m = []
  | [], _ => rfl
  | s :: m, h => by
    have h1 := h s (by simp)
    rw [clipN, List.filterMap_cons, clip1, if_neg (by omega)]
    exact clipN_far n m (fun t ht => h t (by simp [ht]))
theorem clip_in (n : Nat) : ∀ (m : List Sp) (i : Nat), Canon m → (∀ s ∈ m, (i : Int) ≤ max 0 s.1) → i ≤ n + 1 → InN i n (clipN n m)
  | [], i, _, _, hi => hi
  | s :: m, i, hc, hi, hin => by
    have h1 := hc.1 s (by simp)
    have h2 := (List.pairwise_cons.1 hc.2).1
    have h3 := hi s (by simp)
    rw [clipN, List.filterMap_cons, clip1]
    by_cases c : max 0 s.1 < min (n : Int) s.2
    · rw [if_pos c]
      refine ⟨by show i ≤ (max 0 s.1).toNat; omega, by show (max 0 s.1).toNat < (min (n : Int) s.2).toNat; omega, by show (min (n : Int) s.2).toNat ≤ n; omega, ?_⟩
      show InN ((min (n : Int) s.2).toNat + 1) n (clipN n m)
      by_cases c2 : s.2 ≤ n
      · refine clip_in n m _ hc.tail (fun t ht => ?_) (by omega)
        have := h2 t ht; omega
      · rw [clipN_far n m (fun t ht => by have := h2 t ht; omega)]
        show _ ≤ n + 1; omega
    · rw [if_neg c]
      exact clip_in n m i hc.tail (fun t ht => hi t (by simp [ht])) hin
theorem clip_has (n : Nat) (m : List Sp) (x : Nat) (hx : x < n) : (∃ s ∈ clipN n m, s.1 ≤ x ∧ x < s.2) ↔ Cov m (x : Int) := by
  simp only [clipN, List.mem_filterMap, Cov]
  constructor
  · rintro ⟨t, ⟨s, hs, h⟩, k⟩
    unfold clip1 at h
    split at h
    · cases h
      refine ⟨s, hs, ?_⟩
      have k1 : (max 0 s.1).toNat ≤ x ∧ x < (min (n : Int) s.2).toNat := k
      omega
    · cases h
  · rintro ⟨s, hs, k⟩
    refine ⟨((max 0 s.1).toNat, (min (n : Int) s.2).toNat), ⟨s, hs, ?_⟩, ?_⟩
    · unfold clip1; rw [if_pos (by omega)]
    · show (max 0 s.1).toNat ≤ x ∧ x < (min (n : Int) s.2).toNat; omega
theorem Hass.tail {i n : Nat} {s : Nat × Nat} {c : List (Nat × Nat)} {has : Nat → Bool} (hi : InN i n (s :: c)) (h : Hass i n (s :: c) has) : Hass (s.2 + 1) n c has := by
  intro x hx hn
  obtain ⟨h1, h2, h3, h4⟩ := hi
  rw [h x (by omega) hn]
  simp only [List.mem_cons]
  constructor
  · rintro ⟨u, rfl | hu, k⟩
    · omega
    · exact ⟨u, hu, k⟩
  · rintro ⟨u, hu, k⟩; exact ⟨u, .inr hu, k⟩
theorem InN.from_le : ∀ {c : List (Nat × Nat)} {i n : Nat}, InN i n c → ∀ u ∈ c, i ≤ u.1
  | [], _, _, _, u, hu => by simp at hu
  | s :: c, i, n, h, u, hu => by
    obtain ⟨h1, h2, h3, h4⟩ := h
    rcases List.mem_cons.1 hu with k | k
    · subst k; exact h1
    · have := InN.from_le h4 u k; omega
/-- where the first part begins: none before; all in it; none at its end -/
theorem Hass.parts {i n : Nat} {s : Nat × Nat} {c : List (Nat × Nat)} {has : Nat → Bool} (hi : InN i n (s :: c)) (h : Hass i n (s :: c) has) :
    (∀ x, i ≤ x → x < s.1 → has x = false) ∧ (∀ x, s.1 ≤ x → x < s.2 → has x = true) ∧ (s.2 < n → has s.2 = false) := by
  obtain ⟨h1, h2, h3, h4⟩ := hi
  have hf := fun u hu => InN.from_le h4 u hu
  refine ⟨fun x a b => ?_, fun x a b => (h x (by omega) (by omega)).2 ⟨s, by simp, a, b⟩, fun a => ?_⟩
  · rw [← Bool.not_eq_true, h x a (by omega)]
    rintro ⟨u, hu, k⟩
    rcases List.mem_cons.1 hu with k' | k'
    · subst k'; omega
    · have := hf u k'; omega
  · rw [← Bool.not_eq_true, h s.2 (by omega) a]
    rintro ⟨u, hu, k⟩
    rcases List.mem_cons.1 hu with k' | k'
    · subst k'; omega
    · have := hf u k'; omega
/-- a run of steps from a on to b -/
def run {σ : Type} (step : σ → Nat → σ) (a b : Nat) (st : σ) : σ := (List.range' a (b - a)).foldl step st
theorem run_same {σ : Type} (step : σ → Nat → σ) (a : Nat) (st : σ) : run step a a st = st := by simp [run]
theorem run_succ {σ : Type} (step : σ → Nat → σ) (a b : Nat) (h : a ≤ b) (st : σ) : run step a (b + 1) st = step (run step a b st) b := by
  have e : b + 1 - a = (b - a) + 1 := by omega
  rw [run, e, List.range'_concat, List.foldl_append]
  simp [run]; congr 1; omega
theorem run_append {σ : Type} (step : σ → Nat → σ) (a b c : Nat) (h1 : a ≤ b) (h2 : b ≤ c) (st : σ) : run step a c st = run step b c (run step a b st) := by
  induction c, h2 using leInd with
  | base => rw [run_same]
  | succ c hc ih => rw [run_succ _ _ _ (by omega), run_succ _ _ _ hc, ih]
theorem run_one {σ : Type} (step : σ → Nat → σ) (a : Nat) (st : σ) : run step a (a + 1) st = step st a := by
  rw [run_succ _ _ _ (Nat.le_refl a), run_same]
/-- how many of the bytes from a on to b -/
def cnt (has : Nat → Bool) (a b : Nat) : Nat := run (fun k x => if has x then k + 1 else k) a b 0
theorem cnt_run (has : Nat → Bool) (a b k : Nat) (h : a ≤ b) : run (fun k x => if has x then k + 1 else k) a b k = k + cnt has a b := by
  induction b, h using leInd with
  | base => simp [cnt, run_same]
  | succ b hb ih =>
    rw [cnt, run_succ _ _ _ hb, run_succ _ _ _ hb, ih]
    rw [← cnt]
    split <;> omega
theorem cnt_add (has : Nat → Bool) (a b c : Nat) (h1 : a ≤ b) (h2 : b ≤ c) : cnt has a c = cnt has a b + cnt has b c := by
  rw [cnt, run_append _ a b c h1 h2, cnt_run _ _ _ _ h2]; rfl
theorem cnt_none (has : Nat → Bool) (a b : Nat) (h : a ≤ b) (hn : ∀ x, a ≤ x → x < b → has x = false) : cnt has a b = 0 := by
  induction b, h using leInd with
  | base => simp [cnt, run_same]
  | succ b hb ih =>
    have ih' := ih (fun x h1 h2 => hn x h1 (by omega))
    rw [cnt] at ih' ⊢
    rw [run_succ _ _ _ hb, ih', hn b hb (by omega)]; rfl
theorem cnt_all (has : Nat → Bool) (a b : Nat) (h : a ≤ b) (hn : ∀ x, a ≤ x → x < b → has x = true) : cnt has a b = b - a := by
  induction b, h using leInd with
  | base => simp [cnt, run_same]
  | succ b hb ih =>
    have ih' := ih (fun x h1 h2 => hn x h1 (by omega))
    rw [cnt] at ih' ⊢
    rw [run_succ _ _ _ hb, ih', hn b hb (by omega)]
    simp; omega
def sumN (c : List (Nat × Nat)) : Nat := c.foldl (fun k s => k + (s.2 - s.1)) 0
theorem sumN_fold (c : List (Nat × Nat)) : ∀ k, c.foldl (fun k s => k + (s.2 - s.1)) k = k + sumN c := by
  induction c with
  | nil => intro k; rfl
  | cons s c ih => intro k; rw [sumN, List.foldl_cons, List.foldl_cons, ih, ih (0 + _)]; omega
theorem cnt_parts (n : Nat) (has : Nat → Bool) : ∀ (c : List (Nat × Nat)) (i : Nat), i ≤ n → InN i n c → Hass i n c has → cnt has i n = sumN c
  | [], i, hin, _, h => by
    rw [cnt_none has i n hin (fun x a b => by rw [← Bool.not_eq_true, h x a b]; simp)]; rfl
  | s :: c, i, hin, hi, h => by
    obtain ⟨p1, p2, p3⟩ := h.parts hi
    have ht := h.tail hi
    obtain ⟨h1, h2, h3, h4⟩ := hi
    rw [cnt_add has i s.1 n h1 (by omega), cnt_none has i s.1 h1 p1, cnt_add has s.1 s.2 n (by omega) h3, cnt_all has s.1 s.2 (by omega) p2, sumN, List.foldl_cons, sumN_fold]
    by_cases c2 : s.2 < n
    · have ih := cnt_parts n has c (s.2 + 1) (by omega) h4 ht
      rw [cnt_add has s.2 (s.2 + 1) n (by omega) (by omega), ih]
      have : cnt has s.2 (s.2 + 1) = 0 := cnt_none has _ _ (by omega) (fun x a b => by
        have : x = s.2 := by omega
        subst this; exact p3 c2)
      omega
    · have e : s.2 = n := by omega
      have ec : c = [] := by
        cases c with
        | nil => rfl
        | cons t c => obtain ⟨k1, k2, k3, _⟩ := h4; omega
      subst ec
      rw [e, cnt_none has n n (Nat.le_refl _) (fun x a b => by omega)]
      rfl
def cutStep (text : ByteArray) (has : Nat → Bool) (st : ByteArray × List ByteArray) (i : Nat) : ByteArray × List ByteArray :=
  if i < text.size && has i then (st.1 ++ text.extract i (i + 1), st.2) else if st.1 ≠ ByteArray.empty then (ByteArray.empty, st.2 ++ [st.1]) else st
theorem ext_add (text : ByteArray) (a b c : Nat) (h1 : a ≤ b) (h2 : b ≤ c) : text.extract a b ++ text.extract b c = text.extract a c := by
  rw [ByteArray.extract_append_extract]
  congr 1 <;> omega
theorem ext_ne (text : ByteArray) (a b : Nat) (h1 : a < b) (h2 : b ≤ text.size) : text.extract a b ≠ ByteArray.empty := by
  intro h
  have := congrArg ByteArray.size h
  simp at this
  omega
theorem ext_same (text : ByteArray) (a : Nat) : text.extract a a = ByteArray.empty := by
  rw [← ByteArray.size_eq_zero_iff]; simp
theorem cut_none (text : ByteArray) (has : Nat → Bool) (a b : Nat) (h : a ≤ b) (hn : ∀ x, a ≤ x → x < b → (x < text.size && has x) = false) (out : List ByteArray) :
    run (cutStep text has) a b (ByteArray.empty, out) = (ByteArray.empty, out) := by
  induction b, h using leInd with
  | base => rw [run_same]
  | succ b hb ih =>
    rw [run_succ _ _ _ hb, ih (fun x h1 h2 => hn x h1 (by omega)), cutStep, hn b hb (by omega)]; simp
theorem cut_all (text : ByteArray) (has : Nat → Bool) (a b : Nat) (h : a ≤ b) (hb : b ≤ text.size) (hn : ∀ x, a ≤ x → x < b → has x = true) (out : List ByteArray) :
    run (cutStep text has) a b (ByteArray.empty, out) = (text.extract a b, out) := by
  induction b, h using leInd with
  | base => rw [run_same, ext_same]
  | succ b hab ih =>
    rw [run_succ _ _ _ hab, ih (by omega) (fun x h1 h2 => hn x h1 (by omega)), cutStep, hn b hab (by omega)]
    simp only [Bool.and_true, decide_eq_true_eq]
    rw [if_pos (by omega), ext_add _ _ _ _ hab (by omega)]
theorem cut_parts (text : ByteArray) (has : Nat → Bool) : ∀ (c : List (Nat × Nat)) (i : Nat) (out : List ByteArray), i ≤ text.size + 1 → InN i text.size c → Hass i text.size c has →
    run (cutStep text has) i (text.size + 1) (ByteArray.empty, out) = (ByteArray.empty, out ++ c.map (fun s => text.extract s.1 s.2))
  | [], i, out, hin, _, h => by
    rw [cut_none text has i _ hin (fun x a b => ?_)]
    · simp
    · by_cases c : x < text.size
      · have : has x = false := by rw [← Bool.not_eq_true, h x a c]; simp
        simp [this]
      · simp [c]
  | s :: c, i, out, hin, hi, h => by
    obtain ⟨p1, p2, p3⟩ := h.parts hi
    have ht := h.tail hi
    obtain ⟨h1, h2, h3, h4⟩ := hi
    rw [run_append _ i s.1 _ h1 (by omega), cut_none text has i s.1 h1 (fun x a b => by simp [p1 x a b]), run_append _ s.1 s.2 _ (by omega) (by omega), cut_all text has s.1 s.2 (by omega) h3 p2,
      run_append _ s.2 (s.2 + 1) _ (by omega) (by omega), run_one]
    have e : cutStep text has (text.extract s.1 s.2, out) s.2 = (ByteArray.empty, out ++ [text.extract s.1 s.2]) := by
      rw [cutStep]
      have : (decide (s.2 < text.size) && has s.2) = false := by
        by_cases c2 : s.2 < text.size
        · simp [p3 c2]
        · simp [c2]
      rw [if_neg (by simp [this]), if_pos (ext_ne _ _ _ h2 h3)]
    rw [e, cut_parts text has c (s.2 + 1) _ (by omega) h4 ht]
    simp
end SpanPlain
end Go.Proofs.YtdlcakmjihfgfaaDoor
