/-
  How spans lie in memory: slices of them, rows of the call's own, blocks that are written in place. Plain laws on worlds.
-/
import Derived.Test.YtdlcakmjihfgfaaDoorSpPlain
import Derived.Test.YtdlcakmjihfgfaaDoorProg
import Derived.StillTailTactics
import Derived.BigQuiet
namespace Go.Proofs.YtdlcakmjihfgfaaDoor
open Go.RowKit SpanPlain

theorem sp_fr {S : Nat → Prop} {w w' : World} (h : Quiet0 w w') : Fr S w w' := h.mono (fun _ _ h => h.elim)
theorem sp_set_block {w : World} {b i : Nat} {cs : Array Value} {u : Value} {t : TypeId} {z : Nat × Nat} (h : w.heap[b]? = some (.cells cs t z)) : (w.setCell ⟨b, i, none⟩ u).heap[b]? = some (.cells (cs.setIfInBounds i u) t z) := by
  have hlt : b < w.heap.size := by
    rcases Nat.lt_or_ge b w.heap.size with h' | h'
    · exact h'
    · simp [Array.getElem?_eq_none h'] at h
  simp [World.setCell, Array.getElem?_modify, h]
abbrev spv (t : Sp) : Value := .agg #[.int .i64 t.1, .int .i64 t.2]
def sp2 (t : Sp) : List Value := [.int .i64 t.1, .int .i64 t.2]
def flat (l : List Sp) : List Value := l.flatMap sp2
theorem flat_length (l : List Sp) : (flat l).length = l.length * 2 := by
  induction l with
  | nil => rfl
  | cons a l ih => simp only [flat, List.flatMap_cons, List.length_append] at ih ⊢; rw [ih]; simp [sp2]; omega
theorem flat_get : ∀ (l : List Sp) (j : Nat) (t : Sp), l[j]? = some t → (flat l)[j * 2]? = some (.int .i64 t.1) ∧ (flat l)[j * 2 + 1]? = some (.int .i64 t.2)
  | [], j, t, h => by simp at h
  | a :: l, 0, t, h => by simp at h; subst h; exact ⟨rfl, rfl⟩
  | a :: l, j + 1, t, h => by
    have := flat_get l j t (by simpa using h)
    have e1 : (j + 1) * 2 = j * 2 + 2 := by omega
    rw [e1]
    exact this
/-- a slice's spans -/
def SpAt (R : Nat → Prop) (w : World) (o : Option Addr) (l : List Sp) : Prop :=
  ∀ j t, l[j]? = some t → ∃ b off, o = some ⟨b, off, none⟩ ∧ R b ∧ w.cell? ⟨b, off + j * 2, none⟩ = some (.int .i64 t.1) ∧ w.cell? ⟨b, off + j * 2 + 1, none⟩ = some (.int .i64 t.2)
theorem SpAt.nil (R : Nat → Prop) (w : World) (o : Option Addr) : SpAt R w o [] := fun j t h => by simp at h
theorem SpAt.fr {R T S : Nat → Prop} {w w' : World} {o : Option Addr} {l : List Sp} (h : SpAt R w o l) (hf : Fr S w w') (hR : ∀ k, k < w.heap.size → R k → T k ∧ ¬ S k) : SpAt T w' o l := by
  intro j t ht
  obtain ⟨b, off, h0, h1, h2, h3⟩ := h j t ht
  have hb := World.block_lt_of_cell? w _ h2
  have := hR b hb h1
  exact ⟨b, off, h0, this.1, (hf.cellb hb this.2).trans h2, (hf.cellb hb this.2).trans h3⟩
theorem SpAt.stay {R : Nat → Prop} {w w' : World} {o : Option Addr} {l : List Sp} (h : SpAt R w o l) (hq : Quiet0 w w') : SpAt R w' o l := h.fr hq (fun _ _ hk => ⟨hk, fun h => h⟩)
theorem SpAt.mono {R T : Nat → Prop} {w : World} {o : Option Addr} {l : List Sp} (h : SpAt R w o l) (hk : ∀ k, k < w.heap.size → R k → T k) : SpAt T w o l := h.fr (Fr.refl (fun _ => False) w) (fun k hl hr => ⟨hk k hl hr, fun h => h⟩)
theorem SpAt.lt {R : Nat → Prop} {w : World} {o : Option Addr} {l : List Sp} (h : SpAt R w o l) : SpAt (fun k => R k ∧ k < w.heap.size) w o l := by
  intro j t ht
  obtain ⟨b, off, h0, h1, h2, h3⟩ := h j t ht
  exact ⟨b, off, h0, ⟨h1, World.block_lt_of_cell? w _ h2⟩, h2, h3⟩
theorem SpAt.tail {R : Nat → Prop} {w : World} {b off n : Nat} {l : List Sp} (h : SpAt R w (some ⟨b, off, none⟩) l) : SpAt R w (some ⟨b, off + n * 2, none⟩) (l.drop n) := by
  intro j t ht
  rw [List.getElem?_drop] at ht
  obtain ⟨b', off', h0, h1, h2, h3⟩ := h (n + j) t ht
  cases h0
  have e : off + n * 2 + j * 2 = off + (n + j) * 2 := by omega
  exact ⟨b, off + n * 2, rfl, h1, by rw [e]; exact h2, by rw [e]; exact h3⟩
theorem SpAt.take {R : Nat → Prop} {w : World} {o : Option Addr} {l : List Sp} (h : SpAt R w o l) (n : Nat) : SpAt R w o (l.take n) := by
  intro j t ht
  refine h j t ?_
  rw [List.getElem?_take] at ht
  split at ht
  · exact ht
  · cases ht
/-- a block that holds spans, with room for c -/
def SpB (w : World) (b c : Nat) (l : List Sp) : Prop :=
  ∃ cur, w.heap[b]? = some (.cells cur 41 (0, 0)) ∧ cur.size = c * 2 ∧ l.length ≤ c ∧ c ≤ maxLen ∧ ∀ j t, l[j]? = some t → cur[j * 2]? = some (.int .i64 t.1) ∧ cur[j * 2 + 1]? = some (.int .i64 t.2)
theorem SpB.lt {w : World} {b c : Nat} {l : List Sp} (h : SpB w b c l) : b < w.heap.size := by
  obtain ⟨cur, h0, _⟩ := h
  rcases Nat.lt_or_ge b w.heap.size with h' | h'
  · exact h'
  · simp [Array.getElem?_eq_none h'] at h0
theorem SpB.len {w : World} {b c : Nat} {l : List Sp} (h : SpB w b c l) : l.length ≤ c ∧ c ≤ maxLen := by
  obtain ⟨cur, h0, h1, h2, h3, h4⟩ := h
  exact ⟨h2, h3⟩
theorem SpB.at {w : World} {b c : Nat} {l : List Sp} (h : SpB w b c l) {j : Nat} {t : Sp} (ht : l[j]? = some t) :
    w.cell? ⟨b, j * 2, none⟩ = some (.int .i64 t.1) ∧ w.cell? ⟨b, j * 2 + 1, none⟩ = some (.int .i64 t.2) ∧ w.frozen? ⟨b, j * 2, none⟩ = false ∧ w.frozen? ⟨b, j * 2 + 1, none⟩ = false := by
  obtain ⟨cur, h0, h1, h2, h3, h4⟩ := h
  have := h4 j t ht
  exact ⟨by rw [cell_of_row _ _ _ _ _ (0, 0) h0]; exact this.1, by rw [cell_of_row _ _ _ _ _ (0, 0) h0]; exact this.2, by simp [World.frozen?, h0], by simp [World.frozen?, h0]⟩
theorem SpB.room {w : World} {b c : Nat} {l : List Sp} (h : SpB w b c l) {j : Nat} (hj : j < c * 2) : (w.cell? ⟨b, j, none⟩).isSome = true ∧ w.frozen? ⟨b, j, none⟩ = false := by
  obtain ⟨cur, h0, h1, h2, h3, h4⟩ := h
  refine ⟨?_, by simp [World.frozen?, h0]⟩
  rw [cell_of_row _ _ _ _ _ (0, 0) h0, Array.getElem?_eq_getElem (by omega)]; rfl
theorem SpB.slc {w : World} {b c : Nat} {l : List Sp} {R : Nat → Prop} (h : SpB w b c l) (hR : R b) : SpAt R w (some ⟨b, 0, none⟩) l := by
  intro j t ht
  have := h.at ht
  exact ⟨b, 0, rfl, hR, by rw [Nat.zero_add]; exact this.1, by rw [Nat.zero_add]; exact this.2.1⟩
theorem SpB.fr {S : Nat → Prop} {w w' : World} {b c : Nat} {l : List Sp} (h : SpB w b c l) (hf : Fr S w w') (hs : ¬ S b) : SpB w' b c l := by
  have hl := h.lt
  obtain ⟨cur, h0, h1⟩ := h
  exact ⟨cur, (hf.block b hl hs).trans h0, h1⟩
theorem SpB.stay {w w' : World} {b c : Nat} {l : List Sp} (h : SpB w b c l) (hf : Quiet0 w w') : SpB w' b c l := h.fr hf (fun h => h)
theorem SpB.take {w : World} {b c : Nat} {l : List Sp} (h : SpB w b c l) (n : Nat) : SpB w b c (l.take n) := by
  obtain ⟨cur, h0, h1, h2, h3, h4⟩ := h
  refine ⟨cur, h0, h1, by rw [List.length_take]; omega, h3, fun j t ht => h4 j t ?_⟩
  rw [List.getElem?_take] at ht
  split at ht
  · exact ht
  · cases ht
theorem SpB.set1 {w : World} {b c i : Nat} {l : List Sp} {y : Int} {s : Sp} (h : SpB w b c l) (hi : l[i]? = some s) : SpB (w.setCell ⟨b, i * 2 + 1, none⟩ (.int .i64 y)) b c (l.set i (s.1, y)) := by
  obtain ⟨cur, h0, h1, h2, h3, h4⟩ := h
  have hil : i < l.length := by
    rcases Nat.lt_or_ge i l.length with h' | h'
    · exact h'
    · simp [List.getElem?_eq_none h'] at hi
  refine ⟨_, sp_set_block h0, by simp [h1], by simpa using h2, h3, fun j t ht => ?_⟩
  rw [List.getElem?_set] at ht
  by_cases e : i = j
  · subst e
    rw [if_pos rfl, if_pos hil] at ht
    cases ht
    have := h4 i s hi
    constructor
    · rw [Array.getElem?_setIfInBounds_ne (by omega)]; exact this.1
    · rw [Array.getElem?_setIfInBounds_self, if_pos (by omega)]
  · rw [if_neg e] at ht
    have := h4 j t ht
    constructor
    · rw [Array.getElem?_setIfInBounds_ne (by omega)]; exact this.1
    · rw [Array.getElem?_setIfInBounds_ne (by omega)]; exact this.2
theorem SpB.set0 {w : World} {b c i : Nat} {l : List Sp} {x : Int} {s : Sp} (h : SpB w b c l) (hi : l[i]? = some s) : SpB (w.setCell ⟨b, i * 2, none⟩ (.int .i64 x)) b c (l.set i (x, s.2)) := by
  obtain ⟨cur, h0, h1, h2, h3, h4⟩ := h
  have hil : i < l.length := by
    rcases Nat.lt_or_ge i l.length with h' | h'
    · exact h'
    · simp [List.getElem?_eq_none h'] at hi
  refine ⟨_, sp_set_block h0, by simp [h1], by simpa using h2, h3, fun j t ht => ?_⟩
  rw [List.getElem?_set] at ht
  by_cases e : i = j
  · subst e
    rw [if_pos rfl, if_pos hil] at ht
    cases ht
    have := h4 i s hi
    constructor
    · rw [Array.getElem?_setIfInBounds_self, if_pos (by omega)]
    · rw [Array.getElem?_setIfInBounds_ne (by omega)]; exact this.2
  · rw [if_neg e] at ht
    have := h4 j t ht
    constructor
    · rw [Array.getElem?_setIfInBounds_ne (by omega)]; exact this.1
    · rw [Array.getElem?_setIfInBounds_ne (by omega)]; exact this.2
theorem SpB.set2 {w : World} {b c i : Nat} {l : List Sp} {x y : Int} (h : SpB w b c l) (hi : i < l.length) : SpB ((w.setCell ⟨b, i * 2, none⟩ (.int .i64 x)).setCell ⟨b, i * 2 + 1, none⟩ (.int .i64 y)) b c (l.set i (x, y)) := by
  have h1 := (h.set0 (x := x) (List.getElem?_eq_getElem hi)).set1 (y := y) (i := i) (s := (x, l[i].2)) (by rw [List.getElem?_set_self hi])
  simpa using h1
/-- a store behind what is told -/
theorem SpB.past {w : World} {b c o : Nat} {l : List Sp} {v : Value} (h : SpB w b c l) (ho : l.length * 2 ≤ o) : SpB (w.setCell ⟨b, o, none⟩ v) b c l := by
  obtain ⟨cur, h0, h1, h2, h3, h4⟩ := h
  refine ⟨_, sp_set_block h0, by simp [h1], h2, h3, fun j t ht => ?_⟩
  have hjl : j < l.length := by
    rcases Nat.lt_or_ge j l.length with h' | h'
    · exact h'
    · simp [List.getElem?_eq_none h'] at ht
  have := h4 j t ht
  constructor
  · rw [Array.getElem?_setIfInBounds_ne (by omega)]; exact this.1
  · rw [Array.getElem?_setIfInBounds_ne (by omega)]; exact this.2
/-- a row of spans of the call's own -/
structure SpRow (w : World) (B : Nat) (v : Value) (l : List Sp) : Prop where
  own : w.ownsRow 0 41 2 v l.length (flat l)
  low : ∀ k, v.ownBlock = some k → B ≤ k
theorem SpRow.nil (w : World) (B : Nat) : SpRow w B (.slice none 0 0) [] := ⟨World.ownsRow_nil _ _ _ _, fun k hk => (by cases hk)⟩
theorem SpRow.fr {w w' : World} {B : Nat} {v : Value} {l : List Sp} {S : Nat → Prop} (h : SpRow w B v l) (hf : Fr S w w') (hS : ∀ k, v.ownBlock = some k → ¬ S k) : SpRow w' B v l :=
  ⟨ownsRow_fr h.own hf hS, h.low⟩
theorem SpRow.stay {w w' : World} {B : Nat} {v : Value} {l : List Sp} (h : SpRow w B v l) (hf : Quiet0 w w') : SpRow w' B v l := h.fr hf (fun _ _ hk => hk)
theorem SpRow.lt {w : World} {B : Nat} {v : Value} {l : List Sp} (h : SpRow w B v l) : ∀ k, v.ownBlock = some k → k < w.heap.size := fun k hk => (h.own.lt k hk).2
theorem SpRow.blk {w : World} {B g c n : Nat} {l : List Sp} (h : SpRow w B (.slice (some ⟨g, 0, none⟩) n c) l) : SpB w g c l ∧ B ≤ g ∧ n = l.length := by
  have hl := h.low g rfl
  rcases h.own.2 with ⟨h1, _⟩ | ⟨g', cap, cur, he, h1, h2, h3, h4, h5, h6⟩
  · cases h1
  · injection he with e1 e2 e3
    cases e1
    subst e2 e3
    refine ⟨⟨cur, h2, h5, h3, h4, fun j t ht => ?_⟩, hl, rfl⟩
    have := flat_get l j t ht
    rw [← h6, List.getElem?_take, List.getElem?_take] at this
    have hjl : j < l.length := by
      rcases Nat.lt_or_ge j l.length with h' | h'
      · exact h'
      · simp [List.getElem?_eq_none h'] at ht
    rw [if_pos (by omega), if_pos (by omega)] at this
    simpa using this
theorem SpB.row {w : World} {B b c : Nat} {l : List Sp} (h : SpB w b c l) (hB : B ≤ b) : SpRow w B (.slice (some ⟨b, 0, none⟩) l.length c) l := by
  obtain ⟨cur, h0, h1, h2, h3, h4⟩ := h
  refine ⟨⟨flat_length l, .inr ⟨b, c, cur, rfl, Nat.zero_le _, h0, h2, h3, h1, ?_⟩⟩, fun k hk => ?_⟩
  · apply List.ext_getElem?
    intro i
    rw [List.getElem?_take]
    by_cases hi : i < l.length * 2
    · rw [if_pos hi]
      have hj : i / 2 < l.length := by omega
      have k1 := h4 (i / 2) _ (List.getElem?_eq_getElem hj)
      have k2 := flat_get l (i / 2) _ (List.getElem?_eq_getElem hj)
      rcases Nat.mod_two_eq_zero_or_one i with e | e
      · have e' : i / 2 * 2 = i := by omega
        rw [e'] at k1 k2
        rw [k2.1]; simpa using k1.1
      · have e' : i / 2 * 2 + 1 = i := by omega
        rw [e'] at k1 k2
        rw [k2.2]; simpa using k1.2
    · rw [if_neg hi, List.getElem?_eq_none (by rw [flat_length]; omega)]
  · simp [Value.ownBlock] at hk; subst hk; exact hB
theorem SpRow.slc {w : World} {B n cap : Nat} {o : Option Addr} {l : List Sp} (h : SpRow w B (.slice o n cap) l) : SpAt (fun k => B ≤ k) w o l := by
  rcases h.own.2 with ⟨h1, h2⟩ | ⟨g, cap', cur, he, _⟩
  · have : l = [] := List.eq_nil_of_length_eq_zero h2
    subst this; exact SpAt.nil _ _ _
  · injection he with e1 e2 e3
    subst e1
    have := h.blk
    exact this.1.slc this.2.1
theorem SpRow.snoc {W w1 : World} {B : Nat} {v : Value} {l : List Sp} {x y : Int} {g c : Nat} (hr : SpRow W B v l)
    (ho : w1.ownsRow 0 41 2 (.slice (some ⟨g, 0, none⟩) (l.length + 1) c) (l.length + 1) (flat l ++ #[Value.int .i64 x, Value.int .i64 y].toList)) (hg : v.ownBlock = some g ∨ W.heap.size ≤ g) (hB : B ≤ W.heap.size) :
    SpRow w1 B (.slice (some ⟨g, 0, none⟩) (l.length + 1) c) (l ++ [(x, y)]) := by
  refine ⟨?_, fun k hk => ?_⟩
  · have e : flat (l ++ [(x, y)]) = flat l ++ #[Value.int .i64 x, Value.int .i64 y].toList := by simp [flat, sp2]
    rw [e, List.length_append]; exact ho
  · simp [Value.ownBlock] at hk
    subst hk
    rcases hg with h | h
    · exact hr.low g h
    · omega
theorem elemSp : Elem Tryd.prog 22 41 (.agg #[.int .i64 0, .int .i64 0]) 2 16 :=
  ⟨Tryd.underlying22, by kernel_rfl, by decide, by decide⟩
end Go.Proofs.YtdlcakmjihfgfaaDoor
