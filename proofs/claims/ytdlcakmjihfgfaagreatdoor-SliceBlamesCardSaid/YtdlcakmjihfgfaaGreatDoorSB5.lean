/-
  Texts laid together (SpMem, SpIdx, SpDel, SpSort, App): what each one proves, and its conditions, stands at its head.
-/
import Derived.StillTailTactics
import Derived.BigQuiet
import Derived.Shelf.Abstract
import Derived.Shelf.SlSortCmp.WholeK
import Derived.Deep.AppendLies
import Derived.Test.YtdlcakmjihfgfaaGreatDoorProg
import Derived.Test.YtdlcakmjihfgfaaGreatDoorShelf
import Derived.Test.YtdlcakmjihfgfaaGreatDoorSB1
import Derived.Test.YtdlcakmjihfgfaaGreatDoorSB2
import Derived.Test.YtdlcakmjihfgfaaGreatDoorSB3
import Derived.Test.YtdlcakmjihfgfaaGreatDoorSB4
section
/-
  How spans lie in memory: slices of them, rows of the call's own, blocks that are written in place. Plain laws on worlds.
-/
namespace Go.Proofs.YtdlcakmjihfgfaaGreatDoor
open Go.RowKit SpanPlain

theorem sp_fr {S : Nat → Prop} {w w' : World} (h : Quiet0 w w') : Fr S w w' := h.mono (fun _ _ h => h.elim)
theorem sp_set_block {w : World} {b i : Nat} {cs : Array Value} {u : Value} {t : TypeId} {z : Nat × Nat} (h : w.heap[b]? = some (.cells cs t z)) : (w.setCell ⟨b, i, none⟩ u).heap[b]? = some (.cells (cs.setIfInBounds i u) t z) := by
  have hlt : b < w.heap.size := by
    rcases Nat.lt_or_ge b w.heap.size with h' | h'
    · exact h'
    · simp [Array.getElem?_eq_none h'] at h
  simp [World.setCell, Array.getElem?_modify, h]
abbrev spv (t : Sp) : Value := .agg #[.int .i64 t.1, .int .i64 t.2]
def sp2 (t : Sp) : List Value := [.int .i64 t.1, .int .i64 t.2]
def flat (l : List Sp) : List Value := l.flatMap sp2
theorem flat_length (l : List Sp) : (flat l).length = l.length * 2 := by
  induction l with
  | nil => rfl
  | cons a l ih => simp only [flat, List.flatMap_cons, List.length_append] at ih ⊢; rw [ih]; simp [sp2]; omega
theorem flat_get : ∀ (l : List Sp) (j : Nat) (t : Sp), l[j]? = some t → (flat l)[j * 2]? = some (.int .i64 t.1) ∧ (flat l)[j * 2 + 1]? = some (.int .i64 t.2)
  | [], j, t, h => by simp at h
  | a :: l, 0, t, h => by simp at h; subst h; exact ⟨rfl, rfl⟩
  | a :: l, j + 1, t, h => by
    have := flat_get l j t (by simpa using h)
    have e1 : (j + 1) * 2 = j * 2 + 2 := by omega
    rw [e1]
    exact this
/-- a slice's spans -/
def SpAt (R : Nat → Prop) (w : World) (o : Option Addr) (l : List Sp) : Prop :=
  ∀ j t, l[j]? = some t → ∃ b off, o = some ⟨b, off, none⟩ ∧ R b ∧ w.cell? ⟨b, off + j * 2, none⟩ = some (.int .i64 t.1) ∧ w.cell? ⟨b, off + j * 2 + 1, none⟩ = some (.int .i64 t.2)
theorem SpAt.nil (R : Nat → Prop) (w : World) (o : Option Addr) : SpAt R w o [] := fun j t h => by simp at h
theorem SpAt.fr {R T S : Nat → Prop} {w w' : World} {o : Option Addr} {l : List Sp} (h : SpAt R w o l) (hf : Fr S w w') (hR : ∀ k, k < w.heap.size → R k → T k ∧ ¬ S k) : SpAt T w' o l := by
  intro j t ht
  obtain ⟨b, off, h0, h1, h2, h3⟩ := h j t ht
  have hb := World.block_lt_of_cell? w _ h2
  have := hR b hb h1
  exact ⟨b, off, h0, this.1, (hf.cellb hb this.2).trans h2, (hf.cellb hb this.2).trans h3⟩
theorem SpAt.stay {R : Nat → Prop} {w w' : World} {o : Option Addr} {l : List Sp} (h : SpAt R w o l) (hq : Quiet0 w w') : SpAt R w' o l := h.fr hq (fun _ _ hk => ⟨hk, fun h => h⟩)
theorem SpAt.mono {R T : Nat → Prop} {w : World} {o : Option Addr} {l : List Sp} (h : SpAt R w o l) (hk : ∀ k, k < w.heap.size → R k → T k) : SpAt T w o l := h.fr (Fr.refl (fun _ => False) w) (fun k hl hr => ⟨hk k hl hr, fun h => h⟩)
theorem SpAt.lt {R : Nat → Prop} {w : World} {o : Option Addr} {l : List Sp} (h : SpAt R w o l) : SpAt (fun k => R k ∧ k < w.heap.size) w o l := by
  intro j t ht
  obtain ⟨b, off, h0, h1, h2, h3⟩ := h j t ht
  exact ⟨b, off, h0, ⟨h1, World.block_lt_of_cell? w _ h2⟩, h2, h3⟩
theorem SpAt.tail {R : Nat → Prop} {w : World} {b off n : Nat} {l : List Sp} (h : SpAt R w (some ⟨b, off, none⟩) l) : SpAt R w (some ⟨b, off + n * 2, none⟩) (l.drop n) := by
  intro j t ht
  rw [List.getElem?_drop] at ht
  obtain ⟨b', off', h0, h1, h2, h3⟩ := h (n + j) t ht
  cases h0
  have e : off + n * 2 + j * 2 = off + (n + j) * 2 := by omega
  exact ⟨b, off + n * 2, rfl, h1, by rw [e]; exact h2, by rw [e]; exact h3⟩
theorem SpAt.take {R : Nat → Prop} {w : World} {o : Option Addr} {l : List Sp} (h : SpAt R w o l) (n : Nat) : SpAt R w o (l.take n) := by
  intro j t ht
  refine h j t ?_
  rw [List.getElem?_take] at ht
  split at ht
  · exact ht
  · cases ht
/-- a block that holds spans, with room for c -/
def SpB (w : World) (b c : Nat) (l : List Sp) : Prop :=
  ∃ cur, w.heap[b]? = some (.cells cur 27 (0, 0)) ∧ cur.size = c * 2 ∧ l.length ≤ c ∧ c ≤ maxLen ∧ ∀ j t, l[j]? = some t → cur[j * 2]? = some (.int .i64 t.1) ∧ cur[j * 2 + 1]? = some (.int .i64 t.2)
theorem SpB.lt {w : World} {b c : Nat} {l : List Sp} (h : SpB w b c l) : b < w.heap.size := by
  obtain ⟨cur, h0, _⟩ := h
  rcases Nat.lt_or_ge b w.heap.size with h' | h'
  · exact h'
  · simp [Array.getElem?_eq_none h'] at h0
theorem SpB.len {w : World} {b c : Nat} {l : List Sp} (h : SpB w b c l) : l.length ≤ c ∧ c ≤ maxLen := by
  obtain ⟨cur, h0, h1, h2, h3, h4⟩ := h
  exact ⟨h2, h3⟩
theorem SpB.at {w : World} {b c : Nat} {l : List Sp} (h : SpB w b c l) {j : Nat} {t : Sp} (ht : l[j]? = some t) :
    w.cell? ⟨b, j * 2, none⟩ = some (.int .i64 t.1) ∧ w.cell? ⟨b, j * 2 + 1, none⟩ = some (.int .i64 t.2) ∧ w.frozen? ⟨b, j * 2, none⟩ = false ∧ w.frozen? ⟨b, j * 2 + 1, none⟩ = false := by
  obtain ⟨cur, h0, h1, h2, h3, h4⟩ := h
  have := h4 j t ht
  exact ⟨by rw [cell_of_row _ _ _ _ _ (0, 0) h0]; exact this.1, by rw [cell_of_row _ _ _ _ _ (0, 0) h0]; exact this.2, by simp [World.frozen?, h0], by simp [World.frozen?, h0]⟩
theorem SpB.room {w : World} {b c : Nat} {l : List Sp} (h : SpB w b c l) {j : Nat} (hj : j < c * 2) : (w.cell? ⟨b, j, none⟩).isSome = true ∧ w.frozen? ⟨b, j, none⟩ = false := by
  obtain ⟨cur, h0, h1, h2, h3, h4⟩ := h
  refine ⟨?_, by simp [World.frozen?, h0]⟩
  rw [cell_of_row _ _ _ _ _ (0, 0) h0, Array.getElem?_eq_getElem (by omega)]; rfl
theorem SpB.slc {w : World} {b c : Nat} {l : List Sp} {R : Nat → Prop} (h : SpB w b c l) (hR : R b) : SpAt R w (some ⟨b, 0, none⟩) l := by
  intro j t ht
  have := h.at ht
  exact ⟨b, 0, rfl, hR, by rw [Nat.zero_add]; exact this.1, by rw [Nat.zero_add]; exact this.2.1⟩
theorem SpB.fr {S : Nat → Prop} {w w' : World} {b c : Nat} {l : List Sp} (h : SpB w b c l) (hf : Fr S w w') (hs : ¬ S b) : SpB w' b c l := by
  have hl := h.lt
  obtain ⟨cur, h0, h1⟩ := h
  exact ⟨cur, (hf.block b hl hs).trans h0, h1⟩
theorem SpB.stay {w w' : World} {b c : Nat} {l : List Sp} (h : SpB w b c l) (hf : Quiet0 w w') : SpB w' b c l := h.fr hf (fun h => h)
theorem SpB.take {w : World} {b c : Nat} {l : List Sp} (h : SpB w b c l) (n : Nat) : SpB w b c (l.take n) := by
  obtain ⟨cur, h0, h1, h2, h3, h4⟩ := h
  refine ⟨cur, h0, h1, by rw [List.length_take]; omega, h3, fun j t ht => h4 j t ?_⟩
  rw [List.getElem?_take] at ht
  split at ht
  · exact ht
  · cases ht
theorem SpB.set1 {w : World} {b c i : Nat} {l : List Sp} {y : Int} {s : Sp} (h : SpB w b c l) (hi : l[i]? = some s) : SpB (w.setCell ⟨b, i * 2 + 1, none⟩ (.int .i64 y)) b c (l.set i (s.1, y)) := by
  obtain ⟨cur, h0, h1, h2, h3, h4⟩ := h
  have hil : i < l.length := by
    rcases Nat.lt_or_ge i l.length with h' | h'
    · exact h'
    · simp [List.getElem?_eq_none h'] at hi
  refine ⟨_, sp_set_block h0, by simp [h1], by simpa using h2, h3, fun j t ht => ?_⟩
  rw [List.getElem?_set] at ht
  by_cases e : i = j
  · subst e
    rw [if_pos rfl, if_pos hil] at ht
    cases ht
    have := h4 i s hi
    constructor
    · rw [Array.getElem?_setIfInBounds_ne (by omega)]; exact this.1
    · rw [Array.getElem?_setIfInBounds_self, if_pos (by omega)]
  · rw [if_neg e] at ht
    have := h4 j t ht
    constructor
    · rw [Array.getElem?_setIfInBounds_ne (by omega)]; exact this.1
    · rw [Array.getElem?_setIfInBounds_ne (by omega)]; exact this.2
theorem SpB.set0 {w : World} {b c i : Nat} {l : List Sp} {x : Int} {s : Sp} (h : SpB w b c l) (hi : l[i]? = some s) : SpB (w.setCell ⟨b, i * 2, none⟩ (.int .i64 x)) b c (l.set i (x, s.2)) := by
  obtain ⟨cur, h0, h1, h2, h3, h4⟩ := h
  have hil : i < l.length := by
    rcases Nat.lt_or_ge i l.length with h' | h'
    · exact h'
    · simp [List.getElem?_eq_none h'] at hi
  refine ⟨_, sp_set_block h0, by simp [h1], by simpa using h2, h3, fun j t ht => ?_⟩
  rw [List.getElem?_set] at ht
  by_cases e : i = j
  · subst e
    rw [if_pos rfl, if_pos hil] at ht
    cases ht
    have := h4 i s hi
    constructor
    · rw [Array.getElem?_setIfInBounds_self, if_pos (by omega)]
    · rw [Array.getElem?_setIfInBounds_ne (by omega)]; exact this.2
  · rw [if_neg e] at ht
    have := h4 j t ht
    constructor
    · rw [Array.getElem?_setIfInBounds_ne (by omega)]; exact this.1
    · rw [Array.getElem?_setIfInBounds_ne (by omega)]; exact this.2
theorem SpB.set2 {w : World} {b c i : Nat} {l : List Sp} {x y : Int} (h : SpB w b c l) (hi : i < l.length) : SpB ((w.setCell ⟨b, i * 2, none⟩ (.int .i64 x)).setCell ⟨b, i * 2 + 1, none⟩ (.int .i64 y)) b c (l.set i (x, y)) := by
  have h1 := (h.set0 (x := x) (List.getElem?_eq_getElem hi)).set1 (y := y) (i := i) (s := (x, l[i].2)) (by rw [List.getElem?_set_self hi])
  simpa using h1
/-- a store behind what is told -/
theorem SpB.past {w : World} {b c o : Nat} {l : List Sp} {v : Value} (h : SpB w b c l) (ho : l.length * 2 ≤ o) : SpB (w.setCell ⟨b, o, none⟩ v) b c l := by
  obtain ⟨cur, h0, h1, h2, h3, h4⟩ := h
  refine ⟨_, sp_set_block h0, by simp [h1], h2, h3, fun j t ht => ?_⟩
  have hjl : j < l.length := by
    rcases Nat.lt_or_ge j l.length with h' | h'
    · exact h'
    · simp [List.getElem?_eq_none h'] at ht
  have := h4 j t ht
  constructor
  · rw [Array.getElem?_setIfInBounds_ne (by omega)]; exact this.1
  · rw [Array.getElem?_setIfInBounds_ne (by omega)]; exact this.2
/-- a row of spans of the call's own -/
structure SpRow (w : World) (B : Nat) (v : Value) (l : List Sp) : Prop where
  own : w.ownsRow 0 27 2 v l.length (flat l)
  low : ∀ k, v.ownBlock = some k → B ≤ k
theorem SpRow.nil (w : World) (B : Nat) : SpRow w B (.slice none 0 0) [] := ⟨World.ownsRow_nil _ _ _ _, fun k hk => (by cases hk)⟩
theorem SpRow.fr {w w' : World} {B : Nat} {v : Value} {l : List Sp} {S : Nat → Prop} (h : SpRow w B v l) (hf : Fr S w w') (hS : ∀ k, v.ownBlock = some k → ¬ S k) : SpRow w' B v l :=
  ⟨ownsRow_fr h.own hf hS, h.low⟩
theorem SpRow.stay {w w' : World} {B : Nat} {v : Value} {l : List Sp} (h : SpRow w B v l) (hf : Quiet0 w w') : SpRow w' B v l := h.fr hf (fun k _ hk => hk)
theorem SpRow.lt {w : World} {B : Nat} {v : Value} {l : List Sp} (h : SpRow w B v l) : ∀ k, v.ownBlock = some k → k < w.heap.size := fun k hk => (h.own.lt k hk).2
theorem SpRow.blk {w : World} {B g c n : Nat} {l : List Sp} (h : SpRow w B (.slice (some ⟨g, 0, none⟩) n c) l) : SpB w g c l ∧ B ≤ g ∧ n = l.length := by
  have hl := h.low g rfl
  rcases h.own.2 with ⟨h1, _⟩ | ⟨g', cap, cur, he, h1, h2, h3, h4, h5, h6⟩
  · cases h1
  · injection he with e1 e2 e3
    cases e1
    subst e2 e3
    refine ⟨⟨cur, h2, h5, h3, h4, fun j t ht => ?_⟩, hl, rfl⟩
    have := flat_get l j t ht
    rw [← h6, List.getElem?_take, List.getElem?_take] at this
    have hjl : j < l.length := by
      rcases Nat.lt_or_ge j l.length with h' | h'
      · exact h'
      · simp [List.getElem?_eq_none h'] at ht
    rw [if_pos (by omega), if_pos (by omega)] at this
    simpa using this
theorem SpB.row {w : World} {B b c : Nat} {l : List Sp} (h : SpB w b c l) (hB : B ≤ b) : SpRow w B (.slice (some ⟨b, 0, none⟩) l.length c) l := by
  obtain ⟨cur, h0, h1, h2, h3, h4⟩ := h
  refine ⟨⟨flat_length l, .inr ⟨b, c, cur, rfl, Nat.zero_le _, h0, h2, h3, h1, ?_⟩⟩, fun k hk => ?_⟩
  · apply List.ext_getElem?
    intro i
    rw [List.getElem?_take]
    by_cases hi : i < l.length * 2
    · rw [if_pos hi]
      have hj : i / 2 < l.length := by omega
      have k1 := h4 (i / 2) _ (List.getElem?_eq_getElem hj)
      have k2 := flat_get l (i / 2) _ (List.getElem?_eq_getElem hj)
      rcases Nat.mod_two_eq_zero_or_one i with e | e
      · have e' : i / 2 * 2 = i := by omega
        rw [e'] at k1 k2
        rw [k2.1]; simpa using k1.1
      · have e' : i / 2 * 2 + 1 = i := by omega
        rw [e'] at k1 k2
        rw [k2.2]; simpa using k1.2
    · rw [if_neg hi, List.getElem?_eq_none (by rw [flat_length]; omega)]
  · simp [Value.ownBlock] at hk; subst hk; exact hB
theorem SpRow.slc {w : World} {B n cap : Nat} {o : Option Addr} {l : List Sp} (h : SpRow w B (.slice o n cap) l) : SpAt (fun k => B ≤ k) w o l := by
  rcases h.own.2 with ⟨h1, h2⟩ | ⟨g, cap', cur, he, _⟩
  · have : l = [] := List.eq_nil_of_length_eq_zero h2
    subst this; exact SpAt.nil _ _ _
  · injection he with e1 e2 e3
    subst e1
    have := h.blk
    exact this.1.slc this.2.1
theorem SpRow.snoc {W w1 : World} {B : Nat} {v : Value} {l : List Sp} {x y : Int} {g c : Nat} (hr : SpRow W B v l)
    (ho : w1.ownsRow 0 27 2 (.slice (some ⟨g, 0, none⟩) (l.length + 1) c) (l.length + 1) (flat l ++ #[Value.int .i64 x, Value.int .i64 y].toList)) (hg : v.ownBlock = some g ∨ W.heap.size ≤ g) (hB : B ≤ W.heap.size) :
    SpRow w1 B (.slice (some ⟨g, 0, none⟩) (l.length + 1) c) (l ++ [(x, y)]) := by
  refine ⟨?_, fun k hk => ?_⟩
  · have e : flat (l ++ [(x, y)]) = flat l ++ #[Value.int .i64 x, Value.int .i64 y].toList := by simp [flat, sp2]
    rw [e, List.length_append]; exact ho
  · simp [Value.ownBlock] at hk
    subst hk
    rcases hg with h | h
    · exact hr.low g h
    · omega
theorem elemSp : Elem Tryz.prog 30 27 (.agg #[.int .i64 0, .int .i64 0]) 2 16 :=
  ⟨Tryz.underlying30, by kernel_rfl, by decide, by decide⟩
end Go.Proofs.YtdlcakmjihfgfaaGreatDoor
end
section
/-
  slices.IndexFunc and slices.ContainsFunc on spans; span.Right, span.Has, and the document's Has. Conditions: the spans lie in memory as told; there are few.
-/
namespace Go.Proofs.YtdlcakmjihfgfaaGreatDoor
open Go.RowKit SpanPlain

def idxS (p : Sp → Bool) : List Sp → Nat → Int
  | [], _ => -1
  | t :: r, i => if p t then i else idxS p r (i + 1)
theorem idxS_any (p : Sp → Bool) : ∀ (l : List Sp) (i : Nat), decide (0 ≤ idxS p l i) = l.any p
  | [], i => rfl
  | t :: r, i => by
    unfold idxS
    rw [List.any_cons]
    cases h : p t
    · simp only [Bool.false_eq_true, if_false, Bool.false_or]; exact idxS_any p r (i + 1)
    · simp
theorem sp_drop {l : List Sp} {i : Nat} {t : Sp} (h : l[i]? = some t) : l.drop i = t :: l.drop (i + 1) := by
  have hi : i < l.length := by
    rcases Nat.lt_or_ge i l.length with h' | h'
    · exact h'
    · simp [List.getElem?_eq_none h'] at h
  rw [List.getElem?_eq_getElem hi] at h
  cases h
  exact List.drop_eq_getElem_cons hi
def PredS (g : Nat) (lb : Array Value) (w0 : World) (l : List Sp) (p : Sp → Bool) : Prop := ∀ t ∈ l, ∀ (W : World), Quiet0 w0 W → Calls Tryz.prog g (#[spv t] ++ lb) W fun e W' => e = .returned (.bool (p t)) ∧ Quiet0 W W'
set_option maxHeartbeats 1000000 in
theorem indexS_any (g : Nat) (lb : Array Value) (p : Sp → Bool) (eg : ∀ args w, (callFunc g args).run Tryz.prog w = .ok (.enter g args) w) (l : List Sp) (o : Option Addr) (cap : Nat) (w : World) (R : Nat → Prop) (hs : SpAt R w o l) (hp : PredS g lb w l p) (hz : l.length ≤ 1000000) :
    Calls Tryz.prog 59 #[.slice o l.length cap, .func (.func g) #[] lb] w fun e w' => e = .returned (.int .i64 (idxS p l 0)) ∧ Quiet0 w w' := by
  have HS := Lib.hid hs
  have HP := Lib.hid hp
  clear hs hp
  obtain ⟨res, hres⟩ : ∃ res, res = idxS p l 0 := ⟨_, rfl⟩
  have HR := Lib.hid hres
  rw [← hres]
  clear hres
  go_enter Tryz.func59, Tryz.ntmps59
  go_wp2_with fail
  go_loopw [8] (fun t wr => ∃ i : Nat, t = .int .i64 i ∧ i ≤ l.length ∧ res = idxS p (l.drop i) i ∧ Quiet0 w wr) (fun t _ => l.length - (intOf t).toNat)
  case atStart => exact ⟨0, rfl, Nat.zero_le _, HR.out, Quiet0.refl _⟩
  case round =>
    obtain ⟨i, rfl, hi, hr, hq⟩ := hrel
    have HRR := Lib.hid hr
    have HQ := Lib.hid hq
    clear hr hq
    by_cases hlt : i < l.length
    · have hlt' : (i : Int) < l.length := by omega
      obtain ⟨t, ht⟩ : ∃ t, l[i]? = some t := ⟨_, List.getElem?_eq_getElem hlt⟩
      obtain ⟨b, off, rfl, _, a0, a1⟩ := HS.out.stay HQ.out i t ht
      have HN : Hid (res = if p t then (i : Int) else idxS p (l.drop (i + 1)) (i + 1)) := by
        show _ = _
        rw [HRR.out, sp_drop ht]; rfl
      have HC := Lib.hid (HP.out t (List.mem_of_getElem? ht) wr HQ.out)
      clear ht
      cases hb : p t
      all_goals
        rw [hb] at HC HN
        clear hb
        go_wp2_with fail
        refine HC.out.mono ?_; rintro e w1 ⟨rfl, hq1⟩
        have HQ1 := Lib.hid (HQ.out.trans hq1)
        clear hq1
        go_wp2_with fail
      · go_roundw
        case rel => exact ⟨i + 1, by go_num, by omega, HN.out, HQ1.out⟩
        case measure => simp [intOf]; omega
      · go_ret
        exact ⟨by rw [HN.out]; rfl, HQ1.out⟩
    · have hlt' : ¬ (i : Int) < l.length := by omega
      have HY : Hid (res = -1) := by show _ = _; rw [HRR.out, List.drop_of_length_le (by omega)]; rfl
      go_wp2_with fail
      go_ret
      exact ⟨by rw [HY.out]; rfl, HQ.out⟩
theorem containsS_any (g : Nat) (lb : Array Value) (p : Sp → Bool) (eg : ∀ args w, (callFunc g args).run Tryz.prog w = .ok (.enter g args) w) (l : List Sp) (o : Option Addr) (cap : Nat) (w : World) (R : Nat → Prop) (hs : SpAt R w o l) (hp : PredS g lb w l p) (hz : l.length ≤ 1000000) :
    Calls Tryz.prog 29 #[.slice o l.length cap, .func (.func g) #[] lb] w fun e w' => e = .returned (.bool (l.any p)) ∧ Quiet0 w w' := by
  have HC := Lib.hid (indexS_any g lb p eg l o cap w R hs hp hz)
  rw [← idxS_any p l 0]
  clear hs hp eg
  generalize idxS p l 0 = r at *
  go_enter Tryz.func29, Tryz.ntmps29
  go_wp2_with fail
  refine HC.out.mono ?_; rintro e w1 ⟨rfl, hq⟩
  go_wp2_with fail
  go_ret
  exact ⟨rfl, hq⟩
/-- span.none -/
theorem noneS_any (x y : Int) (w : World) : Calls Tryz.prog 55 #[.agg #[.int .i64 x, .int .i64 y]] w fun e w' => e = .returned (.bool (decide (y ≤ x))) ∧ Quiet0 w w' := by
  have hc := Quiet0.alloc w (.cells #[.int .i64 x, .int .i64 y] 27)
  have HQ := Lib.hid hc
  clear hc
  go_enter Tryz.func55, Tryz.ntmps55
  go_wp2_with fail
  all_goals (go_ret; exact ⟨by simp_all, HQ.out⟩)
end Go.Proofs.YtdlcakmjihfgfaaGreatDoor
end
section
/-
  slices.DeleteFunc on spans, with span.none. Conditions: the spans lie in a block that may be written; there are few.
-/
namespace Go.Proofs.YtdlcakmjihfgfaaGreatDoor
open Go.RowKit Go.Shelf SpanPlain

/-- a span has bytes -/
abbrev neS (t : Sp) : Bool := decide (t.1 < t.2)
abbrev noS (t : Sp) : Bool := decide (t.2 ≤ t.1)
theorem noS_not (t : Sp) : (!noS t) = neS t := by
  unfold noS neS
  by_cases h : t.2 ≤ t.1
  · simp [h]
  · simp [h]; omega
theorem run_clear2 {P : Program} (w : World) (t e ty : TypeId) (z : Value) (ht : P.underlying t = some (.slice e)) (hv : ∀ w, (zeroValue e).run P w = .ok z w) (b o n c : Nat) (hn : 0 < n) (zs : List Value) (hzs : (Builtin.zeroCells z.cells n).toList = zs) (h1 : ∀ v ∈ zs, v.oneCell' = true)
    (hc : ∀ j, j < zs.length → (w.cell? ⟨b, o + j, none⟩).isSome = true) (hf : ∀ j, j < zs.length → w.frozen? ⟨b, o + j, none⟩ = false) :
    (Builtin.clear_ #[t] ty #[.slice (some ⟨b, o, none⟩) n c]).run P w = .ok (.tuple #[]) (w.setCells b o zs) := by
  have hst := run_storeCells_cells (P := P) b o zs 0 w (by simpa using hc) (by simpa using hf) h1
  simp only [Nat.add_zero] at hst
  obtain ⟨m, rfl⟩ : ∃ m, n = m + 1 := ⟨n - 1, by omega⟩
  simp [Builtin.clear_, run_underlying ht, hv, hzs, hst]
theorem SpB.pasts {b c : Nat} {l : List Sp} : ∀ (vs : List Value) (o : Nat) (w : World), SpB w b c l → l.length * 2 ≤ o → SpB (w.setCells b o vs) b c l ∧ Fr (fun k => k = b) w (w.setCells b o vs)
  | [], o, w, h, _ => ⟨h, Fr.refl _ _⟩
  | v :: vs, o, w, h, ho => by
    have := SpB.pasts vs (o + 1) _ (h.past (v := v) ho) (by omega)
    exact ⟨this.1, (Fr.setCell (fun k => k = b) w ⟨b, o, none⟩ v rfl).trans this.2⟩
theorem idxS_first (p : Sp → Bool) : ∀ (l : List Sp) (i : Nat), (idxS p l i = -1 ∧ ∀ t ∈ l, p t = false) ∨ ∃ k t, idxS p l i = ((i + k : Nat) : Int) ∧ l[k]? = some t ∧ p t = true ∧ ∀ u ∈ l.take k, p u = false
  | [], i => .inl ⟨rfl, by simp⟩
  | t :: r, i => by
    cases h : p t
    · rcases idxS_first p r (i + 1) with ⟨h1, h2⟩ | ⟨k, u, h1, h2, h3, h4⟩
      · exact .inl ⟨by unfold idxS; rw [h]; exact h1, by simpa [h] using h2⟩
      · exact .inr ⟨k + 1, u, by unfold idxS; rw [h, if_neg (by simp), h1]; congr 1; omega, by simpa using h2, h3, by simpa [h] using h4⟩
    · exact .inr ⟨0, t, by unfold idxS; rw [h]; rfl, rfl, h, by simp⟩
theorem filter_take_succ (p : Sp → Bool) {l : List Sp} {j : Nat} {t : Sp} (h : l[j]? = some t) : (l.take (j + 1)).filter p = (l.take j).filter p ++ (if p t then [t] else []) := by
  rw [List.take_add_one, h, List.filter_append]
  cases h2 : p t <;> simp [h2]
set_option maxRecDepth 100000 in
set_option maxHeartbeats 4000000 in
theorem deleteS_any (l : List Sp) (b cap : Nat) (w : World) (hs : SpB w b cap l) (hz : l.length ≤ 1000000) :
    Calls Tryz.prog 54 #[.slice (some ⟨b, 0, none⟩) l.length cap, .func (.func 55) #[] #[]] w fun e w' => e = .returned (.slice (some ⟨b, 0, none⟩) (l.filter neS).length cap) ∧ SpB w' b cap (l.filter neS) ∧ Fr (fun k => k = b) w w' := by
  have HC := Lib.hid (indexS_any 55 #[] noS (enters_of Tryz.func55 (by kernel_rfl) rfl) l (some ⟨b, 0, none⟩) cap w (fun _ => True) (hs.slc trivial) (fun t _ W _ => noneS_any t.1 t.2 W) hz)
  have HS := Lib.hid hs
  have hcl := hs.len
  have hlt := hs.lt
  rcases idxS_first noS l 0 with ⟨h1, h2⟩ | ⟨k, t0, h1, h2, h3, h4⟩
  · rw [h1] at HC
    have HF : Hid (l.filter neS = l) := by
      show _ = _
      rw [List.filter_eq_self]
      intro t ht
      rw [← noS_not, h2 t ht]; rfl
    clear h1 h2 hs
    go_enter Tryz.func54, Tryz.ntmps54
    go_wp2_with fail
    refine HC.out.mono ?_; rintro e w1 ⟨rfl, hq⟩
    go_wp2_with fail
    go_ret
    rw [HF.out]
    exact ⟨rfl, HS.out.stay hq, sp_fr hq⟩
  · rw [h1, Nat.zero_add] at HC
    have hk : k < l.length := by
      rcases Nat.lt_or_ge k l.length with h' | h'
      · exact h'
      · simp [List.getElem?_eq_none h'] at h2
    have hne : ((k : Int) == -1) = false := by simp
    have HT : Hid ((l.take (k + 1)).filter neS = l.take k) := by
      show _ = _
      have e0 : neS t0 = false := by rw [← noS_not, h3]; rfl
      rw [filter_take_succ neS h2, e0, List.filter_eq_self.2]
      · simp
      · intro u hu; rw [← noS_not, h4 u hu]; rfl
    clear h1 h2 h3 h4 hs
    go_enter Tryz.func54, Tryz.ntmps54
    go_wp2_with fail
    refine HC.out.mono ?_; rintro e w1 ⟨rfl, hq⟩
    have HQ := Lib.hid (sp_fr (S := fun k => k = b) hq)
    have HS1 := Lib.hid (HS.out.stay hq)
    clear hq HC HS
    go_wp2_with fail
    go_loopw [5, 6] (fun s t wr => ∃ (i j : Nat) (r : List Sp), s = .int .i64 i ∧ t = .int .i64 j ∧ i < j ∧ j ≤ l.length ∧ r.length = l.length ∧ r.take i = (l.take j).filter neS ∧ r.drop j = l.drop j ∧ SpB wr b cap r ∧ Fr (fun k => k = b) w wr) (fun _ t _ => l.length - (intOf t).toNat)
    case atStart => exact ⟨k, k + 1, l, rfl, by go_num, by omega, by omega, rfl, HT.out.symm, rfl, HS1.out, HQ.out⟩
    case round =>
      obtain ⟨i, j, r, rfl, rfl, hij, hjl, hrl, htk, hdr, hsb, hfr⟩ := hrel
      have HTK := Lib.hid htk
      have HDR := Lib.hid hdr
      have HSB := Lib.hid hsb
      have HFR := Lib.hid hfr
      have hwl := hfr.size
      by_cases hlt2 : j < l.length
      · have hlt' : (j : Int) < l.length := by omega
        obtain ⟨t, ht⟩ : ∃ t, r[j]? = some t := ⟨_, List.getElem?_eq_getElem (by omega)⟩
        have htl : l[j]? = some t := by
          have := congrArg (fun x => x[0]?) hdr
          simp only [List.getElem?_drop, Nat.add_zero] at this
          rw [← this]; exact ht
        obtain ⟨u, hu⟩ : ∃ u, r[i]? = some u := ⟨_, List.getElem?_eq_getElem (by omega)⟩
        obtain ⟨a0, a1, _, _⟩ := hsb.at ht
        have HU := Lib.hid hu
        have HFT := Lib.hid (filter_take_succ neS htl)
        have hne1 : b ≠ wr.heap.size := by omega
        obtain ⟨W0, hW0⟩ : ∃ W0, W0 = wr.alloc (.cells #[.int .i64 t.1, .int .i64 t.2] 27) := ⟨_, rfl⟩
        have hq0 : Quiet0 wr W0 := by rw [hW0]; exact Quiet0.alloc _ _
        have HN := Lib.hid (noneS_any t.1 t.2 W0)
        have HRL := Lib.hid hrl
        have b0 : W0.cell? ⟨wr.heap.size, 0, none⟩ = some (.int .i64 t.1) := by
          rw [hW0, cell_of_row _ _ _ _ _ (0, 0) (heap_alloc_new wr _)]; rfl
        have b1 : W0.cell? ⟨wr.heap.size, 1, none⟩ = some (.int .i64 t.2) := by
          rw [hW0, cell_of_row _ _ _ _ _ (0, 0) (heap_alloc_new wr _)]; rfl
        have HQ0 := Lib.hid hq0
        clear hq0
        have hil : i < r.length := by omega
        have HDS : Hid ((r.set i t).drop (j + 1) = l.drop (j + 1)) := by
          show _ = _
          rw [List.drop_set_of_lt (by omega), ← List.drop_drop, hdr, List.drop_drop]
        have HD1 : Hid (r.drop (j + 1) = l.drop (j + 1)) := by
          show _ = _
          rw [← List.drop_drop, hdr, List.drop_drop]
        have HTS : Hid ((r.set i t).take (i + 1) = r.take i ++ [t]) := by
          show _ = _
          rw [List.take_add_one, List.getElem?_set_self hil, List.take_set_of_le (Nat.le_refl i)]; rfl
        clear ht htl hu htk hdr hsb hfr hrl
        cases hb : noS t
        · have hb' : neS t = true := by rw [← noS_not, hb]; rfl
          have HB := Lib.hid hb'
          have hbd : decide (t.2 ≤ t.1) = false := hb
          rw [hbd] at HN
          clear hb hb' hbd
          go_wp2_with fail
          rw [← hW0]
          refine HN.out.mono ?_; rintro e w2 ⟨rfl, hq2⟩
          have c0 := hq2.at b0
          have c1 := hq2.at b1
          have hsb2 := (HSB.out.stay HQ0.out).stay hq2
          obtain ⟨e0, e1, e2, e3⟩ := hsb2.at HU.out
          have HSB2 := Lib.hid hsb2
          have HFR2 := Lib.hid ((HFR.out.trans (sp_fr HQ0.out)).trans (sp_fr hq2))
          clear hsb2 hq2 HN hW0
          go_wp2_with fail
          go_roundw
          case rel =>
            refine ⟨i + 1, j + 1, r.set i t, by go_num, by go_num, by omega, by omega, by rw [List.length_set]; exact HRL.out, ?_, HDS.out, HSB2.out.set2 hil, ?_⟩
            · rw [HTS.out, HFT.out, HB.out, HTK.out]; rfl
            · exact (HFR2.out.trans (Fr.setCell (fun k => k = b) _ ⟨b, i * 2, none⟩ _ rfl)).trans (Fr.setCell (fun k => k = b) _ ⟨b, i * 2 + 1, none⟩ _ rfl)
          case measure => simp [intOf]; omega
        · have hb' : neS t = false := by rw [← noS_not, hb]; rfl
          have HB := Lib.hid hb'
          have hbd : decide (t.2 ≤ t.1) = true := hb
          rw [hbd] at HN
          clear hb hb' hbd
          go_wp2_with fail
          rw [← hW0]
          refine HN.out.mono ?_; rintro e w2 ⟨rfl, hq2⟩
          have HSB2 := Lib.hid ((HSB.out.stay HQ0.out).stay hq2)
          have HFR2 := Lib.hid ((HFR.out.trans (sp_fr HQ0.out)).trans (sp_fr hq2))
          clear hq2 HN hW0
          go_wp2_with fail
          go_roundw
          case rel => exact ⟨i, j + 1, r, rfl, by go_num, by omega, by omega, HRL.out, by rw [HTK.out, HFT.out, HB.out]; simp, HD1.out, HSB2.out, HFR2.out⟩
          case measure => simp [intOf]; omega
      · obtain rfl : j = l.length := by omega
        have hltz : ¬ (l.length : Int) < (l.length : Int) := by omega
        obtain ⟨zs, hzs⟩ : ∃ zs, (Builtin.zeroCells (Value.cells (.agg #[.int .i64 0, .int .i64 0])) (l.length - i)).toList = zs := ⟨_, rfl⟩
        have HTL : Hid ((r.take i).length = i ∧ r.take i = l.filter neS) := by
          refine ⟨by rw [List.length_take]; omega, ?_⟩
          rw [htk, List.take_length]
        have hzl : zs.length = 2 * (l.length - i) := by rw [← hzs]; simp [Builtin.zeroCells, Value.cells, Nat.mul_comm]
        have hz1 : ∀ v ∈ zs, v.oneCell' = true := by
          rw [← hzs]; intro v hv
          simp only [Builtin.zeroCells, Value.cells, Array.toList_map, List.mem_map] at hv
          obtain ⟨i, _, rfl⟩ := hv
          rcases Nat.mod_two_eq_zero_or_one i with e | e <;> simp [e, Value.oneCell']
        have hroom : ∀ q, q < zs.length → (wr.cell? ⟨b, i * 2 + q, none⟩).isSome = true ∧ wr.frozen? ⟨b, i * 2 + q, none⟩ = false := fun q hq => hsb.room (by have := hsb.len.1; omega)
        have hcl : ∀ ty, (Builtin.clear_ #[30] ty #[.slice (some ⟨b, i * 2, none⟩) (l.length - i) (cap - i)]).run Tryz.prog wr = .ok (.tuple #[]) (wr.setCells b (i * 2) zs) :=
          fun ty => run_clear2 wr _ _ ty _ Tryz.underlying30 Tryz.zeroValue27 b _ _ _ (by omega) zs hzs hz1 (fun q hq => (hroom q hq).1) (fun q hq => (hroom q hq).2)
        have HEND := Lib.hid (SpB.pasts zs (i * 2) wr (hsb.take i) (by rw [HTL.out.1]; exact Nat.le_refl _))
        clear hzs hzl hz1 hroom htk hdr hsb hfr hrl
        go_wp2_with fail
        go_ret
        rw [← HTL.out.2, HTL.out.1]
        exact ⟨rfl, HEND.out.1, HFR.out.trans HEND.out.2⟩
end Go.Proofs.YtdlcakmjihfgfaaGreatDoor
end
section
/-
  slices.SortFunc on spans, by their first bytes. Conditions: the spans lie in a block that may be written; there are few.
-/
namespace Go.Proofs.YtdlcakmjihfgfaaGreatDoor
open Go.RowKit Go.Shelf Go.Lib SpanPlain

abbrev encSp (x : Sp) : List Value := [.int .i64 x.1, .int .i64 x.2]
theorem ltFrom (x y : Sp) : ltOf (fun x y : Sp => Lib.compareInt x.1 y.1) x y = decide (x.1 < y.1) := by
  unfold ltOf Lib.compareInt
  by_cases h1 : x.1 < y.1
  · simp [h1]
  · by_cases h2 : y.1 < x.1 <;> simp [h1, h2]
theorem swoFrom : Go.Sort.SWO (ltOf fun x y : Sp => Lib.compareInt x.1 y.1) where
  irrefl x := by rw [ltFrom]; simp
  trans x y z h1 h2 := by rw [ltFrom] at *; simp at *; omega
  ntrans x y z h1 h2 := by rw [ltFrom] at *; simp at *; omega
theorem SpB.holds {w : World} {b c : Nat} {l : List Sp} (h : SpB w b c l) : Go.Sort.HoldsK encSp 2 w b 0 l.toArray := by
  intro j hj
  rw [Go.Sort.size_flatK] at hj
  have hj' : j < l.length * 2 := by simpa using hj
  rw [Go.Sort.get_flatK _ _ _ _ hj]
  have hjl : j / 2 < l.length := by omega
  obtain ⟨h1, h2, h3, h4⟩ := h.at (List.getElem?_eq_getElem hjl)
  have e : l.toArray[j / 2]! = l[j / 2] := by
    rw [getElem!_pos l.toArray (j / 2) (by simpa using hjl)]; simp
  rw [e, Nat.zero_add]
  rcases Nat.mod_two_eq_zero_or_one j with m | m
  · have e' : j / 2 * 2 = j := by omega
    rw [e'] at h1 h3
    rw [m]; exact ⟨h1, h3⟩
  · have e' : j / 2 * 2 + 1 = j := by omega
    rw [e'] at h2 h4
    rw [m]; exact ⟨h2, h4⟩
theorem sp_sorted {w w' : World} {b c n : Nat} {l : List Sp} {d' : Array Sp} {os : Array Obj} (h : SpB w b c l) (hp : Go.Sort.PermIn 0 l.toArray.size l.toArray d') (hs : Go.Sort.SortedIn (ltOf fun x y : Sp => Lib.compareInt x.1 y.1) 0 l.toArray.size d')
    (hw : w' = Go.Proofs.sortWorldK encSp 2 w b 0 n d' os) : ∃ l', l'.Perm l ∧ l'.Pairwise (fun s t => s.1 ≤ t.1) ∧ SpB w' b c l' ∧ Fr (fun k => k = b) w w' := by
  have hlt := h.lt
  obtain ⟨cur, h0, h1, h2, h3, h4⟩ := h
  obtain ⟨p1, p2, p3⟩ := hp
  have hsz : d'.size = l.length := by simpa using p1
  refine ⟨d'.toList, ?_, ?_, ?_, ?_⟩
  · have e1 : d'.extract 0 l.toArray.size = d' := by rw [← p1]; simp
    have e2 : l.toArray.extract 0 l.toArray.size = l.toArray := by simp
    rw [e1, e2] at p3
    simpa using p3
  · rw [List.pairwise_iff_getElem]
    intro i j hi hj hij
    have hi' : i < d'.size := by simpa using hi
    have hj' : j < d'.size := by simpa using hj
    have := hs i j (Nat.zero_le _) hij (by simp; omega)
    rw [ltFrom, getElem!_pos d' i hi', getElem!_pos d' j hj'] at this
    simp at this
    simpa using this
  · have hb : w'.heap[b]? = some (.cells (Go.Sort.putCells id 0 (Go.Sort.flatK encSp 2 d') cur) 27 (0, 0)) := by
      rw [hw]
      unfold Go.Proofs.sortWorldK Go.Sort.grow Go.Sort.putRowK Go.Sort.putRow Go.Sort.mapBlock
      show (_ ++ os)[b]? = _
      rw [Array.getElem?_append_left (by simpa [Go.Sort.ahead] using hlt)]
      simp [Go.Sort.ahead, Array.getElem?_modify, h0, Go.Sort.onCells]
    refine ⟨_, hb, by simp [Go.Sort.putCells, h1], by simp; omega, h3, fun j t ht => ?_⟩
    have hj : j < d'.size := by
      rcases Nat.lt_or_ge j d'.size with h' | h'
      · exact h'
      · simp [Array.getElem?_eq_none h'] at ht
    have ht' : d'[j]! = t := by
      rw [getElem!_pos d' j hj]
      have : d'[j]? = some t := by simpa using ht
      rw [Array.getElem?_eq_getElem hj] at this
      exact Option.some.inj this
    constructor
    · unfold Go.Sort.putCells
      rw [Array.getElem?_mapIdx, Array.getElem?_eq_getElem (show j * 2 < cur.size by omega)]
      simp only [Option.map_some, Go.Sort.size_flatK, Nat.zero_le, Nat.zero_add, true_and, Nat.sub_zero]
      rw [if_pos (by omega), Go.Sort.get_flatK _ _ _ _ (by omega), show j * 2 / 2 = j from by omega, show j * 2 % 2 = 0 from by omega, ht']
      rfl
    · unfold Go.Sort.putCells
      rw [Array.getElem?_mapIdx, Array.getElem?_eq_getElem (show j * 2 + 1 < cur.size by omega)]
      simp only [Option.map_some, Go.Sort.size_flatK, Nat.zero_le, Nat.zero_add, true_and, Nat.sub_zero]
      rw [if_pos (by omega), Go.Sort.get_flatK _ _ _ _ (by omega), show (j * 2 + 1) / 2 = j from by omega, show (j * 2 + 1) % 2 = 1 from by omega, ht']
      rfl
  · rw [hw]
    unfold Go.Proofs.sortWorldK Go.Sort.grow Go.Sort.putRowK Go.Sort.putRow Go.Sort.mapBlock
    refine ⟨rfl, rfl, rfl, by simp [Go.Sort.ahead], fun k hk hne => ?_⟩
    show (_ ++ os)[k]? = _
    rw [Array.getElem?_append_left (by simpa [Go.Sort.ahead] using hk)]
    simp [Go.Sort.ahead, Array.getElem?_modify, Ne.symm hne]
theorem isNaN_any (x : Int) (w : World) : Calls Tryz.prog 81 #[.int .i64 x] w fun e w' => e = .returned (.bool false) ∧ w = w' := by
  go_enter Tryz.func81, Tryz.ntmps81
  go_wp2_with fail
  go_ret
  exact ⟨by simp, rfl⟩
theorem compareI_any (x y : Int) (w : World) : Calls Tryz.prog 58 #[.int .i64 x, .int .i64 y] w fun e w' => e = .returned (.int .i64 (Lib.compareInt x y)) ∧ w = w' := by
  unfold Lib.compareInt
  by_cases h1 : x < y
  · go_enter Tryz.func58, Tryz.ntmps58
    go_wp2_with (go_at_call 81; refine (isNaN_any _ _).mono ?_; rintro e w' ⟨rfl, rfl⟩)
    go_ret
    exact ⟨by simp [h1], rfl⟩
  · by_cases h2 : y < x
    all_goals
      go_enter Tryz.func58, Tryz.ntmps58
      go_wp2_with (go_at_call 81; refine (isNaN_any _ _).mono ?_; rintro e w' ⟨rfl, rfl⟩)
      go_ret
      exact ⟨by simp [h1, h2], rfl⟩
theorem closureM_any (x y : Sp) (W : World) : Calls Tryz.prog 57 #[.agg #[.int .i64 x.1, .int .i64 x.2], .agg #[.int .i64 y.1, .int .i64 y.2]] W fun e w' => e = .returned (.int .i64 (Lib.compareInt x.1 y.1)) ∧ ∃ q os', w' = Go.Sort.grow (W.drewN q) os' := by
  have hcon := fun W' => compareI_any x.1 y.1 W'
  generalize Lib.compareInt x.1 y.1 = r at hcon ⊢
  go_enter Tryz.func57, Tryz.ntmps57
  go_wp2_with (go_at_call 58; refine (hcon _).mono ?_; rintro e w' ⟨rfl, rfl⟩)
  go_ret
  exact ⟨rfl, 0, _, by rw [Go.Sort.alloc_eq_grow, Go.Sort.alloc_eq_grow, Go.Sort.grow_grow]; rfl⟩
/-- slices.SortFunc on spans that lie in a block -/
theorem sortS_any (l : List Sp) (b cap : Nat) (w : World) (hs : SpB w b cap l) (hz : l.length ≤ 1000000) :
    Calls Tryz.prog 56 #[.slice (some ⟨b, 0, none⟩) l.length cap, .func (.func 57) #[] #[]] w fun e w' => e = .returned (.tuple #[]) ∧ ∃ l', l'.Perm l ∧ l'.Pairwise (fun s t => s.1 ≤ t.1) ∧ SpB w' b cap l' ∧ Fr (fun k => k = b) w w' := by
  have eg : ∀ args w, (callFunc 57 args).run Tryz.prog w = .ok (.enter 57 args) w := enters_of Tryz.func57 (by kernel_rfl) rfl
  have hcon := AnyQ.slices_SortFunc Tryz.sortSp 2 Tryz.isAgg27 Tryz.sizeOf27 encSp (fun _ => rfl) (fun x v hv => by simp [encSp] at hv; rcases hv with rfl | rfl <;> rfl) (fun x y => Lib.compareInt x.1 y.1) swoFrom 57 #[] b 0 cap l.toArray w eg (fun _ _ _ _ x y => closureM_any x y _) hs.holds hs.lt (by simp; omega)
  change Calls Tryz.prog 56 _ _ _ at hcon
  rw [show l.toArray.size = l.length from by simp] at hcon
  refine hcon.mono ?_
  rintro e w' ⟨he, d', n, os, hp, hso, hw⟩
  exact ⟨he, sp_sorted hs (by simpa using hp) (by simpa using hso) hw⟩
end Go.Proofs.YtdlcakmjihfgfaaGreatDoor
end
section
/-
  Append of what lies somewhere (a slice, perhaps empty or nil) to a row of the call's own (perhaps nil). Conditions: the row is owned, its length stays in bounds.
-/
namespace Go.Proofs.YtdlcakmjihfgfaaGreatDoor
open Go.RowKit

section
variable {P : Program}
theorem run_append_row (w : World) (t ty e : TypeId) (z : Value) (size bytes : Nat) (he : Elem P t e z size bytes) (v : Value) (n : Nat) (xs : List Value) (hown : w.ownsRow 0 e size v n xs)
    (o : Option Addr) (m c : Nat) (news : List Value) (hl : news.length = m * size) (hnews : ∀ j u, news[j]? = some u → ∃ a, o = some a ∧ w.cell? (a.add j) = some u) (h1 : ∀ u ∈ news, u.oneCell' = true) (b1 : n + m ≤ maxLen) (b2 : (n + m) * bytes ≤ 140737488355328) :
    ∃ o' c' w', (Builtin.append_ #[t, t] ty #[v, .slice o m c]).run P w = .ok (.slice o' (n + m) c') w' ∧ w'.ownsRow 0 e size (.slice o' (n + m) c') (n + m) (xs ++ news) ∧ Fr (fun k => v.ownBlock = some k) w w' ∧ ((Value.slice o' (n + m) c').ownBlock = v.ownBlock ∨ (Value.slice o' (n + m) c').ownBlock = some w.heap.size) ∧ ((Value.slice o' (n + m) c') = .slice none 0 0 ↔ v = .slice none 0 0 ∧ m = 0) := by
  obtain ⟨i0, hi, hz0, hz1, hz2⟩ := info_parts he.info
  have form : ∀ {w' : World} {v' : Value} {k : Nat} {ys : List Value}, w'.ownsRow 0 e size v' k ys → ∃ o' c', v' = .slice o' k c' := by
    intro w' v' k ys h
    rcases h.2 with ⟨rfl, rfl⟩ | ⟨g, cap, cur, rfl, _⟩
    · exact ⟨none, 0, rfl⟩
    · exact ⟨some ⟨g, 0, none⟩, cap, rfl⟩
  by_cases hm : m = 0
  · subst hm
    have hn : news = [] := List.eq_nil_of_length_eq_zero (by simpa using hl)
    subst hn
    obtain ⟨o', c', hv⟩ := form hown
    refine ⟨o', c', w, ?_, by rw [Nat.add_zero, ← hv, List.append_nil]; exact hown, Fr.refl _ _, .inl (by rw [Nat.add_zero, ← hv]), by rw [Nat.add_zero, ← hv]; simp⟩
    rw [Nat.add_zero]
    rcases hown.2 with ⟨rfl, h0⟩ | ⟨g, cap, cur, hvg, _, hg, hc, _⟩
    · injection hv with e1 e2 e3
      subst e1 e2 e3
      cases o <;> simp [Builtin.append_, run_underlying he.under, sizeOf, typeInfo, hi, Builtin.lenOf, Builtin.firstCells, loadCells, loadCellsFrom]
    · rw [hvg] at hv ⊢
      injection hv with e1 e2 e3
      subst e1 e3
      cases o <;> simp [Builtin.append_, run_underlying he.under, sizeOf, typeInfo, hi, Builtin.lenOf, Builtin.firstCells, loadCells, loadCellsFrom, storeCells, hc]
  · have hne : 0 < news.length := by rw [hl]; exact Nat.mul_pos (by omega) he.pos
    obtain ⟨a, ha, _⟩ := hnews 0 news[0] (List.getElem?_eq_getElem hne)
    subst ha
    obtain ⟨v', w', hr, h2, h3, h4, h5⟩ := run_append_own_at (P := P) w 0 t ty e i0 z size bytes he.under hi hz0 hz1 hz2 he.cells he.pos v n xs hown a m c news hl (fun j u hu => by obtain ⟨a', e', hc⟩ := hnews j u hu; cases e'; exact hc) h1 b1 b2 (Nat.zero_le _)
    obtain ⟨o', c', rfl⟩ := form h2
    exact ⟨o', c', w', hr, h2, Fr.grown h3 (fun k hk => hk), h5, h4⟩
theorem wp_append_row {o : Oper} {a : Act} {K : Act → World → Prop} {Q : Exit → Act → World → Prop} (W : World) (s x : Operand) (t : TypeId)
    (ho : o.op = .call { callee := .builtin .append, args := #[s, x], argTypes := #[t, t] })
    (e : TypeId) (z : Value) (size bytes : Nat) (he : Elem P t e z size bytes) (v : Value) (n : Nat) (xs : List Value) (hs : a.eval s = v) (hown : W.ownsRow 0 e size v n xs)
    (oa : Option Addr) (m c : Nat) (news : List Value) (hx : a.eval x = .slice oa m c) (hl : news.length = m * size) (hnews : ∀ j u, news[j]? = some u → ∃ a, oa = some a ∧ W.cell? (a.add j) = some u) (h1 : ∀ u ∈ news, u.oneCell' = true) (b1 : n + m ≤ maxLen) (b2 : (n + m) * bytes ≤ 140737488355328)
    (hK : ∀ o' c' w', w'.ownsRow 0 e size (.slice o' (n + m) c') (n + m) (xs ++ news) → Fr (fun k => v.ownBlock = some k) W w' → ((Value.slice o' (n + m) c').ownBlock = v.ownBlock ∨ (Value.slice o' (n + m) c').ownBlock = some W.heap.size) → ((Value.slice o' (n + m) c') = .slice none 0 0 ↔ v = .slice none 0 0 ∧ m = 0) → K (a.put o.dst (.slice o' (n + m) c')) w') :
    o.wp P a W K Q := by
  obtain ⟨o', c', w', hr, h2, h3, h4, h5⟩ := run_append_row (P := P) W t o.type e z size bytes he v n xs hown oa m c news hl hnews h1 b1 b2
  unfold Oper.wp execOp
  simp only [ho, resolve, invoke, builtin, Sem.run_bind, Sem.run_pure, Result.andThen_ok, List.map_toArray, List.map_cons, List.map_nil, hs, hx, hr]
  exact hK o' c' w' h2 h3 h4 h5
theorem wpList_append_row {ops : Array Oper} {rest : List Oper} {o : Oper} {a : Act} {Q : Exit → Act → World → Prop} (W : World) (hg : o.guard = none) (s x : Operand) (t : TypeId)
    (ho : o.op = .call { callee := .builtin .append, args := #[s, x], argTypes := #[t, t] })
    (e : TypeId) (z : Value) (size bytes : Nat) (he : Elem P t e z size bytes) (v : Value) (n : Nat) (xs : List Value) (hs : a.eval s = v) (hown : W.ownsRow 0 e size v n xs)
    (oa : Option Addr) (m c : Nat) (news : List Value) (hx : a.eval x = .slice oa m c) (hl : news.length = m * size) (hnews : ∀ j u, news[j]? = some u → ∃ a, oa = some a ∧ W.cell? (a.add j) = some u) (h1 : ∀ u ∈ news, u.oneCell' = true) (b1 : n + m ≤ maxLen) (b2 : (n + m) * bytes ≤ 140737488355328)
    (hK : ∀ o' c' w', w'.ownsRow 0 e size (.slice o' (n + m) c') (n + m) (xs ++ news) → Fr (fun k => v.ownBlock = some k) W w' → ((Value.slice o' (n + m) c').ownBlock = v.ownBlock ∨ (Value.slice o' (n + m) c').ownBlock = some W.heap.size) → ((Value.slice o' (n + m) c') = .slice none 0 0 ↔ v = .slice none 0 0 ∧ m = 0) → wpList P ops Q rest (a.put o.dst (.slice o' (n + m) c')) w') :
    wpList P ops Q (o :: rest) a W :=
  wpList_plain hg fun _ hK' => wp_append_row W s x t ho e z size bytes he v n xs hs hown oa m c news hx hl hnews h1 b1 b2 fun o' c' w' h2 h3 h4 h5 => hK' _ _ (hK o' c' w' h2 h3 h4 h5)
theorem step_append_row {ops : Array Oper} {o : Oper} {a : Act} {K : Act → World → Prop} {Q : Exit → Act → World → Prop} {E : Prop} (W : World) (hg : o.guard = none) (s x : Operand) (t : TypeId)
    (ho : o.op = .call { callee := .builtin .append, args := #[s, x], argTypes := #[t, t] })
    (e : TypeId) (z : Value) (size bytes : Nat) (he : Elem P t e z size bytes) (v : Value) (n : Nat) (xs : List Value) (hs : a.eval s = v) (hown : W.ownsRow 0 e size v n xs)
    (oa : Option Addr) (m c : Nat) (news : List Value) (hx : a.eval x = .slice oa m c) (hl : news.length = m * size) (hnews : ∀ j u, news[j]? = some u → ∃ a, oa = some a ∧ W.cell? (a.add j) = some u) (h1 : ∀ u ∈ news, u.oneCell' = true) (b1 : n + m ≤ maxLen) (b2 : (n + m) * bytes ≤ 140737488355328)
    (hK : ∀ o' c' w', w'.ownsRow 0 e size (.slice o' (n + m) c') (n + m) (xs ++ news) → Fr (fun k => v.ownBlock = some k) W w' → ((Value.slice o' (n + m) c').ownBlock = v.ownBlock ∨ (Value.slice o' (n + m) c').ownBlock = some W.heap.size) → ((Value.slice o' (n + m) c') = .slice none 0 0 ↔ v = .slice none 0 0 ∧ m = 0) → K (a.put o.dst (.slice o' (n + m) c')) w') :
    if Region.wanted o (yielded ops a.tmps) = true then Oper.wp P o a W K Q else E := by
  rw [if_pos (by unfold Region.wanted; rw [hg])]
  exact wp_append_row W s x t ho e z size bytes he v n xs hs hown oa m c news hx hl hnews h1 b1 b2 hK
end
theorem wpList_append_H {P : Program} (W : World) (H : Nat) (hH : H = W.heap.size) {ops : Array Oper} {rest : List Oper} {o : Oper} {a : Act} {Q : Exit → Act → World → Prop}
    (hg : o.guard = none) (s x : Operand) (t : TypeId) (hop : o.op = Op.call { callee := Callee.builtin Builtin.append, args := #[s, x], argTypes := #[t, t] })
    (e : TypeId) (z : Value) (size bytes : Nat) (he : Elem P t e z size bytes)
    (v : Value) (n : Nat) (xs : List Value) (hs : a.eval s = v) (hown : W.ownsRow 0 e size v n xs)
    (news : Array Value) (hx : a.eval x = .slice (some ⟨H, 0, none⟩) 1 1) (hn : news.size = size) (h1c : ∀ u ∈ news.toList, u.oneCell' = true)
    (b1 : n + 1 ≤ maxLen) (b2 : (n + 1) * bytes ≤ 140737488355328)
    (hK : ∀ g c w', w'.ownsRow 0 e size (.slice (some ⟨g, 0, none⟩) (n + 1) c) (n + 1) (xs ++ news.toList) → Fr (fun k => v.ownBlock = some k) W w' → (v.ownBlock = some g ∨ W.heap.size ≤ g) → wpList P ops Q rest (a.put o.dst (.slice (some ⟨g, 0, none⟩) (n + 1) c)) w') :
    wpList P ops Q (o :: rest) a (W.alloc (.cells news e)) := by
  subst hH
  exact wpList_append_one W hg s x t hop e z size bytes he v n xs hs hown news hx hn h1c b1 b2 hK
end Go.Proofs.YtdlcakmjihfgfaaGreatDoor
end
