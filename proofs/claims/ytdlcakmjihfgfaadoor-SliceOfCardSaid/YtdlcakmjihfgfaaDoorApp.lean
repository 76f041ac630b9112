/-
  Append of what lies somewhere (a slice, perhaps empty or nil) to a row of the call's own (perhaps nil). Conditions: the row is owned, its length stays in bounds.
-/
import Derived.Test.YtdlcakmjihfgfaaDoorQuiet
import Derived.Deep.AppendLies
namespace Go.Proofs.YtdlcakmjihfgfaaDoor
open Go.RowKit

section
variable {P : Program}
theorem run_append_row (w : World) (t ty e : TypeId) (z : Value) (size bytes : Nat) (he : Elem P t e z size bytes) (v : Value) (n : Nat) (xs : List Value) (hown : w.ownsRow 0 e size v n xs)
    (o : Option Addr) (m c : Nat) (news : List Value) (hl : news.length = m * size) (hnews : ∀ j u, news[j]? = some u → ∃ a, o = some a ∧ w.cell? (a.add j) = some u) (h1 : ∀ u ∈ news, u.oneCell' = true) (b1 : n + m ≤ maxLen) (b2 : (n + m) * bytes ≤ 140737488355328) :
    ∃ o' c' w', (Builtin.append_ #[t, t] ty #[v, .slice o m c]).run P w = .ok (.slice o' (n + m) c') w' ∧ w'.ownsRow 0 e size (.slice o' (n + m) c') (n + m) (xs ++ news) ∧ Fr (fun k => v.ownBlock = some k) w w' ∧ ((Value.slice o' (n + m) c').ownBlock = v.ownBlock ∨ (Value.slice o' (n + m) c').ownBlock = some w.heap.size) ∧ ((Value.slice o' (n + m) c') = .slice none 0 0 ↔ v = .slice none 0 0 ∧ m = 0) := by
  obtain ⟨i0, hi, hz0, hz1, hz2⟩ := info_parts he.info
  have form : ∀ {w' : World} {v' : Value} {k : Nat} {ys : List Value}, w'.ownsRow 0 e size v' k ys → ∃ o' c', v' = .slice o' k c' := by
    intro w' v' k ys h
    rcases h.2 with ⟨rfl, rfl⟩ | ⟨g, cap, cur, rfl, _⟩
    · exact ⟨none, 0, rfl⟩
    · exact ⟨some ⟨g, 0, none⟩, cap, rfl⟩
  by_cases hm : m = 0
  · subst hm
    have hn : news = [] := List.eq_nil_of_length_eq_zero (by simpa using hl)
    subst hn
    obtain ⟨o', c', hv⟩ := form hown
    refine ⟨o', c', w, ?_, by rw [Nat.add_zero, ← hv, List.append_nil]; exact hown, Fr.refl _ _, .inl (by rw [Nat.add_zero, ← hv]), by rw [Nat.add_zero, ← hv]; simp⟩
    rw [Nat.add_zero]
    rcases hown.2 with ⟨rfl, h0⟩ | ⟨g, cap, cur, hvg, _, hg, hc, _⟩
    · injection hv with e1 e2 e3
      subst e1 e2 e3
      cases o <;> simp [Builtin.append_, run_underlying he.under, sizeOf, typeInfo, hi, Builtin.lenOf, Builtin.firstCells, loadCells, loadCellsFrom]
    · rw [hvg] at hv ⊢
      injection hv with e1 e2 e3
      subst e1 e3
      cases o <;> simp [Builtin.append_, run_underlying he.under, sizeOf, typeInfo, hi, Builtin.lenOf, Builtin.firstCells, loadCells, loadCellsFrom, storeCells, hc]
  · have hne : 0 < news.length := by rw [hl]; exact Nat.mul_pos (by omega) he.pos
    obtain ⟨a, ha, _⟩ := hnews 0 news[0] (List.getElem?_eq_getElem hne)
    subst ha
    obtain ⟨v', w', hr, h2, h3, h4, h5⟩ := run_append_own_at (P := P) w 0 t ty e i0 z size bytes he.under hi hz0 hz1 hz2 he.cells he.pos v n xs hown a m c news hl (fun j u hu => by obtain ⟨a', e', hc⟩ := hnews j u hu; cases e'; exact hc) h1 b1 b2 (Nat.zero_le _)
    obtain ⟨o', c', rfl⟩ := form h2
    exact ⟨o', c', w', hr, h2, Fr.grown h3 (fun k hk => hk), h5, h4⟩
theorem wp_append_row {o : Oper} {a : Act} {K : Act → World → Prop} {Q : Exit → Act → World → Prop} (W : World) (s x : Operand) (t : TypeId)
    (ho : o.op = .call { callee := .builtin .append, args := #[s, x], argTypes := #[t, t] })
    (e : TypeId) (z : Value) (size bytes : Nat) (he : Elem P t e z size bytes) (v : Value) (n : Nat) (xs : List Value) (hs : a.eval s = v) (hown : W.ownsRow 0 e size v n xs)
    (oa : Option Addr) (m c : Nat) (news : List Value) (hx : a.eval x = .slice oa m c) (hl : news.length = m * size) (hnews : ∀ j u, news[j]? = some u → ∃ a, oa = some a ∧ W.cell? (a.add j) = some u) (h1 : ∀ u ∈ news, u.oneCell' = true) (b1 : n + m ≤ maxLen) (b2 : (n + m) * bytes ≤ 140737488355328)
    (hK : ∀ o' c' w', w'.ownsRow 0 e size (.slice o' (n + m) c') (n + m) (xs ++ news) → Fr (fun k => v.ownBlock = some k) W w' → ((Value.slice o' (n + m) c').ownBlock = v.ownBlock ∨ (Value.slice o' (n + m) c').ownBlock = some W.heap.size) → ((Value.slice o' (n + m) c') = .slice none 0 0 ↔ v = .slice none 0 0 ∧ m = 0) → K (a.put o.dst (.slice o' (n + m) c')) w') :
    o.wp P a W K Q := by
  obtain ⟨o', c', w', hr, h2, h3, h4, h5⟩ := run_append_row (P := P) W t o.type e z size bytes he v n xs hown oa m c news hl hnews h1 b1 b2
  unfold Oper.wp execOp
  simp only [ho, resolve, invoke, builtin, Sem.run_bind, Sem.run_pure, Result.andThen_ok, List.map_toArray, List.map_cons, List.map_nil, hs, hx, hr]
  exact hK o' c' w' h2 h3 h4 h5
theorem wpList_append_row {ops : Array Oper} {rest : List Oper} {o : Oper} {a : Act} {Q : Exit → Act → World → Prop} (W : World) (hg : o.guard = none) (s x : Operand) (t : TypeId)
    (ho : o.op = .call { callee := .builtin .append, args := #[s, x], argTypes := #[t, t] })
    (e : TypeId) (z : Value) (size bytes : Nat) (he : Elem P t e z size bytes) (v : Value) (n : Nat) (xs : List Value) (hs : a.eval s = v) (hown : W.ownsRow 0 e size v n xs)
    (oa : Option Addr) (m c : Nat) (news : List Value) (hx : a.eval x = .slice oa m c) (hl : news.length = m * size) (hnews : ∀ j u, news[j]? = some u → ∃ a, oa = some a ∧ W.cell? (a.add j) = some u) (h1 : ∀ u ∈ news, u.oneCell' = true) (b1 : n + m ≤ maxLen) (b2 : (n + m) * bytes ≤ 140737488355328)
    (hK : ∀ o' c' w', w'.ownsRow 0 e size (.slice o' (n + m) c') (n + m) (xs ++ news) → Fr (fun k => v.ownBlock = some k) W w' → ((Value.slice o' (n + m) c').ownBlock = v.ownBlock ∨ (Value.slice o' (n + m) c').ownBlock = some W.heap.size) → ((Value.slice o' (n + m) c') = .slice none 0 0 ↔ v = .slice none 0 0 ∧ m = 0) → wpList P ops Q rest (a.put o.dst (.slice o' (n + m) c')) w') :
    wpList P ops Q (o :: rest) a W :=
  wpList_plain hg fun _ hK' => wp_append_row W s x t ho e z size bytes he v n xs hs hown oa m c news hx hl hnews h1 b1 b2 fun o' c' w' h2 h3 h4 h5 => hK' _ _ (hK o' c' w' h2 h3 h4 h5)
theorem step_append_row {ops : Array Oper} {o : Oper} {a : Act} {K : Act → World → Prop} {Q : Exit → Act → World → Prop} {E : Prop} (W : World) (hg : o.guard = none) (s x : Operand) (t : TypeId)
    (ho : o.op = .call { callee := .builtin .append, args := #[s, x], argTypes := #[t, t] })
    (e : TypeId) (z : Value) (size bytes : Nat) (he : Elem P t e z size bytes) (v : Value) (n : Nat) (xs : List Value) (hs : a.eval s = v) (hown : W.ownsRow 0 e size v n xs)
    (oa : Option Addr) (m c : Nat) (news : List Value) (hx : a.eval x = .slice oa m c) (hl : news.length = m * size) (hnews : ∀ j u, news[j]? = some u → ∃ a, oa = some a ∧ W.cell? (a.add j) = some u) (h1 : ∀ u ∈ news, u.oneCell' = true) (b1 : n + m ≤ maxLen) (b2 : (n + m) * bytes ≤ 140737488355328)
    (hK : ∀ o' c' w', w'.ownsRow 0 e size (.slice o' (n + m) c') (n + m) (xs ++ news) → Fr (fun k => v.ownBlock = some k) W w' → ((Value.slice o' (n + m) c').ownBlock = v.ownBlock ∨ (Value.slice o' (n + m) c').ownBlock = some W.heap.size) → ((Value.slice o' (n + m) c') = .slice none 0 0 ↔ v = .slice none 0 0 ∧ m = 0) → K (a.put o.dst (.slice o' (n + m) c')) w') :
    if Region.wanted o (yielded ops a.tmps) = true then Oper.wp P o a W K Q else E := by
  rw [if_pos (by unfold Region.wanted; rw [hg])]
  exact wp_append_row W s x t ho e z size bytes he v n xs hs hown oa m c news hx hl hnews h1 b1 b2 hK
end
theorem wpList_append_H {P : Program} (W : World) (H : Nat) (hH : H = W.heap.size) {ops : Array Oper} {rest : List Oper} {o : Oper} {a : Act} {Q : Exit → Act → World → Prop}
    (hg : o.guard = none) (s x : Operand) (t : TypeId) (hop : o.op = Op.call { callee := Callee.builtin Builtin.append, args := #[s, x], argTypes := #[t, t] })
    (e : TypeId) (z : Value) (size bytes : Nat) (he : Elem P t e z size bytes)
    (v : Value) (n : Nat) (xs : List Value) (hs : a.eval s = v) (hown : W.ownsRow 0 e size v n xs)
    (news : Array Value) (hx : a.eval x = .slice (some ⟨H, 0, none⟩) 1 1) (hn : news.size = size) (h1c : ∀ u ∈ news.toList, u.oneCell' = true)
    (b1 : n + 1 ≤ maxLen) (b2 : (n + 1) * bytes ≤ 140737488355328)
    (hK : ∀ g c w', w'.ownsRow 0 e size (.slice (some ⟨g, 0, none⟩) (n + 1) c) (n + 1) (xs ++ news.toList) → Fr (fun k => v.ownBlock = some k) W w' → (v.ownBlock = some g ∨ W.heap.size ≤ g) → wpList P ops Q rest (a.put o.dst (.slice (some ⟨g, 0, none⟩) (n + 1) c)) w') :
    wpList P ops Q (o :: rest) a (W.alloc (.cells news e)) := by
  subst hH
  exact wpList_append_one W hg s x t hop e z size bytes he v n xs hs hown news hx hn h1c b1 b2 hK
end Go.Proofs.YtdlcakmjihfgfaaDoor
