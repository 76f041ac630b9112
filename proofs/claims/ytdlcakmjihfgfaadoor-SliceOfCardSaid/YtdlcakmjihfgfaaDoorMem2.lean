/-
  Append of one element to a row of the call's own. Conditions: the row is owned, its length stays in bounds.
-/
import Derived.Test.YtdlcakmjihfgfaaDoorMem
namespace Go.Proofs.YtdlcakmjihfgfaaDoor
open Go.RowKit

theorem Fr.cellb {S : Nat → Prop} {w w' : World} (h : Fr S w w') {b off : Nat} (hk : b < w.heap.size) (hs : ¬ S b) : w'.cell? ⟨b, off, none⟩ = w.cell? ⟨b, off, none⟩ := h.cell hk hs
/-- the facts on an element's type, as one -/
structure Elem (P : Program) (t e : TypeId) (z : Value) (size bytes : Nat) : Prop where
  under : P.underlying t = some (.slice e)
  info : (P.info? e).map (fun i => (i.zero, i.size, i.bytes)) = some (some z, size, bytes)
  cells : z.cells.size = size
  pos : 0 < size

/-- append of one element, which lies in a new block of its own, to a row of the call's own -/
theorem wpList_append_one {P : Program} (W : World) {ops : Array Oper} {rest : List Oper} {o : Oper} {a : Act} {Q : Exit → Act → World → Prop}
    (hg : o.guard = none) (s x : Operand) (t : TypeId) (hop : o.op = Op.call { callee := Callee.builtin Builtin.append, args := #[s, x], argTypes := #[t, t] })
    (e : TypeId) (z : Value) (size bytes : Nat) (he : Elem P t e z size bytes)
    (v : Value) (n : Nat) (xs : List Value) (hs : a.eval s = v) (hown : W.ownsRow 0 e size v n xs)
    (news : Array Value) (hx : a.eval x = .slice (some ⟨W.heap.size, 0, none⟩) 1 1) (hn : news.size = size) (h1c : ∀ u ∈ news.toList, u.oneCell' = true)
    (b1 : n + 1 ≤ maxLen) (b2 : (n + 1) * bytes ≤ 140737488355328)
    (hK : ∀ g c w', w'.ownsRow 0 e size (.slice (some ⟨g, 0, none⟩) (n + 1) c) (n + 1) (xs ++ news.toList) → Fr (fun k => v.ownBlock = some k) W w' → (v.ownBlock = some g ∨ W.heap.size ≤ g) → wpList P ops Q rest (a.put o.dst (.slice (some ⟨g, 0, none⟩) (n + 1) c)) w') :
    wpList P ops Q (o :: rest) a (W.alloc (.cells news e)) := by
  obtain ⟨i0, hi, hz0, hz1, hz2⟩ := info_parts he.info
  refine wpList_append_two (W.alloc (.cells news e)) hg s x t hop 0 e i0 z size bytes he.under hi hz0 hz1 hz2 he.cells he.pos v n xs hs (hown.alloc _) ⟨W.heap.size, 0, none⟩ 1 1 news.toList hx (by simpa using hn) ?_ h1c (by omega) b1 b2 (Nat.zero_le _) ?_
  · intro j u hu
    rw [Addr.add_lit, cell_of_row (W.alloc (.cells news e)) W.heap.size (0 + j) news e (0, 0) (heap_alloc_new W _)]
    simpa using hu
  · intro v' w' ho hgr hblk
    obtain ⟨k, hk, hk'⟩ := hblk
    rcases ho.2 with ⟨rfl, h0⟩ | ⟨g, cap, cur, rfl, _⟩
    · omega
    · simp [Value.ownBlock] at hk
      subst hk
      refine hK g cap w' ho ((Fr.alloc _ W _).trans (Fr.grown hgr (fun k hk => hk))) ?_
      rcases hk' with h | h
      · exact .inl h
      · exact .inr (by simp at h; omega)
end Go.Proofs.YtdlcakmjihfgfaaDoor

