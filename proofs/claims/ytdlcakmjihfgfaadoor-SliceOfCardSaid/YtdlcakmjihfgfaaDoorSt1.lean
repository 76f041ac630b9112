/-
  Append of one element in a region that draws its order. Condition: the row is owned, its length stays in bounds.
-/
import Derived.Test.YtdlcakmjihfgfaaDoorMem2
import Derived.Deep.AppendLies
namespace Go.Proofs.YtdlcakmjihfgfaaDoor.St
open Go.RowKit

/-- append of one element, in a region that draws its order -/
theorem step_append_one {P : Program} (W : World) {ops : Array Oper} {o : Oper} {a : Act} {K : Act → World → Prop} {Q : Exit → Act → World → Prop} {E : Prop}
    (hg : o.guard = none) (s x : Operand) (t : TypeId) (hop : o.op = Op.call { callee := Callee.builtin Builtin.append, args := #[s, x], argTypes := #[t, t] })
    (e : TypeId) (z : Value) (size bytes : Nat) (he : Elem P t e z size bytes)
    (v : Value) (n : Nat) (xs : List Value) (hs : a.eval s = v) (hown : W.ownsRow 0 e size v n xs)
    (news : Array Value) (hx : a.eval x = .slice (some ⟨W.heap.size, 0, none⟩) 1 1) (hn : news.size = size) (h1c : ∀ u ∈ news.toList, u.oneCell' = true)
    (b1 : n + 1 ≤ maxLen) (b2 : (n + 1) * bytes ≤ 140737488355328)
    (hK : ∀ g c w', w'.ownsRow 0 e size (.slice (some ⟨g, 0, none⟩) (n + 1) c) (n + 1) (xs ++ news.toList) → Fr (fun k => v.ownBlock = some k) W w' → (v.ownBlock = some g ∨ W.heap.size ≤ g) → K (a.put o.dst (.slice (some ⟨g, 0, none⟩) (n + 1) c)) w') :
    if Region.wanted o (yielded ops a.tmps) = true then Oper.wp P o a (W.alloc (.cells news e)) K Q else E := by
  obtain ⟨i0, hi, hz0, hz1, hz2⟩ := info_parts he.info
  refine step_append_lies (w := W.alloc (.cells news e)) hg s x t hop 0 e i0 z size bytes he.under hi hz0 hz1 hz2 he.cells he.pos v n xs hs (hown.alloc _) ⟨W.heap.size, 0, none⟩ 1 1 news.toList hx (by simpa using hn) ?_ h1c (by omega) b1 b2 (Nat.zero_le _) _ rfl ?_
  · intro j u hu
    rw [Addr.add_lit, cell_of_row (W.alloc (.cells news e)) W.heap.size (0 + j) news e (0, 0) (heap_alloc_new W _)]
    simpa using hu
  · intro g cap w' ho hgr hg' _
    refine hK g cap w' ho ((Fr.alloc _ W _).trans (Fr.grown hgr (fun k hk => hk))) ?_
    rcases hg' with h | h
    · exact .inl h
    · exact .inr (by simp at h; omega)
end Go.Proofs.YtdlcakmjihfgfaaDoor.St
