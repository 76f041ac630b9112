/-
  The reference's Vars. Conditions: the type and the row lie in memory as told; they are small.
-/
import Derived.Test.YtggidhgifaekbaaDoorTyRefVars0
import Derived.Test.YtggidhgifaekbaaDoorTyAwake
namespace Go.Proofs.YtggidhgifaekbaaDoor
open Go.RowKit Go.Maps

/-- append of integers that lie somewhere to a row of the call's own (not nil) -/
theorem step_ints {ops : Array Oper} {o : Oper} {a : Act} {K : Act → World → Prop} {Q : Exit → Act → World → Prop} {E : Prop} (W : World)
    (hg : o.guard = none) (s x : Operand) (hop : o.op = Op.call { callee := Callee.builtin Builtin.append, args := #[s, x], argTypes := #[45, 45] })
    (v : Value) (xs : List Int) (hs : a.eval s = v) (hown : W.ownsRow 0 3 1 v xs.length (ints xs)) (va : Option Addr) (ys : List Int) (m c : Nat) (hm : m = ys.length) (hx : a.eval x = .slice va m c) (hat : IntsAt W va ys) (hb : xs.length + ys.length ≤ 1000000) (hne : v ≠ .slice none 0 0)
    (hK : ∀ v' w', w'.ownsRow 0 3 1 v' (xs ++ ys).length (ints (xs ++ ys)) → Fr (fun k => v.ownBlock = some k) W w' → (∀ g, v'.ownBlock = some g → v.ownBlock = some g ∨ g = W.heap.size) → v' ≠ .slice none 0 0 → K (a.put o.dst v') w') :
    if Region.wanted o (yielded ops a.tmps) = true then Oper.wp Tryd.prog o a W K Q else E := by
  subst hm
  rw [if_pos (by unfold Region.wanted; rw [hg])]
  by_cases h0 : ys = []
  · subst h0
    have hr := run_append_nothing W o.type v _ _ hown hne va c
    unfold Oper.wp execOp
    simp only [hop, resolve, invoke, builtin, Sem.run_bind, Sem.run_pure, Result.andThen_ok, List.map_toArray, List.map_cons, List.map_nil, hs, hx, List.length_nil, hr]
    exact hK v W (by simpa using hown) (Fr.refl _ _) (fun g h => .inl h) hne
  · obtain ⟨y, r, rfl⟩ := List.exists_cons_of_ne_nil h0
    obtain ⟨b, off, rfl, _⟩ := hat 0 y rfl
    obtain ⟨i0, hi, hz0, hz1, hz2⟩ := info_parts elemInt.info
    refine wp_append_lies (P := Tryd.prog) W s x 45 hop 0 3 i0 (.int .i64 0) 1 8 elemInt.under hi hz0 hz1 hz2 (by decide) (by decide) v xs.length (ints xs) hs hown ⟨b, off, none⟩ (y :: r).length c (ints (y :: r)) hx (by simp [ints]) ?_ (by unfold ints; intro u hu; obtain ⟨z, _, rfl⟩ := List.mem_map.1 hu; rfl) (by simp) (by unfold maxLen; omega) (by omega) (Nat.zero_le _) _ rfl ?_
    · intro j u hj
      unfold ints at hj
      rw [List.getElem?_map] at hj
      cases hz : (y :: r)[j]? with
      | none => rw [hz] at hj; cases hj
      | some z =>
        rw [hz] at hj
        cases hj
        obtain ⟨b', off', he, hc⟩ := hat j z hz
        cases he
        simpa [Addr.add_lit] using hc
    · intro g cap w' ho hgr hg' _
      refine hK _ w' ?_ (Fr.grown hgr (fun k hk => hk)) ?_ (by simp)
      · rw [List.length_append]; unfold ints at *; rw [List.map_append]; exact ho
      · intro g2 h2
        simp [Value.ownBlock] at h2
        subst h2
        exact hg'
theorem ints_one {W : World} {b : Nat} {n : Int} (h : W.heap[b]? = some (.cells #[.int .i64 n] 3 (0, 0))) : IntsAt W (some ⟨b, 0, none⟩) [n] := by
  intro i x hx
  cases i with
  | zero =>
    simp at hx
    subst hx
    exact ⟨b, 0, rfl, by rw [cell_of_row _ _ _ _ _ (0, 0) h]; rfl⟩
  | succ i => simp at hx
theorem blk_fr {S : Nat → Prop} {w W : World} {b : Nat} {o : Obj} (hf : Fr S w W) (hb : ¬ S b) (h : w.heap[b]? = some o) : W.heap[b]? = some o := by
  rw [hf.block b (Array.getElem?_eq_some_iff.1 h).1 hb]; exact h
theorem with_fr2 {w0 W w3 : World} {S : Nat → Prop} {G : Prop} (h : Quiet0 w0 W) (hf : Fr S W w3) (hS : ∀ k, S k → w0.heap.size ≤ k) (k : Quiet0 w0 w3 → w0.heap.size ≤ w3.heap.size → G) : G :=
  have hq : Quiet0 w0 w3 := Fr.trans' h hf (fun i hi hs => by have := hS i hs; omega)
  k hq hq.size
end Go.Proofs.YtggidhgifaekbaaDoor
