/-
  A map from int to types that a call has made: what it holds at each key; look-up and store. Condition: keys are in range.
-/
import Derived.Test.YtggidhgifaekbaaDoorTyMap
import Derived.Maps.OwnSet
namespace Go.Proofs.YtggidhgifaekbaaDoor
open Go.RowKit Go.Maps

def heldR (v : Value) : Option (DataW Value × List MemPlace) := some (.held v, [])
def zeroT : Value := .agg #[.int .i64 0, .int .i64 0, .slice none 0 0]
theorem zeroTy (w : World) : (zeroValue 24).run Tryd.prog w = .ok zeroT w := by kernel_rfl
def MapT (w : World) (b n : Nat) (q : Int → Option Value) : Prop :=
  ∃ D : DataW Value, w.ownsMap Tryd.prog 3 heldR b n D ∧ IsMap D ∧ ∀ v, wfI v → has D (.int .i64 v) = (q v).isSome ∧ D.atKey (.int .i64 v) (.held zeroT) = .held ((q v).getD zeroT)
theorem MapT.made (w : World) : MapT (w.alloc (.map #[] 0)) w.heap.size 0 (fun _ => none) :=
  ⟨.map [], World.ownsMap_made _ _ _ _, ⟨_, rfl⟩, fun _ _ => ⟨rfl, rfl⟩⟩
theorem MapT.lt {w : World} {b n : Nat} {q : Int → Option Value} (h : MapT w b n q) : b < w.heap.size := by
  obtain ⟨D, h, _⟩ := h
  exact h.lt
theorem MapT.fr {w w' : World} {b n : Nat} {q : Int → Option Value} {S : Nat → Prop} (h : MapT w b n q) (hf : Fr S w w') (hb : ¬ S b) : MapT w' b n q := by
  have hlt := h.lt
  obtain ⟨D, ⟨es, clock, hh, F, hs, hD⟩, hm, ha⟩ := h
  exact ⟨D, ⟨es, clock, (hf.block b hlt hb).trans hh, F, hs, hD⟩, hm, ha⟩
theorem MapT.stay {w w' : World} {b n : Nat} {q : Int → Option Value} (h : MapT w b n q) (hq : Quiet0 w w') : MapT w' b n q := h.fr hq (fun h => h)
theorem wpList_lookT (w : World) {ops : Array Oper} {rest : List Oper} {o : Oper} {a : Act} {Q : Exit → Act → World → Prop}
    (hg : o.guard = none) (m x : Operand) (hop : o.op = Op.lookup 94 m x true) {b n : Nat} {q : Int → Option Value} (hm : a.eval m = .map (some b)) (hown : MapT w b n q) (v : Int) (hv : wfI v) (hx : a.eval x = .int .i64 v)
    (hK : wpList Tryd.prog ops Q rest (a.put o.dst (.tuple #[(q v).getD zeroT, .bool (q v).isSome])) w) : wpList Tryd.prog ops Q (o :: rest) a w := by
  obtain ⟨D, h1, h2, h3⟩ := hown
  refine wpList_lookup_own_ok w hg m x 94 hop 3 24 lawK Tryd.underlying94 heldR (zeroTy w) (.held zeroT) [] rfl b n D hm h1 _ (.int .i64 v) hx (keyOf_int_mk Tryd.underlying3 hv) ?_
  intro u ps hu
  rw [(h3 v hv).2] at hu
  unfold heldR at hu
  injection hu with hu
  injection hu with hu _
  injection hu with hu
  subst hu
  rw [(h3 v hv).1]; exact hK
theorem wpList_storeT (w : World) {ops : Array Oper} {rest : List Oper} {o : Oper} {a : Act} {Q : Exit → Act → World → Prop}
    (hg : o.guard = none) (m x y : Operand) (hop : o.op = Op.mapUpdate 94 m x y) {b n : Nat} {q : Int → Option Value} (hm : a.eval m = .map (some b)) (hown : MapT w b n q) (hn : n < maxLen) (v : Int) (u : Value) (hv : wfI v) (hx : a.eval x = .int .i64 v) (hy : a.eval y = u)
    (hK : ∀ w', MapT w' b (n + 1) (fun k => if k = v then some u else q k) → Fr (fun k => k = b) w w' → wpList Tryd.prog ops Q rest (a.put o.dst undef) w') : wpList Tryd.prog ops Q (o :: rest) a w := by
  obtain ⟨D, h1, h2, h3⟩ := hown
  refine wpList_mapUpdate_own w hg m x y 94 hop 3 24 lawK Tryd.underlying94 heldR b n D hm h1 hn _ _ (.int .i64 v) hx hy (keyOf_int_mk Tryd.underlying3 hv) (.held u) [] rfl ?_
  intro w' hown' hgr
  refine hK w' ⟨_, hown', h2.put _ _, ?_⟩ (Fr.grown hgr (fun k hk => by cases hk; rfl))
  intro k hk
  by_cases he : k = v
  · subst he
    rw [has_put_same h2 (by trivial), atKey_put_same h2 (by trivial)]; simp
  · have hne : (Lit.int .i64 k) ≠ .int .i64 v := by intro h; injection h with _ h; exact he h
    rw [has_put_other hne, atKey_put_other hne, (h3 k hk).1, (h3 k hk).2]; simp [he]
end Go.Proofs.YtggidhgifaekbaaDoor
