/-
  A map from int to int that a call has made: what it holds at each key; look-up and store. Condition: keys and what is stored are in range.
-/
import Derived.Test.YtggidhgifaekbaaDoorTyMem
import Derived.Maps.OwnOps
import Derived.Maps.Views
namespace Go.Proofs.YtggidhgifaekbaaDoor
open Go.RowKit Go.Maps

def wfI (n : Int) : Prop := (Lit.int .i64 n).wf = true
theorem wfI_of {n : Int} (h0 : -9223372036854775808 ≤ n) (h1 : n ≤ 9223372036854775807) : wfI n := WalkArith.wf_i64 (by omega)
theorem lawK : Keyed Tryd.prog 3 := int_keyed Tryd.underlying3
theorem zeroE (w : World) : (zeroValue 3).run Tryd.prog w = .ok (.int .i64 0) w := by kernel_rfl
/-- all numbers in a row of types are in range -/
def wfF (f : Fo) : Prop := allF wfI f
def MapOf (w : World) (b n : Nat) (p : Int → Int) : Prop :=
  ∃ D : DataW Unit, w.ownsMap Tryd.prog 3 (plainElem Tryd.prog 3) b n D ∧ IsMap D ∧ ∀ v, wfI v → D.atKey (.int .i64 v) (.lit (.int .i64 0)) = .lit (.int .i64 (p v))
theorem MapOf.made (w : World) : MapOf (w.alloc (.map #[] 0)) w.heap.size 0 (fun _ => 0) :=
  ⟨.map [], World.ownsMap_made _ _ _ _, ⟨_, rfl⟩, fun _ _ => rfl⟩
theorem MapOf.lt {w : World} {b n : Nat} {p : Int → Int} (h : MapOf w b n p) : b < w.heap.size := by
  obtain ⟨D, h, _⟩ := h
  exact h.lt
theorem MapOf.fr {w w' : World} {b n : Nat} {p : Int → Int} {S : Nat → Prop} (h : MapOf w b n p) (hf : Fr S w w') (hb : ¬ S b) : MapOf w' b n p := by
  have hlt := h.lt
  obtain ⟨D, ⟨es, clock, hh, F, hs, hD⟩, hm, ha⟩ := h
  exact ⟨D, ⟨es, clock, (hf.block b hlt hb).trans hh, F, hs, hD⟩, hm, ha⟩
theorem MapOf.stay {w w' : World} {b n : Nat} {p : Int → Int} (h : MapOf w b n p) (hq : Quiet0 w w') : MapOf w' b n p := h.fr hq (fun h => h)
theorem MapOf.cong {w : World} {b n : Nat} {p q : Int → Int} (h : MapOf w b n p) (he : ∀ v, wfI v → p v = q v) : MapOf w b n q := by
  obtain ⟨D, h1, h2, h3⟩ := h
  exact ⟨D, h1, h2, fun v hv => by rw [h3 v hv, he v hv]⟩
set_option maxRecDepth 100000 in
theorem MapOf.look {w : World} {b n : Nat} {p : Int → Int} (h : MapOf w b n p) {v : Int} (hv : wfI v) : (Instr.lookup 84 (.map (some b)) (.int .i64 v) false).run Tryd.prog w = .ok (.int .i64 (p v)) w := by
  obtain ⟨D, h1, h2, h3⟩ := h
  obtain ⟨c, hr, hc, _⟩ := h1.lookup_int lawK Tryd.underlying84 Tryd.underlying3 (zeroE _) (keyOf_int_mk Tryd.underlying3 hv)
  rw [h3 v hv] at hc
  injection hc with hc
  injection hc with _ hc
  rw [hc]; exact hr
theorem wpList_look (w : World) {ops : Array Oper} {rest : List Oper} {o : Oper} {a : Act} {Q : Exit → Act → World → Prop}
    (hg : o.guard = none) (m x : Operand) (hop : o.op = Op.lookup 84 m x false) {b n : Nat} {p : Int → Int} (hm : a.eval m = .map (some b)) (hown : MapOf w b n p) (v : Int) (hv : wfI v) (hx : a.eval x = .int .i64 v)
    (hK : wpList Tryd.prog ops Q rest (a.put o.dst (.int .i64 (p v))) w) : wpList Tryd.prog ops Q (o :: rest) a w := by
  obtain ⟨D, h1, h2, h3⟩ := hown
  refine wpList_lookup_own_int w hg m x 84 hop 3 3 .i64 lawK Tryd.underlying84 Tryd.underlying3 (zeroE _) b n D hm h1 _ (.int .i64 v) hx (keyOf_int_mk Tryd.underlying3 hv) ?_
  intro c hc _
  rw [h3 v hv] at hc
  injection hc with hc
  injection hc with _ hc
  rw [← hc]; exact hK
theorem wpList_store (w : World) {ops : Array Oper} {rest : List Oper} {o : Oper} {a : Act} {Q : Exit → Act → World → Prop}
    (hg : o.guard = none) (m x y : Operand) (hop : o.op = Op.mapUpdate 84 m x y) {b n : Nat} {p : Int → Int} (hm : a.eval m = .map (some b)) (hown : MapOf w b n p) (hn : n < maxLen) (v u : Int) (hv : wfI v) (hu : wfI u) (hx : a.eval x = .int .i64 v) (hy : a.eval y = .int .i64 u)
    (hK : ∀ w', MapOf w' b (n + 1) (fun k => if k = v then u else p k) → Fr (fun k => k = b) w w' → wpList Tryd.prog ops Q rest (a.put o.dst undef) w') : wpList Tryd.prog ops Q (o :: rest) a w := by
  obtain ⟨D, h1, h2, h3⟩ := hown
  refine wpList_mapUpdate_own w hg m x y 84 hop 3 3 lawK Tryd.underlying84 _ b n D hm h1 hn _ _ (.int .i64 v) hx hy (keyOf_int_mk Tryd.underlying3 hv) _ [] (plainElem_int Tryd.underlying3 hu) ?_
  intro w' hown' hgr
  refine hK w' ⟨_, hown', h2.put _ _, ?_⟩ (Fr.grown hgr (fun k hk => by cases hk; rfl))
  intro k hk
  by_cases he : k = v
  · subst he
    rw [atKey_put_same h2 (by trivial)]; simp
  · rw [atKey_put_other (by intro h; injection h with _ h; exact he h), h3 k hk]; simp [he]
end Go.Proofs.YtggidhgifaekbaaDoor
