/-
  Texts laid together (SuSolved, TyMapI, Step, SuSize, TyPrint, SuAwake, SuSize2, SuGreat): what each one proves, and its conditions, stands at its head.
-/
import Derived.Deep.DeepCutAuto
import Derived.Test.YtggidhgifaekbaaDoorMA1
import Derived.Test.YtggidhgifaekbaaDoorMA2
import Derived.Test.YtggidhgifaekbaaDoorMA3
import Derived.Test.YtggidhgifaekbaaDoorMA4
import Derived.Test.YtggidhgifaekbaaDoorMA5
import Derived.Test.YtggidhgifaekbaaDoorMA6
import Derived.Test.YtggidhgifaekbaaDoorMA7
/-
  The program's Solved. Conditions: the binds lie in memory as told; their numbers are in range; they are few and small.
-/
namespace Go.Proofs.YtggidhgifaekbaaDoor
open Go.RowKit Go.Maps

theorem eg_sol11 : ∀ args w, (callFunc 101 args).run Tryd.prog w = .ok (.enter 101 args) w := enters_of Tryd.func101 (by kernel_rfl) rfl
theorem eg_sol1 : ∀ args w, (callFunc 100 args).run Tryd.prog w = .ok (.enter 100 args) w := enters_of Tryd.func100 (by kernel_rfl) rfl
set_option maxHeartbeats 2000000 in
set_option maxRecDepth 100000 in
theorem sol11_any (l : List Bd) (w0 : World) (cs b m : Nat) (q : Int → Option Value) (h1 : Box1 w0 cs (.map (some b)) 94) (h2 : MapT w0 b m q) (h3 : TabAt w0 q (findB l)) (L : List Int) (hL : ∀ v ∈ L, wfI v) :
    PredI 101 #[.pointer (some ⟨cs, 0, none⟩)] w0 L (hasB l) := by
  intro v hv W hq
  have HC := Lib.hid ((h1.fr hq (fun h => h)))
  have c0 := cell_of_one HC.out
  have HM := Lib.hid (h2.stay hq)
  have HV := Lib.hid (hL v hv)
  have ht := h3 v
  clear h1 h2 h3 hv hL hq
  cases hf : findB l v with
  | none =>
    rw [hf] at ht
    have hh : hasB l v = false := findB_none.1 hf
    rw [hh]
    have hqn : q v = none := ht
    clear ht hf hh
    go_enter Tryd.func101, Tryd.ntmps101
    go_wp2_with (at_lookup; go_must (refine lookT_none _ rfl _ _ rfl rfl HM.out v HV.out hqn rfl ?_))
    go_wp2_with fail
    go_ret
    exact ⟨rfl, Quiet0.alloc _ _⟩
  | some t =>
    rw [hf] at ht
    have hh : hasB l v = true := by
      cases hh : hasB l v
      · rw [findB_none.2 hh] at hf; cases hf
      · rfl
    rw [hh]
    obtain ⟨uo, ul, uc, hqn, _⟩ := ht
    generalize t.2.1 = uk at *
    generalize t.2.2.1 = un at *
    unfold tyv at hqn
    clear hf hh
    go_enter Tryd.func101, Tryd.ntmps101
    go_wp2_with (at_lookup; go_must (refine lookT_some _ rfl _ _ rfl rfl HM.out v HV.out hqn rfl ?_))
    go_wp2_with fail
    go_ret
    exact ⟨rfl, Quiet0.alloc _ _⟩
set_option maxHeartbeats 2000000 in
set_option maxRecDepth 100000 in
theorem sol1_any (l : List Bd) (w0 : World) (cs b m : Nat) (q : Int → Option Value) (h1 : Box1 w0 cs (.map (some b)) 94) (h2 : MapT w0 b m q) (h3 : TabAt w0 q (findB l)) (F : List Bd) (hF : ∀ t ∈ F, t.2.2.2.size ≤ 1000 ∧ wfI t.2.2.1 ∧ wfF t.2.2.2) :
    PredB 100 #[.pointer (some ⟨cs, 0, none⟩)] w0 F (solvedP l) := by
  intro t ht W o len cap hq hs
  show Calls _ _ _ W fun e W' => e = .returned (.bool (solvedP l t)) ∧ Quiet0 W W'
  obtain ⟨hz, hn, hw⟩ := hF t ht
  unfold solvedP bdv
  obtain ⟨L, hL⟩ : ∃ L, L = Fo.vars [] (.cons t.2.1 t.2.2.1 t.2.2.2 .nil) := ⟨_, rfl⟩
  have hll : L.length ≤ 2000 := by rw [hL]; have := vars_len (.cons t.2.1 t.2.2.1 t.2.2.2 .nil) []; simp only [Fo.size, List.length_nil] at this; omega
  have HWL : Hid (∀ v ∈ L, wfI v) := by intro v; rw [hL]; exact vars_all (G := wfI) (.cons t.2.1 t.2.2.1 t.2.2.2 .nil) [] (fun v h => by cases h) ⟨hn, hw, trivial⟩ v
  have HV1 : Hid (∀ W' b, Quiet0 W W' → W'.heap[b]? = some (.cells #[.int .i64 t.2.1, .int .i64 t.2.2.1, .slice o len cap] 24 (0, 0)) → Calls Tryd.prog 36 #[.slice (some ⟨b, 0, none⟩) 1 1] W' fun e w' => ∃ a c, e = .returned (.slice a L.length c) ∧ IntsAt w' a L ∧ Quiet0 W' w') := by
    intro W' b hq' hb
    refine (vars_any (.cons t.2.1 t.2.2.1 t.2.2.2 .nil) _ _ 1 1 (slc1 hb (hs.stay hq')) ⟨hn, hw, trivial⟩ (by simp only [Fo.size]; omega)).mono ?_
    rintro e w' ⟨vo, rfl, hr, h2⟩
    obtain ⟨a, c, rfl, h1⟩ := ownsInts_v hr.1
    rw [← hL] at h1
    rw [← hL]
    exact ⟨a, c, rfl, h1, h2⟩
  rw [← hL]
  have HCF := Lib.hid (fun (W' : World) (h : Quiet0 W W') a c (hi : IntsAt W' a L) => containsI_any 101 #[.pointer (some ⟨cs, 0, none⟩)] (hasB l) eg_sol11 L a c W' hi (sol11_any l W' cs b m q ((h1.fr hq (fun h => h)).fr h (fun h => h)) (h2.stay (hq.trans h)) (h3.stay (hq.trans h)) L HWL.out) (by omega))
  generalize L.any (hasB l) = r at *
  generalize t.1 = v at *
  generalize t.2.1 = k at *
  generalize t.2.2.1 = n at *
  clear hs ht hq h1 h2 h3 hF hz hn hw hL
  go_enter Tryd.func100, Tryd.ntmps100
  obtain ⟨W0, hW0⟩ : ∃ W0, W0 = W.alloc (.cells #[.int .i64 v, .int .i64 k, .int .i64 n, .slice o len cap] 91) := ⟨_, rfl⟩
  have HB : Hid (W0.heap[W.heap.size]? = some (.cells #[.int .i64 v, .int .i64 k, .int .i64 n, .slice o len cap] 91 (0, 0))) := by rw [hW0]; exact heap_alloc_new _ _
  have HQ0 : Hid (Quiet0 W W0) := by rw [hW0]; exact Quiet0.alloc _ _
  have a0 : W0.cell? ⟨W.heap.size, 1, none⟩ = some (.int .i64 k) := by rw [cell_of_row _ _ _ _ _ (0, 0) HB.out]; rfl
  have a1 : W0.cell? ⟨W.heap.size, 2, none⟩ = some (.int .i64 n) := by rw [cell_of_row _ _ _ _ _ (0, 0) HB.out]; rfl
  have a2 : W0.cell? ⟨W.heap.size, 3, none⟩ = some (.slice o len cap) := by rw [cell_of_row _ _ _ _ _ (0, 0) HB.out]; rfl
  generalize hB : W.heap.size = B at *
  go_upto_region 1 with fail
  rw [← hW0]
  clear hW0 hB
  go_wp2_with fail
  refine (HV1.out _ _ (HQ0.out.trans (Quiet0.alloc _ _)) (heap_alloc_new _ _)).mono ?_; rintro e w1 ⟨va, vc, rfl, hi, hq1⟩
  have HQ1 := Lib.hid ((HQ0.out.trans (Quiet0.alloc _ _)).trans hq1)
  have HI := Lib.hid hi
  clear hq1 hi a0 a1 a2
  go_wp2_with fail
  refine (HCF.out _ HQ1.out _ _ HI.out).mono ?_; rintro e w2 ⟨rfl, hq2⟩
  go_wp2_with fail
  go_ret
  exact ⟨rfl, HQ1.out.trans hq2⟩
set_option maxHeartbeats 2000000 in
set_option maxRecDepth 100000 in
theorem suSolved_any (l : List Bd) (w : World) (o : Option Addr) (cap : Nat) (hs : BindsAt w o l) (hw : ∀ t ∈ l, wfI t.1) (hz : l.length ≤ 100000) (hl : ∀ t ∈ l, t.2.2.2.size ≤ 1000 ∧ wfI t.2.2.1 ∧ wfF t.2.2.2) :
    Calls Tryd.prog 58 #[.slice o l.length cap] w fun e w' => e = .returned (.bool (solvedB l)) ∧ Quiet0 w w' := by
  have HT := Lib.hid (table_any l w o cap hs hw hz)
  have HC := Lib.hid (fun (W : World) (h : Quiet0 w W) => count_any l W o cap (hs.stay h) hw hz)
  have HF : Hid (∀ t ∈ firstB l, t.2.2.2.size ≤ 1000 ∧ wfI t.2.2.1 ∧ wfF t.2.2.2) := fun t ht => by
    rcases first_sub l [] t ht with h | h
    · simp at h
    · exact hl t h
  have hfz : (firstB l).length ≤ 100000 := by have := first_len l []; simp at this; unfold firstB; omega
  unfold solvedB
  have HCF := Lib.hid (fun (W W' : World) (cs b m : Nat) (q : Int → Option Value) (h1 : Box1 W cs (.map (some b)) 94) (h2 : MapT W b m q) (h3 : TabAt W q (findB l)) (hq : Quiet0 W W') (a : Option Addr) (c : Nat) (hb : BindsAt W' a (firstB l)) =>
    containsB_any 100 #[.pointer (some ⟨cs, 0, none⟩)] (solvedP l) eg_sol1 (firstB l) a c W' hb (sol1_any l W' cs b m q (h1.fr hq (fun h => h)) (h2.stay hq) (h3.stay hq) (firstB l) HF.out) (by omega))
  generalize (firstB l).any (solvedP l) = r at *
  generalize firstB l = F at *
  clear hs hw hl
  go_enter Tryd.func58, Tryd.ntmps58
  go_wp2_with fail
  refine HT.out.mono ?_; rintro e w1 ⟨b, m, q, rfl, hb, hm, ht, hq⟩
  have HM := Lib.hid (hm.stay (Quiet0.alloc w1 (.cells #[.map (some b)] 94)))
  have HTA := Lib.hid (ht.stay (Quiet0.alloc w1 (.cells #[.map (some b)] 94)))
  have HB := Lib.hid (Box1.new w1 (.map (some b)) 94)
  have HQ := Lib.hid (hq.trans (Quiet0.alloc w1 (.cells #[.map (some b)] 94)))
  clear hb hm ht hq
  go_wp2_with fail
  refine (HC.out _ HQ.out).mono ?_; rintro e w2 ⟨a, c, rfl, hbs, hq2⟩
  have HQ2 := Lib.hid hq2
  have HBS := Lib.hid hbs
  clear hq2 hbs
  go_wp2_with fail
  refine (HCF.out _ _ _ b m q HB.out HM.out HTA.out HQ2.out a c HBS.out).mono ?_; rintro e w3 ⟨rfl, hq3⟩
  go_wp2_with fail
  go_ret
  exact ⟨rfl, (HQ.out.trans HQ2.out).trans hq3⟩
end Go.Proofs.YtggidhgifaekbaaDoor
/-
  A map from int to int that a call has made, asked with 'is it there': what it holds at each key; look-up and store. Condition: keys are in range.
-/
namespace Go.Proofs.YtggidhgifaekbaaDoor
open Go.RowKit Go.Maps

def MapI (w : World) (b n : Nat) (q : Int → Option Int) : Prop :=
  ∃ D : DataW Value, w.ownsMap Tryd.prog 3 heldR b n D ∧ IsMap D ∧ ∀ v, wfI v → has D (.int .i64 v) = (q v).isSome ∧ D.atKey (.int .i64 v) (.held (.int .i64 0)) = .held (.int .i64 ((q v).getD 0))
theorem MapI.made (w : World) : MapI (w.alloc (.map #[] 0)) w.heap.size 0 (fun _ => none) :=
  ⟨.map [], World.ownsMap_made _ _ _ _, ⟨_, rfl⟩, fun _ _ => ⟨rfl, rfl⟩⟩
theorem MapI.lt {w : World} {b n : Nat} {q : Int → Option Int} (h : MapI w b n q) : b < w.heap.size := by
  obtain ⟨D, h, _⟩ := h
  exact h.lt
theorem MapI.fr {w w' : World} {b n : Nat} {q : Int → Option Int} {S : Nat → Prop} (h : MapI w b n q) (hf : Fr S w w') (hb : ¬ S b) : MapI w' b n q := by
  have hlt := h.lt
  obtain ⟨D, ⟨es, clock, hh, F, hs, hD⟩, hm, ha⟩ := h
  exact ⟨D, ⟨es, clock, (hf.block b hlt hb).trans hh, F, hs, hD⟩, hm, ha⟩
theorem MapI.stay {w w' : World} {b n : Nat} {q : Int → Option Int} (h : MapI w b n q) (hq : Quiet0 w w') : MapI w' b n q := h.fr hq (fun h => h)
theorem MapI.cong {w : World} {b n : Nat} {p q : Int → Option Int} (h : MapI w b n p) (he : ∀ v, p v = q v) : MapI w b n q := by
  obtain ⟨D, h1, h2, h3⟩ := h
  exact ⟨D, h1, h2, fun v hv => by rw [← he v]; exact h3 v hv⟩
theorem MapI.isMap {w : World} {b n : Nat} {q : Int → Option Int} (h : MapI w b n q) : ∃ es c, w.heap[b]? = some (.map es c) := by
  obtain ⟨D, ⟨es, c, h, _⟩, _⟩ := h
  exact ⟨es, c, h⟩
theorem wpList_lookI (w : World) {ops : Array Oper} {rest : List Oper} {o : Oper} {a : Act} {Q : Exit → Act → World → Prop}
    (hg : o.guard = none) (m x : Operand) (hop : o.op = Op.lookup 84 m x true) {b n : Nat} {q : Int → Option Int} (hm : a.eval m = .map (some b)) (hown : MapI w b n q) (v : Int) (hv : wfI v) (hx : a.eval x = .int .i64 v)
    (hK : wpList Tryd.prog ops Q rest (a.put o.dst (.tuple #[.int .i64 ((q v).getD 0), .bool (q v).isSome])) w) : wpList Tryd.prog ops Q (o :: rest) a w := by
  obtain ⟨D, h1, h2, h3⟩ := hown
  refine wpList_lookup_own_ok w hg m x 84 hop 3 3 lawK Tryd.underlying84 heldR (zeroE w) (.held (.int .i64 0)) [] rfl b n D hm h1 _ (.int .i64 v) hx (keyOf_int_mk Tryd.underlying3 hv) ?_
  intro u ps hu
  rw [(h3 v hv).2] at hu
  unfold heldR at hu
  injection hu with hu
  injection hu with hu _
  injection hu with hu
  subst hu
  rw [(h3 v hv).1]; exact hK
theorem lookI_some (w : World) {ops : Array Oper} {rest : List Oper} {o : Oper} {a : Act} {Q : Exit → Act → World → Prop}
    (hg : o.guard = none) (m x : Operand) (hop : o.op = Op.lookup 84 m x true) {b n : Nat} {q : Int → Option Int} (hm : a.eval m = .map (some b)) (hown : MapI w b n q) (v : Int) (hv : wfI v) {u : Int} (hq : q v = some u) (hx : a.eval x = .int .i64 v)
    (hK : wpList Tryd.prog ops Q rest (a.put o.dst (.tuple #[.int .i64 u, .bool true])) w) : wpList Tryd.prog ops Q (o :: rest) a w :=
  wpList_lookI w hg m x hop hm hown v hv hx (by rw [hq]; exact hK)
theorem lookI_none (w : World) {ops : Array Oper} {rest : List Oper} {o : Oper} {a : Act} {Q : Exit → Act → World → Prop}
    (hg : o.guard = none) (m x : Operand) (hop : o.op = Op.lookup 84 m x true) {b n : Nat} {q : Int → Option Int} (hm : a.eval m = .map (some b)) (hown : MapI w b n q) (v : Int) (hv : wfI v) (hq : q v = none) (hx : a.eval x = .int .i64 v)
    (hK : wpList Tryd.prog ops Q rest (a.put o.dst (.tuple #[.int .i64 0, .bool false])) w) : wpList Tryd.prog ops Q (o :: rest) a w :=
  wpList_lookI w hg m x hop hm hown v hv hx (by rw [hq]; exact hK)
theorem wpList_storeI (w : World) {ops : Array Oper} {rest : List Oper} {o : Oper} {a : Act} {Q : Exit → Act → World → Prop}
    (hg : o.guard = none) (m x y : Operand) (hop : o.op = Op.mapUpdate 84 m x y) {b n : Nat} {q : Int → Option Int} (hm : a.eval m = .map (some b)) (hown : MapI w b n q) (hn : n < maxLen) (v u : Int) (hv : wfI v) (hx : a.eval x = .int .i64 v) (hy : a.eval y = .int .i64 u)
    (hK : ∀ w', MapI w' b (n + 1) (fun k => if k = v then some u else q k) → Fr (fun k => k = b) w w' → wpList Tryd.prog ops Q rest (a.put o.dst undef) w') : wpList Tryd.prog ops Q (o :: rest) a w := by
  obtain ⟨D, h1, h2, h3⟩ := hown
  refine wpList_mapUpdate_own w hg m x y 84 hop 3 3 lawK Tryd.underlying84 heldR b n D hm h1 hn _ _ (.int .i64 v) hx hy (keyOf_int_mk Tryd.underlying3 hv) (.held (.int .i64 u)) [] rfl ?_
  intro w' hown' hgr
  refine hK w' ⟨_, hown', h2.put _ _, ?_⟩ (Fr.grown hgr (fun k hk => by cases hk; rfl))
  intro k hk
  by_cases he : k = v
  · subst he
    rw [has_put_same h2 (by trivial), atKey_put_same h2 (by trivial)]; simp
  · have hne : (Lit.int .i64 k) ≠ .int .i64 v := by intro h; injection h with _ h; exact he h
    rw [has_put_other hne, atKey_put_other hne, (h3 k hk).1, (h3 k hk).2]; simp [he]
theorem MapI.store {w : World} {b n : Nat} {q : Int → Option Int} (h : MapI w b n q) (hn : n < maxLen) (v u : Int) (hv : wfI v) :
    ∃ w', (Instr.mapUpdate 84 (.map (some b)) (.int .i64 v) (.int .i64 u)).run Tryd.prog w = .ok () w' ∧ MapI w' b (n + 1) (fun k => if k = v then some u else q k) ∧ Fr (fun k => k = b) w w' := by
  obtain ⟨D, h1, h2, h3⟩ := h
  obtain ⟨w', hrun, hown', hgr⟩ := h1.update lawK Tryd.underlying84 hn (key := .int .i64 v) (val := .int .i64 u) (kl := .int .i64 v) (d := .held (.int .i64 u)) (ps := []) (keyOf_int_mk Tryd.underlying3 hv) rfl
  refine ⟨w', hrun, ⟨_, hown', h2.put _ _, ?_⟩, Fr.grown hgr (fun k hk => by cases hk; rfl)⟩
  intro k hk
  by_cases he : k = v
  · subst he
    rw [has_put_same h2 (by trivial), atKey_put_same h2 (by trivial)]; simp
  · have hne : (Lit.int .i64 k) ≠ .int .i64 v := by intro h; injection h with _ h; exact he h
    rw [has_put_other hne, atKey_put_other hne, (h3 k hk).1, (h3 k hk).2]; simp [he]
end Go.Proofs.YtggidhgifaekbaaDoor
/-
  A law at a plain region's list serves at a step of a region that draws its order. Condition: the operation is no guarded one.
-/
namespace Go.Proofs.YtggidhgifaekbaaDoor
open Go.RowKit

def Qn (K : Act → World → Prop) (e : Exit) (a : Act) (w : World) : Prop := match e with
  | .normal => K a w
  | _ => False
theorem Qn_out (K : Act → World → Prop) : ¬ LetsOut (Qn K) := fun ⟨_, _, h⟩ => h
theorem wp_of_Qn {P : Program} {o : Oper} {a : Act} {w : World} {K : Act → World → Prop} {Q : Exit → Act → World → Prop} {next : Act → World → Prop} (h : o.wp P a w next (Qn K)) : o.wp P a w next Q := by
  unfold Oper.wp at *
  generalize (execOp a.eval o).run P w = r at *
  cases r with
  | ok n w' =>
    cases n <;> simp only [Oper.upon] at h ⊢ <;>
      first
        | exact h
        | exact Calls.mono h (fun e w'' he => by cases e <;> first | exact he | exact he.elim | exact (Qn_out K he).elim)
        | exact Rows.mono h (fun _ _ he => he)
  | halt x w' => cases x <;> simp only [Oper.upon] at h ⊢ <;> exact h.elim
theorem step_of_list {P : Program} {ops : Array Oper} {o : Oper} {a : Act} {w : World} {K : Act → World → Prop} {Q : Exit → Act → World → Prop} {E : Prop}
    (hw : Region.wanted o (yielded ops a.tmps) = true) (h : wpList P ops (Qn K) [o] a w) : if Region.wanted o (yielded ops a.tmps) = true then Oper.wp P o a w K Q else E := by
  rw [if_pos hw]
  unfold wpList at h
  rw [if_pos hw] at h
  rcases h with h | ⟨_, h⟩
  · exact wp_of_Qn h
  · exact (Qn_out K h).elim
theorem of_nil {P : Program} {ops : Array Oper} {a : Act} {w : World} {K : Act → World → Prop} (h : K a w) : wpList P ops (Qn K) [] a w := h
end Go.Proofs.YtggidhgifaekbaaDoor
/-
  The program's size of what comes of a type. Conditions: what is in memory is as told; numbers are in range; what comes of it is small.
-/
namespace Go.Proofs.YtggidhgifaekbaaDoor
open Go.RowKit Go.Maps

/-- what the table of sizes holds -/
def szQ (l : List Bd) (v : Int) : Option Int := (findB l v).map (fun t => ((t.2.2.2.size + 1 : Nat) : Int))
theorem lookI_at (w : World) {ops : Array Oper} {rest : List Oper} {o : Oper} {a : Act} {Q : Exit → Act → World → Prop}
    (hg : o.guard = none) (m x : Operand) (hop : o.op = Op.lookup 84 m x true) {b n : Nat} {q : Int → Option Int} (hm : a.eval m = .map (some b)) (hown : MapI w b n q) (v : Int) (hv : wfI v) {d : Int} {is : Bool} (h1 : (q v).getD 0 = d) (h2 : (q v).isSome = is) (hx : a.eval x = .int .i64 v)
    (hK : wpList Tryd.prog ops Q rest (a.put o.dst (.tuple #[.int .i64 d, .bool is])) w) : wpList Tryd.prog ops Q (o :: rest) a w :=
  wpList_lookI w hg m x hop hm hown v hv hx (by rw [h1, h2]; exact hK)
def TSz (l : List Bd) (k n : Int) (ps : Fo) : Prop := ∀ (w : World) (o : Option Addr) (len cap b m : Nat), MapI w b m (szQ l) → Slc w o len ps → (sP l k n ps).size ≤ 100000000 → wfI n → wfF ps →
  Calls Tryd.prog 105 #[.map (some b), tyv k n o len cap] w fun e w' => e = .returned (.int .i64 (((sP l k n ps).size + 1 : Nat) : Int)) ∧ Quiet0 w w'
theorem size_cases (l : List Bd) (k n : Int) (ps : Fo) : ((k == 1) = true ∧ (szQ l n).isSome = true ∧ (szQ l n).getD 0 = (((sP l k n ps).size + 1 : Nat) : Int)) ∨
    (((szQ l n).isSome = false ∨ ((szQ l n).isSome = true ∧ (k == 1) = false)) ∧ sP l k n ps = substF l ps) := by
  unfold szQ sP hit
  cases hk : (k == 1)
  · right
    simp only [Bool.false_eq_true, if_false]
    cases hf : findB l n <;> simp
  · cases hf : findB l n
    · right; simp
    · left; simp
set_option maxHeartbeats 4000000 in
set_option maxRecDepth 100000 in
theorem sizeM_any (l : List Bd) (k n : Int) (ps : Fo) : TSz l k n ps := by
  refine Fo.ind' (T := TSz l) ?_ k n ps
  intro k n ps ih w o len cap b m hm hs hsz hn hw
  have HS := Lib.hid hs
  have IH := Lib.hid ih
  have HL := Lib.hid hs.1
  have hmx := hs.2.1
  unfold maxLen at hmx
  have HM := Lib.hid hm
  have HN := Lib.hid hn
  have HW := Lib.hid hw
  have hcs := size_cases l k n ps
  clear hs ih hm hn hw
  unfold tyv
  obtain ⟨W0, hW0⟩ : ∃ W0, W0 = w.alloc (.cells #[.int .i64 k, .int .i64 n, .slice o len cap] 24) := ⟨_, rfl⟩
  have HQ0 : Hid (Quiet0 w W0) := by rw [hW0]; exact Quiet0.alloc _ _
  have HBX : Hid (∀ W, Quiet0 W0 W → W.cell? ⟨w.heap.size, 0, none⟩ = some (.int .i64 k) ∧ W.cell? ⟨w.heap.size, 1, none⟩ = some (.int .i64 n) ∧ W.cell? ⟨w.heap.size, 2, none⟩ = some (.slice o len cap)) := by
    intro W h; rw [hW0] at h; exact box_cells w k n o len cap _ W h
  have HM0 := Lib.hid (HM.out.stay HQ0.out)
  obtain ⟨d, hd⟩ : ∃ d, (szQ l n).getD 0 = d := ⟨_, rfl⟩
  obtain ⟨is, his⟩ : ∃ is, (szQ l n).isSome = is := ⟨_, rfl⟩
  have HD := Lib.hid hd
  have HI := Lib.hid his
  rw [hd, his] at hcs
  rcases hcs with ⟨hk, rfl, hdd⟩ | ⟨hcs, hsp⟩
  · rw [← hdd]
    clear hd his hdd hsz
    go_enter Tryd.func105, Tryd.ntmps105
    go_upto_region 1 with fail
    rw [← hW0]
    clear hW0
    generalize hB : w.heap.size = B at *
    clear hB
    obtain ⟨a0, a1, a2⟩ := HBX.out W0 (Quiet0.refl _)
    go_wp2_with (at_lookup; go_must (refine lookI_at _ rfl _ _ rfl rfl HM0.out n HN.out HD.out HI.out rfl ?_))
    go_wp2_with fail
    go_ret
    exact ⟨rfl, HQ0.out⟩
  · rw [hsp]
    rw [hsp] at hsz
    have HRES := Lib.hid (rfl : (substF l ps).size = (substF l ps).size)
    obtain ⟨R, hR⟩ : ∃ R, R = (substF l ps).size := ⟨_, rfl⟩
    rw [← hR] at hsz ⊢
    have HR := Lib.hid hR
    clear hR HRES hsp hd his
    rcases hcs with rfl | ⟨rfl, hk⟩
    all_goals
      go_enter Tryd.func105, Tryd.ntmps105
      go_upto_region 1 with fail
      rw [← hW0]
      clear hW0
      generalize hB : w.heap.size = B at *
      clear hB
      obtain ⟨a0, a1, a2⟩ := HBX.out W0 (Quiet0.refl _)
      go_wp2_with (at_lookup; go_must (refine lookI_at _ rfl _ _ rfl rfl HM0.out n HN.out HD.out HI.out rfl ?_))
      go_wp2_with fail
      clear a0 a1 a2
      go_loopw [7, 27] (fun s t wr => ∃ (i m : Nat), t = .int .i64 i ∧ s = .int .i64 m ∧ i ≤ len ∧ m + (substF l (ps.drop i)).size = R + 1 ∧ Quiet0 W0 wr) (fun _ t _ => len - (intOf t).toNat)
      case atStart => exact ⟨0, 1, rfl, rfl, Nat.zero_le _, by rw [Fo.drop_zero]; have := HR.out; omega, Quiet0.refl _⟩
      case round =>
        obtain ⟨i, mm, rfl, rfl, hi, hmm, hq⟩ := hrel
        have HMM := Lib.hid hmm
        have HQ := Lib.hid hq
        clear hmm hq
        by_cases hlt : i < len
        · have hlt' : (i : Int) < len := by omega
          obtain ⟨b', off, k', n', qs, o', len', cap', rfl, hd, hg, e0, e1, e2, hs'⟩ := (HS.out.stay (HQ0.out.trans HQ.out)).nth hlt
          have hgw := allF_get ps i k' n' qs HW.out hg
          have hstep : mm + ((sP l k' n' qs).size + 1) + (substF l (ps.drop (i + 1))).size = R + 1 := by
            have := HMM.out; rw [hd, substF_cons] at this; simp only [Fo.size] at this; omega
          have HC := Lib.hid (IH.out i k' n' qs hg (wr.alloc (.cells #[.int .i64 k', .int .i64 n', .slice o' len' cap'] 24)) o' len' cap' b m (HM.out.stay ((HQ0.out.trans HQ.out).trans (Quiet0.alloc _ _))) (hs'.stay (Quiet0.alloc _ _)) (by omega) hgw.1 hgw.2)
          have hz : (sP l k' n' qs).size + 1 ≤ 100000001 := by omega
          have hmz : mm ≤ 100000001 := by omega
          have HST := Lib.hid hstep
          unfold tyv at HC
          generalize (sP l k' n' qs).size + 1 = z at *
          have hmin1 : (mm : Int) + z < 1099511627776 := by omega
          have hmin2 : ¬ (1099511627776 : Int) < (mm : Int) + z := by omega
          have hmin3 : ¬ (1099511627776 : Int) ≤ (mm : Int) + z := by omega
          clear hd hg hs' hgw hstep
          go_wp2_with fail
          refine HC.out.mono ?_; rintro e w1 ⟨rfl, hq1⟩
          have HQ1 := Lib.hid ((HQ.out.trans (Quiet0.alloc _ _)).trans hq1)
          clear hq1
          go_wp2_with fail
          go_roundw
          case rel => exact ⟨i + 1, mm + z, by go_num, by first | go_num | (simp; omega), by omega, HST.out, HQ1.out⟩
          case measure => simp [intOf]; omega
        · have hlt' : ¬ (i : Int) < len := by omega
          go_wp2_with fail
          go_ret
          refine ⟨ret_int (a := (mm : Nat)) ?_, HQ0.out.trans HQ.out⟩
          have := HMM.out
          rw [Fo.drop_end ps i (by have := HL.out; omega)] at this
          simp only [substF, Fo.size] at this
          omega
end Go.Proofs.YtggidhgifaekbaaDoor
/-
  types.Print. Conditions: as TyText's.
-/
namespace Go.Proofs.YtggidhgifaekbaaDoor
open Go.RowKit

def printT (k n : Int) (ps : Fo) : List UInt8 := if rightT k n ps then txt k n ps.texts else []
set_option maxHeartbeats 1000000 in
theorem print_of (k n : Int) (ps : Fo) (HTX : TText k n ps) (w : World) (o : Option Addr) (len cap : Nat) (hs : Slc w o len ps) (hsz : ps.size ≤ 1000) (ht : Pow10 w) :
    Calls Tryd.prog 17 #[tyv k n o len cap] w fun e w' => e = .returned (.string (tb (printT k n ps))) ∧ Quiet0 w w' := by
  have HS := Lib.hid hs
  have HT := Lib.hid ht
  have HX := Lib.hid HTX
  obtain ⟨W0, hW0⟩ : ∃ W0, W0 = w.alloc (.cells #[.int .i64 k, .int .i64 n, .slice o len cap] 24) := ⟨_, rfl⟩
  have hq0 : Quiet0 w W0 := by rw [hW0]; exact Quiet0.alloc _ _
  have HQ0 := Lib.hid hq0
  have HR := Lib.hid (right_any k n ps W0 o len cap (hs.stay hq0))
  obtain ⟨a0, a1, a2⟩ := box_cells w k n o len cap 24 W0 (by rw [hW0]; exact Quiet0.refl _)
  clear hs ht HTX hq0
  unfold printT
  cases hr : rightT k n ps
  · rw [hr] at HR
    have e : tb (if false = true then txt k n ps.texts else []) = ⟨#[]⟩ := rfl
    rw [e]
    unfold tyv at *
    go_enter Tryd.func17, Tryd.ntmps17
    go_wp2_with fail
    rw [← hW0]
    refine HR.out.mono ?_; rintro e w1 ⟨rfl, hq1⟩
    have HQ1 := Lib.hid hq1
    clear hq1
    go_wp2_with fail
    go_ret
    exact ⟨rfl, HQ0.out.trans HQ1.out⟩
  · have hp : Fo.plain k n ps.length = true ∧ ps.right = true := by
      simpa [rightT] using hr
    have HP := Lib.hid hp
    rw [hr] at HR
    have e : (if true = true then txt k n ps.texts else []) = txt k n ps.texts := rfl
    rw [e]
    have HX2 : Hid (∀ W, Quiet0 w W → Calls Tryd.prog 70 #[tyv k n o len cap] W fun e w' => e = .returned (.string (tb (txt k n ps.texts))) ∧ Quiet0 W w') :=
      fun W hq => HX.out W o len cap (HS.out.stay hq) HP.out.1 HP.out.2 hsz (HT.out.stay hq)
    generalize tb (txt k n ps.texts) = s at *
    unfold tyv at *
    clear hp e
    go_enter Tryd.func17, Tryd.ntmps17
    go_wp2_with fail
    rw [← hW0]
    refine HR.out.mono ?_; rintro e w1 ⟨rfl, hq1⟩
    have HQ1 := Lib.hid hq1
    have b0 := hq1.at a0
    have b1 := hq1.at a1
    have b2 := hq1.at a2
    clear hq1
    go_wp2_with fail
    refine (HX2.out _ (HQ0.out.trans HQ1.out)).mono ?_; rintro e w2 ⟨rfl, hq2⟩
    go_wp2_with fail
    go_ret
    exact ⟨rfl, (HQ0.out.trans HQ1.out).trans hq2⟩
theorem print_any (k n : Int) (ps : Fo) (w : World) (o : Option Addr) (len cap : Nat) (hs : Slc w o len ps) (hsz : ps.size ≤ 1000) (ht : Pow10 w) :
    Calls Tryd.prog 17 #[tyv k n o len cap] w fun e w' => e = .returned (.string (tb (printT k n ps))) ∧ Quiet0 w w' :=
  print_of k n ps (text_any k n ps) w o len cap hs hsz ht
end Go.Proofs.YtggidhgifaekbaaDoor
/-
  The program's Apply; the document's example of chapter 10. Conditions: what is in memory is as told.
-/
namespace Go.Proofs.YtggidhgifaekbaaDoor
open Go.RowKit Go.Maps

theorem Quiet0.fr {S : Nat → Prop} {w w' : World} (h : Quiet0 w w') : Fr S w w' := h.mono (fun _ _ h => h.elim)
theorem with_frq {S : Nat → Prop} {w0 W w3 : World} {G : Prop} (h : Fr S w0 W) (hq : Quiet0 W w3) (k : Fr S w0 w3 → G) : G := k (h.trans hq.fr)
set_option maxHeartbeats 4000000 in
set_option maxRecDepth 100000 in
theorem applyT_any (l : List Bd) (k n : Int) (ps : Fo) (w : World) (o : Option Addr) (cap : Nat) (ot : Option Addr) (lent capt : Nat) (hs : BindsAt w o l) (hst : Slc w ot lent ps) (hw : ∀ t ∈ l, wfI t.1) (hz : l.length ≤ 100000) (hl : ∀ t ∈ l, t.2.2.2.size ≤ 1000000)
    (hsz : ps.size ≤ 1000000) (hn : wfI n) (hwf : wfF ps) (k' n' : Int) (ps' : Fo) (e1 : sK l k n = k') (e2 : sN l k n = n') (e3 : sP l k n ps = ps') :
    Calls Tryd.prog 57 #[.slice o l.length cap, .agg #[.int .i64 k, .int .i64 n, .slice ot lent capt]] w fun e w' => ∃ o' len' cap', e = .returned (.agg #[.int .i64 k', .int .i64 n', .slice o' len' cap']) ∧ SlcIn (fun b => w.heap.size ≤ b) w' o' len' ps' ∧ Quiet0 w w' := by
  have HT := Lib.hid (fun (W : World) (hq : Quiet0 w W) => table_any l W o cap (hs.stay hq) hw hz)
  have HA : Hid (∀ W b m q, Quiet0 w W → MapT W b m q → TabAt W q (findB l) → Calls Tryd.prog 88 #[.map (some b), .agg #[.int .i64 k, .int .i64 n, .slice ot lent capt]] W fun e w' => ∃ o' len' cap', e = .returned (.agg #[.int .i64 k', .int .i64 n', .slice o' len' cap']) ∧ SlcIn (fun b => W.heap.size ≤ b) w' o' len' ps' ∧ Quiet0 W w') := by
    intro W b m q hq hm ht
    subst e1 e2 e3
    refine (apply_any l hl k n ps W ot lent capt b m q hm ht (hst.stay hq) hsz hn hwf).mono ?_
    rintro e w' ⟨o', len', cap', rfl, h1, h2⟩
    exact ⟨o', len', cap', rfl, h1, h2⟩
  clear hs hst hw hl hn hwf e1 e2 e3
  obtain ⟨W1, hW1⟩ : ∃ W1, W1 = (w.alloc (.cells #[.int .i64 k, .int .i64 n, .slice ot lent capt] 24)).alloc (.cells #[.int .i64 0, .int .i64 0, .slice none 0 0] 24) := ⟨_, rfl⟩
  have HQ1 : Hid (Quiet0 w W1) := by rw [hW1]; exact (Quiet0.alloc _ _).trans (Quiet0.alloc _ _)
  have HB0 : Hid (W1.heap[w.heap.size]? = some (.cells #[.int .i64 k, .int .i64 n, .slice ot lent capt] 24 (0, 0))) := by rw [hW1]; exact box_after (heap_alloc_new w _) (Quiet0.alloc _ _)
  have HB1 : Hid (W1.heap[w.heap.size + 1]? = some (.cells #[.int .i64 0, .int .i64 0, .slice none 0 0] 24 (0, 0))) := by
    rw [hW1, show w.heap.size + 1 = (w.alloc (.cells #[.int .i64 k, .int .i64 n, .slice ot lent capt] 24)).heap.size from by simp]; exact heap_alloc_new _ _
  go_enter Tryd.func57, Tryd.ntmps57
  go_upto_region 1 with fail
  rw [← hW1]
  clear hW1
  generalize hB : w.heap.size = B at *
  have HBE := Lib.hid hB
  clear hB
  have hqc := Quiet0.refl W1
  have HBC : Hid (∀ w', Fr (fun j => B < j) W1 w' → w'.cell? ⟨B, 0, none⟩ = some (.int .i64 k) ∧ w'.cell? ⟨B, 1, none⟩ = some (.int .i64 n) ∧ w'.cell? ⟨B, 2, none⟩ = some (.slice ot lent capt)) := by
    intro w' h
    have hb : w'.heap[B]? = some (.cells #[.int .i64 k, .int .i64 n, .slice ot lent capt] 24 (0, 0)) := by rw [h.block B (lt_of_block HB0.out) (fun h => by omega)]; exact HB0.out
    obtain ⟨a0, a1, a2, _⟩ := box_cells3 hb
    exact ⟨a0, a1, a2⟩
  obtain ⟨a0, a1, a2⟩ := HBC.out W1 (Fr.refl _ _)
  go_region_held3 (fun w' => w'.cell? ⟨B, 0, none⟩ = some (.int .i64 k) ∧ w'.cell? ⟨B, 1, none⟩ = some (.int .i64 n) ∧ w'.cell? ⟨B, 2, none⟩ = some (.slice ot lent capt))
    (((refine HBC.out _ ?_); (repeat (first | with_reducible exact HFR | with_reducible exact Quiet0.fr hqc | with_reducible exact Fr.refl _ _ | with_reducible refine Fr.trans ?_ (Fr.alloc _ _ _) | with_reducible refine Fr.trans ?_ (Fr.drew _ _) | ((with_reducible refine Fr.trans ?_ (Fr.setCell _ _ _ _ ?hsd)); (case hsd => (simp <;> omega))) | fail))))
    (first
      | (go_at_call 85; (with_reducible refine Calls.mono (HT.out _ (HQ1.out.trans ?hq)) ?_); (case hq => (repeat (first | with_reducible exact hqc | with_reducible exact Quiet0.refl _ | with_reducible refine Quiet0.trans ?_ (Quiet0.alloc _ _) | with_reducible refine Quiet0.trans ?_ (Quiet0.drew _) | fail))); rintro e wx ⟨b, m, q, rfl, hb, hm, ht, hqx⟩; (refine with_q (w0 := W1) ?hq2 hqx ?_); (case hq2 => (repeat (first | with_reducible exact hqc | with_reducible exact Quiet0.refl _ | with_reducible refine Quiet0.trans ?_ (Quiet0.alloc _ _) | with_reducible refine Quiet0.trans ?_ (Quiet0.drew _) | fail))); intro hqc)
      | (go_at_call 88; (with_reducible refine Calls.mono (HA.out _ _ _ _ (HQ1.out.trans ?hq) hm ht) ?_); (case hq => (repeat (first | with_reducible exact hqc | with_reducible exact Quiet0.refl _ | with_reducible refine Quiet0.trans ?_ (Quiet0.alloc _ _) | with_reducible refine Quiet0.trans ?_ (Quiet0.drew _) | fail))); rintro e wx ⟨oa, la, ca, rfl, hsa, hqx⟩; ((have HZ9 := Lib.hid hqc.size); (refine box_use (box_after HB1.out (hqc.trans hqx)) ?_; intro f0 f1 f2 y0 y1 y2 hzz)); (refine with_q (w0 := W1) ?hq2 hqx ?_); (case hq2 => (repeat (first | with_reducible exact hqc | with_reducible exact Quiet0.refl _ | with_reducible refine Quiet0.trans ?_ (Quiet0.alloc _ _) | with_reducible refine Quiet0.trans ?_ (Quiet0.drew _) | fail))); intro hqc)
      | fail)
  go_wp2_with fail
  have hf := put3_fr wx (B + 1) (.int .i64 k') (.int .i64 n') (.slice oa la ca)
  obtain ⟨g0, g1, g2⟩ := put3_cells (a := .int .i64 k') (b := .int .i64 n') (c := .slice oa la ca) hzz
  change bodyPost _ _ _ _ _ (put3 wx (B + 1) (.int .i64 k') (.int .i64 n') (.slice oa la ca))
  have hq1 := HQ1.out.size
  have hz1 := hqx.size
  have hz9 := HZ9.out
  have hz2 := hqc.size
  have hz3 : w.heap.size = B := HBE.out
  have hlb1 := lt_of_block HB1.out
  have HSA := Lib.hid hsa
  have HQC := Lib.hid hqc
  clear hsa hm ht hb
  generalize put3 wx (B + 1) (.int .i64 k') (.int .i64 n') (.slice oa la ca) = wf at *
  refine bodyPost_ret (by simp [results, Tryd.results57, go_sem, g0, g1, g2]; rfl) rfl ?_
  refine ⟨oa, la, ca, rfl, HSA.out.fr hf ?_, ?_⟩
  · intro j hj1 hj
    have hj' : _ ≤ j := hj
    exact ⟨by show w.heap.size ≤ j; omega, fun h => by have h' : j = B + 1 := h; omega⟩
  · exact Fr.trans' (HQ1.out.trans HQC.out) hf (fun i hi h => by have h' : i = B + 1 := h; omega)
set_option maxHeartbeats 4000000 in
set_option maxRecDepth 100000 in
theorem awake10_any (w : World) (ht : Pow10 w) : Calls Tryd.prog 40 #[] w fun e w' => e = .returned (.bool true) ∧ Quiet0 w w' := by
  have HT := Lib.hid ht
  have HV := Lib.hid (fun n => var_any n)
  clear ht
  obtain ⟨PA, hPA⟩ : ∃ PA : Fo, PA = .cons 1 0 .nil (.cons 1 1 .nil .nil) := ⟨_, rfl⟩
  obtain ⟨PR, hPR⟩ : ∃ PR : Fo, PR = .cons 2 0 .nil (.cons 1 1 .nil .nil) := ⟨_, rfl⟩
  have HA1 : Hid (∀ W b, W.heap[b]? = some (.cells #[.int .i64 1, .int .i64 0, .slice none 0 0, .int .i64 1, .int .i64 1, .slice none 0 0] 24 (0, 0)) → Calls Tryd.prog 20 #[.slice (some ⟨b, 0, none⟩) 2 2] W fun e w' => ∃ o' cap', e = .returned (.agg #[.int .i64 4, .int .i64 0, .slice o' 2 cap']) ∧ Slc w' o' 2 PA ∧ Quiet0 W w') := by
    intro W b hb; rw [hPA]
    refine (arrow2 W b 1 0 none 0 0 .nil 1 1 none 0 0 .nil hb (Slc.nil _ _) (Slc.nil _ _) (by simp [Fo.size])).mono ?_
    rintro e w' ⟨o', c', rfl, hs, hq⟩
    exact ⟨o', c', rfl, hs.slc, hq⟩
  have HAP : Hid (∀ W b o c, W.heap[b]? = some (.cells #[.int .i64 0, .int .i64 2, .int .i64 0, .slice none 0 0] 91 (0, 0)) → Slc W o 2 PA → Calls Tryd.prog 57 #[.slice (some ⟨b, 0, none⟩) 1 1, .agg #[.int .i64 4, .int .i64 0, .slice o 2 c]] W fun e w' => ∃ o' cap', e = .returned (.agg #[.int .i64 4, .int .i64 0, .slice o' 2 cap']) ∧ Slc w' o' 2 PR ∧ Quiet0 W w') := by
    intro W b o c hb hs
    have hbd : BindsAt W (some ⟨b, 0, none⟩) [(0, 2, 0, .nil)] := by
      intro i t ht
      match i, ht with
      | 0, ht =>
        simp at ht
        subst ht
        exact ⟨b, 0, none, 0, 0, rfl, by rw [cell_of_row _ _ _ _ _ (0, 0) hb]; rfl, by rw [cell_of_row _ _ _ _ _ (0, 0) hb]; rfl, by rw [cell_of_row _ _ _ _ _ (0, 0) hb]; rfl, by rw [cell_of_row _ _ _ _ _ (0, 0) hb]; rfl, Slc.nil _ _⟩
      | i + 1, ht => simp at ht
    have h := applyT_any [(0, 2, 0, .nil)] 4 0 PA W (some ⟨b, 0, none⟩) 1 o 2 c hbd hs (by intro t ht; simp at ht; subst ht; exact wfI_of (by omega) (by omega)) (by simp) (by intro t ht; simp at ht; subst ht; simp [Fo.size])
      (by rw [hPA]; simp [Fo.size]) (wfI_of (by omega) (by omega)) (by rw [hPA]; exact ⟨wfI_of (by omega) (by omega), trivial, wfI_of (by omega) (by omega), trivial, trivial⟩) 4 0 PR rfl rfl (by rw [hPA, hPR]; rfl)
    refine h.mono ?_
    rintro e w' ⟨o', l', c', rfl, h1, h2⟩
    have hl : l' = 2 := by have := h1.1; rw [hPR] at this; exact this
    subst hl
    exact ⟨o', c', rfl, h1.slc, h2⟩
  have HP : Hid (∀ W o cap, Slc W o 2 PR → Pow10 W → Calls Tryd.prog 17 #[.agg #[.int .i64 4, .int .i64 0, .slice o 2 cap]] W fun e w' => e = .returned (.string ⟨#[105, 110, 116, 32, 45, 62, 32, 39, 98]⟩) ∧ Quiet0 W w') := by
    intro W o cap hs hp
    have h := print_any 4 0 PR W o 2 cap hs (by rw [hPR]; simp [Fo.size]) hp
    have e : tb (printT 4 0 PR) = ⟨#[105, 110, 116, 32, 45, 62, 32, 39, 98]⟩ := by rw [hPR]; rfl
    rw [e] at h; exact h
  clear hPA hPR
  unfold tyv at *
  go_enter Tryd.func40, Tryd.ntmps40
  go_wp2_with fail
  generalize hB : w.heap.size = B at *
  obtain ⟨W0, hW0⟩ : ∃ W0, W0 = w.alloc (.cells #[.int .i64 0, .int .i64 2, .int .i64 0, .slice none 0 0] 91) := ⟨_, rfl⟩
  have HB : Hid (W0.heap[B]? = some (.cells #[.int .i64 0, .int .i64 2, .int .i64 0, .slice none 0 0] 91 (0, 0))) := by rw [hW0, ← hB]; exact heap_alloc_new _ _
  have HQ0 : Hid (Quiet0 w W0) := by rw [hW0]; exact Quiet0.alloc _ _
  rw [← hW0]
  clear hW0 hB
  refine (HV.out 0 _).mono ?_; rintro e w1 ⟨rfl, hq1⟩
  have HQ1 := Lib.hid hq1
  clear hq1
  go_wp2_with fail
  refine (HV.out 1 _).mono ?_; rintro e w2 ⟨rfl, hq2⟩
  have HQ2 := Lib.hid (HQ1.out.trans hq2)
  clear hq2
  go_wp2_with fail
  refine (HA1.out _ _ (heap_alloc_new _ _)).mono ?_; rintro e w3 ⟨oa, ca, rfl, hsa, hq3⟩
  have HQ3 := Lib.hid ((HQ2.out.trans (Quiet0.alloc _ _)).trans hq3)
  have HSA := Lib.hid hsa
  clear hq3 hsa
  go_wp2_with fail
  refine (HAP.out _ _ _ _ (blk_after HQ3.out HB.out) HSA.out).mono ?_; rintro e w4 ⟨or, cr, rfl, hsr, hq4⟩
  have HQ4 := Lib.hid (HQ3.out.trans hq4)
  have HSR := Lib.hid hsr
  clear hq4 hsr
  go_wp2_with fail
  refine (HP.out _ _ _ (HSR.out.stay (Quiet0.alloc _ _)) (HT.out.stay ((HQ0.out.trans HQ4.out).trans (Quiet0.alloc _ _)))).mono ?_; rintro e w5 ⟨rfl, hq5⟩
  go_wp2_with fail
  go_ret
  exact ⟨rfl, ((HQ0.out.trans HQ4.out).trans (Quiet0.alloc _ _)).trans hq5⟩
end Go.Proofs.YtggidhgifaekbaaDoor
/-
  The program's Size on a substitution and a type. Conditions: what is in memory is as told; numbers are in range; all is small.
-/
namespace Go.Proofs.YtggidhgifaekbaaDoor
open Go.RowKit Go.Maps

def szL (l : List Bd) (v : Int) : Option Int := (lastB l v).map (fun t => ((t.2.2.2.size + 1 : Nat) : Int))
set_option maxHeartbeats 4000000 in
set_option maxRecDepth 100000 in
theorem suSize_any (l : List Bd) (k n : Int) (ps : Fo) (w : World) (o : Option Addr) (cap : Nat) (ot : Option Addr) (lent capt : Nat) (hs : BindsAt w o l) (hst : Slc w ot lent ps) (hw : ∀ t ∈ l, wfI t.1) (hz : l.length ≤ 100000) (hl : ∀ t ∈ l, t.2.2.2.size ≤ 1000000)
    (hsz : (sP l k n ps).size ≤ 100000000) (hn : wfI n) (hwf : wfF ps) :
    Calls Tryd.prog 63 #[.slice o l.length cap, .agg #[.int .i64 k, .int .i64 n, .slice ot lent capt]] w fun e w' => e = .returned (.int .i64 (((sP l k n ps).size + 1 : Nat) : Int)) ∧ Quiet0 w w' := by
  have hmm := @run_makeMap Tryd.prog
  have HST := Lib.hid hst
  have HWF : Hid (∀ t ∈ firstB l, wfI t.1 ∧ t.2.2.2.size ≤ 1000000) := fun t ht => by
    rcases first_sub l [] t ht with h | h
    · simp at h
    · exact ⟨hw t h, hl t h⟩
  have hfl := first_len l []
  have hfl2 : (firstB l).length ≤ 100000 := by have h := hfl; simp at h; exact Nat.le_trans h hz
  have HLF : Hid (∀ v, szL (firstB l) v = szQ l v) := fun v => by
    have h : lastB (firstB l) v = findB l v := (last_first l [] (fun v => rfl) v).trans (first_find l v)
    unfold szL szQ
    rw [h]
  have HSZ := Lib.hid (fun (W : World) (bm m : Nat) (hm : MapI W bm m (szQ l)) (hs : Slc W ot lent ps) => sizeM_any l k n ps W ot lent capt bm m hm hs hsz hn hwf)
  obtain ⟨W1, hW1⟩ : ∃ W1, W1 = (w.alloc (.cells #[.int .i64 k, .int .i64 n, .slice ot lent capt] 24)).alloc (.map #[] 0) := ⟨_, rfl⟩
  have HQ1 : Hid (Quiet0 w W1) := by rw [hW1]; exact (Quiet0.alloc _ _).trans (Quiet0.alloc _ _)
  have HC := Lib.hid (count_any l W1 o cap (hs.stay HQ1.out) hw hz)
  have HB0 : Hid (W1.heap[w.heap.size]? = some (.cells #[.int .i64 k, .int .i64 n, .slice ot lent capt] 24 (0, 0))) := by rw [hW1]; exact box_after (heap_alloc_new w _) (Quiet0.alloc _ _)
  have HM1 : Hid (MapI W1 (w.heap.size + 1) 0 (fun _ => none)) := by
    rw [hW1, show w.heap.size + 1 = (w.alloc (.cells #[.int .i64 k, .int .i64 n, .slice ot lent capt] 24)).heap.size from by simp]; exact MapI.made _
  obtain ⟨RES, hRES⟩ : ∃ RES, RES = (((sP l k n ps).size + 1 : Nat) : Int) := ⟨_, rfl⟩
  unfold tyv at HSZ
  rw [← hRES] at HSZ ⊢
  clear hs hst hw hl hn hwf hfl hsz hRES
  generalize hQL : szQ l = QL at *
  generalize hFB : firstB l = F at *
  clear hQL hFB
  go_enter Tryd.func63, Tryd.ntmps63
  go_wp2_with fail
  rw [← hW1]
  clear hW1
  generalize hB : w.heap.size = B at *
  have HBE := Lib.hid hB
  clear hB
  refine HC.out.mono ?_; rintro e w2 ⟨a, c, rfl, hb, hq2⟩
  have HBS := Lib.hid hb
  have HM2 := Lib.hid (HM1.out.stay hq2)
  have HF2 : Hid (Fr (fun j => j = B + 1) W1 w2) := Quiet0.fr hq2
  clear hb hq2
  go_wp2_with fail
  go_loopw [12] (fun t wr => ∃ (i : Nat), t = .int .i64 i ∧ i ≤ F.length ∧ MapI wr (B + 1) i (szL (F.take i)) ∧ BindsAt wr a F ∧ Fr (fun j => j = B + 1) W1 wr) (fun t _ => F.length - (intOf t).toNat)
  case atStart => exact ⟨0, rfl, Nat.zero_le _, HM2.out.cong (fun v => rfl), HBS.out, HF2.out⟩
  case round =>
    obtain ⟨i, rfl, hi, hm, hb, hf⟩ := hrel
    have HM := Lib.hid hm
    have HBW := Lib.hid hb
    have HF := Lib.hid hf
    have hblt := hm.lt
    clear hm hb hf
    by_cases hlt : i < F.length
    · have hlt' : (i : Int) < F.length := by omega
      obtain ⟨t, ht⟩ : ∃ t, F[i]? = some t := ⟨_, List.getElem?_eq_getElem hlt⟩
      obtain ⟨b, off, o1, len1, cap1, rfl, e0, e1, e2, e3, hs1⟩ := HBW.out i t ht
      have HWT := Lib.hid (HWF.out t (List.mem_of_getElem? ht)).1
      have hz1 := (HWF.out t (List.mem_of_getElem? ht)).2
      have HTT : Hid (∀ x, szL (F.take (i + 1)) x = if x = t.1 then some ((t.2.2.2.size + 1 : Nat) : Int) else szL (F.take i) x) := by
        intro x
        unfold szL
        rw [List.take_add_one, ht]
        show Option.map _ (lastB (F.take i ++ [t]) x) = _
        rw [lastB_snoc]
        by_cases he : x = t.1 <;> simp [he]
      obtain ⟨v, kk, nn, pp⟩ := t
      simp only at e0 e1 e2 e3 hs1 HWT hz1 HTT
      obtain ⟨WB, hWB⟩ : ∃ WB, WB = wr.alloc (.cells #[.int .i64 v, .int .i64 kk, .int .i64 nn, .slice o1 len1 cap1] 91) := ⟨_, rfl⟩
      obtain ⟨BB, hBB⟩ : ∃ BB, BB = wr.heap.size := ⟨_, rfl⟩
      have hBB1 : B + 1 < BB := by rw [hBB]; exact hblt
      have HBX : Hid (WB.heap[BB]? = some (.cells #[.int .i64 v, .int .i64 kk, .int .i64 nn, .slice o1 len1 cap1] 91 (0, 0))) := by rw [hWB, hBB]; exact heap_alloc_new _ _
      have HQB : Hid (Quiet0 wr WB) := by rw [hWB]; exact Quiet0.alloc _ _
      have HBC : Hid (∀ w', Fr (fun j => j = B + 1) WB w' → w'.cell? ⟨BB, 0, none⟩ = some (.int .i64 v) ∧ w'.cell? ⟨BB, 1, none⟩ = some (.int .i64 kk) ∧ w'.cell? ⟨BB, 2, none⟩ = some (.int .i64 nn) ∧ w'.cell? ⟨BB, 3, none⟩ = some (.slice o1 len1 cap1)) := by
        intro w' h
        have hb : w'.heap[BB]? = some (.cells #[.int .i64 v, .int .i64 kk, .int .i64 nn, .slice o1 len1 cap1] 91 (0, 0)) := by rw [h.block BB (lt_of_block HBX.out) (fun h => by have h' : BB = B + 1 := h; omega)]; exact HBX.out
        refine ⟨?_, ?_, ?_, ?_⟩ <;> (rw [cell_of_row _ _ _ _ _ (0, 0) hb]; rfl)
      have HMA := Lib.hid (fun (W : World) (h : Quiet0 WB W) => HM.out.stay (HQB.out.trans h))
      have HZC := Lib.hid (fun (W : World) (h : Quiet0 WB W) => size_any kk nn pp W o1 len1 cap1 (hs1.stay (HQB.out.trans h)) hz1)
      unfold tyv at HZC
      generalize hz2 : ((pp.size + 1 : Nat) : Int) = z at *
      have hminz : min 1099511627776 z = z := by omega
      have hzb : 0 ≤ z ∧ z ≤ 1000001 := by omega
      obtain ⟨hzb0, hzb1⟩ := hzb
      have hmin1 : z < 1099511627776 := by omega
      have hmin2 : ¬ (1099511627776 : Int) < z := by omega
      have hmin3 : ¬ (1099511627776 : Int) ≤ z := by omega
      have HZW : Hid (wfI z) := wfI_of (by omega) (by omega)
      clear ht hs1 hz1 hz2
      go_upto_region 5 with fail
      change Code.wp _ _ _ _ (wr.alloc (.cells #[.int .i64 v, .int .i64 kk, .int .i64 nn, .slice o1 len1 cap1] 91))
      rw [← hWB, ← hBB]
      clear hWB hBB
      have hqc := Quiet0.refl WB
      obtain ⟨c0, c1, c2, c3⟩ := HBC.out WB (Fr.refl _ _)
      clear e0 e1 e2 e3
      go_region_held3 (fun w' => w'.cell? ⟨BB, 0, none⟩ = some (.int .i64 v) ∧ w'.cell? ⟨BB, 1, none⟩ = some (.int .i64 kk) ∧ w'.cell? ⟨BB, 2, none⟩ = some (.int .i64 nn) ∧ w'.cell? ⟨BB, 3, none⟩ = some (.slice o1 len1 cap1))
        (((refine HBC.out _ ?_); (repeat (first | with_reducible exact HFR | with_reducible exact Quiet0.fr hqc | with_reducible exact Fr.refl _ _ | with_reducible refine Fr.trans ?_ (Fr.alloc _ _ _) | with_reducible refine Fr.trans ?_ (Fr.drew _ _) | ((with_reducible refine Fr.trans ?_ (Fr.setCell _ _ _ _ ?hsd)); (case hsd => (simp <;> omega))) | fail))))
        (first
          | (go_at_call 45; (with_reducible refine Calls.mono (HZC.out _ ?hq) ?_); (case hq => (repeat (first | with_reducible exact hqc | with_reducible exact Quiet0.refl _ | with_reducible refine Quiet0.trans ?_ (Quiet0.alloc _ _) | with_reducible refine Quiet0.trans ?_ (Quiet0.drew _) | fail))); rintro e wx ⟨rfl, hqx⟩; (obtain ⟨w3, hrun, hm3, hf3⟩ := (HMA.out _ ((Quiet0.drew _).trans hqx)).store (by unfold maxLen; omega) v z HWT.out; have HFR := Fr.trans (Quiet0.fr (S := fun j => j = B + 1) ((Quiet0.drew _).trans hqx)) hf3); (refine with_q (w0 := WB) ?hq2 hqx ?_); (case hq2 => (repeat (first | with_reducible exact hqc | with_reducible exact Quiet0.refl _ | with_reducible refine Quiet0.trans ?_ (Quiet0.alloc _ _) | with_reducible refine Quiet0.trans ?_ (Quiet0.drew _) | fail))); intro hqc)
          | fail)
      all_goals
        have HM3 : Hid (MapI w3 (B + 1) (i + 1) (szL (F.take (i + 1)))) := hm3.cong (fun x => by rw [HTT.out])
        have HF3 : Hid (Fr (fun j => j = B + 1) W1 w3) := (HF.out.trans HQB.out.fr).trans HFR
        have HB3 := Lib.hid ((HBW.out.stay (HQB.out.trans hqc)).other hf3 (.inr (HMA.out _ hqc).isMap))
        clear hm3 hf3 HFR
        go_wp2_with fail
        go_roundw
        case rel => exact ⟨i + 1, by go_num, by omega, HM3.out, HB3.out, HF3.out⟩
        case measure => simp [intOf]; omega
    · have hlt' : ¬ (i : Int) < F.length := by omega
      have htk : F.take i = F := List.take_of_length_le (by omega)
      have HMF : Hid (MapI wr (B + 1) i QL) := by
        have h := HM.out
        rw [htk] at h
        exact h.cong HLF.out
      have HQF : Hid (Quiet0 w wr) := Fr.trans' HQ1.out HF.out (fun j hj h => by have h' : j = B + 1 := h; have := HBE.out; omega)
      have hbx : wr.heap[B]? = some (.cells #[.int .i64 k, .int .i64 n, .slice ot lent capt] 24 (0, 0)) := by rw [HF.out.block B (lt_of_block HB0.out) (fun h => by have h' : B = B + 1 := h; omega)]; exact HB0.out
      obtain ⟨c0, c1, c2, _⟩ := box_cells3 hbx
      have HFIN := Lib.hid (HSZ.out wr (B + 1) i HMF.out (HST.out.stay HQF.out))
      clear htk hbx
      go_wp2_with fail
      refine HFIN.out.mono ?_; rintro e w3 ⟨rfl, hq3⟩
      go_wp2_with fail
      go_ret
      exact ⟨rfl, HQF.out.trans hq3⟩
end Go.Proofs.YtggidhgifaekbaaDoor
/-
  The laws' Great and Greats of chapter 10. Conditions: the rows lie in memory as told.
-/
namespace Go.Proofs.YtggidhgifaekbaaDoor
open Go.RowKit Go.Maps

def Few10 (l : List Bd) : Prop := l.length ≤ 24 ∧ ∀ t ∈ l, t.2.2.2.size ≤ 300
def FewEq (l : List Eqn) : Prop := l.length ≤ 60 ∧ ∀ t ∈ l, t.1.2.2.size ≤ 300 ∧ t.2.1.2.2.size ≤ 300
/-- a bool; if it is false, something is so -/
def BoolIf (P : Prop) (w : World) (e : Ending) (w' : World) : Prop := ∃ g : Bool, e = .returned (.bool g) ∧ (g = false → P) ∧ Quiet0 w w'
set_option maxHeartbeats 2000000 in
set_option maxRecDepth 100000 in
theorem great10_any (l : List Bd) (w : World) (o : Option Addr) (cap : Nat) (hs : BindsAt w o l) (hz : l.length ≤ 9223372036854775807) :
    Calls Tryd.prog 38 #[.slice o l.length cap] w (BoolIf (Few10 l) w) := by
  have HS := Lib.hid hs
  clear hs
  go_enter Tryd.func38, Tryd.ntmps38
  go_wp2_with fail
  go_loopw [2, 3, 4] (fun _ s t wr => ∃ (i : Nat) (n : Int), t = .int .i64 i ∧ s = .int .i64 n ∧ i ≤ l.length ∧ i ≤ 30 ∧ 0 ≤ n ∧ n ≤ 300 * i ∧ (∀ t ∈ l.take i, t.2.2.2.size ≤ 300) ∧ Quiet0 w wr) (fun _ _ t _ => 30 - (intOf t).toNat)
  case atStart => exact ⟨0, 0, rfl, rfl, Nat.zero_le _, by omega, by omega, by omega, (fun t h => by simp at h), Quiet0.refl _⟩
  case round =>
    obtain ⟨i, n, rfl, rfl, hi, hi2, hn0, hn1, hal, hq⟩ := hrel
    have HAL := Lib.hid hal
    have HQ := Lib.hid hq
    clear hal hq
    by_cases hlt : i < l.length
    · have hlt' : (i : Int) < l.length := by omega
      by_cases h30 : i < 30
      · have h30' : (i : Int) < 30 := by omega
        obtain ⟨t, ht⟩ : ∃ t, l[i]? = some t := ⟨_, List.getElem?_eq_getElem hlt⟩
        obtain ⟨b, off, o1, l1, c1, rfl, a0, a1, a2, a3, s1⟩ := HS.out.stay HQ.out i t ht
        have HGR := Lib.hid (great_any t.2.1 t.2.2.1 t.2.2.2 wr o1 l1 c1 s1)
        have HSZ := Lib.hid (fun (W : World) (hq : Quiet0 wr W) (hz : t.2.2.2.size ≤ 1000000) => refSize_any t.2.1 t.2.2.1 t.2.2.2 W o1 l1 c1 (s1.stay hq) hz)
        have HNT : Hid (t.2.2.2.size ≤ 300 → ∀ u ∈ l.take (i + 1), u.2.2.2.size ≤ 300) := by
          intro hz u hu
          rw [List.take_add_one, ht] at hu
          rcases List.mem_append.1 hu with h | h
          · exact HAL.out u h
          · have : u = t := by simpa using h
            rw [this]; exact hz
        unfold tyv at HGR HSZ
        cases hg : greatF t.2.2.2
        · have hgz := great_size hg
          have HSZ2 := Lib.hid (fun (W : World) (hq : Quiet0 wr W) => HSZ.out W hq (by omega))
          have hs0 : (0 : Int) ≤ ((t.2.2.2.size + 1 : Nat) : Int) := by omega
          have hs1 : ((t.2.2.2.size + 1 : Nat) : Int) ≤ 300 := by omega
          have HNT2 := Lib.hid (HNT.out (by omega))
          rw [hg] at HGR
          generalize ((t.2.2.2.size + 1 : Nat) : Int) = sz at *
          generalize t.2.1 = k1 at *
          generalize t.2.2.1 = n1 at *
          have hw : IntKind.i64.wrap (n + sz) = n + sz := IntWalk.i64_in _ (by omega)
          clear hg hgz ht HSZ HNT s1
          go_wp2_with fail
          refine HGR.out.mono ?_; rintro e w1 ⟨rfl, hq1⟩
          have HQ1 := Lib.hid hq1
          have b1 := hq1.at a1
          have b2 := hq1.at a2
          have b3 := hq1.at a3
          clear hq1 a0 a1 a2 a3
          go_wp2_with fail
          refine (HSZ2.out _ HQ1.out).mono ?_; rintro e w2 ⟨rfl, hq2⟩
          have HQ2 := Lib.hid ((HQ.out.trans HQ1.out).trans hq2)
          clear hq2 b1 b2 b3
          go_wp2_with fail
          go_roundw
          case rel => exact ⟨i + 1, n + sz, by go_num, rfl, by omega, by omega, by omega, by omega, HNT2.out, HQ2.out⟩
          case measure => simp [intOf]; omega
        · rw [hg] at HGR
          generalize t.2.1 = k1 at *
          generalize t.2.2.1 = n1 at *
          clear hg ht HSZ HNT s1
          go_wp2_with fail
          refine HGR.out.mono ?_; rintro e w1 ⟨rfl, hq1⟩
          have HQ1 := Lib.hid (HQ.out.trans hq1)
          clear hq1
          go_wp2_with fail
          go_ret
          exact ⟨true, rfl, (fun h => by cases h), HQ1.out⟩
      · have h30' : ¬ (i : Int) < 30 := by omega
        have h24 : (24 : Int) < l.length := by omega
        go_wp2_with fail
        go_ret
        exact ⟨true, rfl, (fun h => by cases h), HQ.out⟩
    · have hlt' : ¬ (i : Int) < l.length := by omega
      have hil : i = l.length := by omega
      have htk : l.take i = l := List.take_of_length_le (by omega)
      rw [htk] at HAL
      clear htk
      by_cases h24 : (24 : Int) < l.length
      · go_wp2_with fail
        go_ret
        exact ⟨true, rfl, (fun h => by cases h), HQ.out⟩
      · go_wp2_with fail
        go_ret
        exact ⟨_, rfl, (fun _ => ⟨by omega, HAL.out⟩), HQ.out⟩
set_option maxHeartbeats 4000000 in
set_option maxRecDepth 100000 in
theorem greats_any (l : List Eqn) (w : World) (o : Option Addr) (cap : Nat) (hs : EqsAt w o l) (hz : l.length ≤ 9223372036854775807) :
    Calls Tryd.prog 39 #[.slice o l.length cap] w (BoolIf (FewEq l) w) := by
  have HS := Lib.hid hs
  clear hs
  go_enter Tryd.func39, Tryd.ntmps39
  go_wp2_with fail
  go_loopw [2, 3, 4] (fun _ s t wr => ∃ (i : Nat) (n : Int), t = .int .i64 i ∧ s = .int .i64 n ∧ i ≤ l.length ∧ i ≤ 70 ∧ 0 ≤ n ∧ n ≤ 600 * i ∧ (∀ t ∈ l.take i, t.1.2.2.size ≤ 300 ∧ t.2.1.2.2.size ≤ 300) ∧ Quiet0 w wr) (fun _ _ t _ => 70 - (intOf t).toNat)
  case atStart => exact ⟨0, 0, rfl, rfl, Nat.zero_le _, by omega, by omega, by omega, (fun t h => by simp at h), Quiet0.refl _⟩
  case round =>
    obtain ⟨i, n, rfl, rfl, hi, hi2, hn0, hn1, hal, hq⟩ := hrel
    have HAL := Lib.hid hal
    have HQ := Lib.hid hq
    clear hal hq
    by_cases hlt : i < l.length
    · have hlt' : (i : Int) < l.length := by omega
      by_cases h30 : i < 70
      · have h30' : (i : Int) < 70 := by omega
        obtain ⟨t, ht⟩ : ∃ t, l[i]? = some t := ⟨_, List.getElem?_eq_getElem hlt⟩
        obtain ⟨b, off, o1, l1, c1, o2, l2, c2, rfl, a0, a1, a2, a3, a4, a5, a6, a7, s1, s2⟩ := HS.out.stay HQ.out i t ht
        have HGR := Lib.hid (great_any t.1.1 t.1.2.1 t.1.2.2 wr o1 l1 c1 s1)
        have HGR2 := Lib.hid (fun (W : World) (hq : Quiet0 wr W) => great_any t.2.1.1 t.2.1.2.1 t.2.1.2.2 W o2 l2 c2 (s2.stay hq))
        have HSZ := Lib.hid (fun (W : World) (hq : Quiet0 wr W) (hz : t.1.2.2.size ≤ 1000000) => refSize_any t.1.1 t.1.2.1 t.1.2.2 W o1 l1 c1 (s1.stay hq) hz)
        have HSZ2 := Lib.hid (fun (W : World) (hq : Quiet0 wr W) (hz : t.2.1.2.2.size ≤ 1000000) => refSize_any t.2.1.1 t.2.1.2.1 t.2.1.2.2 W o2 l2 c2 (s2.stay hq) hz)
        have HNT : Hid (t.1.2.2.size ≤ 300 → t.2.1.2.2.size ≤ 300 → ∀ u ∈ l.take (i + 1), u.1.2.2.size ≤ 300 ∧ u.2.1.2.2.size ≤ 300) := by
          intro hz hz2 u hu
          rw [List.take_add_one, ht] at hu
          rcases List.mem_append.1 hu with h | h
          · exact HAL.out u h
          · have : u = t := by simpa using h
            rw [this]; exact ⟨hz, hz2⟩
        unfold tyv at HGR HGR2 HSZ HSZ2
        rw [show off + i * 8 + 4 = off + i * 8 + 3 + 1 from rfl] at a4
        rw [show off + i * 8 + 5 = off + i * 8 + 3 + 2 from rfl] at a5
        clear a6 a7
        cases hg : greatF t.1.2.2
        · cases hg2 : greatF t.2.1.2.2
          · have hgz := great_size hg
            have hgz2 := great_size hg2
            have HZA := Lib.hid (fun (W : World) (hq : Quiet0 wr W) => HSZ.out W hq (by omega))
            have HZB := Lib.hid (fun (W : World) (hq : Quiet0 wr W) => HSZ2.out W hq (by omega))
            have hx0 : (0 : Int) ≤ ((t.1.2.2.size + 1 : Nat) : Int) := by omega
            have hx1 : ((t.1.2.2.size + 1 : Nat) : Int) ≤ 300 := by omega
            have hy0 : (0 : Int) ≤ ((t.2.1.2.2.size + 1 : Nat) : Int) := by omega
            have hy1 : ((t.2.1.2.2.size + 1 : Nat) : Int) ≤ 300 := by omega
            have HNT2 := Lib.hid (HNT.out (by omega) (by omega))
            rw [hg] at HGR
            rw [hg2] at HGR2
            generalize ((t.1.2.2.size + 1 : Nat) : Int) = sx at *
            generalize ((t.2.1.2.2.size + 1 : Nat) : Int) = sy at *
            generalize t.1.1 = k1 at *
            generalize t.1.2.1 = n1 at *
            generalize t.2.1.1 = k2 at *
            generalize t.2.1.2.1 = n2 at *
            have hw : IntKind.i64.wrap (n + sx) = n + sx := IntWalk.i64_in _ (by omega)
            have hw2 : IntKind.i64.wrap (n + sx + sy) = n + sx + sy := IntWalk.i64_in _ (by omega)
            clear hg hg2 hgz hgz2 ht HSZ HSZ2 HNT s1 s2
            go_wp2_with fail
            refine HGR.out.mono ?_; rintro e w1 ⟨rfl, hq1⟩
            have HQ1 := Lib.hid hq1
            have b0 := hq1.at a0
            have b1 := hq1.at a1
            have b2 := hq1.at a2
            have b3 := hq1.at a3
            have b4 := hq1.at a4
            have b5 := hq1.at a5
            clear hq1 a0 a1 a2 a3 a4 a5
            go_wp2_with fail
            refine (HGR2.out _ HQ1.out).mono ?_; rintro e w2 ⟨rfl, hq2⟩
            have HQ2 := Lib.hid (HQ1.out.trans hq2)
            have a0 := hq2.at b0
            have a1 := hq2.at b1
            have a2 := hq2.at b2
            have a3 := hq2.at b3
            have a4 := hq2.at b4
            have a5 := hq2.at b5
            clear hq2 b0 b1 b2 b3 b4 b5
            have HZA2 := Lib.hid (fun (W : World) (hq : Quiet0 w2 W) => HZA.out W (HQ2.out.trans hq))
            have HZB2 := Lib.hid (fun (W : World) (hq : Quiet0 w2 W) => HZB.out W (HQ2.out.trans hq))
            have HLB : Hid (∀ w', Quiet0 w2 w' → (w'.cell? ⟨b, off + i * 8, none⟩ = some (.int .i64 k1) ∧ w'.cell? ⟨b, off + i * 8 + 1, none⟩ = some (.int .i64 n1) ∧ w'.cell? ⟨b, off + i * 8 + 2, none⟩ = some (.slice o1 l1 c1)) ∧ w'.cell? ⟨b, off + i * 8 + 3, none⟩ = some (.int .i64 k2) ∧ w'.cell? ⟨b, off + i * 8 + 3 + 1, none⟩ = some (.int .i64 n2) ∧ w'.cell? ⟨b, off + i * 8 + 3 + 2, none⟩ = some (.slice o2 l2 c2)) := fun W h => ⟨⟨h.at a0, h.at a1, h.at a2⟩, h.at a3, h.at a4, h.at a5⟩
            have hqc := Quiet0.refl w2
            go_wp2_with fail
            go_region_held3 (fun w' => (w'.cell? ⟨b, off + i * 8, none⟩ = some (.int .i64 k1) ∧ w'.cell? ⟨b, off + i * 8 + 1, none⟩ = some (.int .i64 n1) ∧ w'.cell? ⟨b, off + i * 8 + 2, none⟩ = some (.slice o1 l1 c1)) ∧ w'.cell? ⟨b, off + i * 8 + 3, none⟩ = some (.int .i64 k2) ∧ w'.cell? ⟨b, off + i * 8 + 3 + 1, none⟩ = some (.int .i64 n2) ∧ w'.cell? ⟨b, off + i * 8 + 3 + 2, none⟩ = some (.slice o2 l2 c2))
              (((refine HLB.out _ ?_); (repeat (first | with_reducible exact hqc | with_reducible exact Quiet0.refl _ | with_reducible refine Quiet0.trans ?_ (Quiet0.alloc _ _) | with_reducible refine Quiet0.trans ?_ (Quiet0.drew _) | fail))))
              (first
                | (go_at_call 46; (with_reducible refine Calls.mono (HZA2.out _ ?hq) ?_); (case hq => (repeat (first | with_reducible exact hqc | with_reducible exact Quiet0.refl _ | with_reducible refine Quiet0.trans ?_ (Quiet0.alloc _ _) | with_reducible refine Quiet0.trans ?_ (Quiet0.drew _) | fail))); rintro e wx ⟨rfl, hqx⟩; (refine with_q (w0 := w2) ?hq2 hqx ?_); (case hq2 => (repeat (first | with_reducible exact hqc | with_reducible exact Quiet0.refl _ | with_reducible refine Quiet0.trans ?_ (Quiet0.alloc _ _) | with_reducible refine Quiet0.trans ?_ (Quiet0.drew _) | fail))); intro hqc)
                | (go_at_call 46; (with_reducible refine Calls.mono (HZB2.out _ ?hq) ?_); (case hq => (repeat (first | with_reducible exact hqc | with_reducible exact Quiet0.refl _ | with_reducible refine Quiet0.trans ?_ (Quiet0.alloc _ _) | with_reducible refine Quiet0.trans ?_ (Quiet0.drew _) | fail))); rintro e wx ⟨rfl, hqx⟩; (refine with_q (w0 := w2) ?hq2 hqx ?_); (case hq2 => (repeat (first | with_reducible exact hqc | with_reducible exact Quiet0.refl _ | with_reducible refine Quiet0.trans ?_ (Quiet0.alloc _ _) | with_reducible refine Quiet0.trans ?_ (Quiet0.drew _) | fail))); intro hqc)
                | fail)
            all_goals
              go_wp2_with fail
              go_roundw
              case rel => exact ⟨i + 1, n + sx + sy, by go_num, rfl, by omega, by omega, by omega, by omega, HNT2.out, (HQ.out.trans HQ2.out).trans hqc⟩
              case measure => simp [intOf]; omega
          · rw [hg] at HGR
            rw [hg2] at HGR2
            generalize t.1.1 = k1 at *
            generalize t.1.2.1 = n1 at *
            generalize t.2.1.1 = k2 at *
            generalize t.2.1.2.1 = n2 at *
            clear hg hg2 ht HSZ HSZ2 HNT s1 s2
            go_wp2_with fail
            refine HGR.out.mono ?_; rintro e w1 ⟨rfl, hq1⟩
            have HQ1 := Lib.hid hq1
            have b3 := hq1.at a3
            have b4 := hq1.at a4
            have b5 := hq1.at a5
            clear hq1
            go_wp2_with fail
            refine (HGR2.out _ HQ1.out).mono ?_; rintro e w2 ⟨rfl, hq2⟩
            have HQ2 := Lib.hid ((HQ.out.trans HQ1.out).trans hq2)
            clear hq2
            go_wp2_with fail
            go_ret
            exact ⟨true, rfl, (fun h => by cases h), HQ2.out⟩
        · rw [hg] at HGR
          generalize t.1.1 = k1 at *
          generalize t.1.2.1 = n1 at *
          clear hg ht HSZ HSZ2 HNT s1 s2
          go_wp2_with fail
          refine HGR.out.mono ?_; rintro e w1 ⟨rfl, hq1⟩
          have HQ1 := Lib.hid (HQ.out.trans hq1)
          clear hq1
          go_wp2_with fail
          go_ret
          exact ⟨true, rfl, (fun h => by cases h), HQ1.out⟩
      · have h30' : ¬ (i : Int) < 70 := by omega
        have h24 : (60 : Int) < l.length := by omega
        go_wp2_with fail
        go_ret
        exact ⟨true, rfl, (fun h => by cases h), HQ.out⟩
    · have hlt' : ¬ (i : Int) < l.length := by omega
      have hil : i = l.length := by omega
      have htk : l.take i = l := List.take_of_length_le (by omega)
      rw [htk] at HAL
      clear htk
      by_cases h24 : (60 : Int) < l.length
      · go_wp2_with fail
        go_ret
        exact ⟨true, rfl, (fun h => by cases h), HQ.out⟩
      · go_wp2_with fail
        go_ret
        exact ⟨_, rfl, (fun _ => ⟨by omega, HAL.out⟩), HQ.out⟩
end Go.Proofs.YtggidhgifaekbaaDoor
