/-
  Texts laid together (CnBr, ScAround, App, TeListN, ScList, ScRFree, TeOwn, ScWalk0): laws and walks, with their conditions in their statements.
-/
import Derived.Test.YtnfodiedalhlhaaDoorNA6
section
namespace Go.Proofs.YtnfodiedalhlhaaDoor
open Go.RowKit Go.Shelf
attribute [local go_sem] Oper.semAt_some
namespace Cn
theorem brings_drop {e : Env} {i : Nat} {x : ByteArray × Int} (h : e[i]? = some x) (s : ByteArray) : brings (e.drop i) s = if x.1 = s then x.2 else brings (e.drop (i + 1)) s := by
  obtain ⟨hk, hs⟩ := List.getElem?_eq_some_iff.1 h
  rw [List.drop_eq_getElem_cons hk, hs]; rfl
def BrI (e : Env) (s : ByteArray) (w : World) (i : Nat) (D : Nat → Prop) (W : World) : Prop :=
  (∀ j, D j ↔ j = w.heap.size + 1) ∧ W.heap[w.heap.size]? = some (.cells #[.string s] 9 (0, 0)) ∧ W.heap[w.heap.size + 1]? = some (.cells #[.int .i64 0] 3 (0, 0)) ∧ Quiet0 w W ∧ brings e s = brings (e.drop i) s
theorem BrI.fr {e : Env} {s : ByteArray} {w : World} {i : Nat} {D S : Nat → Prop} {W W' : World} (h : BrI e s w i D W) (hf : Fr S W W') (h1 : ¬ S w.heap.size) (h2 : ¬ S (w.heap.size + 1)) (h4 : ∀ k, k < w.heap.size → ¬ S k) : BrI e s w i D W' :=
  ⟨h.1, blk_fr hf h1 h.2.1, blk_fr hf h2 h.2.2.1, Fr.trans' h.2.2.2.1 hf (fun k hk hs => h4 k hk hs), h.2.2.2.2⟩
def BrX (e : Env) (s : ByteArray) (w : World) (W : World) : Prop := W.heap[w.heap.size + 1]? = some (.cells #[.int .i64 (brings e s)] 3 (0, 0)) ∧ Quiet0 w W
set_option maxHeartbeats 4000000 in
set_option maxRecDepth 100000 in
theorem brings_any (T : Nat → Prop) (e : Env) (s : ByteArray) (o : Option Addr) (n c : Nat) (w : World) (h : BnIn T w o n e) (hz : n ≤ 1000000) :
    Calls Tryd.prog 111 #[.slice o n c, .string s] w fun x w' => x = .returned (.int .i64 (brings e s)) ∧ Quiet0 w w' := by
  refine (callsIn_wide (n := 5)).1 ?_
  refine callsIn_of_wp_marks Tryd.func111 rfl trivial ?_ rfl
  simp only [Tryd.ntmps111, List.size_toArray, List.length_cons, List.length_nil, Nat.reduceAdd, Nat.reduceSub, Array.replicate_succ, Array.replicate_zero, List.push_toArray, List.append_toArray, List.nil_append, List.cons_append]
  have HC := fun W => (callsIn_wide (n := 4)).2 (back_call o n c W)
  gi_wp2_with (fail)
  refine ⟨trivial, (HC _).mono ?_⟩; rintro x W2' ⟨rfl, hW2⟩
  obtain ⟨W1, hW1⟩ : ∃ W1, W1 = (w.alloc (.cells #[.string s] 9)).alloc (.cells #[.int .i64 0] 3) := ⟨_, rfl⟩
  have hz1 : W1.heap.size = w.heap.size + 2 := by rw [hW1]; simp
  have hq1 : Quiet0 w W1 := by rw [hW1]; exact (Quiet0.alloc _ _).trans (Quiet0.alloc _ _)
  have hW2' : W2' = W1.alloc (.cells #[.slice o n c] 84) := by rw [hW1]; exact hW2
  have hb1 : W1.heap[w.heap.size]? = some (.cells #[.string s] 9 (0, 0)) := by
    rw [hW1, Below.heap_alloc _ _ _ (by simp)]; exact heap_alloc_new w _
  have hb2 : W1.heap[w.heap.size + 1]? = some (.cells #[.int .i64 0] 3 (0, 0)) := by
    rw [hW1]
    have := heap_alloc_new (w.alloc (.cells #[.string s] 9)) (.cells #[.int .i64 0] 3)
    simpa using this
  have hq12 : Quiet0 W1 W2' := by rw [hW2']; exact Quiet0.alloc _ _
  have hq2 : Quiet0 w W2' := hq1.trans hq12
  have htb : W2'.heap[W1.heap.size]? = some (.cells #[.slice o n c] 84 (0, 0)) := by rw [hW2']; exact heap_alloc_new W1 _
  have hz2 : W2'.heap.size = w.heap.size + 3 := by rw [hW2']; simp; omega
  have hseq := back_seq (5 - 1) (fun k => k < w.heap.size ∨ k = W1.heap.size) e o n c W1.heap.size W2' (fun k hk => by omega) htb (.inr rfl) ((h.mono (T' := fun k => k < w.heap.size ∨ k = W1.heap.size) (fun k hk _ => .inl hk)).stay hq2) hz
  rw [hz1] at hseq
  have HSEQ := Lib.hid hseq
  have HST : Hid (BrI e s w 0 (fun j => j = w.heap.size + 1) W2') := ⟨fun j => Iff.rfl, blk_after hq12 hb1, blk_after hq12 hb2, hq2, by simp⟩
  clear hW1 hW2 hW2' hq1 hb1 hq2 hb2 htb hseq HC hq12 h
  gi_wp2_with (fail)
  refine wpIn_range_c (w := W2') rfl (enters_of Tryd.func93 (by kernel_rfl) rfl) HSEQ.out (fun k hk => by omega) (Fr.refl _ _) (fun i x va W he => encB_size he)
    (BrI e s w)
    (fun i x a' D W => BrI e s w i D W ∧ ∃ (xb : Nat) (t9 t10 : Value), W.heap[xb]? = some (.cells #[.string x.1, .int .i64 x.2] 89 (0, 0)) ∧ xb ≠ W2'.heap.size + 1 ∧ a' = { tmps := #[.slice o n c, .string s, undef, .pointer (some ⟨w.heap.size, 0, none⟩), .pointer (some ⟨w.heap.size + 1, 0, none⟩), undef, .pointer (some ⟨xb, 0, none⟩), .slice o n c, .func (.func 93) #[] #[.pointer (some ⟨w.heap.size + 1 + 1, 0, none⟩)], t9, t10, undef, undef, undef, undef, undef, undef], defers := [] })
    (fun c W => c = .ret ∧ BrX e s w W) (fun k => k = w.heap.size + 1) ?own ?stay ?stayM ?stayX ?start ?assign ?body ?done ?stop
  case own =>
    rintro i D A ⟨hd, h1, h2, hq, hle⟩ k hk
    have e := (hd k).1 hk
    have hl := lt_of_block h2
    exact ⟨by omega, by omega, .inl (by omega)⟩
  case stay =>
    rintro i D A B hI hf
    exact hI.fr hf (fun h => by have := h.1; omega) (fun h => h.2 ((hI.1 _).2 rfl)) (fun k hk h => by have := h.1; omega)
  case stayM =>
    rintro i x a' D A B ⟨hI, xb, t9, t10, hxb, hne, ha⟩ hf
    exact ⟨hI.fr hf (by omega) (by omega) (fun k hk h => by omega), xb, t9, t10, blk_fr hf hne hxb, hne, ha⟩
  case stayX =>
    rintro c A B ⟨hc, hb2, hq⟩ hf
    exact ⟨hc, blk_fr hf (by omega) hb2, hq.trans' hf (fun k hk h => by omega)⟩
  case start => exact HST.out
  case assign =>
    rintro l i y va D W K hx hva hI hWs hK
    unfold EncB at hva
    subst hva
    have hq := Quiet0.alloc W (.cells #[.string y.1, .int .i64 y.2] 89)
    have hnew := heap_alloc_new W (.cells #[.string y.1, .int .i64 y.2] 89)
    have hne : W.heap.size ≠ W2'.heap.size + 1 := by omega
    have hI2 := hI.fr (S := fun _ => False) hq (fun h => h) (fun h => h) (fun _ _ h => h)
    clear hI hWs
    gi_wp2
    exact hK _ _ ⟨hI2, W.heap.size, .int .i64 ((n : Int) - 1 - i), .agg #[.string y.1, .int .i64 y.2], hnew, hne, by simp⟩ hq
  case body =>
    rintro l i y a' D W hx ⟨hI, xb, t9, t10, hxb, hne, rfl⟩ hW
    have a0 : W.cell? ⟨xb, 0, none⟩ = some (.string y.1) := by rw [cell_of_row _ _ _ _ _ (0, 0) hxb]; rfl
    have a1 : W.cell? ⟨xb, 1, none⟩ = some (.int .i64 y.2) := by rw [cell_of_row _ _ _ _ _ (0, 0) hxb]; rfl
    have ck := cell_of_one hI.2.1
    have hst := hI.2.2.2.2
    rw [brings_drop hx] at hst
    by_cases hik : y.1 = s
    · have hbe : (y.1.toList == s.toList) = true := by rw [hik]; simp
      rw [if_pos hik] at hst
      have HI := Lib.hid hI
      have HS := Lib.hid hst
      have cr := cell_of_one hI.2.2.1
      have zr := free_of_one hI.2.2.1
      clear hI hst hx hik hxb
      gi_wp2
      have hfs := Fr.setCell (fun k => k = w.heap.size + 1) W ⟨w.heap.size + 1, 0, none⟩ (.int .i64 y.2) rfl
      exact ⟨⟨rfl, by rw [HS.out]; exact one_setCell HI.out.2.2.1, HI.out.2.2.2.1.trans' hfs (fun k hk e => by omega)⟩, hfs.mono (fun k _ e => (HI.out.1 k).2 e)⟩
    · have hbe : (y.1.toList == s.toList) = false := by
        cases hx : (y.1.toList == s.toList)
        · rfl
        · exact absurd (Sc.str_eq.1 hx) hik
      rw [if_neg hik] at hst
      have HI := Lib.hid hI
      have HS := Lib.hid hst
      clear hI hst hx hik hxb
      gi_wp2
      exact ⟨D, ⟨HI.out.1, HI.out.2.1, HI.out.2.2.1, HI.out.2.2.2.1, HS.out⟩, Fr.refl _ _, fun k hk => .inl hk⟩
  case done =>
    rintro D W hI hdef
    have hst := hI.2.2.2.2
    rw [List.drop_length] at hst
    have HS : Hid (brings e s = 0) := hst
    have cr := cell_of_one hI.2.2.1
    have zr := free_of_one hI.2.2.1
    have HI := Lib.hid hI
    clear hI hst
    gi_wp2
    have hfs := Fr.setCell (fun k => k = w.heap.size + 1) W ⟨w.heap.size + 1, 0, none⟩ (.int .i64 0) rfl
    have hdef2 := blk_fr hfs (by omega) hdef
    refine ⟨by simp, .inl ⟨_, _, rfl, run_takeDeferred hdef2, ?_⟩⟩
    have hfp := Fr.putObj (fun k => k = W2'.heap.size) (W.setCell ⟨w.heap.size + 1, 0, none⟩ (.int .i64 0)) W2'.heap.size (.deferred none) rfl
    have cq := cell_of_one (blk_fr hfp (by omega) (one_setCell (u := .int .i64 0) HI.out.2.2.1))
    refine ⟨_, by simp [results, Tryd.results111, go_sem, cq]; rfl, by rw [HS.out], ?_⟩
    exact (HI.out.2.2.2.1.trans' hfs (fun k hk e => by omega)).trans' hfp (fun k hk e => by omega)
  case stop =>
    rintro c W ⟨rfl, hb2, hq⟩ hdef
    gi_wp2
    refine ⟨by simp, .inl ⟨_, _, rfl, run_takeDeferred hdef, ?_⟩⟩
    have hfp := Fr.putObj (fun k => k = W2'.heap.size) W W2'.heap.size (.deferred none) rfl
    have cr := cell_of_one (blk_fr hfp (by omega) hb2)
    refine ⟨_, by simp [results, Tryd.results111, go_sem, cr], rfl, ?_⟩
    exact hq.trans' hfp (fun k hk e => by omega)
end Cn
end Go.Proofs.YtnfodiedalhlhaaDoor
end
section
namespace Go.Proofs.YtnfodiedalhlhaaDoor
open Go.RowKit Go.Shelf
namespace Sc
theorem NmIn.str {T : Nat → Prop} {w : World} {o : Option Addr} {n : Nat} {e : List ByteArray} (h : NmIn T w o n e) : StrAt w o e.reverse := by
  intro j s hj
  have hl := (List.getElem?_eq_some_iff.1 hj).1
  obtain ⟨b, he, _, hc⟩ := h.2.2 (by have := h.1; simp at hl; omega)
  exact ⟨b, 0, he, by rw [Nat.zero_add]; exact hc j s hj⟩
theorem str_empty {w : World} {b : Nat} (h : w.heap[b]? = some (.cells #[] 9 (0, 0))) : w.ownsRow 0 9 1 (.slice (some ⟨b, 0, none⟩) 0 0) ([] : List ByteArray).length (strs []) :=
  ⟨rfl, .inr ⟨b, 0, #[], rfl, Nat.zero_le _, h, Nat.le_refl _, Nat.zero_le _, rfl, rfl⟩⟩
theorem str_nothing (w : World) (ty : TypeId) (v : Value) (n : Nat) (xs : List Value) (hown : w.ownsRow 0 9 1 v n xs) (hv : v ≠ .slice none 0 0) (o : Option Addr) (c : Nat) :
    (Builtin.append_ #[40, 40] ty #[v, .slice o 0 c]).run Tryd.prog w = .ok v w := by
  rcases hown.2 with ⟨rfl, _⟩ | ⟨g, cap, cur, rfl, _, hg, hc, hm, hs, _⟩
  · exact absurd rfl hv
  · obtain ⟨i0, hi, hz0, hz1, hz2⟩ := info_parts elemStr.info
    have hu := elemStr.under
    cases o <;> simp [Builtin.append_, run_underlying hu, sizeOf, typeInfo, hi, Builtin.lenOf, Builtin.firstCells, loadCells, loadCellsFrom, storeCells, hc]
theorem step_strs {ops : Array Oper} {o : Oper} {a : Act} {K : Act → World → Prop} {Q : Exit → Act → World → Prop} {E : Prop} (W : World)
    (hg : o.guard = none) (s x : Operand) (hop : o.op = Op.call { callee := Callee.builtin Builtin.append, args := #[s, x], argTypes := #[40, 40] })
    (v : Value) (xs : List ByteArray) (hs : a.eval s = v) (hown : W.ownsRow 0 9 1 v xs.length (strs xs)) (va : Option Addr) (ys : List ByteArray) (m c : Nat) (hm : m = ys.length) (hx : a.eval x = .slice va m c) (hat : StrAt W va ys) (hb : xs.length + ys.length ≤ 1000000) (hne : v ≠ .slice none 0 0)
    (hK : ∀ v' w', w'.ownsRow 0 9 1 v' (xs ++ ys).length (strs (xs ++ ys)) → Fr (fun k => v.ownBlock = some k) W w' → (∀ g, v'.ownBlock = some g → v.ownBlock = some g ∨ g = W.heap.size) → v' ≠ .slice none 0 0 → K (a.put o.dst v') w') :
    if Region.wanted o (yielded ops a.tmps) = true then Oper.wp Tryd.prog o a W K Q else E := by
  subst hm
  rw [if_pos (by unfold Region.wanted; rw [hg])]
  by_cases h0 : ys = []
  · subst h0
    have hr := str_nothing W o.type v _ _ hown hne va c
    unfold Oper.wp execOp
    simp only [hop, resolve, invoke, builtin, Sem.run_bind, Sem.run_pure, Result.andThen_ok, List.map_toArray, List.map_cons, List.map_nil, hs, hx, List.length_nil, hr]
    exact hK v W (by simpa using hown) (Fr.refl _ _) (fun g h => .inl h) hne
  · obtain ⟨y, r, rfl⟩ := List.exists_cons_of_ne_nil h0
    obtain ⟨b, off, rfl, _⟩ := hat 0 y rfl
    obtain ⟨i0, hi, hz0, hz1, hz2⟩ := info_parts elemStr.info
    refine wp_append_lies (P := Tryd.prog) W s x 40 hop 0 9 i0 (.string ⟨#[]⟩) 1 16 elemStr.under hi hz0 hz1 hz2 elemStr.cells elemStr.pos v xs.length (strs xs) hs hown ⟨b, off, none⟩ (y :: r).length c (strs (y :: r)) hx (by simp [strs]) ?_ (by unfold strs; intro u hu; obtain ⟨z, _, rfl⟩ := List.mem_map.1 hu; rfl) (by simp) (by unfold maxLen; omega) (by omega) (Nat.zero_le _) _ rfl ?_
    · intro j u hj
      unfold strs at hj
      rw [List.getElem?_map] at hj
      cases hz : (y :: r)[j]? with
      | none => rw [hz] at hj; cases hj
      | some z =>
        rw [hz] at hj
        cases hj
        obtain ⟨b', off', he, hc⟩ := hat j z hz
        cases he
        simpa [Addr.add_lit] using hc
    · intro g cap w' ho hgr hg' _
      refine hK _ w' ?_ (Fr.grown hgr (fun k hk => hk)) ?_ (by simp)
      · rw [List.length_append]; unfold strs at *; rw [List.map_append]; exact ho
      · intro g2 h2
        simp [Value.ownBlock] at h2
        subst h2
        exact hg'
theorem str_one {W : World} {b : Nat} {n : ByteArray} (h : W.heap[b]? = some (.cells #[.string n] 9 (0, 0))) : StrAt W (some ⟨b, 0, none⟩) [n] := by
  intro i x hx
  cases i with
  | zero =>
    simp at hx
    subst hx
    exact ⟨b, 0, rfl, by rw [cell_of_row _ _ _ _ _ (0, 0) h]; rfl⟩
  | succ i => simp at hx
def NmPost (T : Nat → Prop) (w : World) (e : List ByteArray) (x : Ending) (w' : World) : Prop := ∃ o c, x = .returned (.slice o e.length c) ∧ NmIn (fun k => T k ∨ w.heap.size ≤ k) w' o e.length e ∧ Quiet0 w w'
theorem nm_end {T : Nat → Prop} {w w4 : World} {v : Value} {L e : List ByteArray} {nm : ByteArray} (ho : w4.ownsRow 0 9 1 v ([] ++ L ++ [nm]).length (strs ([] ++ L ++ [nm]))) (hr : e.reverse = L) (hg : ∀ g, v.ownBlock = some g → w.heap.size ≤ g) (hq : Quiet0 w w4) (hz : e.length ≤ 900000) :
    NmPost T w (nm :: e) (.returned v) w4 := by
  subst hr
  simp only [List.nil_append, List.length_append, List.length_reverse, List.length_cons, List.length_nil, Nat.zero_add] at ho
  obtain ⟨g, c, rfl, _, _⟩ := ho.form (by omega)
  refine ⟨_, c, rfl, ?_, hq⟩
  have ho' : w4.ownsRow 0 9 1 (.slice (some ⟨g, 0, none⟩) (e.length + 1) c) (e.length + 1) (e.reverse.map Value.string ++ [.string nm]) := by
    have e2 : strs (e.reverse ++ [nm]) = e.reverse.map Value.string ++ [.string nm] := by simp [strs]
    rw [← e2]; exact ho
  exact NmIn.of_own (n := e.length + 1) ho' rfl (by unfold maxLen; omega) (.inr (hg g rfl))
set_option maxHeartbeats 4000000 in
theorem around_any (h : Nd) (o1 : Option Addr) (l1 c1 : Nat) (o2 : Option Addr) (l2 c2 : Nat) (i : Nat) (T : Nat → Prop) (e : List ByteArray) (o : Option Addr) (n c : Nat) (w : World) (hN : NmIn T w o n e) (hz : n ≤ 900000) :
    Calls Tryd.prog 41 #[tmv h o1 l1 c1 o2 l2 c2, .int .i64 (i : Nat), .slice o n c] w (NmPost T w (envOf h.k h.nm i e)) := by
  have HN := Lib.hid hN
  have e1 : ((i : Int) == 1) = (i == 1) := by rw [Bool.eq_iff_iff, beq_iff_eq, beq_iff_eq]; omega
  obtain ⟨W0, hW0⟩ : ∃ W0, W0 = w.alloc (.cells (cells9 h o1 l1 c1 o2 l2 c2) 30) := ⟨_, rfl⟩
  have HQ0 : Hid (Quiet0 w W0) := by rw [hW0]; exact Quiet0.alloc _ _
  have HBB : Hid (∀ W, Quiet0 W0 W → Cells9 W w.heap.size 0 h o1 l1 c1 o2 l2 c2) := by
    intro W hq; rw [hW0] at hq; exact box9 w h o1 l1 c1 o2 l2 c2 _ W hq
  have HS1 : Hid (∀ W, Quiet0 W0 W → W.cell? ⟨w.heap.size, 1, none⟩ = some (.string h.nm)) := fun W hq => (HBB.out W hq).2.1
  have HZ : Hid (W0.heap.size = w.heap.size + 1) := by show _ = _; rw [hW0]; simp
  cases hb : bindsB h.k i
  case false =>
    have HE : Hid (envOf h.k h.nm i e = e) := by show _ = _; unfold envOf; rw [hb]; rfl
    unfold bindsB at hb
    simp only [Bool.or_eq_false_iff] at hb
    obtain ⟨⟨h4, h7⟩, h6⟩ := hb
    clear hN
    rw [HE.out]
    have HNL := Lib.hid HN.out.1
    unfold tmv
    cases h6k : (h.k == 6)
    · go_enter Tryd.func41, Tryd.ntmps41
      go_upto_region 1 with fail
      rw [← hW0]
      clear hW0 h6
      obtain ⟨a0, a1, a2, a3, a4, a5, a6, a7, a8⟩ := HBB.out W0 (Quiet0.refl _)
      go_wp2_with fail
      go_ret
      exact ⟨o, c, by rw [← HNL.out]; rfl, HNL.out ▸ (HN.out.stay HQ0.out).fr (Fr.refl (fun _ => False) _) (fun k _ h => ⟨.inl h, fun h => h⟩), HQ0.out⟩
    · rw [h6k] at h6
      have h1 : (i == 1) = false := by simpa using h6
      rw [h1] at e1
      go_enter Tryd.func41, Tryd.ntmps41
      go_upto_region 1 with fail
      rw [← hW0]
      clear hW0 h6
      obtain ⟨a0, a1, a2, a3, a4, a5, a6, a7, a8⟩ := HBB.out W0 (Quiet0.refl _)
      go_wp2_with fail
      go_ret
      exact ⟨o, c, by rw [← HNL.out]; rfl, HNL.out ▸ (HN.out.stay HQ0.out).fr (Fr.refl (fun _ => False) _) (fun k _ h => ⟨.inl h, fun h => h⟩), HQ0.out⟩
  case true =>
    have HE : Hid (envOf h.k h.nm i e = h.nm :: e) := by show _ = _; unfold envOf; rw [hb]; rfl
    unfold bindsB at hb
    have hc : (h.k == 4) = true ∨ ((h.k == 4) = false ∧ (h.k == 7) = true) ∨ ((h.k == 4) = false ∧ (h.k == 7) = false ∧ (h.k == 6) = true ∧ (i == 1) = true) := by
      cases h4 : (h.k == 4)
      · cases h7 : (h.k == 7)
        · rw [h4, h7] at hb; simp only [Bool.false_or, Bool.and_eq_true] at hb; exact .inr (.inr ⟨rfl, rfl, hb.1, hb.2⟩)
        · exact .inr (.inl ⟨rfl, rfl⟩)
      · exact .inl rfl
    have hlen := hN.1
    have HAT : Hid (StrAt W0 o e.reverse) := (hN.stay HQ0.out).str
    have hrl : e.reverse.length = n := by rw [List.length_reverse, hlen]
    rw [HE.out]
    clear hN hb
    generalize hr : e.reverse = L at *
    have HRL := Lib.hid hr
    have HLEN := Lib.hid hlen
    clear hr
    have hqc0 := HQ0.out.size
    clear hlen
    unfold tmv
    rcases hc with h4 | ⟨h4, h7⟩ | ⟨h4, h7, h6, h1⟩
    all_goals
      first | rw [h1] at e1 | skip
      go_enter Tryd.func41, Tryd.ntmps41
      go_upto_region 1 with fail
      rw [← hW0]
      clear hW0
      obtain ⟨a0, a1, a2, a3, a4, a5, a6, a7, a8⟩ := HBB.out W0 (Quiet0.refl _)
      clear a1 a2 a3 a4 a5 a6 a7 a8
      go_upto_region 2 with fail
      clear a0
      have hqc := Quiet0.refl W0
      have HLO : Hid (w.heap.size ≤ W0.heap.size) := hqc0
      clear hqc0
      go_region_held3 (fun w' => w'.cell? ⟨w.heap.size, 1, none⟩ = some (.string h.nm))
        (((refine HS1.out _ ?_); (repeat (first | with_reducible exact hqc | with_reducible exact Quiet0.refl _ | with_reducible refine Quiet0.trans ?_ (Quiet0.alloc _ _) | with_reducible refine Quiet0.trans ?_ (Quiet0.drew _) | fail))))
        (first
          | ((refine step_strs _ rfl (.tmp 24) (.tmp 25) rfl (.slice (some ⟨W0.heap.size, 0, none⟩) 0 0) [] rfl ?hown o L n c hrl.symm rfl ?hat ?hbd ?hne ?_); (case hown => ((refine str_empty ?_); (repeat (first | ((with_reducible refine blk_new _ _ _ _ ?hbe); (case hbe => (simp; done))) | with_reducible refine blk_after (Quiet0.alloc _ _) ?_ | with_reducible refine blk_drew ?_ | fail)))); (case hat => ((refine HAT.out.stay ?_); (repeat (first | with_reducible exact hqc | with_reducible exact Quiet0.refl _ | with_reducible refine Quiet0.trans ?_ (Quiet0.alloc _ _) | with_reducible refine Quiet0.trans ?_ (Quiet0.drew _) | fail)))); (case hbd => (simp; omega)); (case hne => simp); intro v3 w3 ho3 hf3 hg3 hn3; (refine with_fr2 (w0 := W0) ?hch hf3 ?hlo ?_); (case hch => (repeat (first | with_reducible exact hqc | with_reducible exact Quiet0.refl _ | with_reducible refine Quiet0.trans ?_ (Quiet0.alloc _ _) | with_reducible refine Quiet0.trans ?_ (Quiet0.drew _) | fail))); (case hlo => (intro k hk; simp [Value.ownBlock] at hk; omega)); intro hqc hw3)
          | ((refine step_strs _ rfl (.tmp 24) (.tmp 25) rfl (.slice (some ⟨W0.heap.size + 1, 0, none⟩) 0 0) [] rfl ?hown o L n c hrl.symm rfl ?hat ?hbd ?hne ?_); (case hown => ((refine str_empty ?_); (repeat (first | ((with_reducible refine blk_new _ _ _ _ ?hbe); (case hbe => (simp; done))) | with_reducible refine blk_after (Quiet0.alloc _ _) ?_ | with_reducible refine blk_drew ?_ | fail)))); (case hat => ((refine HAT.out.stay ?_); (repeat (first | with_reducible exact hqc | with_reducible exact Quiet0.refl _ | with_reducible refine Quiet0.trans ?_ (Quiet0.alloc _ _) | with_reducible refine Quiet0.trans ?_ (Quiet0.drew _) | fail)))); (case hbd => (simp; omega)); (case hne => simp); intro v3 w3 ho3 hf3 hg3 hn3; (refine with_fr2 (w0 := W0) ?hch hf3 ?hlo ?_); (case hch => (repeat (first | with_reducible exact hqc | with_reducible exact Quiet0.refl _ | with_reducible refine Quiet0.trans ?_ (Quiet0.alloc _ _) | with_reducible refine Quiet0.trans ?_ (Quiet0.drew _) | fail))); (case hlo => (intro k hk; simp [Value.ownBlock] at hk; omega)); intro hqc hw3)
          | ((refine step_strs _ rfl (.tmp 26) (.tmp 29) rfl v3 ([] ++ L) rfl ?hown (some ⟨W0.heap.size, 0, none⟩) [h.nm] 1 1 rfl rfl ?hat ?hbd hn3 ?_); (case hown => (first | with_reducible exact ho3 | with_reducible exact ho3.alloc _ | fail)); (case hat => ((refine str_one ?_); (repeat (first | ((with_reducible refine blk_new _ _ _ _ ?hbe); (case hbe => (simp; done))) | with_reducible refine blk_after (Quiet0.alloc _ _) ?_ | with_reducible refine blk_drew ?_ | ((with_reducible refine blk_fr hf3 ?hbo ?_); (case hbo => (simp [Value.ownBlock]; done))) | ((with_reducible refine blk_fr hf3 ?hbo ?_); (case hbo => (simp [Value.ownBlock]; omega))) | fail)))); (case hbd => (simp; omega)); intro v4 w4 ho4 hf4 hg4 hn4; (refine with_fr2 (w0 := W0) ?hch hf4 ?hlo ?_); (case hch => (repeat (first | with_reducible exact hqc | with_reducible exact Quiet0.refl _ | with_reducible refine Quiet0.trans ?_ (Quiet0.alloc _ _) | with_reducible refine Quiet0.trans ?_ (Quiet0.drew _) | fail))); (case hlo => (intro k hk; rcases hg3 k hk with h | h; (simp [Value.ownBlock] at h; omega); (simp at h; omega))); intro hqc hw4)
          | ((refine step_strs _ rfl (.tmp 26) (.tmp 29) rfl v3 ([] ++ L) rfl ?hown (some ⟨W0.heap.size + 1, 0, none⟩) [h.nm] 1 1 rfl rfl ?hat ?hbd hn3 ?_); (case hown => (first | with_reducible exact ho3 | with_reducible exact ho3.alloc _ | fail)); (case hat => ((refine str_one ?_); (repeat (first | ((with_reducible refine blk_new _ _ _ _ ?hbe); (case hbe => (simp; done))) | with_reducible refine blk_after (Quiet0.alloc _ _) ?_ | with_reducible refine blk_drew ?_ | ((with_reducible refine blk_fr hf3 ?hbo ?_); (case hbo => (simp [Value.ownBlock]; done))) | ((with_reducible refine blk_fr hf3 ?hbo ?_); (case hbo => (simp [Value.ownBlock]; omega))) | fail)))); (case hbd => (simp; omega)); intro v4 w4 ho4 hf4 hg4 hn4; (refine with_fr2 (w0 := W0) ?hch hf4 ?hlo ?_); (case hch => (repeat (first | with_reducible exact hqc | with_reducible exact Quiet0.refl _ | with_reducible refine Quiet0.trans ?_ (Quiet0.alloc _ _) | with_reducible refine Quiet0.trans ?_ (Quiet0.drew _) | fail))); (case hlo => (intro k hk; rcases hg3 k hk with h | h; (simp [Value.ownBlock] at h; omega); (simp at h; omega))); intro hqc hw4)
          | ((refine step_strs _ rfl (.tmp 26) (.tmp 29) rfl v3 ([] ++ L) rfl ?hown (some ⟨w3.heap.size, 0, none⟩) [h.nm] 1 1 rfl rfl ?hat ?hbd hn3 ?_); (case hown => (first | with_reducible exact ho3 | with_reducible exact ho3.alloc _ | fail)); (case hat => ((refine str_one ?_); (repeat (first | ((with_reducible refine blk_new _ _ _ _ ?hbe); (case hbe => (simp; done))) | with_reducible refine blk_after (Quiet0.alloc _ _) ?_ | with_reducible refine blk_drew ?_ | ((with_reducible refine blk_fr hf3 ?hbo ?_); (case hbo => (simp [Value.ownBlock]; done))) | ((with_reducible refine blk_fr hf3 ?hbo ?_); (case hbo => (simp [Value.ownBlock]; omega))) | fail)))); (case hbd => (simp; omega)); intro v4 w4 ho4 hf4 hg4 hn4; (refine with_fr2 (w0 := W0) ?hch hf4 ?hlo ?_); (case hch => (repeat (first | with_reducible exact hqc | with_reducible exact Quiet0.refl _ | with_reducible refine Quiet0.trans ?_ (Quiet0.alloc _ _) | with_reducible refine Quiet0.trans ?_ (Quiet0.drew _) | fail))); (case hlo => (intro k hk; rcases hg3 k hk with h | h; (simp [Value.ownBlock] at h; omega); (simp at h; omega))); intro hqc hw4)
          | fail)
      all_goals
        go_wp2_with fail
        go_ret
        have hl0 := HLO.out
        exact nm_end ho4 HRL.out (fun g hg => by
          rcases hg4 g hg with h | h
          · rcases hg3 g h with h | h
            · simp [Value.ownBlock] at h; omega
            · first | omega | (simp at h; omega)
          · first | omega | (simp at h; omega)) (HQ0.out.trans hqc) (by have := HLEN.out; omega)
end Sc
end Go.Proofs.YtnfodiedalhlhaaDoor
end
section
namespace Go.Proofs.YtnfodiedalhlhaaDoor
open Go.RowKit
section
variable {P : Program}
theorem run_append_row (w : World) (t ty e : TypeId) (z : Value) (size bytes : Nat) (he : Elem P t e z size bytes) (v : Value) (n : Nat) (xs : List Value) (hown : w.ownsRow 0 e size v n xs)
    (o : Option Addr) (m c : Nat) (news : List Value) (hl : news.length = m * size) (hnews : ∀ j u, news[j]? = some u → ∃ a, o = some a ∧ w.cell? (a.add j) = some u) (h1 : ∀ u ∈ news, u.oneCell' = true) (b1 : n + m ≤ maxLen) (b2 : (n + m) * bytes ≤ 140737488355328) :
    ∃ o' c' w', (Builtin.append_ #[t, t] ty #[v, .slice o m c]).run P w = .ok (.slice o' (n + m) c') w' ∧ w'.ownsRow 0 e size (.slice o' (n + m) c') (n + m) (xs ++ news) ∧ Fr (fun k => v.ownBlock = some k) w w' ∧ ((Value.slice o' (n + m) c').ownBlock = v.ownBlock ∨ (Value.slice o' (n + m) c').ownBlock = some w.heap.size) ∧ ((Value.slice o' (n + m) c') = .slice none 0 0 ↔ v = .slice none 0 0 ∧ m = 0) := by
  obtain ⟨i0, hi, hz0, hz1, hz2⟩ := info_parts he.info
  have form : ∀ {w' : World} {v' : Value} {k : Nat} {ys : List Value}, w'.ownsRow 0 e size v' k ys → ∃ o' c', v' = .slice o' k c' := by
    intro w' v' k ys h
    rcases h.2 with ⟨rfl, rfl⟩ | ⟨g, cap, cur, rfl, _⟩
    · exact ⟨none, 0, rfl⟩
    · exact ⟨some ⟨g, 0, none⟩, cap, rfl⟩
  by_cases hm : m = 0
  · subst hm
    have hn : news = [] := List.eq_nil_of_length_eq_zero (by simpa using hl)
    subst hn
    obtain ⟨o', c', hv⟩ := form hown
    refine ⟨o', c', w, ?_, by rw [Nat.add_zero, ← hv, List.append_nil]; exact hown, Fr.refl _ _, .inl (by rw [Nat.add_zero, ← hv]), by rw [Nat.add_zero, ← hv]; simp⟩
    rw [Nat.add_zero]
    rcases hown.2 with ⟨rfl, h0⟩ | ⟨g, cap, cur, hvg, _, hg, hc, _⟩
    · injection hv with e1 e2 e3
      subst e1 e2 e3
      cases o <;> simp [Builtin.append_, run_underlying he.under, sizeOf, typeInfo, hi, Builtin.lenOf, Builtin.firstCells, loadCells, loadCellsFrom]
    · rw [hvg] at hv ⊢
      injection hv with e1 e2 e3
      subst e1 e3
      cases o <;> simp [Builtin.append_, run_underlying he.under, sizeOf, typeInfo, hi, Builtin.lenOf, Builtin.firstCells, loadCells, loadCellsFrom, storeCells, hc]
  · have hne : 0 < news.length := by rw [hl]; exact Nat.mul_pos (by omega) he.pos
    obtain ⟨a, ha, _⟩ := hnews 0 news[0] (List.getElem?_eq_getElem hne)
    subst ha
    obtain ⟨v', w', hr, h2, h3, h4, h5⟩ := run_append_own_at (P := P) w 0 t ty e i0 z size bytes he.under hi hz0 hz1 hz2 he.cells he.pos v n xs hown a m c news hl (fun j u hu => by obtain ⟨a', e', hc⟩ := hnews j u hu; cases e'; exact hc) h1 b1 b2 (Nat.zero_le _)
    obtain ⟨o', c', rfl⟩ := form h2
    exact ⟨o', c', w', hr, h2, Fr.grown h3 (fun k hk => hk), h5, h4⟩
theorem wp_append_row {o : Oper} {a : Act} {K : Act → World → Prop} {Q : Exit → Act → World → Prop} (W : World) (s x : Operand) (t : TypeId)
    (ho : o.op = .call { callee := .builtin .append, args := #[s, x], argTypes := #[t, t] })
    (e : TypeId) (z : Value) (size bytes : Nat) (he : Elem P t e z size bytes) (v : Value) (n : Nat) (xs : List Value) (hs : a.eval s = v) (hown : W.ownsRow 0 e size v n xs)
    (oa : Option Addr) (m c : Nat) (news : List Value) (hx : a.eval x = .slice oa m c) (hl : news.length = m * size) (hnews : ∀ j u, news[j]? = some u → ∃ a, oa = some a ∧ W.cell? (a.add j) = some u) (h1 : ∀ u ∈ news, u.oneCell' = true) (b1 : n + m ≤ maxLen) (b2 : (n + m) * bytes ≤ 140737488355328)
    (hK : ∀ o' c' w', w'.ownsRow 0 e size (.slice o' (n + m) c') (n + m) (xs ++ news) → Fr (fun k => v.ownBlock = some k) W w' → ((Value.slice o' (n + m) c').ownBlock = v.ownBlock ∨ (Value.slice o' (n + m) c').ownBlock = some W.heap.size) → ((Value.slice o' (n + m) c') = .slice none 0 0 ↔ v = .slice none 0 0 ∧ m = 0) → K (a.put o.dst (.slice o' (n + m) c')) w') :
    o.wp P a W K Q := by
  obtain ⟨o', c', w', hr, h2, h3, h4, h5⟩ := run_append_row (P := P) W t o.type e z size bytes he v n xs hown oa m c news hl hnews h1 b1 b2
  unfold Oper.wp execOp
  simp only [ho, resolve, invoke, builtin, Sem.run_bind, Sem.run_pure, Result.andThen_ok, List.map_toArray, List.map_cons, List.map_nil, hs, hx, hr]
  exact hK o' c' w' h2 h3 h4 h5
theorem wpList_append_row {ops : Array Oper} {rest : List Oper} {o : Oper} {a : Act} {Q : Exit → Act → World → Prop} (W : World) (hg : o.guard = none) (s x : Operand) (t : TypeId)
    (ho : o.op = .call { callee := .builtin .append, args := #[s, x], argTypes := #[t, t] })
    (e : TypeId) (z : Value) (size bytes : Nat) (he : Elem P t e z size bytes) (v : Value) (n : Nat) (xs : List Value) (hs : a.eval s = v) (hown : W.ownsRow 0 e size v n xs)
    (oa : Option Addr) (m c : Nat) (news : List Value) (hx : a.eval x = .slice oa m c) (hl : news.length = m * size) (hnews : ∀ j u, news[j]? = some u → ∃ a, oa = some a ∧ W.cell? (a.add j) = some u) (h1 : ∀ u ∈ news, u.oneCell' = true) (b1 : n + m ≤ maxLen) (b2 : (n + m) * bytes ≤ 140737488355328)
    (hK : ∀ o' c' w', w'.ownsRow 0 e size (.slice o' (n + m) c') (n + m) (xs ++ news) → Fr (fun k => v.ownBlock = some k) W w' → ((Value.slice o' (n + m) c').ownBlock = v.ownBlock ∨ (Value.slice o' (n + m) c').ownBlock = some W.heap.size) → ((Value.slice o' (n + m) c') = .slice none 0 0 ↔ v = .slice none 0 0 ∧ m = 0) → wpList P ops Q rest (a.put o.dst (.slice o' (n + m) c')) w') :
    wpList P ops Q (o :: rest) a W :=
  wpList_plain hg fun _ hK' => wp_append_row W s x t ho e z size bytes he v n xs hs hown oa m c news hx hl hnews h1 b1 b2 fun o' c' w' h2 h3 h4 h5 => hK' _ _ (hK o' c' w' h2 h3 h4 h5)
end
end Go.Proofs.YtnfodiedalhlhaaDoor
end
section
namespace Go.Proofs.YtnfodiedalhlhaaDoor
open Go.RowKit
def RowN : List Value → List Nd → Prop
  | xs, [] => xs = []
  | xs, h :: r => ∃ o1 l1 c1 o2 l2 c2 ys, xs = (cells9 h o1 l1 c1 o2 l2 c2).toList ++ ys ∧ RowN ys r
theorem RowN.app : ∀ (l l' : List Nd) (xs ys : List Value), RowN xs l → RowN ys l' → RowN (xs ++ ys) (l ++ l')
  | [], l', xs, ys, h, h' => by cases h; exact h'
  | t :: r, l', xs, ys, h, h' => by
    obtain ⟨o1, l1, c1, o2, l2, c2, zs, rfl, hr⟩ := h
    exact ⟨o1, l1, c1, o2, l2, c2, _, by rw [List.append_assoc], RowN.app r l' zs ys hr h'⟩
theorem RowN.get : ∀ (l : List Nd) (xs : List Value) (i : Nat) (t : Nd), RowN xs l → l[i]? = some t → ∃ o1 l1 c1 o2 l2 c2, ∀ j, j < 9 → xs[i * 9 + j]? = (cells9 t o1 l1 c1 o2 l2 c2)[j]?
  | [], xs, i, t, _, h => by simp at h
  | u :: r, xs, 0, t, h, hi => by
    obtain ⟨o1, l1, c1, o2, l2, c2, ys, rfl, hr⟩ := h
    simp at hi; subst hi
    refine ⟨o1, l1, c1, o2, l2, c2, fun j hj => ?_⟩
    rw [Nat.zero_mul, Nat.zero_add, List.getElem?_append_left (by simpa using hj)]
    simp
  | u :: r, xs, i + 1, t, h, hi => by
    obtain ⟨o1, l1, c1, o2, l2, c2, ys, rfl, hr⟩ := h
    obtain ⟨p1, m1, d1, p2, m2, d2, hj⟩ := RowN.get r ys i t hr (by simpa using hi)
    refine ⟨p1, m1, d1, p2, m2, d2, fun j hj' => ?_⟩
    rw [List.getElem?_append_right (by simp; omega), ← hj j hj']
    congr 1
    simp; omega
theorem RowN.one : ∀ (l : List Nd) (xs : List Value), RowN xs l → ∀ u ∈ xs, u.oneCell' = true
  | [], xs, h, u, hu => by cases h; simp at hu
  | t :: r, xs, h, u, hu => by
    obtain ⟨o1, l1, c1, o2, l2, c2, ys, rfl, hr⟩ := h
    rcases List.mem_append.1 hu with h | h
    · simp at h
      rcases h with h | h | h | h | h | h | h | h | h <;> subst h <;> rfl
    · exact RowN.one r ys hr u h
def ListN (B : Nat) (W : World) (o : Option Addr) (c : Nat) (l : List Nd) (xs : List Value) : Prop :=
  W.ownsRow 0 30 9 (.slice o l.length c) l.length xs ∧ RowN xs l ∧ ∀ k, (Value.slice o l.length c).ownBlock = some k → B ≤ k
theorem ListN.stay {B : Nat} {W W' : World} {o : Option Addr} {c : Nat} {l : List Nd} {xs : List Value} (h : ListN B W o c l xs) (hq : Quiet0 W W') : ListN B W' o c l xs :=
  ⟨ownsRow_fr h.1 hq (fun _ _ h => h), h.2⟩
def HeadsAt (w : World) (o : Option Addr) (l : List Nd) : Prop := ∀ i t, l[i]? = some t → ∃ b off o1 l1 c1 o2 l2 c2, o = some ⟨b, off, none⟩ ∧ Cells9 w b (off + i * 9) t o1 l1 c1 o2 l2 c2
theorem HeadsAt.stay {w w' : World} {o : Option Addr} {l : List Nd} (h : HeadsAt w o l) (hq : Quiet0 w w') : HeadsAt w' o l := by
  intro i t ht
  obtain ⟨b, off, o1, l1, c1, o2, l2, c2, ho, hc⟩ := h i t ht
  exact ⟨b, off, o1, l1, c1, o2, l2, c2, ho, hc.fr hq (fun h => h)⟩
theorem ListN.heads {B : Nat} {W : World} {o : Option Addr} {c : Nat} {l : List Nd} {xs : List Value} (h : ListN B W o c l xs) : HeadsAt W o l := by
  intro i t ht
  rcases h.1.2 with ⟨_, h0⟩ | ⟨g, cap', cur, he, _⟩
  · rw [List.length_eq_zero_iff.1 h0] at ht; simp at ht
  · injection he with h1 h2 h3
    subst h1
    obtain ⟨o1, l1, c1, o2, l2, c2, hj⟩ := RowN.get l xs i t h.2.1 ht
    have hc : ∀ j, j < 9 → W.cell? ⟨g, i * 9 + j, none⟩ = (cells9 t o1 l1 c1 o2 l2 c2)[j]? := by
      intro j h8
      have e := hj j h8
      rw [Array.getElem?_eq_getElem (by simpa using h8)] at e ⊢
      have := h.1.cells (g := g) rfl (i * 9 + j) _ e
      simpa [Addr.add_lit] using this
    refine ⟨g, 0, o1, l1, c1, o2, l2, c2, rfl, ?_⟩
    rw [Nat.zero_add]
    exact ⟨hc 0 (by omega), hc 1 (by omega), hc 2 (by omega), hc 3 (by omega), hc 4 (by omega), hc 5 (by omega), hc 6 (by omega), hc 7 (by omega), hc 8 (by omega)⟩
def hds (f : To) : List Nd := f.flat.map (·.1)
def ListQ (w : World) (l : List Nd) (e : Ending) (w' : World) : Prop := ∃ o c xs, e = .returned (.slice o l.length c) ∧ ListN w.heap.size w' o c l xs ∧ Quiet0 w w'
end Go.Proofs.YtnfodiedalhlhaaDoor
end
section
namespace Go.Proofs.YtnfodiedalhlhaaDoor
open Go.RowKit
namespace Sc
theorem list_nil (B : Nat) (W : World) : ListN B W none 0 [] [] := ⟨World.ownsRow_nil _ _ _ _, rfl, fun k hk => (by cases hk)⟩
theorem list_fr {B : Nat} {W W' : World} {o : Option Addr} {c : Nat} {l : List Nd} {xs : List Value} {S : Nat → Prop} (h : ListN B W o c l xs) (hf : Fr S W W') (hS : ∀ k, (Value.slice o l.length c).ownBlock = some k → ¬ S k) : ListN B W' o c l xs :=
  ⟨ownsRow_fr h.1 hf hS, h.2⟩
theorem list_low {B B' : Nat} {W : World} {o : Option Addr} {c : Nat} {l : List Nd} {xs : List Value} (h : ListN B W o c l xs) (hB : B' ≤ B) : ListN B' W o c l xs :=
  ⟨h.1, h.2.1, fun k hk => Nat.le_trans hB (h.2.2 k hk)⟩
end Sc
end Go.Proofs.YtnfodiedalhlhaaDoor
end
section
namespace Go.Proofs.YtnfodiedalhlhaaDoor
open Go.RowKit Go.Shelf
namespace Sc
def varOk (h : Nd) (ps : To) : Prop := h.k = 1 → ps = .nil
def allV : To → Prop
  | .nil => True
  | .cons h ps r => varOk h ps ∧ allV ps ∧ allV r
theorem allV_get : ∀ (f : To) (i : Nat) (h : Nd) (ps : To), allV f → f.get i = some (h, ps) → varOk h ps ∧ allV ps
  | .nil, i, h, ps, _, e => by simp [To.get] at e
  | .cons h ps r, 0, h', ps', hw, e => by
    simp [To.get] at e
    obtain ⟨rfl, rfl⟩ := e
    exact ⟨hw.1, hw.2.1⟩
  | .cons h ps r, i + 1, h', ps', hw, e => allV_get r i h' ps' hw.2.2 e
theorem okF_allV : ∀ f : To, okF f → allV f
  | .nil, _ => trivial
  | .cons _ ps r, hw => ⟨hw.1, okF_allV ps hw.2.2.1, okF_allV r hw.2.2.2⟩
theorem free_len : ∀ (f : To) (bk : Int) (nm : ByteArray) (i : Nat) (e : List ByteArray), (freeL bk nm i e f).length ≤ f.size
  | .nil, _, _, _, _ => Nat.zero_le _
  | .cons h ps r, bk, nm, i, e => by
    have h1 := free_len ps h.k h.nm 0 (envOf bk nm i e)
    have h2 := free_len r bk nm (i + 1) e
    rw [freeL_cons, List.length_append]
    simp only [To.size]
    unfold free1
    split
    · split
      · simp; omega
      · simp; omega
    · omega
theorem free1_len (e : List ByteArray) (h : Nd) (ps : To) : (free1 e h ps).length ≤ ps.size + 1 := by
  have := free_len (.cons h ps .nil) 0 ByteArray.empty 0 e
  rw [freeL_cons] at this
  simp only [To.size, List.length_append] at this
  have he : envOf 0 ByteArray.empty 0 e = e := by unfold envOf bindsB; simp
  rw [he] at this
  simp [freeL] at this
  omega
end Sc
end Go.Proofs.YtnfodiedalhlhaaDoor
end
section
namespace Go.Proofs.YtnfodiedalhlhaaDoor
open Go.RowKit
abbrev TermB (w : World) (b : Nat) : Prop := ∃ cur, w.heap[b]? = some (.cells cur 30 (0, 0))
def TOI (R : Nat → Prop) (w : World) : (Nat → Nat → Prop) → Nat → Nat → To → Prop
  | _, _, _, .nil => True
  | D, b, off, .cons h ps r => (∃ o1 l1 c1 o2 l2 c2, Cells9 w b off h o1 l1 c1 o2 l2 c2 ∧ SlcIn R w o1 l1 h.tp ∧ l2 = ps.length ∧ l2 ≤ maxLen ∧
      (0 < l2 → ∃ b' E, o2 = some ⟨b', 0, none⟩ ∧ D 0 b' ∧ TermB w b' ∧ (∀ j k, E j k → D 0 k ∧ k ≠ b') ∧ (∀ i j k, E i k → E j k → i = j) ∧ TOI R w E b' 0 ps)) ∧ TOI R w (fun j => D (j + 1)) b (off + 9) r
def TO (R : Nat → Prop) (w : World) (D : Nat → Prop) (o : Option Addr) (len : Nat) (f : To) : Prop := len = f.length ∧ len ≤ maxLen ∧
  (0 < len → ∃ b E, o = some ⟨b, 0, none⟩ ∧ D b ∧ TermB w b ∧ (∀ j k, E j k → D k ∧ k ≠ b) ∧ (∀ i j k, E i k → E j k → i = j) ∧ TOI R w E b 0 f)
theorem TO.nil (R : Nat → Prop) (w : World) (D : Nat → Prop) (o : Option Addr) : TO R w D o 0 .nil := ⟨rfl, Nat.zero_le _, fun h => absurd h (Nat.lt_irrefl _)⟩
theorem toi_cons {R : Nat → Prop} {w : World} {D : Nat → Nat → Prop} {b off : Nat} {h : Nd} {ps r : To} : TOI R w D b off (.cons h ps r) ↔
    (∃ o1 l1 c1 o2 l2 c2, Cells9 w b off h o1 l1 c1 o2 l2 c2 ∧ SlcIn R w o1 l1 h.tp ∧ TO R w (D 0) o2 l2 ps) ∧ TOI R w (fun j => D (j + 1)) b (off + 9) r := Iff.rfl
theorem TermB.fr {S : Nat → Prop} {w w' : World} {b : Nat} (h : TermB w b) (hf : Fr S w w') (hs : ¬ S b) : TermB w' b := by
  obtain ⟨cur, hc⟩ := h
  exact ⟨cur, (hf.block _ (lt_of_block hc) hs).trans hc⟩
theorem TermB.set {w : World} {b i : Nat} {v : Value} (h : TermB w b) : TermB (w.setCell ⟨b, i, none⟩ v) b := by
  obtain ⟨cur, hc⟩ := h
  exact ⟨_, set_block hc⟩
theorem TOI.keep {R T S : Nat → Prop} {w w' : World} (hf : Fr S w w') (hR : ∀ k, k < w.heap.size → R k → T k ∧ ¬ S k) : ∀ (f : To) (D : Nat → Nat → Prop) (b off : Nat), TOI R w D b off f → (∀ c, off ≤ c → c < off + 9 * f.length → w'.cell? ⟨b, c, none⟩ = w.cell? ⟨b, c, none⟩) → (∀ j k, D j k → ¬ S k) → TOI T w' D b off f
  | .nil, _, _, _, _, _, _ => trivial
  | .cons h ps r, D, b, off, ht, hc, hD => by
    obtain ⟨⟨o1, l1, c1, o2, l2, c2, ⟨a0, a1, a2, a3, a4, a5, a6, a7, a8⟩, hs, h4, h4', h5⟩, h6⟩ := ht
    have hl : 9 ≤ 9 * (To.cons h ps r).length := by simp [To.length]; omega
    refine ⟨⟨o1, l1, c1, o2, l2, c2, ⟨?_, ?_, ?_, ?_, ?_, ?_, ?_, ?_, ?_⟩, hs.fr hf hR, h4, h4', fun hl => ?_⟩, TOI.keep hf hR r _ b (off + 9) h6 (fun c k1 k2 => hc c (by omega) (by simp only [To.length]; omega)) (fun j k hk => hD _ k hk)⟩
    · rw [hc off (by omega) (by omega)]; exact a0
    · rw [hc _ (by omega) (by omega)]; exact a1
    · rw [hc _ (by omega) (by omega)]; exact a2
    · rw [hc _ (by omega) (by omega)]; exact a3
    · rw [hc _ (by omega) (by omega)]; exact a4
    · rw [hc _ (by omega) (by omega)]; exact a5
    · rw [hc _ (by omega) (by omega)]; exact a6
    · rw [hc _ (by omega) (by omega)]; exact a7
    · rw [hc _ (by omega) (by omega)]; exact a8
    · obtain ⟨b', E, ho, hd, hb, hE, hdj, ha⟩ := h5 hl
      have hnb := hD 0 b' hd
      refine ⟨b', E, ho, hd, hb.fr hf hnb, hE, hdj, TOI.keep hf hR ps E b' 0 ha (fun c _ _ => ?_) (fun j k hk => hD 0 k (hE j k hk).1)⟩
      obtain ⟨cur, hcur⟩ := hb
      simp only [World.cell?, hf.block _ (lt_of_block hcur) hnb]
theorem TO.fr {R T S : Nat → Prop} {w w' : World} {D : Nat → Prop} {o : Option Addr} {len : Nat} {f : To} (h : TO R w D o len f) (hf : Fr S w w') (hR : ∀ k, k < w.heap.size → R k → T k ∧ ¬ S k) (hD : ∀ k, D k → ¬ S k) : TO T w' D o len f := by
  refine ⟨h.1, h.2.1, fun h0 => ?_⟩
  obtain ⟨b, E, ho, hd, hb, hE, hdj, ha⟩ := h.2.2 h0
  refine ⟨b, E, ho, hd, hb.fr hf (hD b hd), hE, hdj, TOI.keep hf hR f E b 0 ha (fun c _ _ => ?_) (fun j k hk => hD k (hE j k hk).1)⟩
  obtain ⟨cur, hcur⟩ := hb
  simp only [World.cell?, hf.block _ (lt_of_block hcur) (hD b hd)]
theorem TO.stay {R : Nat → Prop} {w w' : World} {D : Nat → Prop} {o : Option Addr} {len : Nat} {f : To} (h : TO R w D o len f) (hq : Quiet0 w w') : TO R w' D o len f := h.fr hq (fun _ _ hk => ⟨hk, fun h => h⟩) (fun _ _ h => h)
theorem TO.mono {R T : Nat → Prop} {w : World} {D D' : Nat → Prop} {o : Option Addr} {len : Nat} {f : To} (h : TO R w D o len f) (hR : ∀ k, k < w.heap.size → R k → T k) (hD : ∀ k, k < w.heap.size → D k → D' k) : TO T w (fun k => D' k ∧ k < w.heap.size) o len f := by
  have key : ∀ (f : To) (E : Nat → Nat → Prop) (b off : Nat), TOI R w E b off f → TOI T w (fun j k => E j k ∧ k < w.heap.size) b off f := by
    intro f
    induction f with
    | nil => intro _ _ _ _; trivial
    | cons h ps r ihp ihr =>
      intro E b off ht
      obtain ⟨⟨o1, l1, c1, o2, l2, c2, hc, hs, h4, h4', h5⟩, h6⟩ := ht
      refine ⟨⟨o1, l1, c1, o2, l2, c2, hc, hs.mono hR, h4, h4', fun hl => ?_⟩, ihr _ _ _ h6⟩
      obtain ⟨b', F, ho, hd, hb, hF, hdj, ha⟩ := h5 hl
      obtain ⟨cur, hcur⟩ := hb
      exact ⟨b', _, ho, ⟨hd, lt_of_block hcur⟩, ⟨cur, hcur⟩, fun j k hk => ⟨⟨(hF j k hk.1).1, hk.2⟩, (hF j k hk.1).2⟩, fun i j k h1 h2 => hdj i j k h1.1 h2.1, ihp F b' 0 ha⟩
  refine ⟨h.1, h.2.1, fun h0 => ?_⟩
  obtain ⟨b, E, ho, hd, hb, hE, hdj, ha⟩ := h.2.2 h0
  obtain ⟨cur, hcur⟩ := hb
  exact ⟨b, _, ho, ⟨hD _ (lt_of_block hcur) hd, lt_of_block hcur⟩, ⟨cur, hcur⟩, fun j k hk => ⟨⟨hD k hk.2 (hE j k hk.1).1, hk.2⟩, (hE j k hk.1).2⟩, fun i j k h1 h2 => hdj i j k h1.1 h2.1, key f E b 0 ha⟩
theorem TO.weak {R : Nat → Prop} {w : World} {D D' : Nat → Prop} {o : Option Addr} {len : Nat} {f : To} (h : TO R w D o len f) (hD : ∀ k, D k → D' k) : TO R w D' o len f := by
  refine ⟨h.1, h.2.1, fun h0 => ?_⟩
  obtain ⟨b, E, ho, hd, hb, hE, hdj, ha⟩ := h.2.2 h0
  exact ⟨b, E, ho, hD _ hd, hb, fun j k hk => ⟨hD _ (hE j k hk).1, (hE j k hk).2⟩, hdj, ha⟩
theorem TOI.tin {R : Nat → Prop} {w : World} {T : Nat → Prop} (hR : ∀ k, k < w.heap.size → R k → T k) : ∀ (f : To) (D : Nat → Nat → Prop) (b off : Nat), T b → (∀ j k, D j k → T k) → TOI R w D b off f → TIn T w b off f
  | .nil, _, _, _, _, _, _ => trivial
  | .cons h ps r, D, b, off, hb, hD, ht => by
    obtain ⟨⟨o1, l1, c1, o2, l2, c2, hc, hs, h4, h4', h5⟩, h6⟩ := ht
    refine ⟨hb, ⟨o1, l1, c1, o2, l2, c2, hc, hs.mono hR, h4, h4', fun hl => ?_⟩, TOI.tin hR r _ b (off + 9) hb (fun j k hk => hD _ k hk) h6⟩
    obtain ⟨b', E, ho, hd, _, hE, _, ha⟩ := h5 hl
    exact ⟨b', 0, ho, TOI.tin hR ps E b' 0 (hD 0 _ hd) (fun j k hk => hD 0 k (hE j k hk).1) ha⟩
theorem TO.tslc {R : Nat → Prop} {w : World} {D T : Nat → Prop} {o : Option Addr} {len : Nat} {f : To} (h : TO R w D o len f) (hR : ∀ k, k < w.heap.size → R k → T k) (hD : ∀ k, D k → T k) : TSlc T w o len f := by
  refine ⟨h.1, h.2.1, fun h0 => ?_⟩
  obtain ⟨b, E, ho, hd, _, hE, _, ha⟩ := h.2.2 h0
  exact ⟨b, 0, ho, TOI.tin hR f E b 0 (hD b hd) (fun j k hk => hD k (hE j k hk).1) ha⟩
theorem TOI.nth {R : Nat → Prop} {w : World} : ∀ (p : To) (D : Nat → Nat → Prop) (b off : Nat) (h : Nd) (ps r : To), TOI R w D b off (p.app (.cons h ps r)) →
    ∃ o1 l1 c1 o2 l2 c2, Cells9 w b (off + p.length * 9) h o1 l1 c1 o2 l2 c2 ∧ SlcIn R w o1 l1 h.tp ∧ TO R w (D p.length) o2 l2 ps
  | .nil, D, b, off, h, ps, r, ht => by
    obtain ⟨⟨o1, l1, c1, o2, l2, c2, hc, hs, hto⟩, _⟩ := toi_cons.1 ht
    exact ⟨o1, l1, c1, o2, l2, c2, by simpa [To.length] using hc, hs, hto⟩
  | .cons h' ps' p, D, b, off, h, ps, r, ht => by
    obtain ⟨_, h6⟩ := toi_cons.1 ht
    obtain ⟨o1, l1, c1, o2, l2, c2, hc, hs, hto⟩ := TOI.nth p _ b (off + 9) h ps r h6
    refine ⟨o1, l1, c1, o2, l2, c2, ?_, hs, hto⟩
    rw [show off + (To.cons h' ps' p).length * 9 = off + 9 + p.length * 9 from by simp [To.length]; omega]; exact hc
theorem TOI.put {R S : Nat → Prop} {w w' : World} (hf : Fr S w w') (hR : ∀ k, k < w.heap.size → R k → ¬ S k) : ∀ (p : To) (D : Nat → Nat → Prop) (b off : Nat) (h h' : Nd) (ps ps' r : To), TOI R w D b off (p.app (.cons h ps r)) →
    (∀ c, off ≤ c → (c < off + p.length * 9 ∨ off + p.length * 9 + 9 ≤ c) → w'.cell? ⟨b, c, none⟩ = w.cell? ⟨b, c, none⟩) → (∀ j k, D j k → j ≠ p.length → ¬ S k) →
    (∃ o1 l1 c1 o2 l2 c2, Cells9 w' b (off + p.length * 9) h' o1 l1 c1 o2 l2 c2 ∧ SlcIn R w' o1 l1 h'.tp ∧ TO R w' (D p.length) o2 l2 ps') → TOI R w' D b off (p.app (.cons h' ps' r))
  | .nil, D, b, off, h, h', ps, ps', r, ht, hc, hD, hn => by
    obtain ⟨_, h6⟩ := toi_cons.1 ht
    refine toi_cons.2 ⟨by simpa [To.length] using hn, TOI.keep hf (fun k h1 h2 => ⟨h2, hR k h1 h2⟩) r _ b (off + 9) h6 (fun c k1 _ => hc c (by omega) (.inr (by simp [To.length]; omega))) (fun j k hk => hD _ k hk (by simp [To.length]))⟩
  | .cons g qs p, D, b, off, h, h', ps, ps', r, ht, hc, hD, hn => by
    obtain ⟨⟨o1, l1, c1, o2, l2, c2, ⟨a0, a1, a2, a3, a4, a5, a6, a7, a8⟩, hs, hto⟩, h6⟩ := toi_cons.1 ht
    have hlen : (To.cons g qs p).length = p.length + 1 := rfl
    refine toi_cons.2 ⟨⟨o1, l1, c1, o2, l2, c2, ⟨?_, ?_, ?_, ?_, ?_, ?_, ?_, ?_, ?_⟩, hs.fr hf (fun k h1 h2 => ⟨h2, hR k h1 h2⟩), hto.fr hf (fun k h1 h2 => ⟨h2, hR k h1 h2⟩) (fun k hk => hD 0 k hk (by simp [To.length]))⟩, TOI.put hf hR p _ b (off + 9) h h' ps ps' r h6 (fun c k1 k2 => hc c (by omega) (by rw [hlen]; omega)) (fun j k hk hj => hD _ k hk (by rw [hlen]; omega)) ?_⟩
    · rw [hc off (by omega) (.inl (by rw [hlen]; omega))]; exact a0
    · rw [hc _ (by omega) (.inl (by rw [hlen]; omega))]; exact a1
    · rw [hc _ (by omega) (.inl (by rw [hlen]; omega))]; exact a2
    · rw [hc _ (by omega) (.inl (by rw [hlen]; omega))]; exact a3
    · rw [hc _ (by omega) (.inl (by rw [hlen]; omega))]; exact a4
    · rw [hc _ (by omega) (.inl (by rw [hlen]; omega))]; exact a5
    · rw [hc _ (by omega) (.inl (by rw [hlen]; omega))]; exact a6
    · rw [hc _ (by omega) (.inl (by rw [hlen]; omega))]; exact a7
    · rw [hc _ (by omega) (.inl (by rw [hlen]; omega))]; exact a8
    · rw [hlen, show off + (p.length + 1) * 9 = off + 9 + p.length * 9 from by omega] at hn; exact hn
def RowO (R : Nat → Prop) (w : World) : (Nat → Nat → Prop) → List Value → To → Prop
  | _, xs, .nil => xs = []
  | E, xs, .cons h ps r => ∃ o1 l1 c1 o2 l2 c2 ys, xs = (cells9 h o1 l1 c1 o2 l2 c2).toList ++ ys ∧ SlcIn R w o1 l1 h.tp ∧ TO R w (E 0) o2 l2 ps ∧ RowO R w (fun j => E (j + 1)) ys r
theorem RowO.fr {R T S : Nat → Prop} {w w' : World} (hf : Fr S w w') (hR : ∀ k, k < w.heap.size → R k → T k ∧ ¬ S k) : ∀ (f : To) (E : Nat → Nat → Prop) (xs : List Value), RowO R w E xs f → (∀ j k, E j k → ¬ S k) → RowO T w' E xs f
  | .nil, _, _, h, _ => h
  | .cons h ps r, E, xs, ht, hE => by
    obtain ⟨o1, l1, c1, o2, l2, c2, ys, rfl, hs, ht, hr⟩ := ht
    exact ⟨o1, l1, c1, o2, l2, c2, ys, rfl, hs.fr hf hR, ht.fr hf hR (fun k hk => hE 0 k hk), RowO.fr hf hR r _ ys hr (fun j k hk => hE _ k hk)⟩
theorem RowO.snoc {R : Nat → Prop} {w : World} {h : Nd} {ps : To} {o1 : Option Addr} {l1 c1 : Nat} {o2 : Option Addr} {l2 c2 : Nat} {Dn : Nat → Prop} (hs : SlcIn R w o1 l1 h.tp) (ht : TO R w Dn o2 l2 ps) : ∀ (f : To) (E : Nat → Nat → Prop) (xs : List Value), RowO R w E xs f →
    RowO R w (fun j k => (j < f.length ∧ E j k) ∨ (j = f.length ∧ Dn k)) (xs ++ (cells9 h o1 l1 c1 o2 l2 c2).toList) (f.app (.cons h ps .nil))
  | .nil, E, xs, e => by
    cases e
    exact ⟨o1, l1, c1, o2, l2, c2, [], by simp, hs, ht.weak (fun k hk => .inr ⟨rfl, hk⟩), rfl⟩
  | .cons h' ps' r, E, xs, e => by
    obtain ⟨p1, m1, d1, p2, m2, d2, ys, rfl, hs', ht', hr⟩ := e
    have ih := RowO.snoc (h := h) (c1 := c1) (c2 := c2) hs ht r _ ys hr
    refine ⟨p1, m1, d1, p2, m2, d2, _, by rw [List.append_assoc], hs', ht'.weak (fun k hk => .inl ⟨by simp [To.length], hk⟩), ?_⟩
    have he : (fun j k => ((j + 1 < (To.cons h' ps' r).length ∧ E (j + 1) k) ∨ (j + 1 = (To.cons h' ps' r).length ∧ Dn k))) = (fun j k => (j < r.length ∧ E (j + 1) k) ∨ (j = r.length ∧ Dn k)) := by
      funext j k; simp [To.length]
    show RowO R w (fun j k => ((j + 1 < (To.cons h' ps' r).length ∧ E (j + 1) k) ∨ (j + 1 = (To.cons h' ps' r).length ∧ Dn k))) _ _
    rw [he]; exact ih
theorem RowO.at {R : Nat → Prop} {w : World} {g : Nat} : ∀ (f : To) (E : Nat → Nat → Prop) (xs : List Value) (off : Nat), RowO R w E xs f → (∀ j u, xs[j]? = some u → w.cell? ⟨g, off + j, none⟩ = some u) → TOI R w E g off f
  | .nil, _, _, _, _, _ => trivial
  | .cons h ps r, E, xs, off, e, hc => by
    obtain ⟨o1, l1, c1, o2, l2, c2, ys, rfl, hs, ht, hr⟩ := e
    refine toi_cons.2 ⟨⟨o1, l1, c1, o2, l2, c2, ⟨hc 0 _ rfl, hc 1 _ rfl, hc 2 _ rfl, hc 3 _ rfl, hc 4 _ rfl, hc 5 _ rfl, hc 6 _ rfl, hc 7 _ rfl, hc 8 _ rfl⟩, hs, ht⟩, RowO.at r _ ys (off + 9) hr ?_⟩
    intro j u hj
    have := hc (j + 9) u (by simpa using hj)
    rw [← this]; congr 2; omega
structure TmRowO (T : Nat → Prop) (w : World) (B : Nat) (v : Value) (f : To) (xs : List Value) (E : Nat → Nat → Prop) : Prop where
  own : w.ownsRow 0 30 9 v f.length xs
  low : ∀ k, v.ownBlock = some k → B ≤ k ∧ ¬ T k
  cells : RowO T w E xs f
  sep : ∀ j k, E j k → B ≤ k ∧ k < w.heap.size ∧ v.ownBlock ≠ some k ∧ ¬ T k
  one : ∀ i j k, E i k → E j k → i = j
  old : ∀ k, T k → k < w.heap.size
theorem TmRowO.nil {T : Nat → Prop} (w : World) (B : Nat) (hT : ∀ k, T k → k < w.heap.size) : TmRowO T w B (.slice none 0 0) .nil [] (fun _ _ => False) :=
  ⟨World.ownsRow_nil _ _ _ _, fun k hk => (by cases hk), rfl, fun _ _ h => h.elim, fun _ _ _ h => h.elim, hT⟩
theorem TmRowO.fr {T S : Nat → Prop} {w w' : World} {B : Nat} {v : Value} {f : To} {xs : List Value} {E : Nat → Nat → Prop} (h : TmRowO T w B v f xs E) (hf : Fr S w w') (hS : ∀ k, S k → ¬ T k ∧ (∀ j, ¬ E j k) ∧ v.ownBlock ≠ some k) : TmRowO T w' B v f xs E := by
  have hz := hf.size
  refine ⟨ownsRow_fr h.own hf (fun k hk hs => (hS k hs).2.2 hk), h.low, RowO.fr hf (fun k _ hk => ⟨hk, fun hs => (hS k hs).1 hk⟩) f E xs h.cells (fun j k hk hs => (hS k hs).2.1 j hk), fun j k hk => ?_, h.one, fun k hk => ?_⟩
  · have := h.sep j k hk; exact ⟨this.1, by omega, this.2.2⟩
  · have := h.old k hk; omega
theorem TmRowO.stay {T : Nat → Prop} {w w' : World} {B : Nat} {v : Value} {f : To} {xs : List Value} {E : Nat → Nat → Prop} (h : TmRowO T w B v f xs E) (hf : Quiet0 w w') : TmRowO T w' B v f xs E := h.fr hf (fun _ hk => hk.elim)
theorem TmRowO.snoc {T Tn Dn : Nat → Prop} {W W1 w1 : World} {B : Nat} {v : Value} {f : To} {xs : List Value} {E : Nat → Nat → Prop} {h : Nd} {ps : To} {o1 : Option Addr} {l1 c1 : Nat} {o2 : Option Addr} {l2 c2 g c : Nat} (hr : TmRowO T W B v f xs E) (hB : B ≤ W.heap.size)
    (hq : Quiet0 W W1) (hs : SlcIn (fun k => T k ∨ Tn k) W1 o1 l1 h.tp) (ht : TO (fun k => T k ∨ Tn k) W1 Dn o2 l2 ps)
    (hTn : ∀ k, Tn k → W.heap.size ≤ k ∧ k < W1.heap.size ∧ ¬ Dn k) (hDn : ∀ k, Dn k → W.heap.size ≤ k ∧ k < W1.heap.size)
    (ho : w1.ownsRow 0 30 9 (.slice (some ⟨g, 0, none⟩) (f.length + 1) c) (f.length + 1) (xs ++ (cells9 h o1 l1 c1 o2 l2 c2).toList)) (hf : Fr (fun k => v.ownBlock = some k) W1 w1) (hg : v.ownBlock = some g ∨ W1.heap.size ≤ g) :
    TmRowO (fun k => T k ∨ Tn k) w1 B (.slice (some ⟨g, 0, none⟩) (f.length + 1) c) (f.app (.cons h ps .nil)) (xs ++ (cells9 h o1 l1 c1 o2 l2 c2).toList) (fun j k => (j < f.length ∧ E j k) ∨ (j = f.length ∧ Dn k)) := by
  have hz := hq.size
  have hz1 := hf.size
  have hvl : ∀ k, v.ownBlock = some k → k < W.heap.size := fun k hk => (hr.own.lt k hk).2
  have hv : ∀ k, v.ownBlock = some k → ¬ (T k ∨ Tn k) := fun k hk hh => by
    rcases hh with h | h
    · exact (hr.low k hk).2 h
    · have := hvl k hk; have := hTn k h; omega
  refine ⟨by rw [To.app_length]; exact ho, ?_, ?_, ?_, ?_, ?_⟩
  · intro k hk
    simp [Value.ownBlock] at hk
    subst hk
    rcases hg with h | h
    · exact ⟨(hr.low g h).1, hv g h⟩
    · refine ⟨by omega, fun hh => ?_⟩
      rcases hh with h' | h'
      · have := hr.old g h'; omega
      · have := hTn g h'; omega
  · refine RowO.fr hf (fun k _ hk => ⟨hk, fun h => hv k h hk⟩) _ _ _ (RowO.snoc hs ht f E xs (RowO.fr hq (fun k _ hk => ⟨.inl hk, fun h => h⟩) f E xs hr.cells (fun _ _ _ h => h))) ?_
    rintro j k (⟨_, hk⟩ | ⟨_, hk⟩) h
    · exact (hr.sep j k hk).2.2.1 h
    · have := hvl k h; have := hDn k hk; omega
  · rintro j k (⟨_, hk⟩ | ⟨_, hk⟩)
    · have h1 := hr.sep j k hk
      refine ⟨h1.1, by omega, fun h => ?_, fun hh => ?_⟩
      · simp [Value.ownBlock] at h
        subst h
        rcases hg with h | h
        · exact h1.2.2.1 h
        · omega
      · rcases hh with h' | h'
        · exact h1.2.2.2 h'
        · have := hTn k h'; omega
    · have h1 := hDn k hk
      refine ⟨by omega, by omega, fun h => ?_, fun hh => ?_⟩
      · simp [Value.ownBlock] at h
        subst h
        rcases hg with h | h
        · have := hvl _ h; omega
        · omega
      · rcases hh with h' | h'
        · have := hr.old k h'; omega
        · exact (hTn k h').2.2 hk
  · rintro i j k (⟨hi, h1⟩ | ⟨hi, h1⟩) (⟨hj, h2⟩ | ⟨hj, h2⟩)
    · exact hr.one i j k h1 h2
    · have := hr.sep i k h1; have := hDn k h2; omega
    · have := hr.sep j k h2; have := hDn k h1; omega
    · omega
  · intro k hk
    rcases hk with h | h
    · have := hr.old k h; omega
    · have := hTn k h; omega
theorem TmRowO.to {T : Nat → Prop} {w : World} {B : Nat} {o : Option Addr} {len cap : Nat} {f : To} {xs : List Value} {E : Nat → Nat → Prop} (h : TmRowO T w B (.slice o len cap) f xs E) (hl : len = f.length) (hm : len ≤ maxLen) : TO T w (fun k => B ≤ k ∧ ¬ T k) o len f := by
  refine ⟨hl, hm, fun h0 => ?_⟩
  rcases h.own.2 with ⟨_, h2⟩ | ⟨g, cap', cur, he, _, hg, _⟩
  · omega
  · injection he with h1 h2 h3
    subst h1
    refine ⟨g, E, rfl, h.low g rfl, ⟨cur, hg⟩, fun j k hk => ⟨⟨(h.sep j k hk).1, (h.sep j k hk).2.2.2⟩, fun e => (h.sep j k hk).2.2.1 (by rw [e]; rfl)⟩, h.one, RowO.at f E xs 0 h.cells ?_⟩
    intro j u hj
    have := h.own.cells (g := g) rfl j u hj
    simpa [Addr.add_lit] using this
end Go.Proofs.YtnfodiedalhlhaaDoor
end
section
namespace Go.Proofs.YtnfodiedalhlhaaDoor
open Go.RowKit Go.Shelf
namespace Sc
theorem own_cap {w : World} {base : Nat} {e : TypeId} {size : Nat} {o : Option Addr} {n c : Nat} {xs : List Value} (h : w.ownsRow base e size (.slice o n c) n xs) : n ≤ c := by
  rcases h.2 with ⟨h1, h0⟩ | ⟨g, cap, cur, he, _, _, hc, _⟩
  · omega
  · injection he with _ _ h3; omega
theorem step_name {ops : Array Oper} {op : Oper} {a : Act} {K : Act → World → Prop} {Q : Exit → Act → World → Prop} {E : Prop} (W : World) (hg : op.guard = none) (s x : Operand)
    (hop : op.op = Op.call { callee := Callee.builtin Builtin.append, args := #[s, x], argTypes := #[40, 40] }) {T : Nat → Prop} {ao : Option Addr} {n : Nat} {e : List ByteArray} (hN : NmIn T W ao n e) (str : ByteArray) (H : Nat)
    (hs : a.eval s = .slice ao n n) (hx : a.eval x = .slice (some ⟨H, 0, none⟩) 1 1) (hH : W.heap[H]? = some (.cells #[.string str] 9 (0, 0))) (b1 : n + 1 ≤ 1000000) {Wb : World} (hqb : Quiet0 Wb W)
    (hK : ∀ g c w', NmIn (fun k => Wb.heap.size ≤ k) w' (some ⟨g, 0, none⟩) (n + 1) (str :: e) → n + 1 ≤ c → Quiet0 W w' → K (a.put op.dst (.slice (some ⟨g, 0, none⟩) (n + 1) c)) w') :
    if Region.wanted op (yielded ops a.tmps) = true then Oper.wp Tryd.prog op a W K Q else E := by
  obtain ⟨i0, hi, hz0, hz1, hz2⟩ := info_parts elemStr.info
  refine step_append_grows hg s x 40 hop 9 i0 (.string ⟨#[]⟩) 1 16 elemStr.under hi hz0 hz1 hz2 elemStr.cells elemStr.pos ao n n (e.reverse.map Value.string) hs
    (fun h => by subst h; exact ⟨hN.none, hN.none⟩) (by simp [hN.1]) (names_cells hN) ⟨H, 0, none⟩ 1 1 [.string str] hx rfl ?_ (by simp [Value.oneCell']) (by omega) (by unfold maxLen; omega) (by omega) ?_
  · intro j u hu
    rw [Addr.add_lit, cell_of_row W H (0 + j) #[.string str] 9 (0, 0) hH]
    simpa using hu
  · intro v' w' hown hgr
    obtain ⟨g, c, rfl, hb, _⟩ := hown.form (by omega)
    exact hK g c w' (NmIn.of_own hown (by rw [hN.1]) (by unfold maxLen; omega) (Nat.le_trans hqb.size hb)) (own_cap hown) (Fr.grown hgr (fun k hk => by cases hk))
theorem rowO_snoc {T Dn S : Nat → Prop} {W W1 w1 : World} {B : Nat} {v : Value} {f : To} {xs : List Value} {E : Nat → Nat → Prop} {h : Nd} {ps : To} {o1 : Option Addr} {l1 c1 : Nat} {o2 : Option Addr} {l2 c2 g c : Nat} (hr : TmRowO T W B v f xs E) (hB : B ≤ W.heap.size)
    (hf0 : Fr S W W1) (hS : ∀ k, S k → ¬ T k ∧ (∀ j, ¬ E j k) ∧ v.ownBlock ≠ some k) (hs : SlcIn T W1 o1 l1 h.tp) (ht : TO T W1 Dn o2 l2 ps) (hDn : ∀ k, Dn k → W.heap.size ≤ k ∧ k < W1.heap.size)
    (ho : w1.ownsRow 0 30 9 (.slice (some ⟨g, 0, none⟩) (f.length + 1) c) (f.length + 1) (xs ++ (cells9 h o1 l1 c1 o2 l2 c2).toList)) (hf : Fr (fun k => v.ownBlock = some k) W1 w1) (hg : v.ownBlock = some g ∨ W1.heap.size ≤ g) :
    TmRowO T w1 B (.slice (some ⟨g, 0, none⟩) (f.length + 1) c) (f.app (.cons h ps .nil)) (xs ++ (cells9 h o1 l1 c1 o2 l2 c2).toList) (fun j k => (j < f.length ∧ E j k) ∨ (j = f.length ∧ Dn k)) := by
  have hz := hf0.size
  have hz1 := hf.size
  have hvl : ∀ k, v.ownBlock = some k → k < W.heap.size := fun k hk => (hr.own.lt k hk).2
  have hv : ∀ k, v.ownBlock = some k → ¬ T k := fun k hk hh => (hr.low k hk).2 hh
  have hTn : ∀ k, T k → ¬ Dn k := fun k hk hd => by have := hr.old k hk; have := hDn k hd; omega
  refine ⟨by rw [To.app_length]; exact ho, ?_, ?_, ?_, ?_, ?_⟩
  · intro k hk
    simp [Value.ownBlock] at hk
    subst hk
    rcases hg with h | h
    · exact ⟨(hr.low g h).1, hv g h⟩
    · exact ⟨by omega, fun hh => by have := hr.old g hh; omega⟩
  · refine RowO.fr hf (fun k _ hk => ⟨hk, fun h => hv k h hk⟩) _ _ _ (RowO.snoc hs ht f E xs (RowO.fr hf0 (fun k _ hk => ⟨hk, fun h => (hS k h).1 hk⟩) f E xs hr.cells (fun j k hk h => (hS k h).2.1 j hk))) ?_
    rintro j k (⟨_, hk⟩ | ⟨_, hk⟩) h
    · exact (hr.sep j k hk).2.2.1 h
    · have := hvl k h; have := hDn k hk; omega
  · rintro j k (⟨_, hk⟩ | ⟨_, hk⟩)
    · have h1 := hr.sep j k hk
      refine ⟨h1.1, by omega, fun h => ?_, h1.2.2.2⟩
      simp [Value.ownBlock] at h
      subst h
      rcases hg with h | h
      · exact h1.2.2.1 h
      · omega
    · have h1 := hDn k hk
      refine ⟨by omega, by omega, fun h => ?_, fun hh => hTn k hh hk⟩
      simp [Value.ownBlock] at h
      subst h
      rcases hg with h | h
      · have := hvl _ h; omega
      · omega
  · rintro i j k (⟨hi, h1⟩ | ⟨hi, h1⟩) (⟨hj, h2⟩ | ⟨hj, h2⟩)
    · exact hr.one i j k h1 h2
    · have := hr.sep i k h1; have := hDn k h2; omega
    · have := hr.sep j k h2; have := hDn k h1; omega
    · omega
  · intro k hk
    have := hr.old k hk; omega
theorem rowO_to {T : Nat → Prop} {w : World} {B : Nat} {o : Option Addr} {len cap : Nat} {f : To} {xs : List Value} {E : Nat → Nat → Prop} (h : TmRowO T w B (.slice o len cap) f xs E) (hl : len = f.length) (hm : len ≤ maxLen) : TO T w (fun k => (Value.slice o len cap).ownBlock = some k ∨ ∃ j, E j k) o len f := by
  refine ⟨hl, hm, fun h0 => ?_⟩
  rcases h.own.2 with ⟨_, h2⟩ | ⟨g, cap', cur, he, _, hg, _⟩
  · omega
  · injection he with h1 h2 h3
    subst h1
    refine ⟨g, E, rfl, .inl rfl, ⟨cur, hg⟩, fun j k hk => ⟨.inr ⟨j, hk⟩, fun e => (h.sep j k hk).2.2.1 (by rw [e]; rfl)⟩, h.one, RowO.at f E xs 0 h.cells ?_⟩
    intro j u hj
    have := h.own.cells (g := g) rfl j u hj
    simpa [Addr.add_lit] using this
section
variable {σ : Type}
def DoQ (stp : σ → Nd → List ByteArray → σ) (out : Nd → List ByteArray → Nd) (J : Nat → σ → (Nat → Prop) → World → Prop) (b : Nat) (s : σ) (D : Nat → Prop) (e : List ByteArray) (h : Nd) (o1 : Option Addr) (l1 c1 : Nat) (o2 : Option Addr) (l2 c2 : Nat) (A : World) (x : Ending) (W' : World) : Prop :=
  x = .returned (tmv (out h e) o1 l1 c1 o2 l2 c2) ∧ ∃ D', J b (stp s h e) D' W' ∧ Fr D A W' ∧ ∀ k, D' k → D k ∨ A.heap.size ≤ k
structure DoW (F : Nat) (lb : Array Value) (R : Nat → Prop) (L0 : Nat) (stp : σ → Nd → List ByteArray → σ) (out : Nd → List ByteArray → Nd) (J : Nat → σ → (Nat → Prop) → World → Prop) : Prop where
  own : ∀ b s D A, J b s D A → ∀ k, D k → k < A.heap.size ∧ ¬ R k
  big : ∀ b s D A, J b s D A → L0 ≤ A.heap.size
  weak : ∀ b b' s D A, J b s D A → b' ≤ b → J b' s D A
  stay : ∀ b s D A B, J b s D A → Fr (fun k => L0 ≤ k ∧ ¬ D k) A B → J b s D B
  call : ∀ (b : Nat) (s : σ) (D : Nat → Prop) (A : World) (T : Nat → Prop) (e : List ByteArray) (h : Nd) (o1 : Option Addr) (l1 c1 : Nat) (o2 : Option Addr) (l2 c2 : Nat) (no : Option Addr) (n c : Nat), J (b + 1) s D A → NmIn T A no n e → n ≤ 300000 → SlcIn R A o1 l1 h.tp → h.k = 1 →
    Calls Tryd.prog F (#[tmv h o1 l1 c1 o2 l2 c2, .slice no n c] ++ lb) A (DoQ stp out J b s D e h o1 l1 c1 o2 l2 c2 A)
def WkQ (R : Nat → Prop) (stp : σ → Nd → List ByteArray → σ) (out : Nd → List ByteArray → Nd) (J : Nat → σ → (Nat → Prop) → World → Prop) (b : Nat) (s : σ) (D : Nat → Prop) (e : List ByteArray) (h : Nd) (ps : To) (o1 : Option Addr) (l1 c1 l2 : Nat) (W : World) (x : Ending) (W' : World) : Prop :=
  ∃ (o2 : Option Addr) (c2 : Nat) (D' E : Nat → Prop), x = .returned (tmv (wk1 stp out s e h ps).2.1 o1 l1 c1 o2 l2 c2) ∧ J b (wk1 stp out s e h ps).1 D' W' ∧ TO R W' E o2 l2 (wk1 stp out s e h ps).2.2 ∧ (∀ k, E k → W.heap.size ≤ k ∧ k < W'.heap.size ∧ ¬ D' k) ∧ Fr D W W' ∧ ∀ k, D' k → D k ∨ W.heap.size ≤ k
def TWk (F : Nat) (lb : Array Value) (R : Nat → Prop) (stp : σ → Nd → List ByteArray → σ) (out : Nd → List ByteArray → Nd) (J : Nat → σ → (Nat → Prop) → World → Prop) (h : Nd) (ps : To) : Prop :=
  ∀ (b : Nat) (s : σ) (D : Nat → Prop) (W : World) (T : Nat → Prop) (e : List ByteArray) (o1 : Option Addr) (l1 c1 : Nat) (o2 : Option Addr) (l2 c2 : Nat) (no : Option Addr) (n c : Nat), J (b + (ps.size + 1)) s D W → NmIn T W no n e → n ≤ c → (∀ k, T k → ¬ D k) → n + ps.size ≤ 200000 → SlcIn R W o1 l1 h.tp → TSlc R W o2 l2 ps → varOk h ps → allV ps →
    Calls Tryd.prog 71 #[tmv h o1 l1 c1 o2 l2 c2, .slice no n c, .func (.func F) #[] lb] W (WkQ R stp out J b s D e h ps o1 l1 c1 l2 W)
theorem wk1_var (stp : σ → Nd → List ByteArray → σ) (out : Nd → List ByteArray → Nd) (s : σ) (e : List ByteArray) (h : Nd) (ps : To) (hk : h.k = 1) : wk1 stp out s e h ps = (stp s h e, out h e, ps) := by unfold wk1; rw [if_pos hk]
theorem wk1_no (stp : σ → Nd → List ByteArray → σ) (out : Nd → List ByteArray → Nd) (s : σ) (e : List ByteArray) (h : Nd) (ps : To) (hk : ¬ h.k = 1) : wk1 stp out s e h ps = ((wk stp out h.k h.nm 0 s e ps).1, h, (wk stp out h.k h.nm 0 s e ps).2) := by unfold wk1; rw [if_neg hk]
theorem wk1_tp (stp : σ → Nd → List ByteArray → σ) (out : Nd → List ByteArray → Nd) (hout : ∀ h e, (out h e).tp = h.tp) (s : σ) (e : List ByteArray) (h : Nd) (ps : To) : (wk1 stp out s e h ps).2.1.tp = h.tp := by
  unfold wk1; split
  · exact hout _ _
  · rfl
theorem to_app_assoc' (f : To) (h : Nd) (ps r : To) : f.app (.cons h ps r) = (f.app (.cons h ps .nil)).app r := by rw [To.app_assoc]; rfl
end
end Sc
end Go.Proofs.YtnfodiedalhlhaaDoor
end
