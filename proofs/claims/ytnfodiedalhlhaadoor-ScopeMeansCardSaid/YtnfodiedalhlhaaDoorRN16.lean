/-
  Texts laid together (TeRight, TyRefVars0, TyRefVars, TyRefVars2, TeRSound, TeRSound1, TeRSound2): laws and walks, with their conditions in their statements.
-/
import Derived.Test.YtnfodiedalhlhaaDoorRN15
section
namespace Go.Proofs.YtnfodiedalhlhaaDoor
open Go.RowKit Go.Shelf
attribute [local go_sem] Oper.semAt_some
def GoodH (h : Nd) : Prop := h.nm.size ≤ 100000 ∧ h.tp.size ≤ 100000 ∧ wfI h.tn ∧ wfF h.tp
set_option maxHeartbeats 1000000 in
theorem soundT_any (h : Nd) (w : World) (R : Nat → Prop) (o1 : Option Addr) (l1 c1 : Nat) (o2 : Option Addr) (l2 c2 : Nat) (hs : SlcIn R w o1 l1 h.tp) (hg : GoodH h) (hl2 : l2 ≤ 9223372036854775807) (ht : Lx.Spaces w) :
    Calls Tryd.prog 70 #[tmv h o1 l1 c1 o2 l2 c2] w fun e w' => e = .returned (.bool (soundB h l2)) ∧ Quiet0 w w' := by
  obtain ⟨k, nm, n, tk, tn, tp0, fr, en⟩ := h
  obtain ⟨g1, g2, g3, g4⟩ := hg
  by_cases h1 : 1 ≤ k
  · by_cases h2 : k ≤ 10
    · exact sound_in k h1 h2 nm n tk tn tp0 fr en w o1 l1 c1 o2 l2 c2 hs.slc g1 g2 g3 g4 hl2 ht
    · have e : soundB ⟨k, nm, n, tk, tn, tp0, fr, en⟩ l2 = false := by unfold soundB; simp [h2]
      rw [e]
      have hk1 : ¬ k < 1 := by omega
      have hk2 : 10 < k := by omega
      have HQ := Lib.hid (Quiet0.alloc w (.cells #[.int .i64 k, .string nm, .int .i64 n, .int .i64 tk, .int .i64 tn, .slice o1 l1 c1, .slice o2 l2 c2, .int .i64 fr, .int .i64 en] 30))
      clear hs g1 g2 g3 g4 ht e
      unfold tmv
      go_enter Tryd.func70, Tryd.ntmps70
      go_wp2_with fail
      go_ret
      exact ⟨rfl, HQ.out⟩
  · have e : soundB ⟨k, nm, n, tk, tn, tp0, fr, en⟩ l2 = false := by unfold soundB; simp [h1]
    rw [e]
    have hk1 : k < 1 := by omega
    have HQ := Lib.hid (Quiet0.alloc w (.cells #[.int .i64 k, .string nm, .int .i64 n, .int .i64 tk, .int .i64 tn, .slice o1 l1 c1, .slice o2 l2 c2, .int .i64 fr, .int .i64 en] 30))
    clear hs g1 g2 g3 g4 ht e
    unfold tmv
    go_enter Tryd.func70, Tryd.ntmps70
    go_wp2_with fail
    go_ret
    exact ⟨rfl, HQ.out⟩
abbrev sndX (x : Nd × To) : Bool := soundB x.1 x.2.length
def RtI (rb : Nat) (w : World) (xs : List (Nd × To)) (i : Nat) (D : Nat → Prop) (W : World) : Prop :=
  ((∀ k, D k ↔ k = rb) ∧ W.heap[rb]? = some (.cells #[.bool false] 4 (0, 0)) ∧ Quiet0 w W) ∧ (xs.take i).all sndX = true
theorem RtI.fr {rb : Nat} {w : World} {xs : List (Nd × To)} {i : Nat} {D S : Nat → Prop} {W W' : World} (h : RtI rb w xs i D W) (hf : Fr S W W') (h1 : ¬ S rb) (h2 : ∀ k, k < w.heap.size → ¬ S k) : RtI rb w xs i D W' :=
  ⟨⟨h.1.1, (hf.block _ (lt_of_block h.1.2.1) h1).trans h.1.2.1, Fr.trans' h.1.2.2 hf (fun k hk hs => h2 k hk hs)⟩, h.2⟩
set_option maxHeartbeats 4000000 in
theorem rightTm_any (h : Nd) (ps : To) (w : World) (R : Nat → Prop) (o1 : Option Addr) (l1 c1 : Nat) (o2 : Option Addr) (l2 c2 : Nat) (hs1 : SlcIn R w o1 l1 h.tp) (hs : TSlc R w o2 l2 ps) (hz : ps.size ≤ 100000) (hg : allT GoodH (.cons h ps .nil)) (ht : Lx.Spaces w) :
    Calls Tryd.prog 38 #[tmv h o1 l1 c1 o2 l2 c2] w fun e w' => e = .returned (.bool ((To.cons h ps .nil).flat.all sndX)) ∧ Quiet0 w w' := by
  obtain ⟨xs, hxs⟩ : ∃ xs, (To.cons h ps .nil).flat = xs := ⟨_, rfl⟩
  rw [hxs]
  refine (callsIn_wide (n := 5)).1 ?_
  refine callsIn_of_wp_marks Tryd.func38 rfl trivial ?_ rfl
  simp only [Tryd.ntmps38, List.size_toArray, List.length_cons, List.length_nil, Nat.reduceAdd, Nat.reduceSub, Array.replicate_succ, Array.replicate_zero, List.push_toArray, List.append_toArray, List.nil_append, List.cons_append]
  have HC := fun W => (callsIn_wide (n := 4)).2 (all_call h o1 l1 c1 o2 l2 c2 W)
  have HT := Lib.hid ht
  have HG := Lib.hid (allT_flat _ hg)
  unfold tmv at HC ⊢
  gi_wp2_with (fail)
  refine ⟨trivial, (HC _).mono ?_⟩; rintro e W2' ⟨rfl, hW2⟩
  obtain ⟨W1, hW1⟩ : ∃ W1, W1 = ((w.alloc (.cells (cells9 h o1 l1 c1 o2 l2 c2) 30)).alloc (.cells #[.bool false] 4)) := ⟨_, rfl⟩
  have hz1 : W1.heap.size = w.heap.size + 1 + 1 := by rw [hW1]; simp
  have hq1 : Quiet0 w W1 := by rw [hW1]; exact (Quiet0.alloc _ _).trans (Quiet0.alloc _ _)
  have hb1 : W1.heap[w.heap.size + 1]? = some (.cells #[.bool false] 4 (0, 0)) := by
    rw [hW1]
    have := heap_alloc_new (w.alloc (.cells (cells9 h o1 l1 c1 o2 l2 c2) 30)) (.cells #[.bool false] 4)
    simpa using this
  have hW2' : W2' = W1.alloc (.cells (cells9 h o1 l1 c1 o2 l2 c2) 30) := by rw [hW1]; exact hW2
  have hq2 : Quiet0 w W2' := by rw [hW2']; exact hq1.trans (Quiet0.alloc _ _)
  have hb2 : W2'.heap[w.heap.size + 1]? = some (.cells #[.bool false] 4 (0, 0)) := by
    rw [hW2', Below.heap_alloc _ _ _ (by omega)]; exact hb1
  have htb : W2'.heap[W1.heap.size]? = some (.cells (cells9 h o1 l1 c1 o2 l2 c2) 30 (0, 0)) := by rw [hW2']; exact heap_alloc_new W1 _
  have hz2 : W2'.heap.size = w.heap.size + 3 := by rw [hW2']; simp; omega
  have hseq := all_seq (5 - 1) (fun k => k < w.heap.size ∨ k = W1.heap.size) h ps o1 l1 c1 o2 l2 c2 W1.heap.size W2' (fun k hk => by omega) htb (.inr rfl) ((hs1.mono (T := fun k => k < w.heap.size ∨ k = W1.heap.size) (fun k hk _ => .inl hk)).stay hq2) ((hs.mono (T := fun k => k < w.heap.size ∨ k = W1.heap.size) (fun k hk _ => .inl hk)).stay hq2) hz
  rw [hz1] at hseq
  rw [hxs] at hseq HG
  have HSEQ := Lib.hid hseq
  have HB2 := Lib.hid hb2
  have HQ2 := Lib.hid hq2
  clear hW1 hW2 hW2' hq1 hb1 hq2 hb2 htb hseq HC hxs hg ht
  gi_wp2_with (fail)
  refine wpIn_range_c (w := W2') rfl (enters_of Tryd.func81 (by kernel_rfl) rfl) HSEQ.out (fun k hk => by omega) (Fr.refl _ _) (fun i x va W he => encT_size he)
    (RtI (w.heap.size + 1) w xs)
    (fun i x a' D W => RtI (w.heap.size + 1) w xs i D W ∧ ∃ (xb : Nat) (t7 t8 : Value) (p1 : Option Addr) (m1 d1 : Nat) (p2 : Option Addr) (m2 d2 : Nat), W.heap[xb]? = some (.cells (cells9 x.1 p1 m1 d1 p2 m2 d2) 30 (0, 0)) ∧ xb ≠ W2'.heap.size + 1 ∧ SlcIn (fun k => k < w.heap.size ∨ k = w.heap.size + 1 + 1) W p1 m1 x.1.tp ∧ TSlc (fun k => k < w.heap.size ∨ k = w.heap.size + 1 + 1) W p2 m2 x.2 ∧ a' = { tmps := #[.agg #[.int .i64 h.k, .string h.nm, .int .i64 h.n, .int .i64 h.tk, .int .i64 h.tn, .slice o1 l1 c1, .slice o2 l2 c2, .int .i64 h.fr, .int .i64 h.en], .pointer (some ⟨w.heap.size, 0, none⟩), .pointer (some ⟨w.heap.size + 1, 0, none⟩), undef, .pointer (some ⟨xb, 0, none⟩), .agg #[.int .i64 h.k, .string h.nm, .int .i64 h.n, .int .i64 h.tk, .int .i64 h.tn, .slice o1 l1 c1, .slice o2 l2 c2, .int .i64 h.fr, .int .i64 h.en], .func (.func 81) #[] #[.pointer (some ⟨w.heap.size + 1 + 1, 0, none⟩)], t7, t8, undef, undef, undef], defers := [] })
    (fun c W => c = .ret ∧ W.heap[w.heap.size + 1]? = some (.cells #[.bool false] 4 (0, 0)) ∧ Quiet0 w W ∧ xs.all sndX = false) (fun k => k = w.heap.size + 1) ?own ?stay ?stayM ?stayX ?start ?assign ?body ?done ?stop
  case own =>
    rintro i D A ⟨⟨hd, hb, hq⟩, _⟩ k hk
    have e := (hd k).1 hk
    have hl := lt_of_block hb
    exact ⟨by omega, by omega, .inl (by omega)⟩
  case stay =>
    rintro i D A B hI hf
    exact hI.fr hf (fun h => h.2 ((hI.1.1 _).2 rfl)) (fun k hk h => by have := h.1; omega)
  case stayM =>
    rintro i x a' D A B ⟨hI, xb, t7, t8, p1, m1, d1, p2, m2, d2, hxb, hne, hp1, hp2, ha⟩ hf
    exact ⟨hI.fr hf (by omega) (fun k hk h => by omega), xb, t7, t8, p1, m1, d1, p2, m2, d2, blk_fr hf hne hxb, hne, hp1.fr hf (fun k _ h => ⟨h, by omega⟩), hp2.fr hf (fun k _ h => ⟨h, by omega⟩), ha⟩
  case stayX =>
    rintro c A B ⟨hc, hb, hq, hx⟩ hf
    exact ⟨hc, blk_fr hf (by omega) hb, hq.trans' hf (fun k hk h => by omega), hx⟩
  case start => exact ⟨⟨fun k => Iff.rfl, HB2.out, HQ2.out⟩, rfl⟩
  case assign =>
    rintro l i x va D W K hx ⟨p1, m1, d1, p2, m2, d2, rfl, hp1, hp2⟩ hI hWs hK
    unfold tmv
    have hq := Quiet0.alloc W (.cells (cells9 x.1 p1 m1 d1 p2 m2 d2) 30)
    have hnew := heap_alloc_new W (.cells (cells9 x.1 p1 m1 d1 p2 m2 d2) 30)
    have hne : W.heap.size ≠ W2'.heap.size + 1 := by omega
    have hI2 := hI.fr (S := fun _ => False) hq (fun h => h) (fun _ _ h => h)
    have hp1' := hp1.stay hq
    have hp2' := hp2.stay hq
    clear hI hWs
    gi_wp2
    exact hK _ _ ⟨hI2, W.heap.size, .int .i64 (i : Int), tmv x.1 p1 m1 d1 p2 m2 d2, p1, m1, d1, p2, m2, d2, hnew, hne, hp1', hp2', by simp [tmv]⟩ hq
  case body =>
    rintro l i x a' D W hx ⟨hI, xb, t7, t8, p1, m1, d1, p2, m2, d2, hxb, hne, hp1, hp2, rfl⟩ hW
    obtain ⟨a0, a1, a2, a3, a4, a5, a6, a7, a8⟩ := cells9_block hxb
    have hxm := HG.out x (List.mem_of_getElem? hx)
    have hl2 : m2 ≤ 9223372036854775807 := by have := hp2.2.1; unfold maxLen at this; omega
    have hCS := (callsIn_wide (n := 5 - 1 - 1)).2 (soundT_any x.1 W _ p1 m1 d1 p2 m2 d2 hp1 hxm.1 hl2 (HT.out.stay hI.1.2.2))
    have hlen : m2 = x.2.length := hp2.1
    rw [hlen] at hCS
    unfold tmv at hCS
    cases hb : soundB x.1 x.2.length
    · rw [hb] at hCS
      gi_wp2_with (fail)
      refine ⟨trivial, (CallsIn.inRound l hCS).mono ?_⟩; rintro e w1 ⟨rfl, hq1⟩
      have hI1 := hI.fr (S := fun _ => False) hq1 (fun h => h) (fun _ _ h => h)
      have cc := cell_of_one hI1.1.2.1
      have zz := free_of_one hI1.1.2.1
      have hal : xs.all sndX = false := by
        rw [List.all_eq_false]; exact ⟨x, List.mem_of_getElem? hx, by show ¬ soundB x.1 x.2.length = true; rw [hb]; simp⟩
      gi_wp2
      have hfs := Fr.setCell (fun k => k = w.heap.size + 1) w1 ⟨w.heap.size + 1, 0, none⟩ (.bool false) rfl
      exact ⟨⟨rfl, one_setCell hI1.1.2.1, hI1.1.2.2.trans' hfs (fun k hk e => by omega), hal⟩, Fr.trans hq1.fr (hfs.mono (fun k _ e => (hI.1.1 k).2 e))⟩
    · rw [hb] at hCS
      gi_wp2_with (fail)
      refine ⟨trivial, (CallsIn.inRound l hCS).mono ?_⟩; rintro e w1 ⟨rfl, hq1⟩
      have hI1 := hI.fr (S := fun _ => False) hq1 (fun h => h) (fun _ _ h => h)
      gi_wp2
      refine ⟨D, ⟨hI1.1, ?_⟩, hq1.fr, fun k hk => .inl hk⟩
      rw [List.take_add_one, hx, List.all_append, hI.2]
      simp [sndX, hb]
  case done =>
    rintro D W ⟨⟨hd, hb, hq⟩, hall⟩ hdef
    rw [List.take_length] at hall
    have cc := cell_of_one hb
    have zz := free_of_one hb
    gi_wp2
    have hne3 : W2'.heap.size ≠ w.heap.size + 1 := by omega
    have hd2 : (W.setCell ⟨w.heap.size + 1, 0, none⟩ (.bool true)).heap[W2'.heap.size]? = some (.deferred (some [])) := by
      rw [Below.heap_setCell _ _ _ _ (fun e => hne3 e)]; exact hdef
    refine ⟨by simp, .inl ⟨_, _, rfl, run_takeDeferred hd2, ?_⟩⟩
    have hfp := Fr.putObj (fun k => k = W2'.heap.size) (W.setCell ⟨w.heap.size + 1, 0, none⟩ (.bool true)) W2'.heap.size (.deferred none) rfl
    have cr := cell_of_one (blk_fr hfp (by omega) (one_setCell hb))
    refine ⟨_, by simp [results, Tryd.results38, go_sem, cr]; rfl, ?_, ?_⟩
    · rw [hall]
    · exact (hq.trans' (Fr.setCell (fun k => k = w.heap.size + 1) W ⟨w.heap.size + 1, 0, none⟩ (.bool true) rfl) (fun k hk e => by omega)).trans' hfp (fun k hk e => by omega)
  case stop =>
    rintro c W ⟨rfl, hb, hq, hx⟩ hdef
    gi_wp2
    refine ⟨by simp, .inl ⟨_, _, rfl, run_takeDeferred hdef, ?_⟩⟩
    have hfp := Fr.putObj (fun k => k = W2'.heap.size) W W2'.heap.size (.deferred none) rfl
    have cr := cell_of_one (blk_fr hfp (by omega) hb)
    refine ⟨_, by simp [results, Tryd.results38, go_sem, cr]; rfl, ?_, ?_⟩
    · rw [hx]
    · exact hq.trans' hfp (fun k hk e => by omega)
end Go.Proofs.YtnfodiedalhlhaaDoor
end
section
namespace Go.Proofs.YtnfodiedalhlhaaDoor
open Go.RowKit Go.Maps
def IntsV (w : World) (v : Value) (l : List Int) : Prop := ∃ a c, v = .slice a l.length c ∧ IntsAt w a l
theorem IntsV.stay {w w' : World} {v : Value} {l : List Int} (h : IntsV w v l) (hq : Quiet0 w w') : IntsV w' v l := by
  obtain ⟨a, c, rfl, h⟩ := h
  exact ⟨a, c, rfl, h.stay hq⟩
theorem ownsInts_v {w : World} {v : Value} {l : List Int} (h : w.ownsRow 0 3 1 v l.length (ints l)) : IntsV w v l := by
  obtain ⟨a, c, rfl, _, _, h'⟩ := IntRow.at (B := 0) ⟨h, fun _ _ => Nat.zero_le _⟩
  refine ⟨a, c, rfl, fun i x hx => ?_⟩
  obtain ⟨g, rfl, hc⟩ := row_int h' hx
  exact ⟨g, 0, rfl, by simpa using hc⟩
theorem own_empty {w : World} {b : Nat} (h : w.heap[b]? = some (.cells #[] 3 (0, 0))) : w.ownsRow 0 3 1 (.slice (some ⟨b, 0, none⟩) 0 0) ([] : List Int).length (ints []) := by
  refine ⟨rfl, .inr ⟨b, 0, #[], rfl, Nat.zero_le _, h, Nat.le_refl _, Nat.zero_le _, rfl, rfl⟩⟩
theorem run_append_nothing (w : World) (ty : TypeId) (v : Value) (n : Nat) (xs : List Value) (hown : w.ownsRow 0 3 1 v n xs) (hv : v ≠ .slice none 0 0) (o : Option Addr) (c : Nat) :
    (Builtin.append_ #[55, 55] ty #[v, .slice o 0 c]).run Tryd.prog w = .ok v w := by
  rcases hown.2 with ⟨rfl, _⟩ | ⟨g, cap, cur, rfl, _, hg, hc, hm, hs, _⟩
  · exact absurd rfl hv
  · obtain ⟨i0, hi, hz0, hz1, hz2⟩ := info_parts elemInt.info
    have hu := elemInt.under
    cases o <;> simp [Builtin.append_, run_underlying hu, sizeOf, typeInfo, hi, Builtin.lenOf, Builtin.firstCells, loadCells, loadCellsFrom, storeCells, hc]
end Go.Proofs.YtnfodiedalhlhaaDoor
end
section
namespace Go.Proofs.YtnfodiedalhlhaaDoor
open Go.RowKit Go.Maps
theorem step_ints {ops : Array Oper} {o : Oper} {a : Act} {K : Act → World → Prop} {Q : Exit → Act → World → Prop} {E : Prop} (W : World)
    (hg : o.guard = none) (s x : Operand) (hop : o.op = Op.call { callee := Callee.builtin Builtin.append, args := #[s, x], argTypes := #[55, 55] })
    (v : Value) (xs : List Int) (hs : a.eval s = v) (hown : W.ownsRow 0 3 1 v xs.length (ints xs)) (va : Option Addr) (ys : List Int) (m c : Nat) (hm : m = ys.length) (hx : a.eval x = .slice va m c) (hat : IntsAt W va ys) (hb : xs.length + ys.length ≤ 1000000) (hne : v ≠ .slice none 0 0)
    (hK : ∀ v' w', w'.ownsRow 0 3 1 v' (xs ++ ys).length (ints (xs ++ ys)) → Fr (fun k => v.ownBlock = some k) W w' → (∀ g, v'.ownBlock = some g → v.ownBlock = some g ∨ g = W.heap.size) → v' ≠ .slice none 0 0 → K (a.put o.dst v') w') :
    if Region.wanted o (yielded ops a.tmps) = true then Oper.wp Tryd.prog o a W K Q else E := by
  subst hm
  rw [if_pos (by unfold Region.wanted; rw [hg])]
  by_cases h0 : ys = []
  · subst h0
    have hr := run_append_nothing W o.type v _ _ hown hne va c
    unfold Oper.wp execOp
    simp only [hop, resolve, invoke, builtin, Sem.run_bind, Sem.run_pure, Result.andThen_ok, List.map_toArray, List.map_cons, List.map_nil, hs, hx, List.length_nil, hr]
    exact hK v W (by simpa using hown) (Fr.refl _ _) (fun g h => .inl h) hne
  · obtain ⟨y, r, rfl⟩ := List.exists_cons_of_ne_nil h0
    obtain ⟨b, off, rfl, _⟩ := hat 0 y rfl
    obtain ⟨i0, hi, hz0, hz1, hz2⟩ := info_parts elemInt.info
    refine wp_append_lies (P := Tryd.prog) W s x 55 hop 0 3 i0 (.int .i64 0) 1 8 elemInt.under hi hz0 hz1 hz2 (by decide) (by decide) v xs.length (ints xs) hs hown ⟨b, off, none⟩ (y :: r).length c (ints (y :: r)) hx (by simp [ints]) ?_ (by unfold ints; intro u hu; obtain ⟨z, _, rfl⟩ := List.mem_map.1 hu; rfl) (by simp) (by unfold maxLen; omega) (by omega) (Nat.zero_le _) _ rfl ?_
    · intro j u hj
      unfold ints at hj
      rw [List.getElem?_map] at hj
      cases hz : (y :: r)[j]? with
      | none => rw [hz] at hj; cases hj
      | some z =>
        rw [hz] at hj
        cases hj
        obtain ⟨b', off', he, hc⟩ := hat j z hz
        cases he
        simpa [Addr.add_lit] using hc
    · intro g cap w' ho hgr hg' _
      refine hK _ w' ?_ (Fr.grown hgr (fun k hk => hk)) ?_ (by simp)
      · rw [List.length_append]; unfold ints at *; rw [List.map_append]; exact ho
      · intro g2 h2
        simp [Value.ownBlock] at h2
        subst h2
        exact hg'
theorem ints_one {W : World} {b : Nat} {n : Int} (h : W.heap[b]? = some (.cells #[.int .i64 n] 3 (0, 0))) : IntsAt W (some ⟨b, 0, none⟩) [n] := by
  intro i x hx
  cases i with
  | zero =>
    simp at hx
    subst hx
    exact ⟨b, 0, rfl, by rw [cell_of_row _ _ _ _ _ (0, 0) h]; rfl⟩
  | succ i => simp at hx
end Go.Proofs.YtnfodiedalhlhaaDoor
end
section
namespace Go.Proofs.YtnfodiedalhlhaaDoor
open Go.RowKit Go.Maps
def RVars (k n : Int) (ps : Fo) : Prop := ∀ (w : World) (o : Option Addr) (len cap : Nat) (vo : Value) (L : List Int), Slc w o len ps → IntsV w vo L → L.length + ps.size ≤ 199000 + 999 →
  Calls Tryd.prog 78 #[tyv k n o len cap, vo] w fun e w' => ∃ vo', e = .returned vo' ∧ IntsV w' vo' (Fo.vars L (.cons k n ps .nil)) ∧ Quiet0 w w'
set_option maxHeartbeats 4000000 in
set_option maxRecDepth 100000 in
theorem refVars_any (k n : Int) (ps : Fo) : RVars k n ps := by
  refine Fo.ind' (T := RVars) ?_ k n ps
  intro k n ps ih w o len cap vo L hs hv hsz
  obtain ⟨va, vc, rfl, hat⟩ := hv
  have HS := Lib.hid hs
  have HL := Lib.hid hs.1
  have hmx := hs.2.1
  unfold maxLen at hmx
  have IH := Lib.hid ih
  have HAT0 := Lib.hid hat
  obtain ⟨RES, hres⟩ : ∃ RES, RES = Fo.vars L (.cons k n ps .nil) := ⟨_, rfl⟩
  have HRES : Hid (RES = Fo.vars (varStep L k n ps) ps) := hres
  have HIN := Lib.hid (fun (W : World) (hq : Quiet0 w W) => refIn_any va L.length vc L n W (hat.stay hq) rfl (by omega))
  obtain ⟨W0, hW0⟩ : ∃ W0, W0 = w.alloc (.cells #[.int .i64 k, .int .i64 n, .slice o len cap] 25) := ⟨_, rfl⟩
  have HQ0 : Hid (Quiet0 w W0) := by rw [hW0]; exact Quiet0.alloc _ _
  have HBB : Hid (∀ W, Quiet0 W0 W → W.cell? ⟨w.heap.size, 0, none⟩ = some (.int .i64 k) ∧ W.cell? ⟨w.heap.size, 1, none⟩ = some (.int .i64 n) ∧ W.cell? ⟨w.heap.size, 2, none⟩ = some (.slice o len cap)) := by
    intro W hq; rw [hW0] at hq; exact box_cells w k n o len cap _ W hq
  rw [← hres]
  clear hs hat ih hres
  unfold tyv
  cases hk : (k == 1)
  · have HST : Hid (varStep L k n ps = L) := by show _ = _; unfold varStep; rw [hk]; rfl
    go_enter Tryd.func78, Tryd.ntmps78
    generalize hB : w.heap.size = B at *
    go_upto_region 1 with fail
    rw [← hW0]
    clear hW0
    obtain ⟨a0, a1, a2⟩ := HBB.out W0 (Quiet0.refl _)
    go_wp2_with fail
    go_loopw [1, 5] (fun v t wr => ∃ (i : Nat) (l : List Int), t = .int .i64 i ∧ i ≤ len ∧ IntsV wr v l ∧ Fo.vars l (ps.drop i) = RES ∧ l.length + (ps.drop i).size ≤ 200000 ∧ Quiet0 W0 wr) (fun _ t _ => len - (intOf t).toNat)
    case atStart => exact ⟨0, L, rfl, Nat.zero_le _, ⟨va, vc, rfl, HAT0.out.stay HQ0.out⟩, by rw [Fo.drop_zero, HRES.out, HST.out], by rw [Fo.drop_zero]; omega, Quiet0.refl _⟩
    case round =>
      obtain ⟨i, l, rfl, hi, hv, hr, hz, hq⟩ := hrel
      have HV := Lib.hid hv
      have HR := Lib.hid hr
      have HZ := Lib.hid hz
      have HQ := Lib.hid hq
      obtain ⟨b0, b1, b2⟩ := HBB.out wr hq
      clear hv hr hz hq
      by_cases hlt : i < len
      · have hlt' : (i : Int) < len := by omega
        obtain ⟨b, off, k1, n1, qs, o1, len1, cap1, rfl, hd, hg, e0, e1, e2, hs1⟩ := (HS.out.stay (HQ0.out.trans HQ.out)).nth hlt
        have hzz : l.length + qs.size + 1 + (ps.drop (i + 1)).size ≤ 200000 := by have := HZ.out; rw [hd] at this; simp only [Fo.size] at this; omega
        have HC := Lib.hid (IH.out i k1 n1 qs hg wr o1 len1 cap1 u1 l hs1 HV.out (by omega))
        have HR2 : Hid (Fo.vars (Fo.vars l (.cons k1 n1 qs .nil)) (ps.drop (i + 1)) = RES) := by
          show _ = _
          rw [← HR.out, hd]; rfl
        have HZ2 : Hid ((Fo.vars l (.cons k1 n1 qs .nil)).length + (ps.drop (i + 1)).size ≤ 200000) := by
          show _ ≤ _
          have := vars_len (.cons k1 n1 qs .nil) l
          simp only [Fo.size] at this
          omega
        unfold tyv at HC
        generalize Fo.vars l (.cons k1 n1 qs .nil) = l2 at *
        clear hd hg hs1 hzz
        go_wp2_with fail
        refine HC.out.mono ?_; rintro e w2 ⟨v2, rfl, hv2, hq2⟩
        have HV2 := Lib.hid hv2
        have HQ2 := Lib.hid (HQ.out.trans hq2)
        clear hv2 hq2
        go_wp2_with fail
        go_roundw
        case rel => exact ⟨i + 1, l2, by go_num, by omega, HV2.out, HR2.out, HZ2.out, HQ2.out⟩
        case measure => simp [intOf]; omega
      · have hlt' : ¬ (i : Int) < len := by omega
        have hfin : l = RES := by have := HR.out; rw [Fo.drop_end ps i (by have := HL.out; omega)] at this; exact this
        have HFIN := Lib.hid hfin
        clear hfin
        go_wp2_with fail
        go_ret
        exact ⟨_, rfl, HFIN.out ▸ HV.out, HQ0.out.trans HQ.out⟩
  · cases hin : inB L n
    · have HST : Hid (varStep L k n ps = L ++ [n]) := by show _ = _; unfold varStep; rw [hk, hin]; rfl
      rw [hin] at HIN
      go_enter Tryd.func78, Tryd.ntmps78
      generalize hB : w.heap.size = B at *
      go_upto_region 1 with fail
      rw [← hW0]
      clear hW0
      obtain ⟨a0, a1, a2⟩ := HBB.out W0 (Quiet0.refl _)
      go_wp2_with fail
      refine (HIN.out _ HQ0.out).mono ?_; rintro e W1' ⟨rfl, rfl⟩
      have hq1 := Quiet0.refl W0
      have HQ1 := Lib.hid hq1
      clear a0 a1 a2
      go_upto_region 2 with fail
      obtain ⟨a0, a1, a2⟩ := HBB.out W0 hq1
      clear hq1
      have HAT := Lib.hid (HAT0.out.stay (HQ0.out.trans HQ1.out))
      have HS1 : Hid (∀ W, Quiet0 W0 W → W.cell? ⟨B, 1, none⟩ = some (.int .i64 n)) := fun W hq => (HBB.out W (HQ1.out.trans hq)).2.1
      go_cut [1] (fun v wx => IntsV wx v (L ++ [n]) ∧ Quiet0 W0 wx)
      case first =>
        have hqc := Quiet0.refl W0
        go_region_held3 (fun w' => w'.cell? ⟨B, 1, none⟩ = some (.int .i64 n))
          (((refine HS1.out _ ?_); (repeat (first | with_reducible exact hqc | with_reducible exact Quiet0.refl _ | with_reducible refine Quiet0.trans ?_ (Quiet0.alloc _ _) | with_reducible refine Quiet0.trans ?_ (Quiet0.drew _) | fail))))
          (first
            | ((refine step_ints _ rfl (.tmp 16) (.tmp 17) rfl (.slice (some ⟨W0.heap.size, 0, none⟩) 0 0) [] rfl ?hown va L L.length vc rfl rfl ?hat ?hbd ?hne ?_); (case hown => ((refine own_empty ?_); (repeat (first | ((with_reducible refine blk_new _ _ _ _ ?hbe); (case hbe => (simp; done))) | with_reducible refine blk_after (Quiet0.alloc _ _) ?_ | with_reducible refine blk_drew ?_ | ((with_reducible refine blk_fr hf3 ?hbo ?_); (case hbo => (simp [Value.ownBlock]; done))) | ((with_reducible refine blk_fr hf3 ?hbo ?_); (case hbo => (simp [Value.ownBlock]; omega))) | fail)))); (case hat => (repeat (first | with_reducible exact HAT.out | with_reducible refine IntsAt.stay ?_ (Quiet0.alloc _ _) | with_reducible refine IntsAt.stay ?_ (Quiet0.drew _) | fail))); (case hbd => (simp; omega)); (case hne => simp); intro v3 w3 ho3 hf3 hg3 hn3; (refine with_fr2 (w0 := W0) ?hch hf3 ?hlo ?_); (case hch => (repeat (first | with_reducible exact hqc | with_reducible exact Quiet0.refl _ | with_reducible refine Quiet0.trans ?_ (Quiet0.alloc _ _) | with_reducible refine Quiet0.trans ?_ (Quiet0.drew _) | fail))); (case hlo => (intro k hk; simp [Value.ownBlock] at hk; omega)); intro hqc hw3)
            | ((refine step_ints _ rfl (.tmp 16) (.tmp 17) rfl (.slice (some ⟨W0.heap.size + 1, 0, none⟩) 0 0) [] rfl ?hown va L L.length vc rfl rfl ?hat ?hbd ?hne ?_); (case hown => ((refine own_empty ?_); (repeat (first | ((with_reducible refine blk_new _ _ _ _ ?hbe); (case hbe => (simp; done))) | with_reducible refine blk_after (Quiet0.alloc _ _) ?_ | with_reducible refine blk_drew ?_ | ((with_reducible refine blk_fr hf3 ?hbo ?_); (case hbo => (simp [Value.ownBlock]; done))) | ((with_reducible refine blk_fr hf3 ?hbo ?_); (case hbo => (simp [Value.ownBlock]; omega))) | fail)))); (case hat => (repeat (first | with_reducible exact HAT.out | with_reducible refine IntsAt.stay ?_ (Quiet0.alloc _ _) | with_reducible refine IntsAt.stay ?_ (Quiet0.drew _) | fail))); (case hbd => (simp; omega)); (case hne => simp); intro v3 w3 ho3 hf3 hg3 hn3; (refine with_fr2 (w0 := W0) ?hch hf3 ?hlo ?_); (case hch => (repeat (first | with_reducible exact hqc | with_reducible exact Quiet0.refl _ | with_reducible refine Quiet0.trans ?_ (Quiet0.alloc _ _) | with_reducible refine Quiet0.trans ?_ (Quiet0.drew _) | fail))); (case hlo => (intro k hk; simp [Value.ownBlock] at hk; omega)); intro hqc hw3)
            | ((refine step_ints _ rfl (.tmp 18) (.tmp 21) rfl v3 ([] ++ L) rfl ?hown (some ⟨W0.heap.size, 0, none⟩) [n] 1 1 rfl rfl ?hat ?hbd hn3 ?_); (case hown => (first | with_reducible exact ho3 | with_reducible exact ho3.alloc _ | fail)); (case hat => ((refine ints_one ?_); (repeat (first | ((with_reducible refine blk_new _ _ _ _ ?hbe); (case hbe => (simp; done))) | with_reducible refine blk_after (Quiet0.alloc _ _) ?_ | with_reducible refine blk_drew ?_ | ((with_reducible refine blk_fr hf3 ?hbo ?_); (case hbo => (simp [Value.ownBlock]; done))) | ((with_reducible refine blk_fr hf3 ?hbo ?_); (case hbo => (simp [Value.ownBlock]; omega))) | fail)))); (case hbd => (simp; omega)); intro v4 w4 ho4 hf4 hg4 hn4; (refine with_fr2 (w0 := W0) ?hch hf4 ?hlo ?_); (case hch => (repeat (first | with_reducible exact hqc | with_reducible exact Quiet0.refl _ | with_reducible refine Quiet0.trans ?_ (Quiet0.alloc _ _) | with_reducible refine Quiet0.trans ?_ (Quiet0.drew _) | fail))); (case hlo => (intro k hk; rcases hg3 k hk with h | h; (simp [Value.ownBlock] at h; omega); (simp at h; omega))); intro hqc hw4)
            | ((refine step_ints _ rfl (.tmp 18) (.tmp 21) rfl v3 ([] ++ L) rfl ?hown (some ⟨W0.heap.size + 1, 0, none⟩) [n] 1 1 rfl rfl ?hat ?hbd hn3 ?_); (case hown => (first | with_reducible exact ho3 | with_reducible exact ho3.alloc _ | fail)); (case hat => ((refine ints_one ?_); (repeat (first | ((with_reducible refine blk_new _ _ _ _ ?hbe); (case hbe => (simp; done))) | with_reducible refine blk_after (Quiet0.alloc _ _) ?_ | with_reducible refine blk_drew ?_ | ((with_reducible refine blk_fr hf3 ?hbo ?_); (case hbo => (simp [Value.ownBlock]; done))) | ((with_reducible refine blk_fr hf3 ?hbo ?_); (case hbo => (simp [Value.ownBlock]; omega))) | fail)))); (case hbd => (simp; omega)); intro v4 w4 ho4 hf4 hg4 hn4; (refine with_fr2 (w0 := W0) ?hch hf4 ?hlo ?_); (case hch => (repeat (first | with_reducible exact hqc | with_reducible exact Quiet0.refl _ | with_reducible refine Quiet0.trans ?_ (Quiet0.alloc _ _) | with_reducible refine Quiet0.trans ?_ (Quiet0.drew _) | fail))); (case hlo => (intro k hk; rcases hg3 k hk with h | h; (simp [Value.ownBlock] at h; omega); (simp at h; omega))); intro hqc hw4)
            | ((refine step_ints _ rfl (.tmp 18) (.tmp 21) rfl v3 ([] ++ L) rfl ?hown (some ⟨w3.heap.size, 0, none⟩) [n] 1 1 rfl rfl ?hat ?hbd hn3 ?_); (case hown => (first | with_reducible exact ho3 | with_reducible exact ho3.alloc _ | fail)); (case hat => ((refine ints_one ?_); (repeat (first | ((with_reducible refine blk_new _ _ _ _ ?hbe); (case hbe => (simp; done))) | with_reducible refine blk_after (Quiet0.alloc _ _) ?_ | with_reducible refine blk_drew ?_ | ((with_reducible refine blk_fr hf3 ?hbo ?_); (case hbo => (simp [Value.ownBlock]; done))) | ((with_reducible refine blk_fr hf3 ?hbo ?_); (case hbo => (simp [Value.ownBlock]; omega))) | fail)))); (case hbd => (simp; omega)); intro v4 w4 ho4 hf4 hg4 hn4; (refine with_fr2 (w0 := W0) ?hch hf4 ?hlo ?_); (case hch => (repeat (first | with_reducible exact hqc | with_reducible exact Quiet0.refl _ | with_reducible refine Quiet0.trans ?_ (Quiet0.alloc _ _) | with_reducible refine Quiet0.trans ?_ (Quiet0.drew _) | fail))); (case hlo => (intro k hk; rcases hg3 k hk with h | h; (simp [Value.ownBlock] at h; omega); (simp at h; omega))); intro hqc hw4)
            | fail)
        all_goals
          go_wp2_with fail
          go_meet
          exact ⟨by have := ownsInts_v ho4; simpa using this, hqc⟩
      case rest =>
        obtain ⟨hvn, hqn⟩ := hcut
        have HVN := Lib.hid hvn
        have HQN := Lib.hid (HQ1.out.trans hqn)
        clear a0 a1 a2 hvn hqn
        go_wp2_with fail
        go_loopw [1, 5] (fun v t wr => ∃ (i : Nat) (l : List Int), t = .int .i64 i ∧ i ≤ len ∧ IntsV wr v l ∧ Fo.vars l (ps.drop i) = RES ∧ l.length + (ps.drop i).size ≤ 200000 ∧ Quiet0 W0 wr) (fun _ t _ => len - (intOf t).toNat)
        case atStart => exact ⟨0, L ++ [n], rfl, Nat.zero_le _, HVN.out, by rw [Fo.drop_zero, HRES.out, HST.out], by rw [Fo.drop_zero]; simp; omega, HQN.out⟩
        case round =>
          obtain ⟨i, l, rfl, hi, hv, hr, hz, hq⟩ := hrel
          have HV := Lib.hid hv
          have HR := Lib.hid hr
          have HZ := Lib.hid hz
          have HQ := Lib.hid hq
          obtain ⟨b0, b1, b2⟩ := HBB.out wr hq
          clear hv hr hz hq
          by_cases hlt : i < len
          · have hlt' : (i : Int) < len := by omega
            obtain ⟨b, off, k1, n1, qs, o1, len1, cap1, rfl, hd, hg, e0, e1, e2, hs1⟩ := (HS.out.stay (HQ0.out.trans HQ.out)).nth hlt
            have hzz : l.length + qs.size + 1 + (ps.drop (i + 1)).size ≤ 200000 := by have := HZ.out; rw [hd] at this; simp only [Fo.size] at this; omega
            have HC := Lib.hid (IH.out i k1 n1 qs hg wr o1 len1 cap1 u1 l hs1 HV.out (by omega))
            have HR2 : Hid (Fo.vars (Fo.vars l (.cons k1 n1 qs .nil)) (ps.drop (i + 1)) = RES) := by
              show _ = _
              rw [← HR.out, hd]; rfl
            have HZ2 : Hid ((Fo.vars l (.cons k1 n1 qs .nil)).length + (ps.drop (i + 1)).size ≤ 200000) := by
              show _ ≤ _
              have := vars_len (.cons k1 n1 qs .nil) l
              simp only [Fo.size] at this
              omega
            unfold tyv at HC
            generalize Fo.vars l (.cons k1 n1 qs .nil) = l2 at *
            clear hd hg hs1 hzz
            go_wp2_with fail
            refine HC.out.mono ?_; rintro e w2 ⟨v2, rfl, hv2, hq2⟩
            have HV2 := Lib.hid hv2
            have HQ2 := Lib.hid (HQ.out.trans hq2)
            clear hv2 hq2
            go_wp2_with fail
            go_roundw
            case rel => exact ⟨i + 1, l2, by go_num, by omega, HV2.out, HR2.out, HZ2.out, HQ2.out⟩
            case measure => simp [intOf]; omega
          · have hlt' : ¬ (i : Int) < len := by omega
            have hfin : l = RES := by have := HR.out; rw [Fo.drop_end ps i (by have := HL.out; omega)] at this; exact this
            have HFIN := Lib.hid hfin
            clear hfin
            go_wp2_with fail
            go_ret
            exact ⟨_, rfl, HFIN.out ▸ HV.out, HQ0.out.trans HQ.out⟩
    · have HST : Hid (varStep L k n ps = L) := by show _ = _; unfold varStep; rw [hk, hin]; rfl
      rw [hin] at HIN
      go_enter Tryd.func78, Tryd.ntmps78
      generalize hB : w.heap.size = B at *
      go_upto_region 1 with fail
      rw [← hW0]
      clear hW0
      obtain ⟨a0, a1, a2⟩ := HBB.out W0 (Quiet0.refl _)
      go_wp2_with fail
      refine (HIN.out _ HQ0.out).mono ?_; rintro e W1' ⟨rfl, rfl⟩
      have hq1 := Quiet0.refl W0
      have HQ1 := Lib.hid hq1
      clear a0 a1 a2 hq1
      go_wp2_with fail
      go_loopw [1, 5] (fun v t wr => ∃ (i : Nat) (l : List Int), t = .int .i64 i ∧ i ≤ len ∧ IntsV wr v l ∧ Fo.vars l (ps.drop i) = RES ∧ l.length + (ps.drop i).size ≤ 200000 ∧ Quiet0 W0 wr) (fun _ t _ => len - (intOf t).toNat)
      case atStart => exact ⟨0, L, rfl, Nat.zero_le _, ⟨va, vc, rfl, HAT0.out.stay (HQ0.out.trans HQ1.out)⟩, by rw [Fo.drop_zero, HRES.out, HST.out], by rw [Fo.drop_zero]; omega, HQ1.out⟩
      case round =>
        obtain ⟨i, l, rfl, hi, hv, hr, hz, hq⟩ := hrel
        have HV := Lib.hid hv
        have HR := Lib.hid hr
        have HZ := Lib.hid hz
        have HQ := Lib.hid hq
        obtain ⟨b0, b1, b2⟩ := HBB.out wr hq
        clear hv hr hz hq
        by_cases hlt : i < len
        · have hlt' : (i : Int) < len := by omega
          obtain ⟨b, off, k1, n1, qs, o1, len1, cap1, rfl, hd, hg, e0, e1, e2, hs1⟩ := (HS.out.stay (HQ0.out.trans HQ.out)).nth hlt
          have hzz : l.length + qs.size + 1 + (ps.drop (i + 1)).size ≤ 200000 := by have := HZ.out; rw [hd] at this; simp only [Fo.size] at this; omega
          have HC := Lib.hid (IH.out i k1 n1 qs hg wr o1 len1 cap1 u1 l hs1 HV.out (by omega))
          have HR2 : Hid (Fo.vars (Fo.vars l (.cons k1 n1 qs .nil)) (ps.drop (i + 1)) = RES) := by
            show _ = _
            rw [← HR.out, hd]; rfl
          have HZ2 : Hid ((Fo.vars l (.cons k1 n1 qs .nil)).length + (ps.drop (i + 1)).size ≤ 200000) := by
            show _ ≤ _
            have := vars_len (.cons k1 n1 qs .nil) l
            simp only [Fo.size] at this
            omega
          unfold tyv at HC
          generalize Fo.vars l (.cons k1 n1 qs .nil) = l2 at *
          clear hd hg hs1 hzz
          go_wp2_with fail
          refine HC.out.mono ?_; rintro e w2 ⟨v2, rfl, hv2, hq2⟩
          have HV2 := Lib.hid hv2
          have HQ2 := Lib.hid (HQ.out.trans hq2)
          clear hv2 hq2
          go_wp2_with fail
          go_roundw
          case rel => exact ⟨i + 1, l2, by go_num, by omega, HV2.out, HR2.out, HZ2.out, HQ2.out⟩
          case measure => simp [intOf]; omega
        · have hlt' : ¬ (i : Int) < len := by omega
          have hfin : l = RES := by have := HR.out; rw [Fo.drop_end ps i (by have := HL.out; omega)] at this; exact this
          have HFIN := Lib.hid hfin
          clear hfin
          go_wp2_with fail
          go_ret
          exact ⟨_, rfl, HFIN.out ▸ HV.out, HQ0.out.trans HQ.out⟩
end Go.Proofs.YtnfodiedalhlhaaDoor
end
section
namespace Go.Proofs.YtnfodiedalhlhaaDoor
open Go.RowKit Go.Shelf
set_option maxHeartbeats 1000000 in
theorem refNamed_any (k : Int) (w : World) : Calls Tryd.prog 75 #[.int .i64 k] w fun e w' => e = .returned (.bool (kName k)) ∧ Quiet0 w w' := by
  unfold kName
  cases h1 : (k == 1) <;> cases h4 : (k == 4) <;> cases h6 : (k == 6) <;> cases h7 : (k == 7)
  all_goals
    go_enter Tryd.func75, Tryd.ntmps75
    go_wp2_with fail
    go_ret
    exact ⟨by simp, Quiet0.refl _⟩
structure SndC (h : Nd) (W0 : World) (o1 : Option Addr) (l1 c1 : Nat) (o2 : Option Addr) (l2 c2 : Nat) (nb : Nat) : Prop where
  box : ∀ W, Quiet0 W0 W → Cells9 W nb 0 h o1 l1 c1 o2 l2 c2
  named : ∀ W, Calls Tryd.prog 75 #[.int .i64 h.k] W fun e w' => e = .returned (.bool (kName h.k)) ∧ Quiet0 W w'
  name : ∀ W, Calls Tryd.prog 76 #[.string h.nm] W fun e w' => e = .returned (.bool (Lx.nameB h.nm.data.toList)) ∧ Quiet0 W w'
  right : ∀ W, Quiet0 W0 W → Calls Tryd.prog 77 #[.agg #[.int .i64 h.tk, .int .i64 h.tn, .slice o1 l1 c1]] W fun e w' => e = .returned (.bool (rightT h.tk h.tn h.tp)) ∧ Quiet0 W w'
  vars : ∀ W, Quiet0 W0 W → Calls Tryd.prog 78 #[.agg #[.int .i64 h.tk, .int .i64 h.tn, .slice o1 l1 c1], .slice none 0 0] W fun e w' => ∃ va vc, e = .returned (.slice va (Fo.vars [] (.cons h.tk h.tn h.tp .nil)).length vc) ∧ Quiet0 W w'
  same : ∀ W, Quiet0 W0 W → Calls Tryd.prog 48 #[.agg #[.int .i64 h.tk, .int .i64 h.tn, .slice o1 l1 c1], .agg #[.int .i64 0, .int .i64 0, .slice none 0 0]] W fun e w' => e = .returned (.bool (sameT h.tk h.tn h.tp 0 0 .nil)) ∧ Quiet0 W w'
set_option maxHeartbeats 4000000 in
set_option maxRecDepth 100000 in
theorem sndC_of (h : Nd) (w : World) (R : Nat → Prop) (o1 : Option Addr) (l1 c1 : Nat) (o2 : Option Addr) (l2 c2 : Nat) (hs : SlcIn R w o1 l1 h.tp) (hnm : h.nm.size ≤ 100000) (htz : h.tp.size ≤ 100000) :
    SndC h (w.alloc (.cells (cells9 h o1 l1 c1 o2 l2 c2) 30)) o1 l1 c1 o2 l2 c2 w.heap.size := by
  have hq0 := Quiet0.alloc w (.cells (cells9 h o1 l1 c1 o2 l2 c2) 30)
  refine ⟨fun W hq => box9 w h o1 l1 c1 o2 l2 c2 _ W hq, fun W => refNamed_any h.k W, fun W => Lx.refName_any h.nm hnm W, fun W hq => refRight_any h.tk h.tn h.tp W o1 l1 c1 (hs.slc.stay (hq0.trans hq)), fun W hq => ?_, fun W hq => refSame_any h.tk h.tn h.tp 0 0 .nil W o1 l1 c1 none 0 0 (hs.slc.stay (hq0.trans hq)) (Slc.nil _ _)⟩
  refine (refVars_any h.tk h.tn h.tp W o1 l1 c1 (.slice none 0 0) [] (hs.slc.stay (hq0.trans hq)) ⟨none, 0, rfl, ?_⟩ (by simp; omega)).mono ?_
  · intro i x h; simp at h
  · rintro e w' ⟨vo, rfl, ⟨va, vc, rfl, _⟩, hq⟩
    exact ⟨va, vc, rfl, hq⟩
end Go.Proofs.YtnfodiedalhlhaaDoor
end
section
namespace Go.Proofs.YtnfodiedalhlhaaDoor
open Go.RowKit Go.Shelf
set_option maxHeartbeats 4000000 in
set_option maxRecDepth 100000 in
theorem refSound_1 (nm : ByteArray) (n tk tn : Int) (tp : Fo) (fr en : Int) (w : World) (o1 : Option Addr) (l1 c1 : Nat) (o2 : Option Addr) (l2 c2 : Nat) (hw : wfI n)
    (SC : SndC ⟨1, nm, n, tk, tn, tp, fr, en⟩ (w.alloc (.cells (cells9 ⟨1, nm, n, tk, tn, tp, fr, en⟩ o1 l1 c1 o2 l2 c2) 30)) o1 l1 c1 o2 l2 c2 w.heap.size) :
    Calls Tryd.prog 43 #[tmv ⟨1, nm, n, tk, tn, tp, fr, en⟩ o1 l1 c1 o2 l2 c2] w fun e w' => e = .returned (.bool (soundB ⟨1, nm, n, tk, tn, tp, fr, en⟩ l2)) ∧ Quiet0 w w' := by
  have HSC := Lib.hid SC
  have HW := Lib.hid hw
  have HN : Hid (∀ W, Calls Tryd.prog 75 #[.int .i64 1] W fun e w' => e = .returned (.bool true) ∧ Quiet0 W w') := SC.named
  obtain ⟨W0, hW0⟩ : ∃ W0, W0 = w.alloc (.cells (cells9 ⟨1, nm, n, tk, tn, tp, fr, en⟩ o1 l1 c1 o2 l2 c2) 30) := ⟨_, rfl⟩
  have HQ0 : Hid (Quiet0 w W0) := by rw [hW0]; exact Quiet0.alloc _ _
  clear SC hw
  rw [← hW0] at HSC
  unfold tmv
  go_enter Tryd.func43, Tryd.ntmps43
  go_upto_region 1 with fail
  change Code.wp _ _ _ _ (w.alloc (.cells (cells9 ⟨1, nm, n, tk, tn, tp, fr, en⟩ o1 l1 c1 o2 l2 c2) 30))
  rw [← hW0]
  clear hW0
  generalize w.heap.size = B at *
  obtain ⟨x0, x1, x2, x3, x4, x5, x6, x7, x8⟩ := HSC.out.box W0 (Quiet0.refl _)
  dsimp only at x0 x1 x2 x3 x4 x5 x6 x7 x8
  go_quiet (fail)
  go_wp2_with fail
  refine (HN.out _).mono ?_; rintro e w1 ⟨rfl, hq1⟩
  have HQ1 : Hid (Quiet0 W0 w1) := Quiet0.trans (Fr.drewN _ _ _) hq1
  clear x0 x1 x2 x3 x4 x5 x6 x7 x8 hq1
  obtain ⟨x0, x1, x2, x3, x4, x5, x6, x7, x8⟩ := HSC.out.box w1 HQ1.out
  dsimp only at x0 x1 x2 x3 x4 x5 x6 x7 x8
  cases hA : Lx.nameB nm.data.toList
  · have HNM := Lib.hid HSC.out.name
    rw [hA] at HNM
    go_wp2_with fail
    refine (HNM.out _).mono ?_; rintro e w2 ⟨rfl, hq2⟩
    go_wp2_with fail
    go_ret
    exact ⟨by simp [soundB, namedB, kName, hA], HQ0.out.trans (HQ1.out.trans hq2)⟩
  · have HNM := Lib.hid HSC.out.name
    rw [hA] at HNM
    have HNA := Lib.hid hA
    clear hA
    go_wp2_with fail
    refine (HNM.out _).mono ?_; rintro e w2 ⟨rfl, hq2⟩
    have HQ2 := Lib.hid (HQ1.out.trans hq2)
    clear x0 x1 x2 x3 x4 x5 x6 x7 x8 hq2
    go_wp2_with fail
    refine (HN.out _).mono ?_; rintro e w3 ⟨rfl, hq3⟩
    have HQ3 := Lib.hid (HQ2.out.trans hq3)
    clear hq3
    obtain ⟨x0, x1, x2, x3, x4, x5, x6, x7, x8⟩ := HSC.out.box w3 HQ3.out
    dsimp only at x0 x1 x2 x3 x4 x5 x6 x7 x8
    have HSM := Lib.hid HSC.out.same
    cases hT : sameT tk tn tp 0 0 .nil
    · rw [hT] at HSM
      go_wp2_with fail
      refine (HSM.out _ HQ3.out).mono ?_; rintro e w4 ⟨rfl, hq4⟩
      go_wp2_with fail
      go_ret
      exact ⟨by simp [soundB, typedB, hT], HQ0.out.trans (HQ3.out.trans hq4)⟩
    · rw [hT] at HSM
      have HTY := Lib.hid hT
      clear hT
      go_wp2_with fail
      refine (HSM.out _ HQ3.out).mono ?_; rintro e w4 ⟨rfl, hq4⟩
      have HQ4 := Lib.hid (HQ3.out.trans hq4)
      clear x0 x1 x2 x3 x4 x5 x6 x7 x8 hq4
      obtain ⟨x0, x1, x2, x3, x4, x5, x6, x7, x8⟩ := HSC.out.box w4 HQ4.out
      dsimp only at x0 x1 x2 x3 x4 x5 x6 x7 x8
      by_cases hn : n < 0
      · go_wp2_with fail
        go_ret
        exact ⟨by simp [soundB]; omega, HQ0.out.trans HQ4.out⟩
      · have hwn : n ≤ 9223372036854775807 := by have := HW.out; unfold wfI at this; simp only [Lit.wf, IntKind.min, IntKind.max, IntKind.signed, IntKind.bits, Bool.and_eq_true, decide_eq_true_eq, if_true] at this; omega
        go_wp2_with fail
        all_goals
          go_ret
          refine ⟨?_, HQ0.out.trans HQ4.out⟩
          have h1 := HNA.out
          have h2 := HTY.out
          refine congrArg (fun b => Ending.returned (Value.bool b)) ?_
          rw [Bool.eq_iff_iff]
          simp [soundB, namedB, typedB, kName, kTop, kLeast, kMost, h1, h2]
          omega
end Go.Proofs.YtnfodiedalhlhaaDoor
end
section
namespace Go.Proofs.YtnfodiedalhlhaaDoor
open Go.RowKit Go.Shelf
set_option maxHeartbeats 4000000 in
set_option maxRecDepth 100000 in
theorem refSound_2 (nm : ByteArray) (n tk tn : Int) (tp : Fo) (fr en : Int) (w : World) (o1 : Option Addr) (l1 c1 : Nat) (o2 : Option Addr) (l2 c2 : Nat) (hw : wfI n)
    (SC : SndC ⟨2, nm, n, tk, tn, tp, fr, en⟩ (w.alloc (.cells (cells9 ⟨2, nm, n, tk, tn, tp, fr, en⟩ o1 l1 c1 o2 l2 c2) 30)) o1 l1 c1 o2 l2 c2 w.heap.size) :
    Calls Tryd.prog 43 #[tmv ⟨2, nm, n, tk, tn, tp, fr, en⟩ o1 l1 c1 o2 l2 c2] w fun e w' => e = .returned (.bool (soundB ⟨2, nm, n, tk, tn, tp, fr, en⟩ l2)) ∧ Quiet0 w w' := by
  have HSC := Lib.hid SC
  have HW := Lib.hid hw
  have HN : Hid (∀ W, Calls Tryd.prog 75 #[.int .i64 2] W fun e w' => e = .returned (.bool false) ∧ Quiet0 W w') := SC.named
  obtain ⟨W0, hW0⟩ : ∃ W0, W0 = w.alloc (.cells (cells9 ⟨2, nm, n, tk, tn, tp, fr, en⟩ o1 l1 c1 o2 l2 c2) 30) := ⟨_, rfl⟩
  have HQ0 : Hid (Quiet0 w W0) := by rw [hW0]; exact Quiet0.alloc _ _
  clear SC hw
  rw [← hW0] at HSC
  unfold tmv
  go_enter Tryd.func43, Tryd.ntmps43
  go_upto_region 1 with fail
  change Code.wp _ _ _ _ (w.alloc (.cells (cells9 ⟨2, nm, n, tk, tn, tp, fr, en⟩ o1 l1 c1 o2 l2 c2) 30))
  rw [← hW0]
  clear hW0
  generalize w.heap.size = B at *
  obtain ⟨x0, x1, x2, x3, x4, x5, x6, x7, x8⟩ := HSC.out.box W0 (Quiet0.refl _)
  dsimp only at x0 x1 x2 x3 x4 x5 x6 x7 x8
  go_quiet (fail)
  go_wp2_with fail
  refine (HN.out _).mono ?_; rintro e w1 ⟨rfl, hq1⟩
  have HQ1 : Hid (Quiet0 W0 w1) := Quiet0.trans (Fr.drewN _ _ _) hq1
  clear x0 x1 x2 x3 x4 x5 x6 x7 x8 hq1
  obtain ⟨x0, x1, x2, x3, x4, x5, x6, x7, x8⟩ := HSC.out.box w1 HQ1.out
  dsimp only at x0 x1 x2 x3 x4 x5 x6 x7 x8
  go_wp2_with fail
  refine (HN.out _).mono ?_; rintro e w3 ⟨rfl, hq3⟩
  have HQ3 := Lib.hid (HQ1.out.trans hq3)
  clear x0 x1 x2 x3 x4 x5 x6 x7 x8 hq3
  obtain ⟨x0, x1, x2, x3, x4, x5, x6, x7, x8⟩ := HSC.out.box w3 HQ3.out
  dsimp only at x0 x1 x2 x3 x4 x5 x6 x7 x8
  cases hA : nm.toList.isEmpty
  · have e3 : nm.toList.isEmpty = false := hA
    go_wp2_with fail
    go_ret
    exact ⟨by simp [soundB, namedB, kName, hA], HQ0.out.trans HQ3.out⟩
  · have e3 : nm.toList.isEmpty = true := hA
    have HNA := Lib.hid hA
    clear hA
    have HSM := Lib.hid HSC.out.same
    cases hT : sameT tk tn tp 0 0 .nil
    · rw [hT] at HSM
      go_wp2_with fail
      refine (HSM.out _ HQ3.out).mono ?_; rintro e w4 ⟨rfl, hq4⟩
      go_wp2_with fail
      go_ret
      exact ⟨by simp [soundB, typedB, hT], HQ0.out.trans (HQ3.out.trans hq4)⟩
    · rw [hT] at HSM
      have HTY := Lib.hid hT
      clear hT
      go_wp2_with fail
      refine (HSM.out _ HQ3.out).mono ?_; rintro e w4 ⟨rfl, hq4⟩
      have HQ4 := Lib.hid (HQ3.out.trans hq4)
      clear x0 x1 x2 x3 x4 x5 x6 x7 x8 hq4
      obtain ⟨x0, x1, x2, x3, x4, x5, x6, x7, x8⟩ := HSC.out.box w4 HQ4.out
      dsimp only at x0 x1 x2 x3 x4 x5 x6 x7 x8
      by_cases hn : n < 0
      · go_wp2_with fail
        go_ret
        exact ⟨by simp [soundB]; omega, HQ0.out.trans HQ4.out⟩
      · by_cases ht : 999999999 < n
        · go_wp2_with fail
          go_ret
          exact ⟨by simp [soundB, kTop]; omega, HQ0.out.trans HQ4.out⟩
        · have hwn : n ≤ 9223372036854775807 := by have := HW.out; unfold wfI at this; simp only [Lit.wf, IntKind.min, IntKind.max, IntKind.signed, IntKind.bits, Bool.and_eq_true, decide_eq_true_eq, if_true] at this; omega
          go_wp2_with fail
          all_goals
            go_ret
            refine ⟨?_, HQ0.out.trans HQ4.out⟩
            have h1 := HNA.out
            have h2 := HTY.out
            refine congrArg (fun b => Ending.returned (Value.bool b)) ?_
            rw [Bool.eq_iff_iff]
            simp [soundB, namedB, typedB, kName, kTop, kLeast, kMost, h1, h2]
            omega
end Go.Proofs.YtnfodiedalhlhaaDoor
end
