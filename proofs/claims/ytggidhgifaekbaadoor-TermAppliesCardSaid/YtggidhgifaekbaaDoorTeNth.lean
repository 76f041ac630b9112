/-
  term.Nth at a number that there is: a range over all terms, left by a return. Conditions: the term lies in memory as told; there are few of them.
-/
import Derived.Test.YtggidhgifaekbaaDoorTeRight
import Derived.Test.YtggidhgifaekbaaDoorTeCopy
namespace Go.Proofs.YtggidhgifaekbaaDoor
open Go.RowKit Go.Shelf

attribute [local go_sem] Oper.semAt_some
def NtI (k : Nat) (w : World) (i : Nat) (D : Nat → Prop) (W : World) : Prop :=
  (∀ j, D j ↔ (j = w.heap.size + 2 ∨ j = w.heap.size + 3)) ∧ W.heap[w.heap.size + 1]? = some (.cells #[.int .i64 (k : Int)] 3 (0, 0)) ∧ W.heap[w.heap.size + 2]? = some (.cells zero9 35 (0, 0)) ∧ W.heap[w.heap.size + 3]? = some (.cells #[.bool false] 4 (0, 0)) ∧ Quiet0 w W ∧ i ≤ k
theorem NtI.fr {k : Nat} {w : World} {i : Nat} {D S : Nat → Prop} {W W' : World} (h : NtI k w i D W) (hf : Fr S W W') (h1 : ¬ S (w.heap.size + 1)) (h2 : ¬ S (w.heap.size + 2)) (h3 : ¬ S (w.heap.size + 3)) (h4 : ∀ k, k < w.heap.size → ¬ S k) : NtI k w i D W' :=
  ⟨h.1, blk_fr hf h1 h.2.1, blk_fr hf h2 h.2.2.1, blk_fr hf h3 h.2.2.2.1, Fr.trans' h.2.2.2.2.1 hf (fun k hk hs => h4 k hk hs), h.2.2.2.2.2⟩
/-- Nth has found it: its result lies in its two boxes -/
def NtX (x : Nd × To) (w : World) (z : Nat) (W : World) : Prop :=
  ∃ p1 m1 d1 p2 m2 d2, W.heap[w.heap.size + 2]? = some (.cells (cells9 x.1 p1 m1 d1 p2 m2 d2) 35 (0, 0)) ∧ W.heap[w.heap.size + 3]? = some (.cells #[.bool true] 4 (0, 0)) ∧ SlcIn (fun k => z ≤ k) W p1 m1 x.1.tp ∧ TSlc (fun k => z ≤ k) W p2 m2 x.2 ∧ Quiet0 w W
set_option maxHeartbeats 4000000 in
set_option maxRecDepth 100000 in
theorem nthTm_any (h : Nd) (ps : To) (k : Nat) (x : Nd × To) (w : World) (R : Nat → Prop) (o1 : Option Addr) (l1 c1 : Nat) (o2 : Option Addr) (l2 c2 : Nat) (hs1 : SlcIn R w o1 l1 h.tp) (hs : TSlc R w o2 l2 ps) (hz : ps.size ≤ 100000) (hg : allT (fun h => h.tp.size ≤ 1000000) (.cons h ps .nil)) (hk : (To.cons h ps .nil).flat[k]? = some x) (hxz : x.2.size ≤ 1000000) :
    Calls Tryd.prog 72 #[tmv h o1 l1 c1 o2 l2 c2, .int .i64 k] w fun e w' => ∃ p1 m1 d1 p2 m2 d2, e = .returned (.tuple #[tmv x.1 p1 m1 d1 p2 m2 d2, .bool true]) ∧ SlcIn (fun k => w.heap.size ≤ k) w' p1 m1 x.1.tp ∧ TSlc (fun k => w.heap.size ≤ k) w' p2 m2 x.2 ∧ Quiet0 w w' := by
  have hxm := allT_flat _ hg x (List.mem_of_getElem? hk)
  have hkl := (List.getElem?_eq_some_iff.1 hk).1
  obtain ⟨xs, hxs⟩ : ∃ xs, (To.cons h ps .nil).flat = xs := ⟨_, rfl⟩
  refine (callsIn_wide (n := 5)).1 ?_
  refine callsIn_of_wp_marks Tryd.func72 rfl trivial ?_ rfl
  simp only [Tryd.ntmps72, List.size_toArray, List.length_cons, List.length_nil, Nat.reduceAdd, Nat.reduceSub, Array.replicate_succ, Array.replicate_zero, List.push_toArray, List.append_toArray, List.nil_append, List.cons_append]
  have HC := fun W => (callsIn_wide (n := 4)).2 (all_call h o1 l1 c1 o2 l2 c2 W)
  unfold tmv at HC ⊢
  gi_wp2_with (fail)
  refine ⟨trivial, (HC _).mono ?_⟩; rintro e W2' ⟨rfl, hW2⟩
  obtain ⟨W1, hW1⟩ : ∃ W1, W1 = (((w.alloc (.cells (cells9 h o1 l1 c1 o2 l2 c2) 35)).alloc (.cells #[.int .i64 (k : Int)] 3)).alloc (.cells zero9 35)).alloc (.cells #[.bool false] 4) := ⟨_, rfl⟩
  have hz1 : W1.heap.size = w.heap.size + 4 := by rw [hW1]; simp
  have hq1 : Quiet0 w W1 := by rw [hW1]; exact (((Quiet0.alloc _ _).trans (Quiet0.alloc _ _)).trans (Quiet0.alloc _ _)).trans (Quiet0.alloc _ _)
  have hW2' : W2' = W1.alloc (.cells (cells9 h o1 l1 c1 o2 l2 c2) 35) := by rw [hW1]; exact hW2
  have hb1 : W1.heap[w.heap.size + 1]? = some (.cells #[.int .i64 (k : Int)] 3 (0, 0)) := by
    rw [hW1, Below.heap_alloc _ _ _ (by simp), Below.heap_alloc _ _ _ (by simp)]
    have := heap_alloc_new (w.alloc (.cells (cells9 h o1 l1 c1 o2 l2 c2) 35)) (.cells #[.int .i64 (k : Int)] 3)
    simpa using this
  have hb2 : W1.heap[w.heap.size + 2]? = some (.cells zero9 35 (0, 0)) := by
    rw [hW1, Below.heap_alloc _ _ _ (by simp)]
    have := heap_alloc_new ((w.alloc (.cells (cells9 h o1 l1 c1 o2 l2 c2) 35)).alloc (.cells #[.int .i64 (k : Int)] 3)) (.cells zero9 35)
    simpa using this
  have hb3 : W1.heap[w.heap.size + 3]? = some (.cells #[.bool false] 4 (0, 0)) := by
    rw [hW1]
    have := heap_alloc_new (((w.alloc (.cells (cells9 h o1 l1 c1 o2 l2 c2) 35)).alloc (.cells #[.int .i64 (k : Int)] 3)).alloc (.cells zero9 35)) (.cells #[.bool false] 4)
    simpa using this
  have hq12 : Quiet0 W1 W2' := by rw [hW2']; exact Quiet0.alloc _ _
  have hq2 : Quiet0 w W2' := hq1.trans hq12
  have htb : W2'.heap[W1.heap.size]? = some (.cells (cells9 h o1 l1 c1 o2 l2 c2) 35 (0, 0)) := by rw [hW2']; exact heap_alloc_new W1 _
  have hz2 : W2'.heap.size = w.heap.size + 5 := by rw [hW2']; simp; omega
  have hseq := all_seq (5 - 1) (fun k => k < w.heap.size ∨ k = W1.heap.size) h ps o1 l1 c1 o2 l2 c2 W1.heap.size W2' (fun k hk => by omega) htb (.inr rfl) ((hs1.mono (T := fun k => k < w.heap.size ∨ k = W1.heap.size) (fun k hk _ => .inl hk)).stay hq2) ((hs.mono (T := fun k => k < w.heap.size ∨ k = W1.heap.size) (fun k hk _ => .inl hk)).stay hq2) hz
  rw [hz1] at hseq
  rw [hxs] at hseq hk hkl
  have HSEQ := Lib.hid hseq
  have HST : Hid (NtI k w 0 (fun j => j = w.heap.size + 2 ∨ j = w.heap.size + 3) W2') := ⟨fun j => Iff.rfl, blk_after hq12 hb1, blk_after hq12 hb2, blk_after hq12 hb3, hq2, Nat.zero_le _⟩
  clear hW1 hW2 hW2' hq1 hb1 hq2 hb2 hb3 htb hseq HC hxs hg hq12
  gi_wp2_with (fail)
  refine wpIn_range_c (w := W2') rfl (enters_of Tryd.func112 (by kernel_rfl) rfl) HSEQ.out (fun k hk => by omega) (Fr.refl _ _) (fun i x va W he => encT_size he)
    (NtI k w)
    (fun i x a' D W => NtI k w i D W ∧ ∃ (xb : Nat) (t7 t8 : Value) (p1 : Option Addr) (m1 d1 : Nat) (p2 : Option Addr) (m2 d2 : Nat), W.heap[xb]? = some (.cells (cells9 x.1 p1 m1 d1 p2 m2 d2) 35 (0, 0)) ∧ xb ≠ W2'.heap.size + 1 ∧ SlcIn (fun k => k < w.heap.size ∨ k = w.heap.size + 4) W p1 m1 x.1.tp ∧ TSlc (fun k => k < w.heap.size ∨ k = w.heap.size + 4) W p2 m2 x.2 ∧ a' = { tmps := #[.agg #[.int .i64 h.k, .string h.nm, .int .i64 h.n, .int .i64 h.tk, .int .i64 h.tn, .slice o1 l1 c1, .slice o2 l2 c2, .int .i64 h.fr, .int .i64 h.en], .int .i64 (k : Int), .pointer (some ⟨w.heap.size, 0, none⟩), .pointer (some ⟨w.heap.size + 1, 0, none⟩), .pointer (some ⟨w.heap.size + 1 + 1, 0, none⟩), .pointer (some ⟨w.heap.size + 1 + 1 + 1, 0, none⟩), .int .i64 (i : Int), .pointer (some ⟨xb, 0, none⟩), .agg #[.int .i64 h.k, .string h.nm, .int .i64 h.n, .int .i64 h.tk, .int .i64 h.tn, .slice o1 l1 c1, .slice o2 l2 c2, .int .i64 h.fr, .int .i64 h.en], .func (.func 112) #[] #[.pointer (some ⟨w.heap.size + 1 + 1 + 1 + 1, 0, none⟩)], t7, t8, undef, undef, undef, undef, undef, undef], defers := [] })
    (fun c W => c = .ret ∧ NtX x w (W2'.heap.size + 2) W) (fun k => k = w.heap.size + 2 ∨ k = w.heap.size + 3) ?own ?stay ?stayM ?stayX ?start ?assign ?body ?done ?stop
  case own =>
    rintro i D A ⟨hd, h1, h2, h3, hq, hle⟩ k hk
    have e := (hd k).1 hk
    have hl := lt_of_block h3
    exact ⟨by omega, by omega, .inl (by omega)⟩
  case stay =>
    rintro i D A B hI hf
    exact hI.fr hf (fun h => by have := h.1; omega) (fun h => h.2 ((hI.1 _).2 (.inl rfl))) (fun h => h.2 ((hI.1 _).2 (.inr rfl))) (fun k hk h => by have := h.1; omega)
  case stayM =>
    rintro i x a' D A B ⟨hI, xb, t7, t8, p1, m1, d1, p2, m2, d2, hxb, hne, hp1, hp2, ha⟩ hf
    exact ⟨hI.fr hf (by omega) (by omega) (by omega) (fun k hk h => by omega), xb, t7, t8, p1, m1, d1, p2, m2, d2, blk_fr hf hne hxb, hne, hp1.fr hf (fun k _ h => ⟨h, by omega⟩), hp2.fr hf (fun k _ h => ⟨h, by omega⟩), ha⟩
  case stayX =>
    rintro c A B ⟨hc, p1, m1, d1, p2, m2, d2, hb1, hb2, hp1, hp2, hq⟩ hf
    exact ⟨hc, p1, m1, d1, p2, m2, d2, blk_fr hf (by omega) hb1, blk_fr hf (by omega) hb2, hp1.fr hf (fun k _ h => ⟨h, by have h' : W2'.heap.size + 2 ≤ k := h; omega⟩), hp2.fr hf (fun k _ h => ⟨h, by have h' : W2'.heap.size + 2 ≤ k := h; omega⟩), hq.trans' hf (fun k hk h => by omega)⟩
  case start => exact HST.out
  case assign =>
    rintro l i y va D W K hx ⟨p1, m1, d1, p2, m2, d2, rfl, hp1, hp2⟩ hI hWs hK
    unfold tmv
    have hq := Quiet0.alloc W (.cells (cells9 y.1 p1 m1 d1 p2 m2 d2) 35)
    have hnew := heap_alloc_new W (.cells (cells9 y.1 p1 m1 d1 p2 m2 d2) 35)
    have hne : W.heap.size ≠ W2'.heap.size + 1 := by omega
    have hI2 := hI.fr (S := fun _ => False) hq (fun h => h) (fun h => h) (fun h => h) (fun _ _ h => h)
    have hp1' := hp1.stay hq
    have hp2' := hp2.stay hq
    clear hI hWs
    gi_wp2
    exact hK _ _ ⟨hI2, W.heap.size, .int .i64 (i : Int), tmv y.1 p1 m1 d1 p2 m2 d2, p1, m1, d1, p2, m2, d2, hnew, hne, hp1', hp2', by simp [tmv]⟩ hq
  case body =>
    rintro l i y a' D W hx ⟨hI, xb, t7, t8, p1, m1, d1, p2, m2, d2, hxb, hne, hp1, hp2, rfl⟩ hW
    obtain ⟨a0, a1, a2, a3, a4, a5, a6, a7, a8⟩ := cells9_block hxb
    have ck := cell_of_one hI.2.1
    by_cases hik : i = k
    · subst hik
      obtain rfl : y = x := Option.some.inj (hx.symm.trans hk)
      have hCS := (callsIn_wide (n := 5 - 1 - 1)).2 (copyT_any y.1 y.2 W _ p1 m1 d1 p2 m2 d2 hp1 hp2 hxm.1 hxm.2 hxz)
      unfold tmv at hCS
      have HI := Lib.hid hI
      clear hI hxb hp1 hp2 hx hk hxm hxz
      gi_wp2_with (fail)
      refine ⟨trivial, (CallsIn.inRound l hCS).mono ?_⟩; rintro e w1 ⟨q1, e1, q2, e2, rfl, hc1, hc2, hq1⟩
      clear a0 a1 a2 a3 a4 a5 a6 a7 a8 ck hCS
      have hI1 := HI.out.fr (S := fun _ => False) hq1 (fun h => h) (fun h => h) (fun h => h) (fun _ _ h => h)
      obtain ⟨⟨x0, x1, x2, x3, x4, x5, x6, x7, x8⟩, y0, y1, y2, y3, y4, y5, y6, y7, y8⟩ := block9 hI1.2.2.1
      have cc := cell_of_one hI1.2.2.2.1
      have zz := free_of_one hI1.2.2.2.1
      have HI1 := Lib.hid hI1
      have HC1 := Lib.hid hc1
      have HC2 := Lib.hid hc2
      have HQ1 := Lib.hid hq1
      clear hI1 hc1 hc2 hq1 HSEQ HST
      generalize hB : w.heap.size = B at *
      gi_wp2
      change rfPost _ _ _ _ _ .ret _ ((put9 w1 (B + 1 + 1) (.int .i64 y.1.k) (.string y.1.nm) (.int .i64 y.1.n) (.int .i64 y.1.tk) (.int .i64 y.1.tn) (.slice q1 m1 e1) (.slice q2 m2 e2) (.int .i64 y.1.fr) (.int .i64 y.1.en)).setCell ⟨B + 1 + 1 + 1, 0, none⟩ (.bool true))
      subst hB
      have hf9 := put9_fr w1 (w.heap.size + 2) (.int .i64 y.1.k) (.string y.1.nm) (.int .i64 y.1.n) (.int .i64 y.1.tk) (.int .i64 y.1.tn) (.slice q1 m1 e1) (.slice q2 m2 e2) (.int .i64 y.1.fr) (.int .i64 y.1.en)
      have hb9 := put9_block (a0 := .int .i64 y.1.k) (a1 := .string y.1.nm) (a2 := .int .i64 y.1.n) (a3 := .int .i64 y.1.tk) (a4 := .int .i64 y.1.tn) (a5 := .slice q1 m1 e1) (a6 := .slice q2 m2 e2) (a7 := .int .i64 y.1.fr) (a8 := .int .i64 y.1.en) HI1.out.2.2.1
      change rfPost _ _ _ _ _ .ret _ ((put9 w1 (w.heap.size + 2) (.int .i64 y.1.k) (.string y.1.nm) (.int .i64 y.1.n) (.int .i64 y.1.tk) (.int .i64 y.1.tn) (.slice q1 m1 e1) (.slice q2 m2 e2) (.int .i64 y.1.fr) (.int .i64 y.1.en)).setCell ⟨w.heap.size + 3, 0, none⟩ (.bool true))
      generalize put9 w1 (w.heap.size + 2) (.int .i64 y.1.k) (.string y.1.nm) (.int .i64 y.1.n) (.int .i64 y.1.tk) (.int .i64 y.1.tn) (.slice q1 m1 e1) (.slice q2 m2 e2) (.int .i64 y.1.fr) (.int .i64 y.1.en) = W9 at hf9 hb9 ⊢
      have hfs := Fr.setCell (fun k => k = w.heap.size + 3) W9 ⟨w.heap.size + 3, 0, none⟩ (.bool true) rfl
      have hb3 := blk_fr hf9 (by omega) HI1.out.2.2.2.1
      have hfa : Fr (fun k => k = w.heap.size + 2 ∨ k = w.heap.size + 3) w1 (W9.setCell ⟨w.heap.size + 3, 0, none⟩ (.bool true)) := (hf9.mono (fun k _ e => .inl e)).trans (hfs.mono (fun k _ e => .inr e))
      refine ⟨⟨rfl, q1, m1, e1, q2, m2, e2, blk_fr hfs (by omega) hb9, one_setCell hb3, ?_, ?_, ?_⟩, ?_⟩
      · exact HC1.out.fr hfa (fun k _ h => by have h' : W.heap.size ≤ k := h; exact ⟨by show W2'.heap.size + 2 ≤ k; omega, by omega⟩)
      · exact HC2.out.fr hfa (fun k _ h => by have h' : W.heap.size ≤ k := h; exact ⟨by show W2'.heap.size + 2 ≤ k; omega, by omega⟩)
      · exact (HI.out.2.2.2.2.1.trans HQ1.out).trans' hfa (fun k hk e => by omega)
      · exact Fr.trans HQ1.out.fr (hfa.mono (fun k _ e => (HI.out.1 k).2 e))
    · have hik' : ¬ (i : Int) = k := by omega
      have HI := Lib.hid hI
      have hle : i + 1 ≤ k := by have := hI.2.2.2.2.2; omega
      clear hI
      gi_wp2
      exact ⟨D, ⟨HI.out.1, HI.out.2.1, HI.out.2.2.1, HI.out.2.2.2.1, HI.out.2.2.2.2.1, hle⟩, Fr.refl _ _, fun k hk => .inl hk⟩
  case done =>
    rintro D W hI hdef
    have := hI.2.2.2.2.2
    omega
  case stop =>
    rintro c W ⟨rfl, p1, m1, d1, p2, m2, d2, hb1, hb2, hp1, hp2, hq⟩ hdef
    gi_wp2
    refine ⟨by simp, .inl ⟨_, _, rfl, run_takeDeferred hdef, ?_⟩⟩
    have hfp := Fr.putObj (fun k => k = W2'.heap.size) W W2'.heap.size (.deferred none) rfl
    have cr := cell_of_one (blk_fr hfp (by omega) hb2)
    obtain ⟨x0, x1, x2, x3, x4, x5, x6, x7, x8⟩ := cells9_block (blk_fr hfp (by omega) hb1)
    refine ⟨_, by simp [results, Tryd.results72, go_sem, cr, x0, x1, x2, x3, x4, x5, x6, x7, x8]; rfl, p1, m1, d1, p2, m2, d2, ?_, ?_, ?_, ?_⟩
    · rfl
    · exact hp1.fr hfp (fun k _ h => by have h' : W2'.heap.size + 2 ≤ k := h; exact ⟨by show w.heap.size ≤ k; omega, by omega⟩)
    · exact hp2.fr hfp (fun k _ h => by have h' : W2'.heap.size + 2 ≤ k := h; exact ⟨by show w.heap.size ≤ k; omega, by omega⟩)
    · exact hq.trans' hfp (fun k hk e => by omega)
end Go.Proofs.YtggidhgifaekbaaDoor
