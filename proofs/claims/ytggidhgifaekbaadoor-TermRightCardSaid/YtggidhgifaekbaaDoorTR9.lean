/-
  Texts laid together (TeNth, TeAwake, TePair, TeEqual, TeRoom, Law, TyOpen): what each one proves, and its conditions, stands at its head.
-/
import Derived.Deep.RegionHeld3
import Derived.ProofKit
import Derived.OpenShut
import Derived.Deep.Slices
import Derived.Test.YtggidhgifaekbaaDoorRows
import Derived.Test.YtggidhgifaekbaaDoorTR1
import Derived.Test.YtggidhgifaekbaaDoorTR2
import Derived.Test.YtggidhgifaekbaaDoorTR3
import Derived.Test.YtggidhgifaekbaaDoorTR4
import Derived.Test.YtggidhgifaekbaaDoorTR5
import Derived.Test.YtggidhgifaekbaaDoorTR6
import Derived.Test.YtggidhgifaekbaaDoorTR7
import Derived.Test.YtggidhgifaekbaaDoorTR8
section
/-
  term.Nth at a number that there is: a range over all terms, left by a return. Conditions: the term lies in memory as told; there are few of them.
-/
namespace Go.Proofs.YtggidhgifaekbaaDoor
open Go.RowKit Go.Shelf

attribute [local go_sem] Oper.semAt_some
def NtI (k : Nat) (w : World) (i : Nat) (D : Nat → Prop) (W : World) : Prop :=
  (∀ j, D j ↔ (j = w.heap.size + 2 ∨ j = w.heap.size + 3)) ∧ W.heap[w.heap.size + 1]? = some (.cells #[.int .i64 (k : Int)] 3 (0, 0)) ∧ W.heap[w.heap.size + 2]? = some (.cells zero9 35 (0, 0)) ∧ W.heap[w.heap.size + 3]? = some (.cells #[.bool false] 4 (0, 0)) ∧ Quiet0 w W ∧ i ≤ k
theorem NtI.fr {k : Nat} {w : World} {i : Nat} {D S : Nat → Prop} {W W' : World} (h : NtI k w i D W) (hf : Fr S W W') (h1 : ¬ S (w.heap.size + 1)) (h2 : ¬ S (w.heap.size + 2)) (h3 : ¬ S (w.heap.size + 3)) (h4 : ∀ k, k < w.heap.size → ¬ S k) : NtI k w i D W' :=
  ⟨h.1, blk_fr hf h1 h.2.1, blk_fr hf h2 h.2.2.1, blk_fr hf h3 h.2.2.2.1, Fr.trans' h.2.2.2.2.1 hf (fun k hk hs => h4 k hk hs), h.2.2.2.2.2⟩
/-- Nth has found it: its result lies in its two boxes -/
def NtX (x : Nd × To) (w : World) (z : Nat) (W : World) : Prop :=
  ∃ p1 m1 d1 p2 m2 d2, W.heap[w.heap.size + 2]? = some (.cells (cells9 x.1 p1 m1 d1 p2 m2 d2) 35 (0, 0)) ∧ W.heap[w.heap.size + 3]? = some (.cells #[.bool true] 4 (0, 0)) ∧ SlcIn (fun k => z ≤ k) W p1 m1 x.1.tp ∧ TSlc (fun k => z ≤ k) W p2 m2 x.2 ∧ Quiet0 w W
set_option maxHeartbeats 4000000 in
set_option maxRecDepth 100000 in
theorem nthTm_any (h : Nd) (ps : To) (k : Nat) (x : Nd × To) (w : World) (R : Nat → Prop) (o1 : Option Addr) (l1 c1 : Nat) (o2 : Option Addr) (l2 c2 : Nat) (hs1 : SlcIn R w o1 l1 h.tp) (hs : TSlc R w o2 l2 ps) (hz : ps.size ≤ 100000) (hg : allT (fun h => h.tp.size ≤ 1000000) (.cons h ps .nil)) (hk : (To.cons h ps .nil).flat[k]? = some x) (hxz : x.2.size ≤ 1000000) :
    Calls Tryd.prog 72 #[tmv h o1 l1 c1 o2 l2 c2, .int .i64 k] w fun e w' => ∃ p1 m1 d1 p2 m2 d2, e = .returned (.tuple #[tmv x.1 p1 m1 d1 p2 m2 d2, .bool true]) ∧ SlcIn (fun k => w.heap.size ≤ k) w' p1 m1 x.1.tp ∧ TSlc (fun k => w.heap.size ≤ k) w' p2 m2 x.2 ∧ Quiet0 w w' := by
  have hxm := allT_flat _ hg x (List.mem_of_getElem? hk)
  have hkl := (List.getElem?_eq_some_iff.1 hk).1
  obtain ⟨xs, hxs⟩ : ∃ xs, (To.cons h ps .nil).flat = xs := ⟨_, rfl⟩
  refine (callsIn_wide (n := 5)).1 ?_
  refine callsIn_of_wp_marks Tryd.func72 rfl trivial ?_ rfl
  simp only [Tryd.ntmps72, List.size_toArray, List.length_cons, List.length_nil, Nat.reduceAdd, Nat.reduceSub, Array.replicate_succ, Array.replicate_zero, List.push_toArray, List.append_toArray, List.nil_append, List.cons_append]
  have HC := fun W => (callsIn_wide (n := 4)).2 (all_call h o1 l1 c1 o2 l2 c2 W)
  unfold tmv at HC ⊢
  gi_wp2_with (fail)
  refine ⟨trivial, (HC _).mono ?_⟩; rintro e W2' ⟨rfl, hW2⟩
  obtain ⟨W1, hW1⟩ : ∃ W1, W1 = (((w.alloc (.cells (cells9 h o1 l1 c1 o2 l2 c2) 35)).alloc (.cells #[.int .i64 (k : Int)] 3)).alloc (.cells zero9 35)).alloc (.cells #[.bool false] 4) := ⟨_, rfl⟩
  have hz1 : W1.heap.size = w.heap.size + 4 := by rw [hW1]; simp
  have hq1 : Quiet0 w W1 := by rw [hW1]; exact (((Quiet0.alloc _ _).trans (Quiet0.alloc _ _)).trans (Quiet0.alloc _ _)).trans (Quiet0.alloc _ _)
  have hW2' : W2' = W1.alloc (.cells (cells9 h o1 l1 c1 o2 l2 c2) 35) := by rw [hW1]; exact hW2
  have hb1 : W1.heap[w.heap.size + 1]? = some (.cells #[.int .i64 (k : Int)] 3 (0, 0)) := by
    rw [hW1, Below.heap_alloc _ _ _ (by simp), Below.heap_alloc _ _ _ (by simp)]
    have := heap_alloc_new (w.alloc (.cells (cells9 h o1 l1 c1 o2 l2 c2) 35)) (.cells #[.int .i64 (k : Int)] 3)
    simpa using this
  have hb2 : W1.heap[w.heap.size + 2]? = some (.cells zero9 35 (0, 0)) := by
    rw [hW1, Below.heap_alloc _ _ _ (by simp)]
    have := heap_alloc_new ((w.alloc (.cells (cells9 h o1 l1 c1 o2 l2 c2) 35)).alloc (.cells #[.int .i64 (k : Int)] 3)) (.cells zero9 35)
    simpa using this
  have hb3 : W1.heap[w.heap.size + 3]? = some (.cells #[.bool false] 4 (0, 0)) := by
    rw [hW1]
    have := heap_alloc_new (((w.alloc (.cells (cells9 h o1 l1 c1 o2 l2 c2) 35)).alloc (.cells #[.int .i64 (k : Int)] 3)).alloc (.cells zero9 35)) (.cells #[.bool false] 4)
    simpa using this
  have hq12 : Quiet0 W1 W2' := by rw [hW2']; exact Quiet0.alloc _ _
  have hq2 : Quiet0 w W2' := hq1.trans hq12
  have htb : W2'.heap[W1.heap.size]? = some (.cells (cells9 h o1 l1 c1 o2 l2 c2) 35 (0, 0)) := by rw [hW2']; exact heap_alloc_new W1 _
  have hz2 : W2'.heap.size = w.heap.size + 5 := by rw [hW2']; simp; omega
  have hseq := all_seq (5 - 1) (fun k => k < w.heap.size ∨ k = W1.heap.size) h ps o1 l1 c1 o2 l2 c2 W1.heap.size W2' (fun k hk => by omega) htb (.inr rfl) ((hs1.mono (T := fun k => k < w.heap.size ∨ k = W1.heap.size) (fun k hk _ => .inl hk)).stay hq2) ((hs.mono (T := fun k => k < w.heap.size ∨ k = W1.heap.size) (fun k hk _ => .inl hk)).stay hq2) hz
  rw [hz1] at hseq
  rw [hxs] at hseq hk hkl
  have HSEQ := Lib.hid hseq
  have HST : Hid (NtI k w 0 (fun j => j = w.heap.size + 2 ∨ j = w.heap.size + 3) W2') := ⟨fun j => Iff.rfl, blk_after hq12 hb1, blk_after hq12 hb2, blk_after hq12 hb3, hq2, Nat.zero_le _⟩
  clear hW1 hW2 hW2' hq1 hb1 hq2 hb2 hb3 htb hseq HC hxs hg hq12
  gi_wp2_with (fail)
  refine wpIn_range_c (w := W2') rfl (enters_of Tryd.func112 (by kernel_rfl) rfl) HSEQ.out (fun k hk => by omega) (Fr.refl _ _) (fun i x va W he => encT_size he)
    (NtI k w)
    (fun i x a' D W => NtI k w i D W ∧ ∃ (xb : Nat) (t7 t8 : Value) (p1 : Option Addr) (m1 d1 : Nat) (p2 : Option Addr) (m2 d2 : Nat), W.heap[xb]? = some (.cells (cells9 x.1 p1 m1 d1 p2 m2 d2) 35 (0, 0)) ∧ xb ≠ W2'.heap.size + 1 ∧ SlcIn (fun k => k < w.heap.size ∨ k = w.heap.size + 4) W p1 m1 x.1.tp ∧ TSlc (fun k => k < w.heap.size ∨ k = w.heap.size + 4) W p2 m2 x.2 ∧ a' = { tmps := #[.agg #[.int .i64 h.k, .string h.nm, .int .i64 h.n, .int .i64 h.tk, .int .i64 h.tn, .slice o1 l1 c1, .slice o2 l2 c2, .int .i64 h.fr, .int .i64 h.en], .int .i64 (k : Int), .pointer (some ⟨w.heap.size, 0, none⟩), .pointer (some ⟨w.heap.size + 1, 0, none⟩), .pointer (some ⟨w.heap.size + 1 + 1, 0, none⟩), .pointer (some ⟨w.heap.size + 1 + 1 + 1, 0, none⟩), .int .i64 (i : Int), .pointer (some ⟨xb, 0, none⟩), .agg #[.int .i64 h.k, .string h.nm, .int .i64 h.n, .int .i64 h.tk, .int .i64 h.tn, .slice o1 l1 c1, .slice o2 l2 c2, .int .i64 h.fr, .int .i64 h.en], .func (.func 112) #[] #[.pointer (some ⟨w.heap.size + 1 + 1 + 1 + 1, 0, none⟩)], t7, t8, undef, undef, undef, undef, undef, undef], defers := [] })
    (fun c W => c = .ret ∧ NtX x w (W2'.heap.size + 2) W) (fun k => k = w.heap.size + 2 ∨ k = w.heap.size + 3) ?own ?stay ?stayM ?stayX ?start ?assign ?body ?done ?stop
  case own =>
    rintro i D A ⟨hd, h1, h2, h3, hq, hle⟩ k hk
    have e := (hd k).1 hk
    have hl := lt_of_block h3
    exact ⟨by omega, by omega, .inl (by omega)⟩
  case stay =>
    rintro i D A B hI hf
    exact hI.fr hf (fun h => by have := h.1; omega) (fun h => h.2 ((hI.1 _).2 (.inl rfl))) (fun h => h.2 ((hI.1 _).2 (.inr rfl))) (fun k hk h => by have := h.1; omega)
  case stayM =>
    rintro i x a' D A B ⟨hI, xb, t7, t8, p1, m1, d1, p2, m2, d2, hxb, hne, hp1, hp2, ha⟩ hf
    exact ⟨hI.fr hf (by omega) (by omega) (by omega) (fun k hk h => by omega), xb, t7, t8, p1, m1, d1, p2, m2, d2, blk_fr hf hne hxb, hne, hp1.fr hf (fun k _ h => ⟨h, by omega⟩), hp2.fr hf (fun k _ h => ⟨h, by omega⟩), ha⟩
  case stayX =>
    rintro c A B ⟨hc, p1, m1, d1, p2, m2, d2, hb1, hb2, hp1, hp2, hq⟩ hf
    exact ⟨hc, p1, m1, d1, p2, m2, d2, blk_fr hf (by omega) hb1, blk_fr hf (by omega) hb2, hp1.fr hf (fun k _ h => ⟨h, by have h' : W2'.heap.size + 2 ≤ k := h; omega⟩), hp2.fr hf (fun k _ h => ⟨h, by have h' : W2'.heap.size + 2 ≤ k := h; omega⟩), hq.trans' hf (fun k hk h => by omega)⟩
  case start => exact HST.out
  case assign =>
    rintro l i y va D W K hx ⟨p1, m1, d1, p2, m2, d2, rfl, hp1, hp2⟩ hI hWs hK
    unfold tmv
    have hq := Quiet0.alloc W (.cells (cells9 y.1 p1 m1 d1 p2 m2 d2) 35)
    have hnew := heap_alloc_new W (.cells (cells9 y.1 p1 m1 d1 p2 m2 d2) 35)
    have hne : W.heap.size ≠ W2'.heap.size + 1 := by omega
    have hI2 := hI.fr (S := fun _ => False) hq (fun h => h) (fun h => h) (fun h => h) (fun _ _ h => h)
    have hp1' := hp1.stay hq
    have hp2' := hp2.stay hq
    clear hI hWs
    gi_wp2
    exact hK _ _ ⟨hI2, W.heap.size, .int .i64 (i : Int), tmv y.1 p1 m1 d1 p2 m2 d2, p1, m1, d1, p2, m2, d2, hnew, hne, hp1', hp2', by simp [tmv]⟩ hq
  case body =>
    rintro l i y a' D W hx ⟨hI, xb, t7, t8, p1, m1, d1, p2, m2, d2, hxb, hne, hp1, hp2, rfl⟩ hW
    obtain ⟨a0, a1, a2, a3, a4, a5, a6, a7, a8⟩ := cells9_block hxb
    have ck := cell_of_one hI.2.1
    by_cases hik : i = k
    · subst hik
      obtain rfl : y = x := Option.some.inj (hx.symm.trans hk)
      have hCS := (callsIn_wide (n := 5 - 1 - 1)).2 (copyT_any y.1 y.2 W _ p1 m1 d1 p2 m2 d2 hp1 hp2 hxm.1 hxm.2 hxz)
      unfold tmv at hCS
      have HI := Lib.hid hI
      clear hI hxb hp1 hp2 hx hk hxm hxz
      gi_wp2_with (fail)
      refine ⟨trivial, (CallsIn.inRound l hCS).mono ?_⟩; rintro e w1 ⟨q1, e1, q2, e2, rfl, hc1, hc2, hq1⟩
      clear a0 a1 a2 a3 a4 a5 a6 a7 a8 ck hCS
      have hI1 := HI.out.fr (S := fun _ => False) hq1 (fun h => h) (fun h => h) (fun h => h) (fun _ _ h => h)
      obtain ⟨⟨x0, x1, x2, x3, x4, x5, x6, x7, x8⟩, y0, y1, y2, y3, y4, y5, y6, y7, y8⟩ := block9 hI1.2.2.1
      have cc := cell_of_one hI1.2.2.2.1
      have zz := free_of_one hI1.2.2.2.1
      have HI1 := Lib.hid hI1
      have HC1 := Lib.hid hc1
      have HC2 := Lib.hid hc2
      have HQ1 := Lib.hid hq1
      clear hI1 hc1 hc2 hq1 HSEQ HST
      generalize hB : w.heap.size = B at *
      gi_wp2
      change rfPost _ _ _ _ _ .ret _ ((put9 w1 (B + 1 + 1) (.int .i64 y.1.k) (.string y.1.nm) (.int .i64 y.1.n) (.int .i64 y.1.tk) (.int .i64 y.1.tn) (.slice q1 m1 e1) (.slice q2 m2 e2) (.int .i64 y.1.fr) (.int .i64 y.1.en)).setCell ⟨B + 1 + 1 + 1, 0, none⟩ (.bool true))
      subst hB
      have hf9 := put9_fr w1 (w.heap.size + 2) (.int .i64 y.1.k) (.string y.1.nm) (.int .i64 y.1.n) (.int .i64 y.1.tk) (.int .i64 y.1.tn) (.slice q1 m1 e1) (.slice q2 m2 e2) (.int .i64 y.1.fr) (.int .i64 y.1.en)
      have hb9 := put9_block (a0 := .int .i64 y.1.k) (a1 := .string y.1.nm) (a2 := .int .i64 y.1.n) (a3 := .int .i64 y.1.tk) (a4 := .int .i64 y.1.tn) (a5 := .slice q1 m1 e1) (a6 := .slice q2 m2 e2) (a7 := .int .i64 y.1.fr) (a8 := .int .i64 y.1.en) HI1.out.2.2.1
      change rfPost _ _ _ _ _ .ret _ ((put9 w1 (w.heap.size + 2) (.int .i64 y.1.k) (.string y.1.nm) (.int .i64 y.1.n) (.int .i64 y.1.tk) (.int .i64 y.1.tn) (.slice q1 m1 e1) (.slice q2 m2 e2) (.int .i64 y.1.fr) (.int .i64 y.1.en)).setCell ⟨w.heap.size + 3, 0, none⟩ (.bool true))
      generalize put9 w1 (w.heap.size + 2) (.int .i64 y.1.k) (.string y.1.nm) (.int .i64 y.1.n) (.int .i64 y.1.tk) (.int .i64 y.1.tn) (.slice q1 m1 e1) (.slice q2 m2 e2) (.int .i64 y.1.fr) (.int .i64 y.1.en) = W9 at hf9 hb9 ⊢
      have hfs := Fr.setCell (fun k => k = w.heap.size + 3) W9 ⟨w.heap.size + 3, 0, none⟩ (.bool true) rfl
      have hb3 := blk_fr hf9 (by omega) HI1.out.2.2.2.1
      have hfa : Fr (fun k => k = w.heap.size + 2 ∨ k = w.heap.size + 3) w1 (W9.setCell ⟨w.heap.size + 3, 0, none⟩ (.bool true)) := (hf9.mono (fun k _ e => .inl e)).trans (hfs.mono (fun k _ e => .inr e))
      refine ⟨⟨rfl, q1, m1, e1, q2, m2, e2, blk_fr hfs (by omega) hb9, one_setCell hb3, ?_, ?_, ?_⟩, ?_⟩
      · exact HC1.out.fr hfa (fun k _ h => by have h' : W.heap.size ≤ k := h; exact ⟨by show W2'.heap.size + 2 ≤ k; omega, by omega⟩)
      · exact HC2.out.fr hfa (fun k _ h => by have h' : W.heap.size ≤ k := h; exact ⟨by show W2'.heap.size + 2 ≤ k; omega, by omega⟩)
      · exact (HI.out.2.2.2.2.1.trans HQ1.out).trans' hfa (fun k hk e => by omega)
      · exact Fr.trans HQ1.out.fr (hfa.mono (fun k _ e => (HI.out.1 k).2 e))
    · have hik' : ¬ (i : Int) = k := by omega
      have HI := Lib.hid hI
      have hle : i + 1 ≤ k := by have := hI.2.2.2.2.2; omega
      clear hI
      gi_wp2
      exact ⟨D, ⟨HI.out.1, HI.out.2.1, HI.out.2.2.1, HI.out.2.2.2.1, HI.out.2.2.2.2.1, hle⟩, Fr.refl _ _, fun k hk => .inl hk⟩
  case done =>
    rintro D W hI hdef
    have := hI.2.2.2.2.2
    omega
  case stop =>
    rintro c W ⟨rfl, p1, m1, d1, p2, m2, d2, hb1, hb2, hp1, hp2, hq⟩ hdef
    gi_wp2
    refine ⟨by simp, .inl ⟨_, _, rfl, run_takeDeferred hdef, ?_⟩⟩
    have hfp := Fr.putObj (fun k => k = W2'.heap.size) W W2'.heap.size (.deferred none) rfl
    have cr := cell_of_one (blk_fr hfp (by omega) hb2)
    obtain ⟨x0, x1, x2, x3, x4, x5, x6, x7, x8⟩ := cells9_block (blk_fr hfp (by omega) hb1)
    refine ⟨_, by simp [results, Tryd.results72, go_sem, cr, x0, x1, x2, x3, x4, x5, x6, x7, x8]; rfl, p1, m1, d1, p2, m2, d2, ?_, ?_, ?_, ?_⟩
    · rfl
    · exact hp1.fr hfp (fun k _ h => by have h' : W2'.heap.size + 2 ≤ k := h; exact ⟨by show w.heap.size ≤ k; omega, by omega⟩)
    · exact hp2.fr hfp (fun k _ h => by have h' : W2'.heap.size + 2 ≤ k := h; exact ⟨by show w.heap.size ≤ k; omega, by omega⟩)
    · exact hq.trans' hfp (fun k hk e => by omega)
end Go.Proofs.YtggidhgifaekbaaDoor
end
section
/-
  The laws' awake of chapter 05. Condition: the table of blanks holds what its initialiser lays.
-/
namespace Go.Proofs.YtggidhgifaekbaaDoor
open Go.RowKit Go.Shelf

abbrev fNd : Nd := ⟨1, ⟨#[102]⟩, 0, 0, 0, .nil, 0, 0⟩
abbrev xNd : Nd := ⟨1, ⟨#[120]⟩, 0, 0, 0, .nil, 0, 0⟩
abbrev fxTo : To := .cons fNd .nil (.cons xNd .nil .nil)
theorem slcIn_nil {R : Nat → Prop} {w : World} {o : Option Addr} {l : Nat} (h : SlcIn R w o l .nil) : l = 0 := h.1
theorem tslc_nil {R : Nat → Prop} {w : World} {o : Option Addr} {l : Nat} (h : TSlc R w o l .nil) : l = 0 := h.1
theorem fx_flat : (To.cons appNd fxTo .nil).flat = [(appNd, fxTo), (fNd, .nil), (xNd, .nil)] := rfl
theorem fx_good : allT GoodH (.cons appNd fxTo .nil) := by
  have h : ∀ k nm, nm.size ≤ 100000 → GoodH ⟨k, nm, 0, 0, 0, .nil, 0, 0⟩ := fun k nm hn => ⟨hn, Nat.zero_le _, (by decide : (Lit.int .i64 0).wf = true), trivial⟩
  exact ⟨h _ _ (by decide), ⟨h _ _ (by decide), trivial, h _ _ (by decide), trivial, trivial⟩, trivial⟩
theorem fx_right : (To.cons appNd fxTo .nil).flat.all sndX = true := by
  rw [fx_flat]; decide +kernel
set_option maxHeartbeats 4000000 in
set_option maxRecDepth 100000 in
theorem awakeT_any (w : World) (ht : Lx.Spaces w) : Calls Tryd.prog 21 #[] w fun e w' => e = .returned (.bool true) ∧ Quiet0 w w' := by
  have HT := Lib.hid ht
  have HAP : Hid (∀ W b, W.heap[b]? = some (.cells (cells18 fNd none 0 0 none 0 0 xNd none 0 0 none 0 0) 35 (0, 0)) → Calls Tryd.prog 24 #[.slice (some ⟨b, 0, none⟩) 2 2] W fun e w' => ∃ p1 d1 p2 d2, e = .returned (.agg #[.int .i64 5, .string ⟨#[]⟩, .int .i64 0, .int .i64 0, .int .i64 0, .slice p1 0 d1, .slice p2 2 d2, .int .i64 0, .int .i64 0]) ∧ TSlc (fun _ => True) w' p2 2 fxTo ∧ Quiet0 W w') := by
    intro W b hb
    have h := slc9two (R := fun _ => True) (gs := .nil) (qs := .nil) hb trivial (SlcIn.nil _ _ _) (TSlc.nil _ _ _) (SlcIn.nil _ _ _) (TSlc.nil _ _ _)
    refine (apply_more fNd .nil (.cons xNd .nil .nil) W _ _ _ 2 h (by omega) ⟨by decide, trivial, by decide, trivial, trivial⟩ (by decide)).mono ?_
    rintro e w' ⟨p1, m1, d1, p2, m2, d2, rfl, h1, h2, hq⟩
    obtain rfl := slcIn_nil (h1 : SlcIn _ _ _ _ .nil)
    have h2' : TSlc (fun b => W.heap.size ≤ b) w' p2 m2 fxTo := h2
    obtain rfl : m2 = 2 := h2'.1
    exact ⟨p1, d1, p2, d2, rfl, h2'.mono (fun _ _ _ => trivial), hq⟩
  have HNT : Hid (∀ W p1 d1 p2 d2, TSlc (fun _ => True) W p2 2 fxTo → Calls Tryd.prog 72 #[.agg #[.int .i64 5, .string ⟨#[]⟩, .int .i64 0, .int .i64 0, .int .i64 0, .slice p1 0 d1, .slice p2 2 d2, .int .i64 0, .int .i64 0], .int .i64 2] W fun e w' => ∃ q1 e1 q2 e2, e = .returned (.tuple #[.agg #[.int .i64 1, .string ⟨#[120]⟩, .int .i64 0, .int .i64 0, .int .i64 0, .slice q1 0 e1, .slice q2 0 e2, .int .i64 0, .int .i64 0], .bool true]) ∧ Quiet0 W w') := by
    intro W p1 d1 p2 d2 h
    refine (nthTm_any appNd fxTo 2 (xNd, .nil) W (fun k => k < W.heap.size) p1 0 d1 p2 2 d2 (SlcIn.nil _ _ _) (h.mono (fun k hk _ => hk)) (by decide) (allT_mono (fun h hg => by have := hg.2.1; omega) _ fx_good) rfl (by decide)).mono ?_
    rintro e w' ⟨q1, m1, e1, q2, m2, e2, rfl, h1, h2, hq⟩
    obtain rfl := slcIn_nil (h1 : SlcIn _ _ _ _ .nil)
    obtain rfl := tslc_nil (h2 : TSlc _ _ _ _ .nil)
    exact ⟨q1, e1, q2, e2, rfl, hq⟩
  have HRI : Hid (∀ W p1 d1 p2 d2, Lx.Spaces W → TSlc (fun _ => True) W p2 2 fxTo → Calls Tryd.prog 25 #[.agg #[.int .i64 5, .string ⟨#[]⟩, .int .i64 0, .int .i64 0, .int .i64 0, .slice p1 0 d1, .slice p2 2 d2, .int .i64 0, .int .i64 0]] W fun e w' => e = .returned (.bool true) ∧ Quiet0 W w') := by
    intro W p1 d1 p2 d2 ht h
    have h := rightTm_any appNd fxTo W _ p1 0 d1 p2 2 d2 (SlcIn.nil _ _ _) h (by decide) fx_good ht
    rw [fx_right] at h; exact h
  have HSZ : Hid (∀ W p1 d1 p2 d2, TSlc (fun _ => True) W p2 2 fxTo → Calls Tryd.prog 27 #[.agg #[.int .i64 5, .string ⟨#[]⟩, .int .i64 0, .int .i64 0, .int .i64 0, .slice p1 0 d1, .slice p2 2 d2, .int .i64 0, .int .i64 0]] W fun e w' => e = .returned (.int .i64 3) ∧ Quiet0 W w') := by
    intro W p1 d1 p2 d2 h
    exact sizeTm_any appNd fxTo W _ p1 0 d1 p2 2 d2 (SlcIn.nil _ _ _) h (by decide)
  clear ht
  go_enter Tryd.func21, Tryd.ntmps21
  go_wp2_with fail
  refine (HAP.out _ _ (heap_alloc_new w _)).mono ?_; rintro e w1 ⟨p1, d1, p2, d2, rfl, hs1, hq1⟩
  have HQ1 : Hid (Quiet0 w w1) := (Quiet0.alloc _ _).trans hq1
  have HS1 := Lib.hid hs1
  clear hs1 hq1
  go_upto_region 2 with fail
  obtain ⟨W2, hW2⟩ : ∃ W2, W2 = w1.alloc (.cells #[.int .i64 5, .string ⟨#[]⟩, .int .i64 0, .int .i64 0, .int .i64 0, .slice p1 0 d1, .slice p2 2 d2, .int .i64 0, .int .i64 0] 35) := ⟨_, rfl⟩
  have HQ2 : Hid (Quiet0 w W2) := by rw [hW2]; exact HQ1.out.trans (Quiet0.alloc _ _)
  have HS2 : Hid (TSlc (fun _ => True) W2 p2 2 fxTo) := by rw [hW2]; exact HS1.out.stay (Quiet0.alloc _ _)
  have HB2 : Hid (W2.heap[w1.heap.size]? = some (.cells #[.int .i64 5, .string ⟨#[]⟩, .int .i64 0, .int .i64 0, .int .i64 0, .slice p1 0 d1, .slice p2 2 d2, .int .i64 0, .int .i64 0] 35 (0, 0))) := by rw [hW2]; exact heap_alloc_new _ _
  change Code.wp _ _ _ _ (w1.alloc (.cells #[.int .i64 5, .string ⟨#[]⟩, .int .i64 0, .int .i64 0, .int .i64 0, .slice p1 0 d1, .slice p2 2 d2, .int .i64 0, .int .i64 0] 35))
  rw [← hW2]
  clear hW2 HS1 HQ1
  generalize w1.heap.size = B at *
  obtain ⟨⟨x0, x1, x2, x3, x4, x5, x6, x7, x8⟩, -⟩ := block9 HB2.out
  go_wp2_with fail
  refine (HNT.out _ _ _ _ _ HS2.out).mono ?_; rintro e w3 ⟨q1, e1, q2, e2, rfl, hq3⟩
  have HQ3 := Lib.hid hq3
  clear x0 x1 x2 x3 x4 x5 x6 x7 x8 hq3
  go_upto_region 3 with fail
  obtain ⟨W4, hW4⟩ : ∃ W4, W4 = w3.alloc (.cells #[.int .i64 1, .string ⟨#[120]⟩, .int .i64 0, .int .i64 0, .int .i64 0, .slice q1 0 e1, .slice q2 0 e2, .int .i64 0, .int .i64 0] 35) := ⟨_, rfl⟩
  have HQ4 : Hid (Quiet0 W2 W4) := by rw [hW4]; exact HQ3.out.trans (Quiet0.alloc _ _)
  have HB4 : Hid (W4.heap[w3.heap.size]? = some (.cells #[.int .i64 1, .string ⟨#[120]⟩, .int .i64 0, .int .i64 0, .int .i64 0, .slice q1 0 e1, .slice q2 0 e2, .int .i64 0, .int .i64 0] 35 (0, 0))) := by rw [hW4]; exact heap_alloc_new _ _
  change Code.wp _ _ _ _ (w3.alloc (.cells #[.int .i64 1, .string ⟨#[120]⟩, .int .i64 0, .int .i64 0, .int .i64 0, .slice q1 0 e1, .slice q2 0 e2, .int .i64 0, .int .i64 0] 35))
  rw [← hW4]
  clear hW4 HQ3
  generalize w3.heap.size = D at *
  obtain ⟨⟨x0, x1, x2, x3, x4, x5, x6, x7, x8⟩, -⟩ := block9 (blk_after HQ4.out HB2.out)
  go_wp2_with fail
  refine (HRI.out _ _ _ _ _ (HT.out.stay (HQ2.out.trans HQ4.out)) (HS2.out.stay HQ4.out)).mono ?_; rintro e w5 ⟨rfl, hq5⟩
  have HQ5 := Lib.hid hq5
  clear x0 x1 x2 x3 x4 x5 x6 x7 x8 hq5
  obtain ⟨⟨x0, x1, x2, x3, x4, x5, x6, x7, x8⟩, -⟩ := block9 (blk_after (HQ4.out.trans HQ5.out) HB2.out)
  go_wp2_with fail
  refine (HSZ.out _ _ _ _ _ (HS2.out.stay (HQ4.out.trans HQ5.out))).mono ?_; rintro e w6 ⟨rfl, hq6⟩
  have HQ6 := Lib.hid (HQ5.out.trans hq6)
  clear x0 x1 x2 x3 x4 x5 x6 x7 x8 hq6
  obtain ⟨⟨x0, x1, x2, x3, x4, x5, x6, x7, x8⟩, -⟩ := block9 (blk_after HQ6.out HB4.out)
  go_wp2_with fail
  go_ret
  exact ⟨rfl, HQ2.out.trans (HQ4.out.trans HQ6.out)⟩
end Go.Proofs.YtggidhgifaekbaaDoor
end
section
/-
  Terms alike: the reference's alike, same, Same and Equal. Conditions: the terms lie in memory as told.
-/
namespace Go.Proofs.YtggidhgifaekbaaDoor
open Go.RowKit

/-- two heads alike, but for what is theirs to part by: spans and variables' numbers (all), or neither -/
def headB (all : Bool) (a b : Nd) : Bool :=
  (a.k == b.k) && (a.nm.toList == b.nm.toList) && (if all then (a.n == b.n) && ((a.fr == b.fr) && (a.en == b.en)) else (a.n == b.n) || (a.k == 1)) && sameT a.tk a.tn a.tp b.tk b.tn b.tp
def alikeT (all : Bool) (a : Nd) (p : To) (b : Nd) (q : To) : Bool := headB all a b && p.alike (headB all) q
theorem alike_cons (all : Bool) (a : Nd) (p r : To) (b : Nd) (q r' : To) : (To.cons a p r).alike (headB all) (.cons b q r') = (alikeT all a p b q && r.alike (headB all) r') := by simp [To.alike, alikeT]
theorem alike_len (all : Bool) (a : Nd) (p : To) (b : Nd) (q : To) (h : p.length ≠ q.length) : alikeT all a p b q = false := by
  unfold alikeT
  cases hh : p.alike (headB all) q
  · simp
  · exact absurd (To.alike_length _ _ _ hh) h
theorem box92 (w : World) (a : Nd) (o1 : Option Addr) (l1 c1 : Nat) (o2 : Option Addr) (l2 c2 : Nat) (b : Nd) (p1 : Option Addr) (m1 d1 : Nat) (p2 : Option Addr) (m2 d2 : Nat) (t : TypeId) (W : World) (hq : Quiet0 ((w.alloc (.cells (cells9 a o1 l1 c1 o2 l2 c2) t)).alloc (.cells (cells9 b p1 m1 d1 p2 m2 d2) t)) W) :
    Cells9 W w.heap.size 0 a o1 l1 c1 o2 l2 c2 ∧ Cells9 W (w.heap.size + 1) 0 b p1 m1 d1 p2 m2 d2 := by
  refine ⟨box9 w a o1 l1 c1 o2 l2 c2 t W ((Quiet0.alloc _ _).trans hq), ?_⟩
  have h := box9 (w.alloc (.cells (cells9 a o1 l1 c1 o2 l2 c2) t)) b p1 m1 d1 p2 m2 d2 t W hq
  have e : (w.alloc (.cells (cells9 a o1 l1 c1 o2 l2 c2) t)).heap.size = w.heap.size + 1 := by simp
  rw [e] at h
  exact h
set_option maxHeartbeats 4000000 in
theorem refAlike_any (all : Bool) (a : Nd) (p : To) (b : Nd) (q : To) (w : World) (o1 : Option Addr) (l1 c1 : Nat) (o2 : Option Addr) (l2 c2 : Nat) (p1 : Option Addr) (m1 d1 : Nat) (p2 : Option Addr) (m2 d2 : Nat) (R : Nat → Prop)
    (h1 : SlcIn R w o1 l1 a.tp) (h2 : TSlc R w o2 l2 p) (h3 : SlcIn R w p1 m1 b.tp) (h4 : TSlc R w p2 m2 q) :
    Calls Tryd.prog 111 #[tmv a o1 l1 c1 o2 l2 c2, tmv b p1 m1 d1 p2 m2 d2, .bool all] w fun e w' => e = .returned (.bool (headB all a b && (p.length == q.length))) ∧ Quiet0 w w' := by
  have HC := Lib.hid (fun (W : World) (hq : Quiet0 w W) => refSame_any a.tk a.tn a.tp b.tk b.tn b.tp W o1 l1 c1 p1 m1 d1 (h1.slc.stay hq) (h3.slc.stay hq))
  have e2 := h2.1
  have e4 := h4.1
  rw [← e2, ← e4]
  clear h1 h2 h3 h4 e2 e4
  unfold headB
  unfold tyv at HC
  generalize sameT a.tk a.tn a.tp b.tk b.tn b.tp = sb at *
  obtain ⟨ak, an, aN, atk, atn, atp, af, ae⟩ := a
  obtain ⟨bk, bn, bN, btk, btn, btp, bf, be⟩ := b
  dsimp only at *
  unfold tmv
  dsimp only
  cases hk : (ak == bk)
  · have hk' : (ak != bk) = true := by simp [bne, hk]
    cases all
    all_goals
      go_enter Tryd.func111, Tryd.ntmps111
      go_wp2_with fail
      go_ret
      exact ⟨rfl, (Quiet0.alloc _ _).trans (Quiet0.alloc _ _)⟩
  · have hk' : (ak != bk) = false := by simp [bne, hk]
    cases hn : (an.toList == bn.toList)
    · have hn' : (an.toList != bn.toList) = true := by simp [bne, hn]
      cases all
      all_goals
        go_enter Tryd.func111, Tryd.ntmps111
        go_wp2_with fail
        go_ret
        exact ⟨rfl, (Quiet0.alloc _ _).trans (Quiet0.alloc _ _)⟩
    · have hn' : (an.toList != bn.toList) = false := by simp [bne, hn]
      cases sb
      · cases all
        all_goals
          go_enter Tryd.func111, Tryd.ntmps111
          go_wp2_with fail
          refine (HC.out _ ((Quiet0.alloc _ _).trans (Quiet0.alloc _ _))).mono ?_; rintro e w1 ⟨rfl, hq1⟩
          go_wp2_with fail
          go_ret
          exact ⟨by simp, ((Quiet0.alloc _ _).trans (Quiet0.alloc _ _)).trans hq1⟩
      · cases hl : (l2 == m2)
        · have hl' : ((l2 : Int) != (m2 : Int)) = true := by
            have : l2 ≠ m2 := by simpa using hl
            simp [bne]; omega
          cases all
          all_goals
            go_enter Tryd.func111, Tryd.ntmps111
            go_wp2_with fail
            refine (HC.out _ ((Quiet0.alloc _ _).trans (Quiet0.alloc _ _))).mono ?_; rintro e w1 ⟨rfl, hq1⟩
            obtain ⟨⟨a0, a1, a2, a3, a4, a5, a6, a7, a8⟩, b0, b1, b2, b3, b4, b5, b6, b7, b8⟩ := box92 w ⟨ak, an, aN, atk, atn, atp, af, ae⟩ o1 l1 c1 o2 l2 c2 ⟨bk, bn, bN, btk, btn, btp, bf, be⟩ p1 m1 d1 p2 m2 d2 _ _ hq1
            dsimp only at *
            go_wp2_with fail
            go_ret
            exact ⟨by simp, ((Quiet0.alloc _ _).trans (Quiet0.alloc _ _)).trans hq1⟩
        · have hl' : ((l2 : Int) != (m2 : Int)) = false := by
            have : l2 = m2 := by simpa using hl
            simp [bne, this]
          cases hN : (aN == bN)
          · cases all
            · cases hk1 : (ak == 1)
              all_goals
                go_enter Tryd.func111, Tryd.ntmps111
                go_wp2_with fail
                refine (HC.out _ ((Quiet0.alloc _ _).trans (Quiet0.alloc _ _))).mono ?_; rintro e w1 ⟨rfl, hq1⟩
                obtain ⟨⟨a0, a1, a2, a3, a4, a5, a6, a7, a8⟩, b0, b1, b2, b3, b4, b5, b6, b7, b8⟩ := box92 w ⟨ak, an, aN, atk, atn, atp, af, ae⟩ o1 l1 c1 o2 l2 c2 ⟨bk, bn, bN, btk, btn, btp, bf, be⟩ p1 m1 d1 p2 m2 d2 _ _ hq1
                dsimp only at *
                go_wp2_with fail
                go_ret
                exact ⟨by simp, ((Quiet0.alloc _ _).trans (Quiet0.alloc _ _)).trans hq1⟩
            · go_enter Tryd.func111, Tryd.ntmps111
              go_wp2_with fail
              refine (HC.out _ ((Quiet0.alloc _ _).trans (Quiet0.alloc _ _))).mono ?_; rintro e w1 ⟨rfl, hq1⟩
              obtain ⟨⟨a0, a1, a2, a3, a4, a5, a6, a7, a8⟩, b0, b1, b2, b3, b4, b5, b6, b7, b8⟩ := box92 w ⟨ak, an, aN, atk, atn, atp, af, ae⟩ o1 l1 c1 o2 l2 c2 ⟨bk, bn, bN, btk, btn, btp, bf, be⟩ p1 m1 d1 p2 m2 d2 _ _ hq1
              dsimp only at *
              go_wp2_with fail
              go_ret
              exact ⟨by simp, ((Quiet0.alloc _ _).trans (Quiet0.alloc _ _)).trans hq1⟩
          · cases all
            · go_enter Tryd.func111, Tryd.ntmps111
              go_wp2_with fail
              refine (HC.out _ ((Quiet0.alloc _ _).trans (Quiet0.alloc _ _))).mono ?_; rintro e w1 ⟨rfl, hq1⟩
              obtain ⟨⟨a0, a1, a2, a3, a4, a5, a6, a7, a8⟩, b0, b1, b2, b3, b4, b5, b6, b7, b8⟩ := box92 w ⟨ak, an, aN, atk, atn, atp, af, ae⟩ o1 l1 c1 o2 l2 c2 ⟨bk, bn, bN, btk, btn, btp, bf, be⟩ p1 m1 d1 p2 m2 d2 _ _ hq1
              dsimp only at *
              go_wp2_with fail
              go_ret
              exact ⟨by simp, ((Quiet0.alloc _ _).trans (Quiet0.alloc _ _)).trans hq1⟩
            · go_enter Tryd.func111, Tryd.ntmps111
              go_wp2_with fail
              refine (HC.out _ ((Quiet0.alloc _ _).trans (Quiet0.alloc _ _))).mono ?_; rintro e w1 ⟨rfl, hq1⟩
              obtain ⟨⟨a0, a1, a2, a3, a4, a5, a6, a7, a8⟩, b0, b1, b2, b3, b4, b5, b6, b7, b8⟩ := box92 w ⟨ak, an, aN, atk, atn, atp, af, ae⟩ o1 l1 c1 o2 l2 c2 ⟨bk, bn, bN, btk, btn, btp, bf, be⟩ p1 m1 d1 p2 m2 d2 _ _ hq1
              dsimp only at *
              go_wp2_with fail
              all_goals
                go_ret
                exact ⟨by simp_all, ((Quiet0.alloc _ _).trans (Quiet0.alloc _ _)).trans hq1⟩
def RAlike (all : Bool) (a : Nd) (p : To) : Prop := ∀ (b : Nd) (q : To) (w : World) (o1 : Option Addr) (l1 c1 : Nat) (o2 : Option Addr) (l2 c2 : Nat) (p1 : Option Addr) (m1 d1 : Nat) (p2 : Option Addr) (m2 d2 : Nat) (R : Nat → Prop),
  SlcIn R w o1 l1 a.tp → TSlc R w o2 l2 p → SlcIn R w p1 m1 b.tp → TSlc R w p2 m2 q →
  Calls Tryd.prog 74 #[tmv a o1 l1 c1 o2 l2 c2, tmv b p1 m1 d1 p2 m2 d2, .bool all] w fun e w' => e = .returned (.bool (alikeT all a p b q)) ∧ Quiet0 w w'
set_option maxRecDepth 100000 in
set_option maxHeartbeats 4000000 in
theorem refSameT_any (all : Bool) (a : Nd) (p : To) : RAlike all a p := by
  refine To.ind' (T := RAlike all) ?_ a p
  intro a p ih b q w o1 l1 c1 o2 l2 c2 p1 m1 d1 p2 m2 d2 R h1 h2 h3 h4
  have HC0 := Lib.hid (fun (W : World) (hq : Quiet0 w W) => refAlike_any all a p b q W o1 l1 c1 o2 l2 c2 p1 m1 d1 p2 m2 d2 R (h1.stay hq) (h2.stay hq) (h3.stay hq) (h4.stay hq))
  have HS := Lib.hid h2
  have HS' := Lib.hid h4
  have IH := Lib.hid ih
  have HL := Lib.hid h2.1
  have HL' := Lib.hid h4.1
  have hmx := h2.2.1
  unfold maxLen at hmx
  clear h1 h2 h3 h4 ih
  obtain ⟨res, hres⟩ : ∃ res, res = alikeT all a p b q := ⟨_, rfl⟩
  have HRES := Lib.hid hres
  rw [← hres]
  clear hres
  obtain ⟨hb, hhb⟩ : ∃ hb, hb = (headB all a b && (p.length == q.length)) := ⟨_, rfl⟩
  have HHB := Lib.hid hhb
  rw [← hhb] at HC0
  clear hhb
  unfold tmv at HC0 ⊢
  obtain ⟨W0, hW0⟩ : ∃ W0, W0 = (w.alloc (.cells (cells9 a o1 l1 c1 o2 l2 c2) 35)).alloc (.cells (cells9 b p1 m1 d1 p2 m2 d2) 35) := ⟨_, rfl⟩
  have HQ0 : Hid (Quiet0 w W0) := by rw [hW0]; exact (Quiet0.alloc _ _).trans (Quiet0.alloc _ _)
  have HBB : Hid (∀ W, Quiet0 W0 W → W.cell? ⟨w.heap.size, 6, none⟩ = some (.slice o2 l2 c2) ∧ W.cell? ⟨w.heap.size + 1, 6, none⟩ = some (.slice p2 m2 d2)) := by
    intro W hq; rw [hW0] at hq
    have := box92 w a o1 l1 c1 o2 l2 c2 b p1 m1 d1 p2 m2 d2 _ W hq
    exact ⟨this.1.2.2.2.2.2.2.1, this.2.2.2.2.2.2.2.1⟩
  cases hb
  · have HF : Hid (res = false) := by
      show _ = _
      rw [HRES.out]
      have := HHB.out
      cases hh : headB all a b
      · unfold alikeT; rw [hh]; rfl
      · rw [hh] at this
        exact alike_len all a p b q (by simpa using this)
    go_enter Tryd.func74, Tryd.ntmps74
    go_wp2_with fail
    change Calls _ _ _ ((w.alloc (.cells (cells9 a o1 l1 c1 o2 l2 c2) 35)).alloc (.cells (cells9 b p1 m1 d1 p2 m2 d2) 35)) _
    rw [← hW0]
    refine (HC0.out _ HQ0.out).mono ?_; rintro e w1 ⟨rfl, hq1⟩
    clear hW0
    go_wp2_with fail
    go_ret
    exact ⟨by rw [HF.out]; rfl, HQ0.out.trans hq1⟩
  · have HR2 : Hid (res = p.alike (headB all) q) := by
      show _ = _; rw [HRES.out]
      have h := HHB.out.symm
      rw [Bool.and_eq_true] at h
      unfold alikeT; rw [h.1]; simp
    have hlen : l2 = m2 := by
      have h := HHB.out.symm
      rw [Bool.and_eq_true] at h
      have := HL.out; have := HL'.out; have := h.2; simp at this; omega
    subst hlen
    clear HRES HHB
    go_enter Tryd.func74, Tryd.ntmps74
    go_wp2_with fail
    change Calls _ _ _ ((w.alloc (.cells (cells9 a o1 l1 c1 o2 l2 c2) 35)).alloc (.cells (cells9 b p1 m1 d1 p2 l2 d2) 35)) _
    rw [← hW0]
    refine (HC0.out _ HQ0.out).mono ?_; rintro e w1 ⟨rfl, hq1⟩
    have HQ1 := Lib.hid hq1
    clear hW0 hq1
    go_wp2_with fail
    generalize w.heap.size = nb at *
    go_loopw [7] (fun t wr => ∃ (i : Nat), t = .int .i64 i ∧ i ≤ l2 ∧ res = (p.drop i).alike (headB all) (q.drop i) ∧ Quiet0 W0 wr) (fun t _ => l2 - (intOf t).toNat)
    case atStart => exact ⟨0, rfl, Nat.zero_le _, by rw [To.drop_zero, To.drop_zero]; exact HR2.out, HQ1.out⟩
    case round =>
      obtain ⟨i, rfl, hi, hr, hq⟩ := hrel
      have HR := Lib.hid hr
      have HQ := Lib.hid hq
      obtain ⟨g1, g2⟩ := HBB.out wr hq
      clear hr hq
      by_cases hlt : i < l2
      · have hlt' : (i : Int) < l2 := by omega
        obtain ⟨b1, off1, hd1, qs1, x1, y1, z1, x2, y2, z2, rfl, hdr1, hg1, hR1, ⟨e0, e1, e2, e3, e4, e5, e6, e7, e8⟩, hsl1, hts1⟩ := (HS.out.stay (HQ0.out.trans HQ.out)).nth hlt
        obtain ⟨b2, off2, hd2, qs2, u1, v1, t1, u2, v2, t2, rfl, hdr2, hg2, hR2, ⟨f0, f1, f2, f3, f4, f5, f6, f7, f8⟩, hsl2, hts2⟩ := (HS'.out.stay (HQ0.out.trans HQ.out)).nth hlt
        have HC := Lib.hid (fun (W : World) (hq : Quiet0 wr W) => IH.out i hd1 qs1 hg1 hd2 qs2 W x1 y1 z1 x2 y2 z2 u1 v1 t1 u2 v2 t2 R (hsl1.stay hq) (hts1.stay hq) (hsl2.stay hq) (hts2.stay hq))
        have HN : Hid (res = (alikeT all hd1 qs1 hd2 qs2 && (p.drop (i + 1)).alike (headB all) (q.drop (i + 1)))) := by
          show _ = _
          rw [HR.out, hdr1, hdr2, alike_cons]
        unfold tmv at HC
        clear hdr1 hg1 hsl1 hts1 hdr2 hg2 hsl2 hts2 hR1 hR2
        cases hbv : alikeT all hd1 qs1 hd2 qs2
        all_goals
          have HBV := Lib.hid hbv
          clear hbv
          go_wp2_with fail
          refine wp_region_still_tail 11 (by kernel_rfl) (by kernel_rfl) ?_
          simp only [List.take_succ_cons, List.take_zero, List.drop_succ_cons, List.drop_zero]
          change wpStill _ _ (World.drew wr) _ _ _
          repeat still_step
          refine wpStill_nil ?_
          change wpList _ _ _ _ _ (World.drew wr)
          go_wp2_with fail
          refine (HC.out _ (Quiet0.drew _)).mono ?_; rintro e w1 ⟨rfl, hq1⟩
          rw [HBV.out]
          have HQ1 := Lib.hid ((HQ.out.trans (Quiet0.drew _)).trans hq1)
          clear hq1
          go_wp2_with fail
        · go_ret
          exact ⟨by rw [HN.out, HBV.out]; rfl, HQ0.out.trans HQ1.out⟩
        · go_roundw
          case rel => exact ⟨i + 1, by go_num, by omega, by rw [HN.out, HBV.out]; rfl, HQ1.out⟩
          case measure => simp [intOf]; omega
      · have hlt' : ¬ (i : Int) < l2 := by omega
        have HY : Hid (res = true) := by
          show _ = _
          rw [HR.out, To.drop_end p i (by have := HL.out; omega), To.drop_end q i (by have := HL'.out; omega)]; rfl
        go_wp2_with fail
        go_ret
        exact ⟨by rw [HY.out]; rfl, HQ0.out.trans HQ.out⟩
end Go.Proofs.YtggidhgifaekbaaDoor
end
section
/-
  ref.Equal of two terms. Condition: both lie in memory as told.
-/
namespace Go.Proofs.YtggidhgifaekbaaDoor
open Go.RowKit Go.Shelf

set_option maxHeartbeats 1000000 in
theorem refEqualT_any (a : Nd) (p : To) (b : Nd) (q : To) (w : World) (R : Nat → Prop) (o1 : Option Addr) (l1 c1 : Nat) (o2 : Option Addr) (l2 c2 : Nat) (p1 : Option Addr) (m1 d1 : Nat) (p2 : Option Addr) (m2 d2 : Nat)
    (h1 : SlcIn R w o1 l1 a.tp) (h2 : TSlc R w o2 l2 p) (h3 : SlcIn R w p1 m1 b.tp) (h4 : TSlc R w p2 m2 q) :
    Calls Tryd.prog 23 #[tmv a o1 l1 c1 o2 l2 c2, tmv b p1 m1 d1 p2 m2 d2] w fun e w' => e = .returned (.bool (alikeT true a p b q)) ∧ Quiet0 w w' := by
  have HC := Lib.hid (fun (W : World) (hq : Quiet0 w W) => refSameT_any true a p b q W o1 l1 c1 o2 l2 c2 p1 m1 d1 p2 m2 d2 R (h1.stay hq) (h2.stay hq) (h3.stay hq) (h4.stay hq))
  generalize alikeT true a p b q = r at *
  clear h1 h2 h3 h4
  unfold tmv at *
  go_enter Tryd.func23, Tryd.ntmps23
  go_wp2_with fail
  refine (HC.out _ ((Quiet0.alloc _ _).trans (Quiet0.alloc _ _))).mono ?_; rintro e w1 ⟨rfl, hq⟩
  go_wp2_with fail
  go_ret
  exact ⟨rfl, ((Quiet0.alloc _ _).trans (Quiet0.alloc _ _)).trans hq⟩
end Go.Proofs.YtggidhgifaekbaaDoor
end
section
/-
  The law's bound on terms (room, Great). Conditions: the term lies in memory as told.
-/
namespace Go.Proofs.YtggidhgifaekbaaDoor
open Go.RowKit

/-- is a head too much -/
def bigH (h : Nd) : Bool := decide (60 < h.nm.size) || greatF h.tp
namespace To
/-- how much is left of m, terms taken from it (the law's room, over parts that lie d deep at most) -/
def room : Nat → Int → To → Int
  | _, m, nil => m
  | d, m, cons h ps r => if m < 0 then m else
      match d with
      | 0 => room 0 (-1) r
      | d + 1 => room (d + 1) (if bigH h then -1 else room d (m - 1) ps) r
theorem room_neg : ∀ (f : To) (d : Nat) (m : Int), m < 0 → room d m f = m
  | nil, _, _, _ => by unfold room; rfl
  | cons h ps r, d, m, e => by unfold room; rw [if_pos e]
theorem room_le : ∀ (f : To) (d : Nat) (m : Int), 0 ≤ m → room d m f ≤ m ∧ -1 ≤ room d m f
  | nil, _, _, _ => by unfold room; omega
  | cons h ps r, d, m, e => by
    unfold room
    rw [if_neg (by omega)]
    cases d with
    | zero => simp only; rw [room_neg r 0 (-1) (by omega)]; omega
    | succ d =>
      simp only
      cases hb : bigH h
      · simp only [Bool.false_eq_true, if_false]
        by_cases hm : 0 ≤ m - 1
        · have h1 := room_le ps d (m - 1) hm
          by_cases h0 : 0 ≤ room d (m - 1) ps
          · have h2 := room_le r (d + 1) _ h0; omega
          · rw [room_neg r _ _ (by omega)]; omega
        · rw [room_neg ps _ _ (by omega), room_neg r _ _ (by omega)]; omega
      · simp only [if_true]
        rw [room_neg r _ _ (by omega)]; omega
theorem room_all : ∀ (f : To) (d : Nat) (m : Int), 0 ≤ room d m f → room d m f = m - f.size ∧ 0 ≤ m ∧ f.depth ≤ d ∧ allT (fun h => bigH h = false) f
  | nil, _, m, h => by unfold room at h ⊢; simp [size, depth, allT]; exact h
  | cons h ps r, d, m, e => by
    unfold room at e ⊢
    by_cases hm : m < 0
    · rw [if_pos hm] at e; omega
    · rw [if_neg hm] at e ⊢
      cases d with
      | zero => simp only at e; rw [room_neg r 0 (-1) (by omega)] at e; omega
      | succ d =>
        simp only at e ⊢
        obtain ⟨h1, h2, h3, h4⟩ := room_all r (d + 1) _ e
        cases hb : bigH h
        · rw [hb] at h1 h2 e
          simp only [Bool.false_eq_true, if_false] at h1 h2 e ⊢
          obtain ⟨g1, g2, g3, g4⟩ := room_all ps d (m - 1) h2
          rw [h1, g1]
          refine ⟨by simp only [size]; omega, by omega, by simp only [depth]; omega, hb, g4, h4⟩
        · rw [hb] at h2; simp at h2
end To
/-- the law's room of one term -/
def roomOne (d : Nat) (m : Int) (h : Nd) (ps : To) : Int := if d = 0 then -1 else if bigH h then -1 else To.room (d - 1) (m - 1) ps
theorem room_cons (d : Nat) (m : Int) (h : Nd) (ps r : To) (hm : 0 ≤ m) : To.room d m (.cons h ps r) = To.room d (roomOne d m h ps) r := by
  conv => lhs; unfold To.room
  rw [if_neg (by omega)]
  unfold roomOne
  cases d with
  | zero => rfl
  | succ d => rfl
theorem roomOne_le (d : Nat) (m : Int) (h : Nd) (ps : To) (hm : 0 ≤ m) : -1 ≤ roomOne d m h ps ∧ roomOne d m h ps ≤ m := by
  unfold roomOne
  split
  · omega
  · split
    · omega
    · by_cases h1 : 0 ≤ m - 1
      · have := To.room_le ps (d - 1) (m - 1) h1; omega
      · rw [To.room_neg _ _ _ (by omega)]; omega
def LRoomT (h : Nd) (ps : To) : Prop := ∀ (w : World) (R : Nat → Prop) (o1 : Option Addr) (l1 c1 : Nat) (o2 : Option Addr) (l2 c2 : Nat) (d : Nat) (m : Int) (di : Int), di = d → SlcIn R w o1 l1 h.tp → TSlc R w o2 l2 ps → h.nm.size ≤ 9223372036854775807 → allT (fun h => h.nm.size ≤ 9223372036854775807) ps → 0 ≤ m → m ≤ 100000 → d ≤ 100000 →
  Calls Tryd.prog 73 #[tmv h o1 l1 c1 o2 l2 c2, .int .i64 m, .int .i64 di] w fun e w' => e = .returned (.int .i64 (roomOne d m h ps)) ∧ Quiet0 w w'
set_option maxHeartbeats 2000000 in
theorem roomT_any (h : Nd) (ps : To) : LRoomT h ps := by
  refine To.ind' (T := LRoomT) ?_ h ps
  intro h ps ih w R o1 l1 c1 o2 l2 c2 d m di ed hs1 hs hnm hnms hm0 hm1 hd1
  subst ed
  have HG := Lib.hid (fun (W : World) (hq : Quiet0 w W) => great_any h.tk h.tn h.tp W o1 l1 c1 (hs1.slc.stay hq))
  have HS := Lib.hid hs
  have IH := Lib.hid ih
  have HL := Lib.hid hs.1
  have HNM := Lib.hid hnms
  have hmx := hs.2.1
  unfold maxLen at hmx
  unfold tyv at HG
  clear hs ih hnms
  by_cases hd0 : d = 0
  · subst hd0
    unfold tmv roomOne
    go_enter Tryd.func73, Tryd.ntmps73
    go_wp2_with fail
    go_ret
    exact ⟨rfl, Quiet0.alloc _ _⟩
  · obtain ⟨D, hD⟩ : ∃ D, D = d - 1 := ⟨_, rfl⟩
    have hd0' : ((d : Int) == 0) = false := by simp; omega
    have hdD : d = D + 1 := by omega
    by_cases h60 : 60 < h.nm.size
    · have h60' : (60 : Int) < (h.nm.size : Int) := by omega
      have HF : Hid (roomOne d m h ps = -1) := by show _ = _; unfold roomOne bigH; rw [if_neg hd0]; simp [h60]
      rw [HF.out]
      clear hd0 hD
      unfold tmv
      go_enter Tryd.func73, Tryd.ntmps73
      go_wp2_with fail
      go_ret
      exact ⟨rfl, Quiet0.alloc _ _⟩
    · have h60' : ¬ (60 : Int) < (h.nm.size : Int) := by omega
      cases hg : greatF h.tp
      · obtain ⟨res, hres⟩ : ∃ res, res = To.room D (m - 1) ps := ⟨_, rfl⟩
        have HRES := Lib.hid hres
        have HF : Hid (roomOne d m h ps = res) := by show _ = _; unfold roomOne bigH; rw [if_neg hd0, hres, hg, ← hD]; simp [h60]
        rw [HF.out]
        rw [hg] at HG
        have HDD := Lib.hid hdD
        have hD1 : D ≤ 100000 := by omega
        have hd1' : 1 ≤ d := by omega
        clear hres hd0 hD hdD hg h60
        obtain ⟨W0, hW0⟩ : ∃ W0, W0 = w.alloc (.cells (cells9 h o1 l1 c1 o2 l2 c2) 35) := ⟨_, rfl⟩
        have HB : Hid (∀ W, Quiet0 W0 W → W.cell? ⟨w.heap.size, 6, none⟩ = some (.slice o2 l2 c2)) := by
          intro W hq; rw [hW0] at hq; exact (box9 w h o1 l1 c1 o2 l2 c2 _ W hq).2.2.2.2.2.2.1
        have HQ0 : Hid (Quiet0 w W0) := by rw [hW0]; exact Quiet0.alloc _ _
        unfold tmv
        go_enter Tryd.func73, Tryd.ntmps73
        go_wp2_with fail
        change Calls _ _ _ (w.alloc (.cells (cells9 h o1 l1 c1 o2 l2 c2) 35)) _
        rw [← hW0]
        refine (HG.out _ HQ0.out).mono ?_; rintro e w1 ⟨rfl, hq1⟩
        have HQ1 := Lib.hid hq1
        clear hW0 hq1
        go_wp2_with fail
        generalize w.heap.size = nb at *
        go_loopw [1, 7] (fun s t wr => ∃ (i : Nat) (x : Int), t = .int .i64 i ∧ s = .int .i64 x ∧ i ≤ l2 ∧ -1 ≤ x ∧ x ≤ 100000 ∧ res = To.room D x (ps.drop i) ∧ Quiet0 W0 wr) (fun _ t _ => l2 - (intOf t).toNat)
        case atStart => exact ⟨0, m - 1, rfl, rfl, Nat.zero_le _, by omega, by omega, by rw [To.drop_zero]; exact HRES.out, HQ1.out⟩
        case round =>
          obtain ⟨i, x, rfl, rfl, hi, hx0, hx1, hr, hq⟩ := hrel
          have HR := Lib.hid hr
          have HQ := Lib.hid hq
          have g2 := HB.out wr hq
          clear hr hq
          by_cases hlt : i < l2
          · have hlt' : (i : Int) < l2 := by omega
            by_cases hx : 0 ≤ x
            · obtain ⟨b, off, hd, qs, p1, m1, d1, p2, m2, d2, rfl, hdr, hg, hRb, ⟨e0, e1, e2, e3, e4, e5, e6, e7, e8⟩, hsl, ht1⟩ := (HS.out.stay (HQ0.out.trans HQ.out)).nth hlt
              have hna := allT_get ps i hd qs HNM.out hg
              have HC := Lib.hid (IH.out i hd qs hg wr R p1 m1 d1 p2 m2 d2 D x ((d : Int) - 1) (by have := HDD.out; omega) hsl ht1 hna.1 hna.2 hx hx1 hD1)
              obtain ⟨y, hy⟩ : ∃ y, y = roomOne D x hd qs := ⟨_, rfl⟩
              have hyb : -1 ≤ y ∧ y ≤ 100000 := by have := roomOne_le D x hd qs hx; omega
              have HY : Hid (res = To.room D y (ps.drop (i + 1))) := by
                show _ = _
                rw [HR.out, hdr, hy, room_cons _ _ _ _ _ hx]
              rw [← hy] at HC
              unfold tmv at HC
              clear hdr hg hsl ht1 hy hRb hna
              go_wp2_with fail
              refine HC.out.mono ?_; rintro e w1 ⟨rfl, hq1⟩
              have HQ1 := Lib.hid (HQ.out.trans hq1)
              clear hq1
              go_wp2_with fail
              go_roundw
              case rel => exact ⟨i + 1, y, by go_num, rfl, by omega, hyb.1, hyb.2, HY.out, HQ1.out⟩
              case measure => simp [intOf]; omega
            · have hx' : x < 0 := by omega
              have HY : Hid (res = x) := by show _ = _; rw [HR.out]; exact To.room_neg _ _ _ hx'
              go_wp2_with fail
              go_ret
              exact ⟨by rw [HY.out]; rfl, HQ0.out.trans HQ.out⟩
          · have hlt' : ¬ (i : Int) < l2 := by omega
            have HY : Hid (res = x) := by
              show _ = _
              rw [HR.out, To.drop_end ps i (by have := HL.out; omega)]
              unfold To.room; rfl
            go_wp2_with fail
            go_ret
            exact ⟨by rw [HY.out]; rfl, HQ0.out.trans HQ.out⟩
      · have HF : Hid (roomOne d m h ps = -1) := by show _ = _; unfold roomOne bigH; rw [if_neg hd0, hg]; simp
        rw [HF.out]
        rw [hg] at HG
        clear hd0 hD hg h60
        unfold tmv
        go_enter Tryd.func73, Tryd.ntmps73
        go_wp2_with fail
        refine (HG.out _ (Quiet0.alloc _ _)).mono ?_; rintro e w1 ⟨rfl, hq1⟩
        go_wp2_with fail
        go_ret
        exact ⟨rfl, (Quiet0.alloc _ _).trans hq1⟩
/-- Great: is there more than is asked of? -/
def greatTm (h : Nd) (ps : To) : Bool := decide (roomOne 60 200 h ps < 0)
theorem greatTm_no {h : Nd} {ps : To} (e : greatTm h ps = false) : bigH h = false ∧ allT (fun h => bigH h = false) ps ∧ ps.size + 1 ≤ 200 ∧ ps.depth + 1 ≤ 60 := by
  unfold greatTm at e
  have h0 : 0 ≤ roomOne 60 200 h ps := by simpa using e
  unfold roomOne at h0
  rw [if_neg (by omega)] at h0
  cases hb : bigH h
  · rw [hb] at h0
    simp only [Bool.false_eq_true, if_false] at h0
    obtain ⟨h1, h2, h3, h4⟩ := To.room_all ps _ _ h0
    exact ⟨rfl, h4, by omega, by omega⟩
  · rw [hb] at h0; simp at h0
theorem bigH_no {h : Nd} (e : bigH h = false) : h.nm.size ≤ 60 ∧ h.tp.size + 1 ≤ 300 := by
  unfold bigH at e
  rw [Bool.or_eq_false_iff] at e
  exact ⟨by simpa using e.1, great_size e.2⟩
set_option maxHeartbeats 1000000 in
theorem greatTm_any (h : Nd) (ps : To) (w : World) (R : Nat → Prop) (o1 : Option Addr) (l1 c1 : Nat) (o2 : Option Addr) (l2 c2 : Nat) (hs1 : SlcIn R w o1 l1 h.tp) (hs : TSlc R w o2 l2 ps) (hnm : h.nm.size ≤ 9223372036854775807) (hnms : allT (fun h => h.nm.size ≤ 9223372036854775807) ps) :
    Calls Tryd.prog 22 #[tmv h o1 l1 c1 o2 l2 c2] w fun e w' => e = .returned (.bool (greatTm h ps)) ∧ Quiet0 w w' := by
  have HC := Lib.hid (fun (W : World) (hq : Quiet0 w W) => roomT_any h ps W R o1 l1 c1 o2 l2 c2 60 200 60 rfl (hs1.stay hq) (hs.stay hq) hnm hnms (by omega) (by omega) (by omega))
  unfold greatTm
  generalize roomOne 60 200 h ps = r at *
  clear hs1 hs hnm hnms
  unfold tmv at *
  go_enter Tryd.func22, Tryd.ntmps22
  go_wp2_with fail
  refine (HC.out _ (Quiet0.alloc _ _)).mono ?_; rintro e w1 ⟨rfl, hq⟩
  go_wp2_with fail
  go_ret
  exact ⟨rfl, (Quiet0.alloc _ _).trans hq⟩
end Go.Proofs.YtggidhgifaekbaaDoor
end
section
/-
  What closes a law's row: it returned true, and of what was there nothing has turned. No condition.
-/
namespace Go.Proofs.YtggidhgifaekbaaDoor
open Go.ChangeShapes Go.WideShapes Go.ChangeAt Go.RowKit

theorem own : ownKnob Tryd.prog.godebug = none := by kernel_rfl

def typesRead (P : Program) (ts : List TypeId) : Bool := ts.all fun t => P.readableRec t && decide (t < P.types.size)

theorem below_trodAll {H : Type} {enc : TypeId × Value → H} {P : Program} (hl : laidOutB P = true) {W W' : World} (hb : Below W.heap.size W W') :
    ∀ (ts : List TypeId) (vs : List Value) (ds : List (DataW H)) (ps : List MemPlace), typesRead P ts = true → DataW.TrodAll enc P W 0 (fun _ => true) true ts vs ds ps → (∀ x ∈ ps, x.block < W.heap.size) →
      DataW.TrodAll enc P W' 0 (fun b => decide (b < W.heap.size)) true ts vs ds ps
  | [], vs, ds, ps, _, h, _ => by
    obtain ⟨rfl, rfl, rfl⟩ := trodAll_nil h
    exact trodAll_mk0
  | t :: ts, vs, ds, ps, hr, h, hlt => by
    obtain ⟨v, vs', d, ds', p, q, rfl, rfl, rfl, h1, h2⟩ := trodAll_cons h
    simp only [typesRead, List.all_cons, Bool.and_eq_true, decide_eq_true_eq] at hr
    exact trodAll_cons_mk (Below.trod hl hr.1.1 hr.1.2 h1 hb (fun x hx => hlt x (List.mem_append_left _ hx)))
      (below_trodAll hl hb ts vs' ds' q hr.2 h2 (fun x hx => hlt x (List.mem_append_right _ hx)))

theorem law_post {H : Type} {enc : TypeId × Value → H} {f : Func} {s : ChangeSpec} {W W' : World} {args : Array Value} {ds gs : List (DataW H)} {before : List MemPlace}
    (hW : DataW.Whole enc Tryd.prog f.params.toList s.vars false W args.toList ds gs before) (hv : s.vars = []) (hs : (s.fn H (ds ++ gs)).results = [.lit (.bool true)]) (hs2 : (s.fn H (ds ++ gs)).args = ds) (hs3 : (s.fn H (ds ++ gs)).vars = [])
    (hres : f.resultTypes = #[4]) (hread : typesRead Tryd.prog f.params.toList = true) (hb : Below W.heap.size W W') :
    s.post enc Tryd.prog f false true false false W args (.bool true) W' := by
  have hlt := hW.lt
  have hW' := hW
  obtain ⟨p, q, hA, hV, rfl, hfz, hnd⟩ := hW
  refine ⟨ds, gs, _, [], p, [], hW', ?_, ?_, ?_, hb.frame _, fun h => by cases h⟩
  · rw [hs, hres]; exact trodAll_cons_mk (shut_bool Tryd.underlying4 _) trodAll_mk0
  · rw [hs2]; exact below_trodAll (by kernel_rfl) hb _ _ _ _ hread hA (fun x hx => by have := hlt x (List.mem_append_left _ hx); simpa using this)
  · rw [hs3, hv]; exact rfl
end Go.Proofs.YtggidhgifaekbaaDoor
end
section
/-
  Types that came in as arguments: rows of types, however deep. No condition.
-/
namespace Go.Proofs.YtggidhgifaekbaaDoor
open Go.ChangeShapes Go.WideShapes Go.ChangeAt Go.RowKit

theorem spot_none {w : World} {a : Addr} {v : Value} (h : w.cell? (a.add 0) = some v) : ∃ b off, a = ⟨b, off, none⟩ := by
  obtain ⟨b, off, s⟩ := a
  cases s with
  | none => exact ⟨b, off, rfl⟩
  | some s =>
    unfold World.cell? Addr.add at h
    simp only [if_true] at h
    split at h <;> simp_all
section
variable {H : Type} {enc : TypeId × Value → H} {P : Program} {w : World} {base : Nat} {spare : Nat → Bool} {held : Bool}
theorem at_of_cells {b off len : Nat} (one : ∀ i, i < len → ∃ k n o l c ps, w.cell? ⟨b, off + i * 3, none⟩ = some (.int .i64 k) ∧ w.cell? ⟨b, off + i * 3 + 1, none⟩ = some (.int .i64 n) ∧ w.cell? ⟨b, off + i * 3 + 2, none⟩ = some (.slice o l c) ∧ Slc w o l ps ∧ wfI n ∧ wfF ps) :
    ∀ m s, s + m = len → ∃ f : Fo, f.length = m ∧ At w b (off + s * 3) f ∧ wfF f
  | 0, s, _ => ⟨.nil, rfl, trivial, trivial⟩
  | m + 1, s, h => by
    obtain ⟨k, n, o, l, c, ps, h1, h2, h3, hs, hw, hwp⟩ := one s (by omega)
    obtain ⟨r, hr, ha, hwr⟩ := at_of_cells one m (s + 1) (by omega)
    refine ⟨.cons k n ps r, by simp [Fo.length, hr], ⟨h1, h2, ⟨o, l, c, h3, hs.1, hs.2.1, hs.2.2⟩, ?_⟩, hw, hwp, hwr⟩
    rw [show off + s * 3 + 3 = off + (s + 1) * 3 from by omega]
    exact ha
theorem open_parts {te : TypeId} {f0 f1 f2 : Field} (he : P.underlying te = some (.struct #[f0, f1, f2])) (ce : P.cellsOf te = 3)
    (o0 : f0.offset = 0) (o1 : f1.offset = 1) (o2 : f2.offset = 2) (c0 : P.cellsOf f0.type = 1) (c1 : P.cellsOf f1.type = 1) (c2 : P.cellsOf f2.type = 1) (k0 : P.underlying f0.type = some (.int .i64)) (k1 : P.underlying f1.type = some (.int .i64)) (k2 : P.underlying f2.type = some (.slice te)) :
    ∀ (fuel : Nat) (ts : TypeId) (cs : List Value) (x : DataW H × List MemPlace), P.underlying ts = some (.slice te) → DataW.trod enc P w base spare held fuel ts cs = some x → ∃ o len cap f, cs = [.slice o len cap] ∧ Slc w o len f ∧ wfF f := by
  intro fuel
  induction fuel using Nat.strongRecOn with
  | _ fuel ih =>
  intro ts cs x hts h
  rcases DataW.trod_slice hts h with ⟨rfl, _⟩ | ⟨a, len, cap, elems, rest, n, hfu, rfl, _, _, hl, hm, hlen, hel, _⟩
  · exact ⟨_, _, _, .nil, rfl, Slc.nil _ _, trivial⟩
  · have one : ∀ i, i < len → ∃ k n o l c ps, w.cell? (a.add (i * 3)) = some (.int .i64 k) ∧ w.cell? (a.add (i * 3 + 1)) = some (.int .i64 n) ∧ w.cell? (a.add (i * 3 + 2)) = some (.slice o l c) ∧ Slc w o l ps ∧ wfI n ∧ wfF ps := by
      intro i hi
      have h1 := hel i hi
      rw [List.getElem?_eq_getElem (by omega)] at h1
      obtain ⟨cs', h2, h3⟩ := Option.bind_eq_some_iff.1 h1
      rw [ce] at h2
      obtain ⟨_, hcl, hcell⟩ := World.cells?_some h2
      obtain ⟨xs, n', hn', _, _, hxl, hfx⟩ := DataW.trod_struct he h3
      match cs', hcl with
      | [u0, u1, u2], _ =>
        have hxl3 : xs.length = 3 := by simpa using hxl
        have s0 := hfx 0 f0 rfl
        have s1 := hfx 1 f1 rfl
        have s2 := hfx 2 f2 rfl
        rw [c0, o0, show xs[0]? = some (xs[0]'(by omega)) from by simp [hxl3]] at s0
        rw [c1, o1, show xs[1]? = some (xs[1]'(by omega)) from by simp [hxl3]] at s1
        rw [c2, o2, show xs[2]? = some (xs[2]'(by omega)) from by simp [hxl3]] at s2
        obtain ⟨z0, hz0, _, hw0⟩ := DataW.trod_int k0 s0
        obtain ⟨z1, hz1, _, hw1⟩ := DataW.trod_int k1 s1
        obtain ⟨o, l, c, ps, hz2, hps, hwp⟩ := ih n' (by omega) f2.type _ _ k2 s2
        simp at hz0 hz1 hz2
        have e1 := hcell 1 (by omega)
        have e2 := hcell 2 (by omega)
        simp [Deep.add_add] at e1 e2
        refine ⟨z0, z1, o, l, c, ps, ?_, ?_, ?_, hps, hw1, hwp⟩
        · have : (a.add (i * 3)).add 0 = a.add (i * 3) := by rw [Deep.add_add]; rfl
          rw [← this, hcell 0 (by omega)]; simp [hz0]
        · rw [e1, hz1]
        · rw [e2, hz2]
    by_cases h0 : len = 0
    · subst h0
      exact ⟨_, _, _, .nil, rfl, Slc.nil _ _, trivial⟩
    · obtain ⟨k, n, o, l, c, ps, h1, _⟩ := one 0 (by omega)
      rw [Nat.zero_mul] at h1
      obtain ⟨b, off, rfl⟩ := spot_none h1
      obtain ⟨f, hf, hA, hwf⟩ := at_of_cells (b := b) (off := off) (len := len) (w := w) (fun i hi => by
        obtain ⟨k, n, o, l, c, ps, h1, h2, h3, h4⟩ := one i hi
        exact ⟨k, n, o, l, c, ps, by simpa [Addr.add_lit] using h1, by simpa [Addr.add_lit, Nat.add_assoc] using h2, by simpa [Addr.add_lit, Nat.add_assoc] using h3, h4⟩) len 0 (by omega)
      rw [Nat.zero_mul, Nat.add_zero] at hA
      exact ⟨_, _, _, f, rfl, ⟨hf.symm, by omega, fun _ => ⟨b, off, rfl, hA⟩⟩, hwf⟩
theorem open_agg {te : TypeId} {f0 f1 f2 : Field} (he : P.underlying te = some (.struct #[f0, f1, f2])) (ce : P.cellsOf te = 3)
    (o0 : f0.offset = 0) (o1 : f1.offset = 1) (o2 : f2.offset = 2) (c0 : P.cellsOf f0.type = 1) (c1 : P.cellsOf f1.type = 1) (c2 : P.cellsOf f2.type = 1) (k0 : P.underlying f0.type = some (.int .i64)) (k1 : P.underlying f1.type = some (.int .i64)) (k2 : P.underlying f2.type = some (.slice te))
    {fuel : Nat} {cs : List Value} {x : DataW H × List MemPlace} (h : DataW.trod enc P w base spare held fuel te cs = some x) : ∃ k n o len cap f, cs = [.int .i64 k, .int .i64 n, .slice o len cap] ∧ Slc w o len f ∧ wfI n ∧ wfF f := by
  obtain ⟨xs, n', hn', _, hcl, hxl, hfx⟩ := DataW.trod_struct he h
  rw [ce] at hcl
  match cs, hcl with
  | [u0, u1, u2], _ =>
    have hxl3 : xs.length = 3 := by simpa using hxl
    have s0 := hfx 0 f0 rfl
    have s1 := hfx 1 f1 rfl
    have s2 := hfx 2 f2 rfl
    rw [c0, o0, show xs[0]? = some (xs[0]'(by omega)) from by simp [hxl3]] at s0
    rw [c1, o1, show xs[1]? = some (xs[1]'(by omega)) from by simp [hxl3]] at s1
    rw [c2, o2, show xs[2]? = some (xs[2]'(by omega)) from by simp [hxl3]] at s2
    obtain ⟨z0, hz0, _, hw0⟩ := DataW.trod_int k0 s0
    obtain ⟨z1, hz1, _, hw1⟩ := DataW.trod_int k1 s1
    obtain ⟨o, l, c, ps, hz2, hps, hwp⟩ := open_parts he ce o0 o1 o2 c0 c1 c2 k0 k1 k2 n' f2.type _ _ k2 s2
    simp at hz0 hz1 hz2
    exact ⟨z0, z1, o, l, c, ps, by rw [hz0, hz1, hz2], hps, hw1, hwp⟩
end
section
variable {H : Type} {enc : TypeId × Value → H} {w : World} {base : Nat} {spare : Nat → Bool} {held : Bool}
/-- an argument that is a row of types -/
theorem open_types {ts : TypeId} {v : Value} {d : DataW H} {p : List MemPlace} (ht : Tryd.prog.underlying ts = some (.slice 24)) (hv : ∃ a len cap, v = .slice a len cap) (h : DataW.Trod enc Tryd.prog w base spare held ts v d p) : ∃ o n c f, v = .slice o n c ∧ Slc w o n f ∧ wfF f ∧ n ≤ c := by
  obtain ⟨a0, l0, cc0, rfl⟩ := hv
  obtain ⟨fuel, hf⟩ := h
  have hlc : l0 ≤ cc0 := by
    rcases DataW.trod_slice ht hf with ⟨he, _⟩ | ⟨a, len, cap, _, _, _, _, he, _, _, hl, _⟩
    · simp [Value.cells] at he; omega
    · simp [Value.cells] at he; omega
  obtain ⟨o, n, c, f, he, hs, hw⟩ := open_parts Tryd.underlying24 (by kernel_rfl) rfl rfl rfl (by kernel_rfl) (by kernel_rfl) (by kernel_rfl) Tryd.underlying3 Tryd.underlying3 Tryd.underlying22 fuel ts _ _ ht hf
  simp [Value.cells] at he
  obtain ⟨rfl, rfl, rfl⟩ := he
  exact ⟨_, _, _, f, rfl, hs, hw, hlc⟩
/-- an argument that is a type -/
theorem open_type {v : Value} {d : DataW H} {p : List MemPlace} (hv : ∃ cs, v = .agg cs ∧ cs.size = Tryd.prog.cellsOf 24) (h : DataW.Trod enc Tryd.prog w base spare held 24 v d p) : ∃ k n o len cap f, v = tyv k n o len cap ∧ Slc w o len f ∧ wfI n ∧ wfF f := by
  obtain ⟨cs, rfl, _⟩ := hv
  obtain ⟨fuel, hf⟩ := h
  obtain ⟨k, n, o, len, cap, f, he, hs, hw, hwf⟩ := open_agg Tryd.underlying24 (by kernel_rfl) rfl rfl rfl (by kernel_rfl) (by kernel_rfl) (by kernel_rfl) Tryd.underlying3 Tryd.underlying3 Tryd.underlying22 hf
  refine ⟨k, n, o, len, cap, f, ?_, hs, hw, hwf⟩
  unfold tyv
  congr 1
  apply Array.toList_inj.1
  simpa [Value.cells] using he
end
end Go.Proofs.YtggidhgifaekbaaDoor
end
