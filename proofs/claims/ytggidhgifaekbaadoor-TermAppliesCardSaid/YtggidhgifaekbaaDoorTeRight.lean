/-
  term.plain of any head, and term.Right: a range over all terms. Conditions: the term lies in memory as told; there are few of them; the table of blanks holds what its initialiser lays.
-/
import Derived.Test.YtggidhgifaekbaaDoorTeSound
import Derived.Test.YtggidhgifaekbaaDoorTeSize
namespace Go.Proofs.YtggidhgifaekbaaDoor
open Go.RowKit Go.Shelf

attribute [local go_sem] Oper.semAt_some
/-- what a head must be that plain is asked of -/
def GoodH (h : Nd) : Prop := h.nm.size ≤ 100000 ∧ h.tp.size ≤ 100000 ∧ wfI h.tn ∧ wfF h.tp
set_option maxHeartbeats 1000000 in
theorem soundT_any (h : Nd) (w : World) (R : Nat → Prop) (o1 : Option Addr) (l1 c1 : Nat) (o2 : Option Addr) (l2 c2 : Nat) (hs : SlcIn R w o1 l1 h.tp) (hg : GoodH h) (hl2 : l2 ≤ 9223372036854775807) (ht : Lx.Spaces w) :
    Calls Tryd.prog 76 #[tmv h o1 l1 c1 o2 l2 c2] w fun e w' => e = .returned (.bool (soundB h l2)) ∧ Quiet0 w w' := by
  obtain ⟨k, nm, n, tk, tn, tp0, fr, en⟩ := h
  obtain ⟨g1, g2, g3, g4⟩ := hg
  by_cases h1 : 1 ≤ k
  · by_cases h2 : k ≤ 10
    · exact sound_in k h1 h2 nm n tk tn tp0 fr en w o1 l1 c1 o2 l2 c2 hs.slc g1 g2 g3 g4 hl2 ht
    · have e : soundB ⟨k, nm, n, tk, tn, tp0, fr, en⟩ l2 = false := by unfold soundB; simp [h2]
      rw [e]
      have hk1 : ¬ k < 1 := by omega
      have hk2 : 10 < k := by omega
      have HQ := Lib.hid (Quiet0.alloc w (.cells #[.int .i64 k, .string nm, .int .i64 n, .int .i64 tk, .int .i64 tn, .slice o1 l1 c1, .slice o2 l2 c2, .int .i64 fr, .int .i64 en] 35))
      clear hs g1 g2 g3 g4 ht e
      unfold tmv
      go_enter Tryd.func76, Tryd.ntmps76
      go_wp2_with fail
      go_ret
      exact ⟨rfl, HQ.out⟩
  · have e : soundB ⟨k, nm, n, tk, tn, tp0, fr, en⟩ l2 = false := by unfold soundB; simp [h1]
    rw [e]
    have hk1 : k < 1 := by omega
    have HQ := Lib.hid (Quiet0.alloc w (.cells #[.int .i64 k, .string nm, .int .i64 n, .int .i64 tk, .int .i64 tn, .slice o1 l1 c1, .slice o2 l2 c2, .int .i64 fr, .int .i64 en] 35))
    clear hs g1 g2 g3 g4 ht e
    unfold tmv
    go_enter Tryd.func76, Tryd.ntmps76
    go_wp2_with fail
    go_ret
    exact ⟨rfl, HQ.out⟩
abbrev sndX (x : Nd × To) : Bool := soundB x.1 x.2.length
/-- between two rounds of Right -/
def RtI (rb : Nat) (w : World) (xs : List (Nd × To)) (i : Nat) (D : Nat → Prop) (W : World) : Prop :=
  ((∀ k, D k ↔ k = rb) ∧ W.heap[rb]? = some (.cells #[.bool false] 4 (0, 0)) ∧ Quiet0 w W) ∧ (xs.take i).all sndX = true
theorem RtI.fr {rb : Nat} {w : World} {xs : List (Nd × To)} {i : Nat} {D S : Nat → Prop} {W W' : World} (h : RtI rb w xs i D W) (hf : Fr S W W') (h1 : ¬ S rb) (h2 : ∀ k, k < w.heap.size → ¬ S k) : RtI rb w xs i D W' :=
  ⟨⟨h.1.1, (hf.block _ (lt_of_block h.1.2.1) h1).trans h.1.2.1, Fr.trans' h.1.2.2 hf (fun k hk hs => h2 k hk hs)⟩, h.2⟩
set_option maxHeartbeats 4000000 in
theorem rightTm_any (h : Nd) (ps : To) (w : World) (R : Nat → Prop) (o1 : Option Addr) (l1 c1 : Nat) (o2 : Option Addr) (l2 c2 : Nat) (hs1 : SlcIn R w o1 l1 h.tp) (hs : TSlc R w o2 l2 ps) (hz : ps.size ≤ 100000) (hg : allT GoodH (.cons h ps .nil)) (ht : Lx.Spaces w) :
    Calls Tryd.prog 25 #[tmv h o1 l1 c1 o2 l2 c2] w fun e w' => e = .returned (.bool ((To.cons h ps .nil).flat.all sndX)) ∧ Quiet0 w w' := by
  obtain ⟨xs, hxs⟩ : ∃ xs, (To.cons h ps .nil).flat = xs := ⟨_, rfl⟩
  rw [hxs]
  refine (callsIn_wide (n := 5)).1 ?_
  refine callsIn_of_wp_marks Tryd.func25 rfl trivial ?_ rfl
  simp only [Tryd.ntmps25, List.size_toArray, List.length_cons, List.length_nil, Nat.reduceAdd, Nat.reduceSub, Array.replicate_succ, Array.replicate_zero, List.push_toArray, List.append_toArray, List.nil_append, List.cons_append]
  have HC := fun W => (callsIn_wide (n := 4)).2 (all_call h o1 l1 c1 o2 l2 c2 W)
  have HT := Lib.hid ht
  have HG := Lib.hid (allT_flat _ hg)
  unfold tmv at HC ⊢
  gi_wp2_with (fail)
  refine ⟨trivial, (HC _).mono ?_⟩; rintro e W2' ⟨rfl, hW2⟩
  obtain ⟨W1, hW1⟩ : ∃ W1, W1 = ((w.alloc (.cells (cells9 h o1 l1 c1 o2 l2 c2) 35)).alloc (.cells #[.bool false] 4)) := ⟨_, rfl⟩
  have hz1 : W1.heap.size = w.heap.size + 1 + 1 := by rw [hW1]; simp
  have hq1 : Quiet0 w W1 := by rw [hW1]; exact (Quiet0.alloc _ _).trans (Quiet0.alloc _ _)
  have hb1 : W1.heap[w.heap.size + 1]? = some (.cells #[.bool false] 4 (0, 0)) := by
    rw [hW1]
    have := heap_alloc_new (w.alloc (.cells (cells9 h o1 l1 c1 o2 l2 c2) 35)) (.cells #[.bool false] 4)
    simpa using this
  have hW2' : W2' = W1.alloc (.cells (cells9 h o1 l1 c1 o2 l2 c2) 35) := by rw [hW1]; exact hW2
  have hq2 : Quiet0 w W2' := by rw [hW2']; exact hq1.trans (Quiet0.alloc _ _)
  have hb2 : W2'.heap[w.heap.size + 1]? = some (.cells #[.bool false] 4 (0, 0)) := by
    rw [hW2', Below.heap_alloc _ _ _ (by omega)]; exact hb1
  have htb : W2'.heap[W1.heap.size]? = some (.cells (cells9 h o1 l1 c1 o2 l2 c2) 35 (0, 0)) := by rw [hW2']; exact heap_alloc_new W1 _
  have hz2 : W2'.heap.size = w.heap.size + 3 := by rw [hW2']; simp; omega
  have hseq := all_seq (5 - 1) (fun k => k < w.heap.size ∨ k = W1.heap.size) h ps o1 l1 c1 o2 l2 c2 W1.heap.size W2' (fun k hk => by omega) htb (.inr rfl) ((hs1.mono (T := fun k => k < w.heap.size ∨ k = W1.heap.size) (fun k hk _ => .inl hk)).stay hq2) ((hs.mono (T := fun k => k < w.heap.size ∨ k = W1.heap.size) (fun k hk _ => .inl hk)).stay hq2) hz
  rw [hz1] at hseq
  rw [hxs] at hseq HG
  have HSEQ := Lib.hid hseq
  have HB2 := Lib.hid hb2
  have HQ2 := Lib.hid hq2
  clear hW1 hW2 hW2' hq1 hb1 hq2 hb2 htb hseq HC hxs hg ht
  gi_wp2_with (fail)
  refine wpIn_range_c (w := W2') rfl (enters_of Tryd.func112 (by kernel_rfl) rfl) HSEQ.out (fun k hk => by omega) (Fr.refl _ _) (fun i x va W he => encT_size he)
    (RtI (w.heap.size + 1) w xs)
    (fun i x a' D W => RtI (w.heap.size + 1) w xs i D W ∧ ∃ (xb : Nat) (t7 t8 : Value) (p1 : Option Addr) (m1 d1 : Nat) (p2 : Option Addr) (m2 d2 : Nat), W.heap[xb]? = some (.cells (cells9 x.1 p1 m1 d1 p2 m2 d2) 35 (0, 0)) ∧ xb ≠ W2'.heap.size + 1 ∧ SlcIn (fun k => k < w.heap.size ∨ k = w.heap.size + 1 + 1) W p1 m1 x.1.tp ∧ TSlc (fun k => k < w.heap.size ∨ k = w.heap.size + 1 + 1) W p2 m2 x.2 ∧ a' = { tmps := #[.agg #[.int .i64 h.k, .string h.nm, .int .i64 h.n, .int .i64 h.tk, .int .i64 h.tn, .slice o1 l1 c1, .slice o2 l2 c2, .int .i64 h.fr, .int .i64 h.en], .pointer (some ⟨w.heap.size, 0, none⟩), .pointer (some ⟨w.heap.size + 1, 0, none⟩), undef, .pointer (some ⟨xb, 0, none⟩), .agg #[.int .i64 h.k, .string h.nm, .int .i64 h.n, .int .i64 h.tk, .int .i64 h.tn, .slice o1 l1 c1, .slice o2 l2 c2, .int .i64 h.fr, .int .i64 h.en], .func (.func 112) #[] #[.pointer (some ⟨w.heap.size + 1 + 1, 0, none⟩)], t7, t8, undef, undef, undef], defers := [] })
    (fun c W => c = .ret ∧ W.heap[w.heap.size + 1]? = some (.cells #[.bool false] 4 (0, 0)) ∧ Quiet0 w W ∧ xs.all sndX = false) (fun k => k = w.heap.size + 1) ?own ?stay ?stayM ?stayX ?start ?assign ?body ?done ?stop
  case own =>
    rintro i D A ⟨⟨hd, hb, hq⟩, _⟩ k hk
    have e := (hd k).1 hk
    have hl := lt_of_block hb
    exact ⟨by omega, by omega, .inl (by omega)⟩
  case stay =>
    rintro i D A B hI hf
    exact hI.fr hf (fun h => h.2 ((hI.1.1 _).2 rfl)) (fun k hk h => by have := h.1; omega)
  case stayM =>
    rintro i x a' D A B ⟨hI, xb, t7, t8, p1, m1, d1, p2, m2, d2, hxb, hne, hp1, hp2, ha⟩ hf
    exact ⟨hI.fr hf (by omega) (fun k hk h => by omega), xb, t7, t8, p1, m1, d1, p2, m2, d2, blk_fr hf hne hxb, hne, hp1.fr hf (fun k _ h => ⟨h, by omega⟩), hp2.fr hf (fun k _ h => ⟨h, by omega⟩), ha⟩
  case stayX =>
    rintro c A B ⟨hc, hb, hq, hx⟩ hf
    exact ⟨hc, blk_fr hf (by omega) hb, hq.trans' hf (fun k hk h => by omega), hx⟩
  case start => exact ⟨⟨fun k => Iff.rfl, HB2.out, HQ2.out⟩, rfl⟩
  case assign =>
    rintro l i x va D W K hx ⟨p1, m1, d1, p2, m2, d2, rfl, hp1, hp2⟩ hI hWs hK
    unfold tmv
    have hq := Quiet0.alloc W (.cells (cells9 x.1 p1 m1 d1 p2 m2 d2) 35)
    have hnew := heap_alloc_new W (.cells (cells9 x.1 p1 m1 d1 p2 m2 d2) 35)
    have hne : W.heap.size ≠ W2'.heap.size + 1 := by omega
    have hI2 := hI.fr (S := fun _ => False) hq (fun h => h) (fun _ _ h => h)
    have hp1' := hp1.stay hq
    have hp2' := hp2.stay hq
    clear hI hWs
    gi_wp2
    exact hK _ _ ⟨hI2, W.heap.size, .int .i64 (i : Int), tmv x.1 p1 m1 d1 p2 m2 d2, p1, m1, d1, p2, m2, d2, hnew, hne, hp1', hp2', by simp [tmv]⟩ hq
  case body =>
    rintro l i x a' D W hx ⟨hI, xb, t7, t8, p1, m1, d1, p2, m2, d2, hxb, hne, hp1, hp2, rfl⟩ hW
    obtain ⟨a0, a1, a2, a3, a4, a5, a6, a7, a8⟩ := cells9_block hxb
    have hxm := HG.out x (List.mem_of_getElem? hx)
    have hl2 : m2 ≤ 9223372036854775807 := by have := hp2.2.1; unfold maxLen at this; omega
    have hCS := (callsIn_wide (n := 5 - 1 - 1)).2 (soundT_any x.1 W _ p1 m1 d1 p2 m2 d2 hp1 hxm.1 hl2 (HT.out.stay hI.1.2.2))
    have hlen : m2 = x.2.length := hp2.1
    rw [hlen] at hCS
    unfold tmv at hCS
    cases hb : soundB x.1 x.2.length
    · rw [hb] at hCS
      gi_wp2_with (fail)
      refine ⟨trivial, (CallsIn.inRound l hCS).mono ?_⟩; rintro e w1 ⟨rfl, hq1⟩
      have hI1 := hI.fr (S := fun _ => False) hq1 (fun h => h) (fun _ _ h => h)
      have cc := cell_of_one hI1.1.2.1
      have zz := free_of_one hI1.1.2.1
      have hal : xs.all sndX = false := by
        rw [List.all_eq_false]; exact ⟨x, List.mem_of_getElem? hx, by show ¬ soundB x.1 x.2.length = true; rw [hb]; simp⟩
      gi_wp2
      have hfs := Fr.setCell (fun k => k = w.heap.size + 1) w1 ⟨w.heap.size + 1, 0, none⟩ (.bool false) rfl
      exact ⟨⟨rfl, one_setCell hI1.1.2.1, hI1.1.2.2.trans' hfs (fun k hk e => by omega), hal⟩, Fr.trans hq1.fr (hfs.mono (fun k _ e => (hI.1.1 k).2 e))⟩
    · rw [hb] at hCS
      gi_wp2_with (fail)
      refine ⟨trivial, (CallsIn.inRound l hCS).mono ?_⟩; rintro e w1 ⟨rfl, hq1⟩
      have hI1 := hI.fr (S := fun _ => False) hq1 (fun h => h) (fun _ _ h => h)
      gi_wp2
      refine ⟨D, ⟨hI1.1, ?_⟩, hq1.fr, fun k hk => .inl hk⟩
      rw [List.take_add_one, hx, List.all_append, hI.2]
      simp [sndX, hb]
  case done =>
    rintro D W ⟨⟨hd, hb, hq⟩, hall⟩ hdef
    rw [List.take_length] at hall
    have cc := cell_of_one hb
    have zz := free_of_one hb
    gi_wp2
    have hne3 : W2'.heap.size ≠ w.heap.size + 1 := by omega
    have hd2 : (W.setCell ⟨w.heap.size + 1, 0, none⟩ (.bool true)).heap[W2'.heap.size]? = some (.deferred (some [])) := by
      rw [Below.heap_setCell _ _ _ _ (fun e => hne3 e)]; exact hdef
    refine ⟨by simp, .inl ⟨_, _, rfl, run_takeDeferred hd2, ?_⟩⟩
    have hfp := Fr.putObj (fun k => k = W2'.heap.size) (W.setCell ⟨w.heap.size + 1, 0, none⟩ (.bool true)) W2'.heap.size (.deferred none) rfl
    have cr := cell_of_one (blk_fr hfp (by omega) (one_setCell hb))
    refine ⟨_, by simp [results, Tryd.results25, go_sem, cr]; rfl, ?_, ?_⟩
    · rw [hall]
    · exact (hq.trans' (Fr.setCell (fun k => k = w.heap.size + 1) W ⟨w.heap.size + 1, 0, none⟩ (.bool true) rfl) (fun k hk e => by omega)).trans' hfp (fun k hk e => by omega)
  case stop =>
    rintro c W ⟨rfl, hb, hq, hx⟩ hdef
    gi_wp2
    refine ⟨by simp, .inl ⟨_, _, rfl, run_takeDeferred hdef, ?_⟩⟩
    have hfp := Fr.putObj (fun k => k = W2'.heap.size) W W2'.heap.size (.deferred none) rfl
    have cr := cell_of_one (blk_fr hfp (by omega) hb)
    refine ⟨_, by simp [results, Tryd.results25, go_sem, cr]; rfl, ?_, ?_⟩
    · rw [hx]
    · exact hq.trans' hfp (fun k hk e => by omega)
end Go.Proofs.YtggidhgifaekbaaDoor
