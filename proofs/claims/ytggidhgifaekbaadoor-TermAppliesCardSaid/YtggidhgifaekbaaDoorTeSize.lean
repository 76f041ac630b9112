/-
  term.Size: a range over all terms. Conditions: the term lies in memory as told; there are few of them.
-/
import Derived.Test.YtggidhgifaekbaaDoorTeAll
import Derived.RangeFuncLeaves
import Derived.RangeFuncCalls
import Derived.Test.YtggidhgifaekbaaDoorTeRef
namespace Go.Proofs.YtggidhgifaekbaaDoor
open Go.RowKit Go.Shelf

attribute [local go_sem] Oper.semAt_some
theorem encT_size {R : Nat → Prop} {i : Nat} {x : Nd × To} {va : Array Value} {W : World} (h : EncT R i x va W) : va.size = 2 := by
  obtain ⟨o1, l1, c1, o2, l2, c2, rfl, _⟩ := h; rfl
/-- a number in a box of the call's own, between two rounds -/
def BoxI (nb : Nat) (w : World) (v : Nat → Value) (T : TypeId) (i : Nat) (D : Nat → Prop) (W : World) : Prop :=
  (∀ k, D k ↔ k = nb) ∧ W.heap[nb]? = some (.cells #[v i] T (0, 0)) ∧ Quiet0 w W
theorem BoxI.fr {nb : Nat} {w : World} {v : Nat → Value} {T : TypeId} {i : Nat} {D S : Nat → Prop} {W W' : World} (h : BoxI nb w v T i D W) (hf : Fr S W W') (h1 : ¬ S nb) (h2 : ∀ k, k < w.heap.size → ¬ S k) : BoxI nb w v T i D W' :=
  ⟨h.1, (hf.block _ (lt_of_block h.2.1) h1).trans h.2.1, Fr.trans' h.2.2 hf (fun k hk hs => h2 k hk hs)⟩
set_option maxHeartbeats 4000000 in
theorem sizeTm_any (h : Nd) (ps : To) (w : World) (R : Nat → Prop) (o1 : Option Addr) (l1 c1 : Nat) (o2 : Option Addr) (l2 c2 : Nat) (hs1 : SlcIn R w o1 l1 h.tp) (hs : TSlc R w o2 l2 ps) (hz : ps.size ≤ 100000) :
    Calls Tryd.prog 27 #[tmv h o1 l1 c1 o2 l2 c2] w fun e w' => e = .returned (.int .i64 ((ps.size + 1 : Nat) : Int)) ∧ Quiet0 w w' := by
  refine (callsIn_wide (n := 5)).1 ?_
  refine callsIn_of_wp_marks Tryd.func27 rfl trivial ?_ rfl
  simp only [Tryd.ntmps27, List.size_toArray, List.length_cons, List.length_nil, Nat.reduceAdd, Nat.reduceSub, Array.replicate_succ, Array.replicate_zero, List.push_toArray, List.append_toArray, List.nil_append, List.cons_append]
  have HC := fun W => (callsIn_wide (n := 4)).2 (all_call h o1 l1 c1 o2 l2 c2 W)
  unfold tmv at *
  gi_wp2_with (fail)
  refine ⟨trivial, (HC _).mono ?_⟩; rintro e W2' ⟨rfl, hW2⟩
  have hn : (To.cons h ps .nil).flat.length = ps.size + 1 := by rw [To.flat_length]; simp [To.size]
  obtain ⟨W1, hW1⟩ : ∃ W1, W1 = ((w.alloc (.cells (cells9 h o1 l1 c1 o2 l2 c2) 35)).alloc (.cells #[.int .i64 0] 3)) := ⟨_, rfl⟩
  have hz1 : W1.heap.size = w.heap.size + 1 + 1 := by rw [hW1]; simp
  have hq1 : Quiet0 w W1 := by rw [hW1]; exact (Quiet0.alloc _ _).trans (Quiet0.alloc _ _)
  have hb1 : W1.heap[w.heap.size + 1]? = some (.cells #[.int .i64 0] 3 (0, 0)) := by
    rw [hW1]
    have := heap_alloc_new (w.alloc (.cells (cells9 h o1 l1 c1 o2 l2 c2) 35)) (.cells #[.int .i64 0] 3)
    simpa using this
  have hW2' : W2' = W1.alloc (.cells (cells9 h o1 l1 c1 o2 l2 c2) 35) := by rw [hW1]; exact hW2
  have hq2 : Quiet0 w W2' := by rw [hW2']; exact hq1.trans (Quiet0.alloc _ _)
  have hb2 : W2'.heap[w.heap.size + 1]? = some (.cells #[.int .i64 0] 3 (0, 0)) := by
    rw [hW2', Below.heap_alloc _ _ _ (by omega)]; exact hb1
  have htb : W2'.heap[W1.heap.size]? = some (.cells (cells9 h o1 l1 c1 o2 l2 c2) 35 (0, 0)) := by rw [hW2']; exact heap_alloc_new W1 _
  have hz2 : W2'.heap.size = w.heap.size + 3 := by rw [hW2']; simp; omega
  have hseq := all_seq (5 - 1) (fun k => k < w.heap.size ∨ k = W1.heap.size) h ps o1 l1 c1 o2 l2 c2 W1.heap.size W2' (fun k hk => by omega) htb (.inr rfl) ((hs1.mono (T := fun k => k < w.heap.size ∨ k = W1.heap.size) (fun k hk _ => .inl hk)).stay hq2) ((hs.mono (T := fun k => k < w.heap.size ∨ k = W1.heap.size) (fun k hk _ => .inl hk)).stay hq2) hz
  rw [hz1] at hseq
  have HSEQ := Lib.hid hseq
  have HB2 := Lib.hid hb2
  have HQ2 := Lib.hid hq2
  have HN := Lib.hid hn
  clear hW1 hW2 hW2' hq1 hb1 hq2 hb2 htb hseq hn HC
  gi_wp2_with (fail)
  refine wpIn_range_c (w := W2') rfl (enters_of Tryd.func112 (by kernel_rfl) rfl) HSEQ.out (fun k hk => by omega) (Fr.refl _ _) (fun i x va W he => encT_size he)
    (BoxI (w.heap.size + 1) w (fun i => .int .i64 (i : Int)) 3)
    (fun i x a' D W => BoxI (w.heap.size + 1) w (fun i => .int .i64 (i : Int)) 3 i D W ∧ ∃ t6 t7 : Value, a' = { tmps := #[.agg #[.int .i64 h.k, .string h.nm, .int .i64 h.n, .int .i64 h.tk, .int .i64 h.tn, .slice o1 l1 c1, .slice o2 l2 c2, .int .i64 h.fr, .int .i64 h.en], .pointer (some ⟨w.heap.size, 0, none⟩), .int .i64 0, .pointer (some ⟨w.heap.size + 1, 0, none⟩), .agg #[.int .i64 h.k, .string h.nm, .int .i64 h.n, .int .i64 h.tk, .int .i64 h.tn, .slice o1 l1 c1, .slice o2 l2 c2, .int .i64 h.fr, .int .i64 h.en], .func (.func 112) #[] #[.pointer (some ⟨w.heap.size + 1 + 1, 0, none⟩)], t6, t7, undef, undef, undef], defers := [] })
    (fun _ _ => False) (fun k => k = w.heap.size + 1) ?own ?stay ?stayM ?stayX ?start ?assign ?body ?done ?stop
  case own =>
    rintro i D A ⟨hd, hb, hq⟩ k hk
    have e := (hd k).1 hk
    have hl := lt_of_block hb
    exact ⟨by omega, by omega, .inl (by omega)⟩
  case stay =>
    rintro i D A B hI hf
    exact hI.fr hf (fun h => h.2 ((hI.1 _).2 rfl)) (fun k hk h => by have := h.1; omega)
  case stayM =>
    rintro i x a' D A B ⟨hI, ha⟩ hf
    exact ⟨hI.fr hf (by omega) (fun k hk h => by omega), ha⟩
  case stayX => intro c A B h; exact h.elim
  case start => exact ⟨fun k => Iff.rfl, HB2.out, HQ2.out⟩
  case assign =>
    rintro l i x va D W K hx ⟨p1, m1, d1, p2, m2, d2, rfl, _⟩ hI _ hK
    gi_wp2
    exact hK _ _ ⟨hI, .int .i64 (i : Int), tmv x.1 p1 m1 d1 p2 m2 d2, by simp⟩ (Fr.refl _ _)
  case body =>
    rintro l i x a' D W hx ⟨hI, t6, t7, rfl⟩ hW
    have hil : i < ps.size + 1 := by have := (List.getElem?_eq_some_iff.1 hx).1; have := HN.out; omega
    have cc := cell_of_one hI.2.1
    have zz := free_of_one hI.2.1
    gi_wp2
    refine ⟨D, ⟨hI.1, one_setCell hI.2.1, hI.2.2.trans' (Fr.setCell (fun k => k = w.heap.size + 1) _ ⟨w.heap.size + 1, 0, none⟩ _ rfl) (fun k hk e => by omega)⟩, Fr.setCell D _ ⟨w.heap.size + 1, 0, none⟩ _ ((hI.1 _).2 rfl), fun k hk => .inl hk⟩
  case done =>
    rintro D W ⟨hd, hb, hq⟩ hdef
    rw [HN.out] at hb
    have cc := cell_of_one hb
    rw [hz2] at hdef
    gi_wp2
    refine ⟨by simp, .inl ⟨_, _, rfl, run_takeDeferred hdef, ?_⟩⟩
    refine ⟨_, by simp [results, Tryd.results27, go_sem], rfl, ?_⟩
    exact hq.trans' (Fr.putObj (fun k => k = w.heap.size + 3) _ _ _ rfl) (fun k hk e => by omega)
  case stop => intro c W h; exact h.elim
end Go.Proofs.YtggidhgifaekbaaDoor
