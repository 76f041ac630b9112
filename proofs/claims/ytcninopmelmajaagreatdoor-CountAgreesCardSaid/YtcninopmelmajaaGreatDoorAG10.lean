/-
  Texts laid together (TeRight, TeRRight, ScRes, ScRsv, CnEqs, ScTmRow, EmRen, EmPos, EmCnt): laws and walks, with their conditions.
-/
import Derived.Test.YtcninopmelmajaaGreatDoorAG9
set_option maxHeartbeats 8000000
set_option maxRecDepth 1000000
namespace Go.Proofs.YtcninopmelmajaaGreatDoor
open Go.Lib (hid)
section
open Go.RowKit Go.Shelf
attribute [local go_sem] Oper.semAt_some
def GoodH (h : Nd) : Prop := h.nm.size <= 100000 /\ h.tp.size <= 100000 /\ wfI h.tn /\ wfF h.tp
theorem soundT_any (h : Nd) (w : World) (R : Nat -> Prop) (o1 : Option Addr) (l1 c1 : Nat) (o2 : Option Addr) (l2 c2 : Nat) (hs : SlcIn R w o1 l1 h.tp) (hg : GoodH h) (hl2 : l2 <= 9223372036854775807) (ht : Lx.Spaces w) :
    Calls Tryz.prog 51 #[tmv h o1 l1 c1 o2 l2 c2] w fun e w' => e = .returned (.bool (soundB h l2)) /\ Quiet0 w w' := by
 obtain ⟨k, nm, n, tk, tn, tp0, fr, en⟩ := h
 obtain ⟨g1, g2, g3, g4⟩ := hg
 by_cases h1 : 1 <= k
 ·by_cases h2 : k <= 10
  ·exact sound_in k h1 h2 nm n tk tn tp0 fr en w o1 l1 c1 o2 l2 c2 hs.slc g1 g2 g3 g4 hl2 ht
  ·have e : soundB ⟨k, nm, n, tk, tn, tp0, fr, en⟩ l2 = false := by unfold soundB; simp [h2]
   rw [e]
   have hk1 : ¬ k < 1 := by omega
   have hk2 : 10 < k := by omega
   have HQ := hid (Quiet0.alloc w (.cells #[.int .i64 k, .string nm, .int .i64 n, .int .i64 tk, .int .i64 tn, .slice o1 l1 c1, .slice o2 l2 c2, .int .i64 fr, .int .i64 en] 29))
   clear hs g1 g2 g3 g4 ht e
   unfold tmv
   go_enter Tryz.func51, Tryz.ntmps51
   go_wp2_with fail
   go_ret
   exact ⟨rfl, HQ.out⟩
 ·have e : soundB ⟨k, nm, n, tk, tn, tp0, fr, en⟩ l2 = false := by unfold soundB; simp [h1]
  rw [e]
  have hk1 : k < 1 := by omega
  have HQ := hid (Quiet0.alloc w (.cells #[.int .i64 k, .string nm, .int .i64 n, .int .i64 tk, .int .i64 tn, .slice o1 l1 c1, .slice o2 l2 c2, .int .i64 fr, .int .i64 en] 29))
  clear hs g1 g2 g3 g4 ht e
  unfold tmv
  go_enter Tryz.func51, Tryz.ntmps51
  go_wp2_with fail
  go_ret
  exact ⟨rfl, HQ.out⟩
abbrev sndX (x : Nd × To) : Bool := soundB x.1 x.2.length
def RtI (rb : Nat) (w : World) (xs : List (Nd × To)) (i : Nat) (D : Nat -> Prop) (W : World) : Prop :=
 ((∀ k, D k ↔ k = rb) /\ W.heap[rb]? = some (.cells #[.bool false] 4 (0, 0)) /\ Quiet0 w W) /\ (xs.take i).all sndX = true
theorem RtI.fr {rb : Nat} {w : World} {xs : List (Nd × To)} {i : Nat} {D S : Nat -> Prop} {W W' : World} (h : RtI rb w xs i D W) (hf : Fr S W W') (h1 : ¬ S rb) (h2 : ∀ k, k < w.heap.size -> ¬ S k) : RtI rb w xs i D W' :=
 ⟨⟨h.1.1, (hf.block _ (lt_of_block h.1.2.1) h1).trans h.1.2.1, Fr.trans' h.1.2.2 hf (fun k hk hs => h2 k hk hs)⟩, h.2⟩
theorem rightTm_any (h : Nd) (ps : To) (w : World) (R : Nat -> Prop) (o1 : Option Addr) (l1 c1 : Nat) (o2 : Option Addr) (l2 c2 : Nat) (hs1 : SlcIn R w o1 l1 h.tp) (hs : TSlc R w o2 l2 ps) (hz : ps.size <= 100000) (hg : allT GoodH (.cons h ps .nil)) (ht : Lx.Spaces w) :
    Calls Tryz.prog 30 #[tmv h o1 l1 c1 o2 l2 c2] w fun e w' => e = .returned (.bool ((To.cons h ps .nil).flat.all sndX)) /\ Quiet0 w w' := by
 obtain ⟨xs, hxs⟩ : ∃ xs, (To.cons h ps .nil).flat = xs := ⟨_, rfl⟩
 rw [hxs]
 refine (callsIn_wide (n := 5)).1 ?_
 refine callsIn_of_wp_marks Tryz.func30 rfl trivial ?_ rfl
 simp only [Tryz.ntmps30, List.size_toArray, List.length_cons, List.length_nil, Nat.reduceAdd, Nat.reduceSub, Array.replicate_succ, Array.replicate_zero, List.push_toArray, List.append_toArray, List.nil_append, List.cons_append]
 have HC := fun W => (callsIn_wide (n := 4)).2 (all_call h o1 l1 c1 o2 l2 c2 W)
 have HT := hid ht
 have HG := hid (allT_flat _ hg)
 unfold tmv at HC ⊢
 gi_wp2_with (fail)
 refine ⟨trivial, (HC _).mono ?_⟩; rintro e W2' ⟨rfl, hW2⟩
 obtain ⟨W1, hW1⟩ : ∃ W1, W1 = ((w.alloc (.cells (cells9 h o1 l1 c1 o2 l2 c2) 29)).alloc (.cells #[.bool false] 4)) := ⟨_, rfl⟩
 have hz1 : W1.heap.size = w.heap.size + 1 + 1 := by rw [hW1]; simp
 have hq1 : Quiet0 w W1 := by rw [hW1]; exact (Quiet0.alloc _ _).trans (Quiet0.alloc _ _)
 have hb1 : W1.heap[w.heap.size + 1]? = some (.cells #[.bool false] 4 (0, 0)) := by
  rw [hW1]
  have := heap_alloc_new (w.alloc (.cells (cells9 h o1 l1 c1 o2 l2 c2) 29)) (.cells #[.bool false] 4)
  simpa using this
 have hW2' : W2' = W1.alloc (.cells (cells9 h o1 l1 c1 o2 l2 c2) 29) := by rw [hW1]; exact hW2
 have hq2 : Quiet0 w W2' := by rw [hW2']; exact hq1.trans (Quiet0.alloc _ _)
 have hb2 : W2'.heap[w.heap.size + 1]? = some (.cells #[.bool false] 4 (0, 0)) := by
  rw [hW2', Below.heap_alloc _ _ _ (by omega)]; exact hb1
 have htb : W2'.heap[W1.heap.size]? = some (.cells (cells9 h o1 l1 c1 o2 l2 c2) 29 (0, 0)) := by rw [hW2']; exact heap_alloc_new W1 _
 have hz2 : W2'.heap.size = w.heap.size + 3 := by rw [hW2']; simp; omega
 have hseq := all_seq (5 - 1) (fun k => k < w.heap.size ∨ k = W1.heap.size) h ps o1 l1 c1 o2 l2 c2 W1.heap.size W2' (fun k hk => by omega) htb (.inr rfl) ((hs1.mono (T := fun k => k < w.heap.size ∨ k = W1.heap.size) (fun k hk _ => .inl hk)).stay hq2) ((hs.mono (T := fun k => k < w.heap.size ∨ k = W1.heap.size) (fun k hk _ => .inl hk)).stay hq2) hz
 rw [hz1] at hseq
 rw [hxs] at hseq HG
 have HSEQ := hid hseq
 have HB2 := hid hb2
 have HQ2 := hid hq2
 clear hW1 hW2 hW2' hq1 hb1 hq2 hb2 htb hseq HC hxs hg ht
 gi_wp2_with (fail)
 refine wpIn_range_c (w := W2') rfl (enters_of Tryz.func83 (by kernel_rfl) rfl) HSEQ.out (fun k hk => by omega) (Fr.refl _ _) (fun i x va W he => encT_size he)
  (RtI (w.heap.size + 1) w xs)
  (fun i x a' D W => RtI (w.heap.size + 1) w xs i D W /\ ∃ (xb : Nat) (t7 t8 : Value) (p1 : Option Addr) (m1 d1 : Nat) (p2 : Option Addr) (m2 d2 : Nat), W.heap[xb]? = some (.cells (cells9 x.1 p1 m1 d1 p2 m2 d2) 29 (0, 0)) /\ xb ≠ W2'.heap.size + 1 /\ SlcIn (fun k => k < w.heap.size ∨ k = w.heap.size + 1 + 1) W p1 m1 x.1.tp /\ TSlc (fun k => k < w.heap.size ∨ k = w.heap.size + 1 + 1) W p2 m2 x.2 /\ a' = { tmps := #[.agg #[.int .i64 h.k, .string h.nm, .int .i64 h.n, .int .i64 h.tk, .int .i64 h.tn, .slice o1 l1 c1, .slice o2 l2 c2, .int .i64 h.fr, .int .i64 h.en], .pointer (some ⟨w.heap.size, 0, none⟩), .pointer (some ⟨w.heap.size + 1, 0, none⟩), undef, .pointer (some ⟨xb, 0, none⟩), .agg #[.int .i64 h.k, .string h.nm, .int .i64 h.n, .int .i64 h.tk, .int .i64 h.tn, .slice o1 l1 c1, .slice o2 l2 c2, .int .i64 h.fr, .int .i64 h.en], .func (.func 83) #[] #[.pointer (some ⟨w.heap.size + 1 + 1, 0, none⟩)], t7, t8, undef, undef, undef], defers := [] })
  (fun c W => c = .ret /\ W.heap[w.heap.size + 1]? = some (.cells #[.bool false] 4 (0, 0)) /\ Quiet0 w W /\ xs.all sndX = false) (fun k => k = w.heap.size + 1) ?own ?stay ?stayM ?stayX ?start ?assign ?body ?done ?stop
 case own =>
  rintro i D A ⟨⟨hd, hb, hq⟩, _⟩ k hk
  have e := (hd k).1 hk
  have hl := lt_of_block hb
  exact ⟨by omega, by omega, .inl (by omega)⟩
 case stay =>
  rintro i D A B hI hf
  exact hI.fr hf (fun h => h.2 ((hI.1.1 _).2 rfl)) (fun k hk h => by have := h.1; omega)
 case stayM =>
  rintro i x a' D A B ⟨hI, xb, t7, t8, p1, m1, d1, p2, m2, d2, hxb, hne, hp1, hp2, ha⟩ hf
  exact ⟨hI.fr hf (by omega) (fun k hk h => by omega), xb, t7, t8, p1, m1, d1, p2, m2, d2, blk_fr hf hne hxb, hne, hp1.fr hf (fun k _ h => ⟨h, by omega⟩), hp2.fr hf (fun k _ h => ⟨h, by omega⟩), ha⟩
 case stayX =>
  rintro c A B ⟨hc, hb, hq, hx⟩ hf
  exact ⟨hc, blk_fr hf (by omega) hb, hq.trans' hf (fun k hk h => by omega), hx⟩
 case start => exact ⟨⟨fun k => Iff.rfl, HB2.out, HQ2.out⟩, rfl⟩
 case assign =>
  rintro l i x va D W K hx ⟨p1, m1, d1, p2, m2, d2, rfl, hp1, hp2⟩ hI hWs hK
  unfold tmv
  have hq := Quiet0.alloc W (.cells (cells9 x.1 p1 m1 d1 p2 m2 d2) 29)
  have hnew := heap_alloc_new W (.cells (cells9 x.1 p1 m1 d1 p2 m2 d2) 29)
  have hne : W.heap.size ≠ W2'.heap.size + 1 := by omega
  have hI2 := hI.fr (S := fun _ => False) hq (fun h => h) (fun _ _ h => h)
  have hp1' := hp1.stay hq
  have hp2' := hp2.stay hq
  clear hI hWs
  gi_wp2
  exact hK _ _ ⟨hI2, W.heap.size, .int .i64 (i : Int), tmv x.1 p1 m1 d1 p2 m2 d2, p1, m1, d1, p2, m2, d2, hnew, hne, hp1', hp2', by simp [tmv]⟩ hq
 case body =>
  rintro l i x a' D W hx ⟨hI, xb, t7, t8, p1, m1, d1, p2, m2, d2, hxb, hne, hp1, hp2, rfl⟩ hW
  obtain ⟨a0, a1, a2, a3, a4, a5, a6, a7, a8⟩ := cells9_block hxb
  have hxm := HG.out x (List.mem_of_getElem? hx)
  have hl2 : m2 <= 9223372036854775807 := by have := hp2.2.1; unfold maxLen at this; omega
  have hCS := (callsIn_wide (n := 5 - 1 - 1)).2 (soundT_any x.1 W _ p1 m1 d1 p2 m2 d2 hp1 hxm.1 hl2 (HT.out.stay hI.1.2.2))
  have hlen : m2 = x.2.length := hp2.1
  rw [hlen] at hCS
  unfold tmv at hCS
  cases hb : soundB x.1 x.2.length
  ·rw [hb] at hCS
   gi_wp2_with (fail)
   refine ⟨trivial, (CallsIn.inRound l hCS).mono ?_⟩; rintro e w1 ⟨rfl, hq1⟩
   have hI1 := hI.fr (S := fun _ => False) hq1 (fun h => h) (fun _ _ h => h)
   have cc := cell_of_one hI1.1.2.1
   have zz := free_of_one hI1.1.2.1
   have hal : xs.all sndX = false := by
    rw [List.all_eq_false]; exact ⟨x, List.mem_of_getElem? hx, by show ¬ soundB x.1 x.2.length = true; rw [hb]; simp⟩
   gi_wp2
   have hfs := Fr.setCell (fun k => k = w.heap.size + 1) w1 ⟨w.heap.size + 1, 0, none⟩ (.bool false) rfl
   exact ⟨⟨rfl, one_setCell hI1.1.2.1, hI1.1.2.2.trans' hfs (fun k hk e => by omega), hal⟩, Fr.trans hq1.fr (hfs.mono (fun k _ e => (hI.1.1 k).2 e))⟩
  ·rw [hb] at hCS
   gi_wp2_with (fail)
   refine ⟨trivial, (CallsIn.inRound l hCS).mono ?_⟩; rintro e w1 ⟨rfl, hq1⟩
   have hI1 := hI.fr (S := fun _ => False) hq1 (fun h => h) (fun _ _ h => h)
   gi_wp2
   refine ⟨D, ⟨hI1.1, ?_⟩, hq1.fr, fun k hk => .inl hk⟩
   rw [List.take_add_one, hx, List.all_append, hI.2]
   simp [sndX, hb]
 case done =>
  rintro D W ⟨⟨hd, hb, hq⟩, hall⟩ hdef
  rw [List.take_length] at hall
  have cc := cell_of_one hb
  have zz := free_of_one hb
  gi_wp2
  have hne3 : W2'.heap.size ≠ w.heap.size + 1 := by omega
  have hd2 : (W.setCell ⟨w.heap.size + 1, 0, none⟩ (.bool true)).heap[W2'.heap.size]? = some (.deferred (some [])) := by
   rw [Below.heap_setCell _ _ _ _ (fun e => hne3 e)]; exact hdef
  refine ⟨by simp, .inl ⟨_, _, rfl, run_takeDeferred hd2, ?_⟩⟩
  have hfp := Fr.putObj (fun k => k = W2'.heap.size) (W.setCell ⟨w.heap.size + 1, 0, none⟩ (.bool true)) W2'.heap.size (.deferred none) rfl
  have cr := cell_of_one (blk_fr hfp (by omega) (one_setCell hb))
  refine ⟨_, by simp [results, Tryz.results30, go_sem, cr]; rfl, ?_, ?_⟩
  ·rw [hall]
  ·exact (hq.trans' (Fr.setCell (fun k => k = w.heap.size + 1) W ⟨w.heap.size + 1, 0, none⟩ (.bool true) rfl) (fun k hk e => by omega)).trans' hfp (fun k hk e => by omega)
 case stop =>
  rintro c W ⟨rfl, hb, hq, hx⟩ hdef
  gi_wp2
  refine ⟨by simp, .inl ⟨_, _, rfl, run_takeDeferred hdef, ?_⟩⟩
  have hfp := Fr.putObj (fun k => k = W2'.heap.size) W W2'.heap.size (.deferred none) rfl
  have cr := cell_of_one (blk_fr hfp (by omega) hb)
  refine ⟨_, by simp [results, Tryz.results30, go_sem, cr]; rfl, ?_, ?_⟩
  ·rw [hx]
  ·exact hq.trans' hfp (fun k hk e => by omega)
end
section
open Go.RowKit Go.Shelf
def GoodR (h : Nd) : Prop := h.nm.size <= 100000 /\ h.tp.size <= 100000 /\ wfI h.n
abbrev allS (f : To) : Bool := f.flat.all sndX
theorem allS_cons (h : Nd) (ps r : To) : allS (.cons h ps r) = ((soundB h ps.length && allS ps) && allS r) := by
 simp [allS, To.flat, List.all_append, Bool.and_assoc, sndX]
end
section
open Go.RowKit Go.Shelf
namespace Sc
def resH (h : Nd) (ps : To) : Nd := (wk1 (fun (s : Unit) _ _ => s) rsO () [] h ps).2.1
def resP (h : Nd) (ps : To) : To := (wk1 (fun (s : Unit) _ _ => s) rsO () [] h ps).2.2
theorem resH_tp (h : Nd) (ps : To) : (resH h ps).tp = h.tp := wk1_tp _ _ rsO_tp _ _ _ _
def TmQ (w : World) (g : Nd) (gs : To) (x : Ending) (w' : World) : Prop := ∃ o1 l1 c1 o2 l2 c2, x = .returned (tmv g o1 l1 c1 o2 l2 c2) /\ SlcIn (fun b => w.heap.size <= b) w' o1 l1 g.tp /\ TSlc (fun b => w.heap.size <= b) w' o2 l2 gs /\ Quiet0 w w'
theorem resolved_any (h : Nd) (ps : To) (w : World) (R : Nat -> Prop) (o1 : Option Addr) (l1 c1 : Nat) (o2 : Option Addr) (l2 c2 : Nat) (hs1 : SlcIn R w o1 l1 h.tp) (hs : TSlc R w o2 l2 ps) (hz : ps.size <= 100000) (hv : varOk h ps) (hav : allV ps) (ht : h.tp.size <= 1000000) (hat : allT (fun h => h.tp.size <= 1000000) ps) :
    Calls Tryz.prog 64 #[tmv h o1 l1 c1 o2 l2 c2] w (TmQ w (resH h ps) (resP h ps)) := by
 obtain ⟨W0, hW0⟩ : ∃ W0, W0 = (w.alloc (.cells (cells9 h o1 l1 c1 o2 l2 c2) 29)).alloc (.cells zero9 29) := ⟨_, rfl⟩
 have HQ0 : Hid (Quiet0 w W0) := by rw [hW0]; exact (Quiet0.alloc _ _).trans (Quiet0.alloc _ _)
 have hb0 : W0.heap[w.heap.size]? = some (.cells (cells9 h o1 l1 c1 o2 l2 c2) 29 (0, 0)) := by
  rw [hW0, Below.heap_alloc _ _ _ (by simp)]; exact heap_alloc_new w _
 have hb1 : W0.heap[w.heap.size + 1]? = some (.cells zero9 29 (0, 0)) := by
  rw [hW0]
  have := heap_alloc_new (w.alloc (.cells (cells9 h o1 l1 c1 o2 l2 c2) 29)) (.cells zero9 29)
  simpa using this
 have hz0 : W0.heap.size = w.heap.size + 2 := by rw [hW0]; simp
 have HB1 := hid hb1
 have HC := hid (copyT_any h ps W0 R o1 l1 c1 o2 l2 c2 (hs1.stay HQ0.out) (hs.stay HQ0.out) ht hat (by omega))
 have HW : Hid (∀ (w1 : World) (q1 : Option Addr) (e1 : Nat) (q2 : Option Addr) (e2 : Nat), SlcIn (fun b => W0.heap.size <= b) w1 q1 l1 h.tp -> TSlc (fun b => W0.heap.size <= b) w1 q2 l2 ps -> Calls Tryz.prog 92 #[tmv h q1 l1 e1 q2 l2 e2, .slice none 0 0, .func (.func 96) #[] #[]] w1 (WkQ (fun k => W0.heap.size <= k /\ k < w1.heap.size) (fun (s : Unit) _ _ => s) rsO (UJ w1.heap.size) 0 () (fun _ => False) [] h ps q1 l1 e1 l2 w1)) := fun w1 q1 e1 q2 e2 g1 g2 =>
  walkT_any (F := 96) (lb := #[]) (R := fun k => W0.heap.size <= k /\ k < w1.heap.size) (L0 := w1.heap.size) eg_res (resDo_any _ _) (fun k hk => hk.2) rsO_tp h ps 0 () (fun _ => False) w1 (fun _ => False) [] q1 l1 e1 q2 l2 e2 none 0 0 ⟨Nat.le_refl _, fun _ h => h⟩ (NmIn.nil _ _ _) (Nat.le_refl _) (fun _ h => h.elim) (by omega) (g1.mono (fun k hk h => ⟨h, hk⟩)) (g2.mono (fun k hk h => ⟨h, hk⟩)) hv hav
 have HZ0 := hid hz0
 obtain ⟨⟨a0, a1, a2, a3, a4, a5, a6, a7, a8⟩, _⟩ := block9 hb0
 clear hb0 hb1 hs1 hs hv hav ht hat hz0
 unfold tmv at HC HW ⊢
 go_enter Tryz.func64, Tryz.ntmps64
 go_upto_region 1 with fail
 change Code.wp _ _ _ _ ((w.alloc (.cells (cells9 h o1 l1 c1 o2 l2 c2) 29)).alloc (.cells zero9 29))
 rw [<- hW0]
 clear hW0
 generalize hB : w.heap.size = B at *
 have HBE := hid hB
 clear hB
 go_wp2_with fail
 refine HC.out.mono ?_; rintro x w1 ⟨q1, e1, q2, e2, rfl, hk1, hk2, hq1⟩
 have HWC := hid (HW.out w1 q1 e1 q2 e2 hk1 hk2)
 have HK1 := hid hk1
 have HQ1 := hid hq1
 clear hk1 hk2 hq1 a0 a1 a2 a3 a4 a5 a6 a7 a8
 go_wp2_with fail
 refine HWC.out.mono ?_; rintro x w2 ⟨r2, f2, D2, E2, rfl, hj, hto, hE, hf, _⟩
 have hq2 : Quiet0 w1 w2 := hf
 have hb2 := blk_fr (HQ1.out.trans hq2) (fun h => h) HB1.out
 have HB2 := hid hb2
 obtain ⟨⟨z0, z1, z2, z3, z4, z5, z6, z7, z8⟩, t0, t1, t2, t3, t4, t5, t6, t7, t8⟩ := block9 hb2
 have HG1 : Hid (SlcIn (fun b => W0.heap.size <= b) w2 q1 l1 (resH h ps).tp) := by show SlcIn _ _ _ _ _; rw [resH_tp]; exact HK1.out.stay hq2
 have HG2 : Hid (TSlc (fun b => W0.heap.size <= b) w2 r2 l2 (resP h ps)) := hto.tslc (fun k _ hk => hk.1) (fun k hk => by have := (hE k hk).1; have := HQ1.out.size; omega)
 have HQ2 := hid (HQ0.out.trans (HQ1.out.trans hq2))
 have hgh : (wk1 (fun (s : Unit) _ _ => s) rsO () [] h ps).2.1 = resH h ps := rfl
 rw [hgh]
 clear hj hto hE hf hq2 hb2 hgh
 generalize resH h ps = g at *
 unfold tmv
 go_wp2_with fail
 have hff := put9_fr w2 (B + 1) (.int .i64 g.k) (.string g.nm) (.int .i64 g.n) (.int .i64 g.tk) (.int .i64 g.tn) (.slice q1 l1 e1) (.slice r2 l2 f2) (.int .i64 g.fr) (.int .i64 g.en)
 have hbf := put9_block (a0 := .int .i64 g.k) (a1 := .string g.nm) (a2 := .int .i64 g.n) (a3 := .int .i64 g.tk) (a4 := .int .i64 g.tn) (a5 := .slice q1 l1 e1) (a6 := .slice r2 l2 f2) (a7 := .int .i64 g.fr) (a8 := .int .i64 g.en) HB2.out
 change bodyPost _ _ _ _ _ (put9 w2 (B + 1) (.int .i64 g.k) (.string g.nm) (.int .i64 g.n) (.int .i64 g.tk) (.int .i64 g.tn) (.slice q1 l1 e1) (.slice r2 l2 f2) (.int .i64 g.fr) (.int .i64 g.en))
 clear z0 z1 z2 z3 z4 z5 z6 z7 z8 t0 t1 t2 t3 t4 t5 t6 t7 t8
 generalize put9 w2 (B + 1) (.int .i64 g.k) (.string g.nm) (.int .i64 g.n) (.int .i64 g.tk) (.int .i64 g.tn) (.slice q1 l1 e1) (.slice r2 l2 f2) (.int .i64 g.fr) (.int .i64 g.en) = wf at *
 obtain ⟨⟨x0, x1, x2, x3, x4, x5, x6, x7, x8⟩, _⟩ := block9 hbf
 have HFIN : Hid (TmQ w g (resP h ps) (.returned (.agg #[.int .i64 g.k, .string g.nm, .int .i64 g.n, .int .i64 g.tk, .int .i64 g.tn, .slice q1 l1 e1, .slice r2 l2 f2, .int .i64 g.fr, .int .i64 g.en])) wf) := by
  have hB := HBE.out
  have hz0 := HZ0.out
  have key : ∀ k, W0.heap.size <= k -> w.heap.size <= k /\ ¬ k = B + 1 := fun k hk => by omega
  exact ⟨q1, l1, e1, r2, l2, f2, rfl, HG1.out.fr hff (fun k _ hk => key k hk), HG2.out.fr hff (fun k _ hk => key k hk), HQ2.out.trans' hff (fun k hk h => by omega)⟩
 clear hff hbf
 refine bodyPost_ret (by simp [results, Tryz.results64, go_sem, x0, x1, x2, x3, x4, x5, x6, x7, x8]; rfl) rfl ?_
 exact HFIN.out
end Sc
end
section
open Go.RowKit Go.Shelf
namespace Sc
def zeroN : Nd := ⟨0, ⟨#[]⟩, 0, 0, 0, .nil, 0, 0⟩
theorem sound_var {h : Nd} {ps : To} (hs : soundB h ps.length = true) : varOk h ps := by
 intro hk
 unfold soundB at hs
 simp only [Bool.and_eq_true, decide_eq_true_eq] at hs
 have h1 := hs.2
 rw [hk] at h1
 have : ps.length = 0 := by have h2 : kMost 1 = 0 := rfl; rw [h2] at h1; omega
 cases ps with
 | nil => rfl
 | cons _ _ _ => simp [To.length] at this
theorem right_okF : ∀ f : To, allS f = true -> okF f
 | .nil, _ => trivial
 | .cons h ps r, e => by
  rw [allS_cons, Bool.and_eq_true, Bool.and_eq_true] at e
  refine ⟨sound_var e.1.1, ?_, right_okF ps e.1.2, right_okF r e.2⟩
  intro hk
  have hs := e.1.1
  unfold soundB at hs
  simp only [Bool.and_eq_true, decide_eq_true_eq] at hs
  have hn : namedB h = true := hs.1.1.1.1.1.2
  unfold namedB at hn
  have hkn : kName h.k = false := by unfold namedK bindK at hk; unfold kName; simpa [Bool.or_assoc] using hk
  rw [hkn] at hn
  simp only [Bool.false_eq_true, if_false, List.isEmpty_iff] at hn
  rw [ByteArray.toList_eq] at hn
  apply ByteArray.ext
  apply Array.toList_inj.1
  simpa using hn
def RT (h : Nd) (ps : To) : Bool := allS (.cons h ps .nil)
theorem RT_ok {h : Nd} {ps : To} (hr : RT h ps = true) : varOk h ps /\ okF ps /\ (namedK h.k = false -> h.nm = ByteArray.empty) := by
 have := right_okF _ hr
 exact ⟨this.1, this.2.2.1, this.2.1⟩
def rsvP (h : Nd) (ps : To) : (Nd × To) × (Int × Int) × Int :=
 if RT h ps then (match free1 [] h ps with
  | [] => ((resH h ps, resP h ps), (0, 0), 0)
  | x :: _ => ((zeroN, .nil), (x.fr, x.en), 5)) else ((zeroN, .nil), (0, 0), 1)
def RsvQ (w : World) (h : Nd) (ps : To) (x : Ending) (w' : World) : Prop := ∃ (g : Nd) (gs : To) (o1 : Option Addr) (l1 c1 : Nat) (o2 : Option Addr) (l2 c2 : Nat) (p : Int × Int) (er : Int), x = .returned (.tuple #[tmv g o1 l1 c1 o2 l2 c2, .agg #[.int .i64 p.1, .int .i64 p.2], .int .i64 er]) /\ rsvP h ps = ((g, gs), p, er) /\
 SlcIn (fun b => w.heap.size <= b) w' o1 l1 g.tp /\ TSlc (fun b => w.heap.size <= b) w' o2 l2 gs /\ Quiet0 w w'
def put2 (w : World) (B : Nat) (u v : Value) : World := (w.setCell ⟨B, 0, none⟩ u).setCell ⟨B, 1, none⟩ v
theorem put2_fr (w : World) (B : Nat) (u v : Value) : Fr (fun k => k = B) w (put2 w B u v) := (Fr.setCell (fun k => k = B) w ⟨B, 0, none⟩ u rfl).trans (Fr.setCell (fun k => k = B) _ ⟨B, 1, none⟩ v rfl)
theorem put2_block {w : World} {B : Nat} {u v a b : Value} {t : TypeId} (h : w.heap[B]? = some (.cells #[a, b] t (0, 0))) : (put2 w B u v).heap[B]? = some (.cells #[u, v] t (0, 0)) := set_block (i := 1) (u := v) (set_block (i := 0) (u := u) h)
theorem span_cells {w : World} {B : Nat} {a b : Value} {t : TypeId} (h : w.heap[B]? = some (.cells #[a, b] t (0, 0))) : w.cell? ⟨B, 0, none⟩ = some a /\ w.cell? ⟨B, 1, none⟩ = some b /\ w.frozen? ⟨B, 0, none⟩ = false /\ w.frozen? ⟨B, 1, none⟩ = false := by
 refine ⟨?_, ?_, ?_, ?_⟩
 ·rw [cell_of_row _ _ _ _ _ (0, 0) h]; rfl
 ·rw [cell_of_row _ _ _ _ _ (0, 0) h]; rfl
 ·simp [World.frozen?, h]
 ·simp [World.frozen?, h]
theorem resolve_any (h : Nd) (ps : To) (w : World) (R : Nat -> Prop) (o1 : Option Addr) (l1 c1 : Nat) (o2 : Option Addr) (l2 c2 : Nat) (hs1 : SlcIn R w o1 l1 h.tp) (hs : TSlc R w o2 l2 ps) (hz : ps.size <= 100000) (hg : allT GoodH (.cons h ps .nil)) (ht : Lx.Spaces w) :
    Calls Tryz.prog 41 #[tmv h o1 l1 c1 o2 l2 c2] w (RsvQ w h ps) := by
 obtain ⟨W0, hW0⟩ : ∃ W0, W0 = ((w.alloc (.cells (cells9 h o1 l1 c1 o2 l2 c2) 29)).alloc (.cells zero9 29)).alloc (.cells #[.int .i64 0, .int .i64 0] 27) := ⟨_, rfl⟩
 have HQ0 : Hid (Quiet0 w W0) := by rw [hW0]; exact ((Quiet0.alloc _ _).trans (Quiet0.alloc _ _)).trans (Quiet0.alloc _ _)
 have HB0 : Hid (W0.heap[w.heap.size]? = some (.cells (cells9 h o1 l1 c1 o2 l2 c2) 29 (0, 0))) := by
  show _ = _; rw [hW0, Below.heap_alloc _ _ _ (by simp; omega), Below.heap_alloc _ _ _ (by simp)]; exact heap_alloc_new w _
 have HB1 : Hid (W0.heap[w.heap.size + 1]? = some (.cells zero9 29 (0, 0))) := by
  show _ = _; rw [hW0, Below.heap_alloc _ _ _ (by simp)]
  have := heap_alloc_new (w.alloc (.cells (cells9 h o1 l1 c1 o2 l2 c2) 29)) (.cells zero9 29)
  simpa using this
 have HB2 : Hid (W0.heap[w.heap.size + 2]? = some (.cells #[.int .i64 0, .int .i64 0] 27 (0, 0))) := by
  show _ = _; rw [hW0]
  have := heap_alloc_new ((w.alloc (.cells (cells9 h o1 l1 c1 o2 l2 c2) 29)).alloc (.cells zero9 29)) (.cells #[.int .i64 0, .int .i64 0] 27)
  simpa using this
 have HR := hid (rightTm_any h ps W0 R o1 l1 c1 o2 l2 c2 (hs1.stay HQ0.out) (hs.stay HQ0.out) hz hg (ht.stay HQ0.out))
 have HC : Hid (∀ W, Quiet0 W0 W -> Cells9 W w.heap.size 0 h o1 l1 c1 o2 l2 c2) := fun W hq => (cells9_block HB0.out).fr hq (fun h => h)
 have HP : Hid (∀ W, Quiet0 W0 W -> W.heap[w.heap.size + 1]? = some (.cells zero9 29 (0, 0)) /\ W.heap[w.heap.size + 2]? = some (.cells #[.int .i64 0, .int .i64 0] 27 (0, 0))) := fun W hq => ⟨blk_after hq HB1.out, blk_after hq HB2.out⟩
 have HFC : Hid (∀ W, Quiet0 W0 W -> varOk h ps -> allV ps -> Calls Tryz.prog 63 #[tmv h o1 l1 c1 o2 l2 c2] W (ListQ W (free1 [] h ps))) := fun W hq h1 h2 => free_any h ps W R o1 l1 c1 o2 l2 c2 (hs1.stay (HQ0.out.trans hq)) (hs.stay (HQ0.out.trans hq)) hz h1 h2
 have HRC : Hid (∀ W, Quiet0 W0 W -> varOk h ps -> allV ps -> Calls Tryz.prog 64 #[tmv h o1 l1 c1 o2 l2 c2] W (TmQ W (resH h ps) (resP h ps))) := fun W hq h1 h2 => resolved_any h ps W R o1 l1 c1 o2 l2 c2 (hs1.stay (HQ0.out.trans hq)) (hs.stay (HQ0.out.trans hq)) hz h1 h2 (by have := hg.1.2.1; omega) (allT_mono (fun h hh => by have := hh.2.1; omega) _ hg.2.1)
 change Hid (Calls _ _ _ _ (fun e w' => e = .returned (.bool (RT h ps)) /\ _)) at HR
 clear hs1 hs hg ht
 unfold tmv at HR HFC HRC ⊢
 cases hr : RT h ps
 case false =>
  rw [hr] at HR
  have HE : Hid (rsvP h ps = ((zeroN, .nil), (0, 0), 1)) := by show _ = _; unfold rsvP; rw [hr]; rfl
  go_enter Tryz.func41, Tryz.ntmps41
  go_upto_region 1 with fail
  rw [<- hW0]
  clear hW0
  generalize hB : w.heap.size = B at *
  have HBE := hid hB
  clear hB
  obtain ⟨a0, a1, a2, a3, a4, a5, a6, a7, a8⟩ := HC.out W0 (Quiet0.refl _)
  go_wp2_with fail
  refine HR.out.mono ?_; rintro x w1 ⟨rfl, hq1⟩
  obtain ⟨hb1, hb2⟩ := HP.out w1 hq1
  have HK1 := hid hb1
  have HK2 := hid hb2
  have HQ1 := hid (HQ0.out.trans hq1)
  obtain ⟨⟨z0, z1, z2, z3, z4, z5, z6, z7, z8⟩, t0, t1, t2, t3, t4, t5, t6, t7, t8⟩ := block9 hb1
  obtain ⟨p0, p1, p2, p3⟩ := span_cells hb2
  clear hb1 hb2 hq1 a0 a1 a2 a3 a4 a5 a6 a7 a8
  go_wp2_with fail
  clear z0 z1 z2 z3 z4 z5 z6 z7 z8 t0 t1 t2 t3 t4 t5 t6 t7 t8 p0 p1 p2 p3
  have hbf := put9_block (a0 := .int .i64 0) (a1 := .string ⟨#[]⟩) (a2 := .int .i64 0) (a3 := .int .i64 0) (a4 := .int .i64 0) (a5 := .slice none 0 0) (a6 := .slice none 0 0) (a7 := .int .i64 0) (a8 := .int .i64 0) HK1.out
  have hf9 := put9_fr w1 (B + 1) (.int .i64 0) (.string ⟨#[]⟩) (.int .i64 0) (.int .i64 0) (.int .i64 0) (.slice none 0 0) (.slice none 0 0) (.int .i64 0) (.int .i64 0)
  have hb2f := blk_fr hf9 (by omega) HK2.out
  have hf2 := put2_fr (put9 w1 (B + 1) (.int .i64 0) (.string ⟨#[]⟩) (.int .i64 0) (.int .i64 0) (.int .i64 0) (.slice none 0 0) (.slice none 0 0) (.int .i64 0) (.int .i64 0)) (B + 2) (.int .i64 0) (.int .i64 0)
  have hbg := blk_fr hf2 (by omega) hbf
  have hbh := put2_block (u := .int .i64 0) (v := .int .i64 0) hb2f
  have hff : Fr (fun k => k = B + 1 ∨ k = B + 2) w1 (put2 (put9 w1 (B + 1) (.int .i64 0) (.string ⟨#[]⟩) (.int .i64 0) (.int .i64 0) (.int .i64 0) (.slice none 0 0) (.slice none 0 0) (.int .i64 0) (.int .i64 0)) (B + 2) (.int .i64 0) (.int .i64 0)) := (hf9.mono (fun _ _ h => .inl h)).trans (hf2.mono (fun _ _ h => .inr h))
  change bodyPost _ _ _ _ _ (put2 (put9 w1 (B + 1) (.int .i64 0) (.string ⟨#[]⟩) (.int .i64 0) (.int .i64 0) (.int .i64 0) (.slice none 0 0) (.slice none 0 0) (.int .i64 0) (.int .i64 0)) (B + 2) (.int .i64 0) (.int .i64 0))
  clear hbf hf9 hb2f hf2
  generalize (put2 (put9 w1 (B + 1) (.int .i64 0) (.string ⟨#[]⟩) (.int .i64 0) (.int .i64 0) (.int .i64 0) (.slice none 0 0) (.slice none 0 0) (.int .i64 0) (.int .i64 0)) (B + 2) (.int .i64 0) (.int .i64 0)) = wf at *
  obtain ⟨⟨x0, x1, x2, x3, x4, x5, x6, x7, x8⟩, _⟩ := block9 hbg
  have s0 := (cell_of_row _ (B + 2) 0 _ _ (0, 0) hbh).trans (show _ = some (Value.int .i64 0) from rfl)
  have s1 := (cell_of_row _ (B + 2) 1 _ _ (0, 0) hbh).trans (show _ = some (Value.int .i64 0) from rfl)
  have HFIN : Hid (RsvQ w h ps (.returned (.tuple #[.agg #[.int .i64 0, .string ⟨#[]⟩, .int .i64 0, .int .i64 0, .int .i64 0, .slice none 0 0, .slice none 0 0, .int .i64 0, .int .i64 0], .agg #[.int .i64 0, .int .i64 0], .int .i64 1])) wf) := by
   have hB := HBE.out
   exact ⟨zeroN, .nil, none, 0, 0, none, 0, 0, (0, 0), 1, rfl, HE.out, SlcIn.nil _ _ _, TSlc.nil _ _ _, HQ1.out.trans' hff (fun k hk h => by omega)⟩
  clear hff hbg hbh
  refine bodyPost_ret (by simp [results, Tryz.results41, go_sem, x0, x1, x2, x3, x4, x5, x6, x7, x8, s0, s1]; rfl) rfl ?_
  exact HFIN.out
 case true =>
  rw [hr] at HR
  obtain ⟨hv, hok, _⟩ := RT_ok hr
  have hav := okF_allV ps hok
  have HFW : Hid (∀ W, Quiet0 W0 W -> Calls Tryz.prog 63 #[.agg #[.int .i64 h.k, .string h.nm, .int .i64 h.n, .int .i64 h.tk, .int .i64 h.tn, .slice o1 l1 c1, .slice o2 l2 c2, .int .i64 h.fr, .int .i64 h.en]] W (ListQ W (free1 [] h ps))) := fun W hq => HFC.out W hq hv hav
  have HRW : Hid (∀ W, Quiet0 W0 W -> Calls Tryz.prog 64 #[.agg #[.int .i64 h.k, .string h.nm, .int .i64 h.n, .int .i64 h.tk, .int .i64 h.tn, .slice o1 l1 c1, .slice o2 l2 c2, .int .i64 h.fr, .int .i64 h.en]] W (TmQ W (resH h ps) (resP h ps))) := fun W hq => HRC.out W hq hv hav
  have hE0 : rsvP h ps = (match free1 [] h ps with
   | [] => ((resH h ps, resP h ps), (0, 0), 0)
   | x :: _ => ((zeroN, .nil), (x.fr, x.en), 5)) := by unfold rsvP; rw [hr]; rfl
  have HLZ : Hid ((free1 [] h ps).length <= 100001) := by have := free1_len [] h ps; show _ <= _; omega
  clear HFC HRC hv hok hav
  generalize free1 [] h ps = L at *
  cases L with
  | nil =>
   have HE : Hid (rsvP h ps = ((resH h ps, resP h ps), (0, 0), 0)) := hE0
   clear hE0
   generalize resH h ps = g at *
   generalize resP h ps = gs at *
   go_enter Tryz.func41, Tryz.ntmps41
   go_upto_region 1 with fail
   rw [<- hW0]
   clear hW0
   generalize hB : w.heap.size = B at *
   have HBE := hid hB
   clear hB
   obtain ⟨a0, a1, a2, a3, a4, a5, a6, a7, a8⟩ := HC.out W0 (Quiet0.refl _)
   go_wp2_with fail
   refine HR.out.mono ?_; rintro x w1 ⟨rfl, hq1⟩
   clear a0 a1 a2 a3 a4 a5 a6 a7 a8
   obtain ⟨a0, a1, a2, a3, a4, a5, a6, a7, a8⟩ := HC.out w1 hq1
   have HQ1 := hid hq1
   clear hq1
   go_wp2_with fail
   refine (HFW.out w1 HQ1.out).mono ?_; rintro x w2 ⟨o, c, xs, rfl, hl, hq2⟩
   have HQ2 := hid (HQ1.out.trans hq2)
   clear hl hq2 a0 a1 a2 a3 a4 a5 a6 a7 a8
   obtain ⟨a0, a1, a2, a3, a4, a5, a6, a7, a8⟩ := HC.out w2 HQ2.out
   go_wp2_with fail
   refine (HRW.out w2 HQ2.out).mono ?_; rintro x w3 ⟨q1, m1, d1, q2, m2, d2, rfl, hg1, hg2, hq3⟩
   have HQ3 := hid (HQ2.out.trans hq3)
   have HG1 := hid hg1
   have HG2 := hid hg2
   have hz2 := HQ2.out.size
   have HZ0 : Hid (B + 3 <= W0.heap.size) := by show _ <= _; have := lt_of_block HB2.out; omega
   clear hq3 hg1 hg2 a0 a1 a2 a3 a4 a5 a6 a7 a8
   unfold tmv
   obtain ⟨hb1, hb2⟩ := HP.out w3 HQ3.out
   have HK1 := hid hb1
   have HK2 := hid hb2
   obtain ⟨⟨z0, z1, z2, z3, z4, z5, z6, z7, z8⟩, t0, t1, t2, t3, t4, t5, t6, t7, t8⟩ := block9 hb1
   obtain ⟨p0, p1, p2, p3⟩ := span_cells hb2
   clear hb1 hb2
   go_wp2_with fail
   clear z0 z1 z2 z3 z4 z5 z6 z7 z8 t0 t1 t2 t3 t4 t5 t6 t7 t8 p0 p1 p2 p3
   have hbf := put9_block (a0 := .int .i64 g.k) (a1 := .string g.nm) (a2 := .int .i64 g.n) (a3 := .int .i64 g.tk) (a4 := .int .i64 g.tn) (a5 := .slice q1 m1 d1) (a6 := .slice q2 m2 d2) (a7 := .int .i64 g.fr) (a8 := .int .i64 g.en) HK1.out
   have hf9 := put9_fr w3 (B + 1) (.int .i64 g.k) (.string g.nm) (.int .i64 g.n) (.int .i64 g.tk) (.int .i64 g.tn) (.slice q1 m1 d1) (.slice q2 m2 d2) (.int .i64 g.fr) (.int .i64 g.en)
   have hb2f := blk_fr hf9 (by omega) HK2.out
   have hf2 := put2_fr (put9 w3 (B + 1) (.int .i64 g.k) (.string g.nm) (.int .i64 g.n) (.int .i64 g.tk) (.int .i64 g.tn) (.slice q1 m1 d1) (.slice q2 m2 d2) (.int .i64 g.fr) (.int .i64 g.en)) (B + 2) (.int .i64 0) (.int .i64 0)
   have hbg := blk_fr hf2 (by omega) hbf
   have hbh := put2_block (u := .int .i64 0) (v := .int .i64 0) hb2f
   have hff : Fr (fun k => k = B + 1 ∨ k = B + 2) w3 (put2 (put9 w3 (B + 1) (.int .i64 g.k) (.string g.nm) (.int .i64 g.n) (.int .i64 g.tk) (.int .i64 g.tn) (.slice q1 m1 d1) (.slice q2 m2 d2) (.int .i64 g.fr) (.int .i64 g.en)) (B + 2) (.int .i64 0) (.int .i64 0)) := (hf9.mono (fun _ _ h => .inl h)).trans (hf2.mono (fun _ _ h => .inr h))
   change bodyPost _ _ _ _ _ (put2 (put9 w3 (B + 1) (.int .i64 g.k) (.string g.nm) (.int .i64 g.n) (.int .i64 g.tk) (.int .i64 g.tn) (.slice q1 m1 d1) (.slice q2 m2 d2) (.int .i64 g.fr) (.int .i64 g.en)) (B + 2) (.int .i64 0) (.int .i64 0))
   clear hbf hf9 hb2f hf2
   generalize (put2 (put9 w3 (B + 1) (.int .i64 g.k) (.string g.nm) (.int .i64 g.n) (.int .i64 g.tk) (.int .i64 g.tn) (.slice q1 m1 d1) (.slice q2 m2 d2) (.int .i64 g.fr) (.int .i64 g.en)) (B + 2) (.int .i64 0) (.int .i64 0)) = wf at *
   obtain ⟨⟨x0, x1, x2, x3, x4, x5, x6, x7, x8⟩, _⟩ := block9 hbg
   have s0 := (cell_of_row _ (B + 2) 0 _ _ (0, 0) hbh).trans (show _ = some (Value.int .i64 0) from rfl)
   have s1 := (cell_of_row _ (B + 2) 1 _ _ (0, 0) hbh).trans (show _ = some (Value.int .i64 0) from rfl)
   have HFIN : Hid (RsvQ w h ps (.returned (.tuple #[.agg #[.int .i64 g.k, .string g.nm, .int .i64 g.n, .int .i64 g.tk, .int .i64 g.tn, .slice q1 m1 d1, .slice q2 m2 d2, .int .i64 g.fr, .int .i64 g.en], .agg #[.int .i64 0, .int .i64 0], .int .i64 0])) wf) := by
    have hB := HBE.out
    have hz0 := HZ0.out
    have key : ∀ k, w2.heap.size <= k -> w.heap.size <= k /\ ¬ (k = B + 1 ∨ k = B + 2) := fun k hk => by omega
    exact ⟨g, gs, q1, m1, d1, q2, m2, d2, (0, 0), 0, rfl, HE.out, HG1.out.fr hff (fun k _ hk => key k hk), HG2.out.fr hff (fun k _ hk => key k hk), (HQ0.out.trans HQ3.out).trans' hff (fun k hk h => by omega)⟩
   clear hff hbg hbh
   refine bodyPost_ret (by simp [results, Tryz.results41, go_sem, x0, x1, x2, x3, x4, x5, x6, x7, x8, s0, s1]; rfl) rfl ?_
   exact HFIN.out
  | cons y L' =>
   have HE : Hid (rsvP h ps = ((zeroN, .nil), (y.fr, y.en), 5)) := hE0
   clear hE0 HRW
   have hpos : ((y :: L').length : Int) > 0 := by simp <;> omega
   have hpos' : (0 : Int) < ((y :: L').length : Int) := hpos
   generalize hn : (y :: L').length = n at *
   have HN := hid hn
   clear hn
   go_enter Tryz.func41, Tryz.ntmps41
   go_upto_region 1 with fail
   rw [<- hW0]
   clear hW0
   generalize hB : w.heap.size = B at *
   have HBE := hid hB
   clear hB
   obtain ⟨a0, a1, a2, a3, a4, a5, a6, a7, a8⟩ := HC.out W0 (Quiet0.refl _)
   go_wp2_with fail
   refine HR.out.mono ?_; rintro x w1 ⟨rfl, hq1⟩
   clear a0 a1 a2 a3 a4 a5 a6 a7 a8
   obtain ⟨a0, a1, a2, a3, a4, a5, a6, a7, a8⟩ := HC.out w1 hq1
   have HQ1 := hid hq1
   clear hq1
   go_wp2_with fail
   refine (HFW.out w1 HQ1.out).mono ?_; rintro x w2 ⟨o, c, xs, rfl, hl, hq2⟩
   have HQ2 := hid (HQ0.out.trans (HQ1.out.trans hq2))
   obtain ⟨g9, off, u1, v1, e1, u2, v2, e2, rfl, ⟨f0, f1, f2, f3, f4, f5, f6, f7, f8⟩⟩ := hl.heads 0 y rfl
   have hg9 := hl.2.2 g9 rfl
   have hz0 := lt_of_block HB2.out
   have hz1 := HQ1.out.size
   have hn1 : B + 1 ≠ g9 := by omega
   have hn2 : B + 2 ≠ g9 := by omega
   have hn3 : g9 ≠ B + 1 := by omega
   have hn4 : g9 ≠ B + 2 := by omega
   obtain ⟨hb1, hb2⟩ := HP.out w2 (HQ1.out.trans hq2)
   have HK1 := hid hb1
   have HK2 := hid hb2
   rw [HN.out]
   obtain ⟨⟨z0, z1, z2, z3, z4, z5, z6, z7, z8⟩, t0, t1, t2, t3, t4, t5, t6, t7, t8⟩ := block9 hb1
   obtain ⟨p0, p1, p2, p3⟩ := span_cells hb2
   clear hb1 hb2 hl hq2 a0 a1 a2 a3 a4 a5 a6 a7 a8
   rw [Nat.zero_mul, Nat.add_zero] at f0 f1 f2 f3 f4 f5 f6 f7 f8
   go_upto_region 5 with fail
   go_region
   go_wp2_with fail
   clear z0 z1 z2 z3 z4 z5 z6 z7 z8 t0 t1 t2 t3 t4 t5 t6 t7 t8 p0 p1 p2 p3
   have hbf := put9_block (a0 := .int .i64 0) (a1 := .string ⟨#[]⟩) (a2 := .int .i64 0) (a3 := .int .i64 0) (a4 := .int .i64 0) (a5 := .slice none 0 0) (a6 := .slice none 0 0) (a7 := .int .i64 0) (a8 := .int .i64 0) HK1.out
   have hf9 := put9_fr w2 (B + 1) (.int .i64 0) (.string ⟨#[]⟩) (.int .i64 0) (.int .i64 0) (.int .i64 0) (.slice none 0 0) (.slice none 0 0) (.int .i64 0) (.int .i64 0)
   have hb2f := blk_fr hf9 (by omega) HK2.out
   have hf2 := put2_fr (put9 w2 (B + 1) (.int .i64 0) (.string ⟨#[]⟩) (.int .i64 0) (.int .i64 0) (.int .i64 0) (.slice none 0 0) (.slice none 0 0) (.int .i64 0) (.int .i64 0)) (B + 2) (.int .i64 y.fr) (.int .i64 y.en)
   have hbg := blk_fr hf2 (by omega) hbf
   have hbh := put2_block (u := .int .i64 y.fr) (v := .int .i64 y.en) hb2f
   have hff : Fr (fun k => k = B + 1 ∨ k = B + 2) w2 (put2 (put9 w2 (B + 1) (.int .i64 0) (.string ⟨#[]⟩) (.int .i64 0) (.int .i64 0) (.int .i64 0) (.slice none 0 0) (.slice none 0 0) (.int .i64 0) (.int .i64 0)) (B + 2) (.int .i64 y.fr) (.int .i64 y.en)) := (hf9.mono (fun _ _ h => .inl h)).trans (hf2.mono (fun _ _ h => .inr h))
   replace hbg := blk_drew hbg
   replace hbh := blk_drew hbh
   replace hff := hff.trans (Fr.drew (fun k => k = B + 1 ∨ k = B + 2) (put2 (put9 w2 (B + 1) (.int .i64 0) (.string ⟨#[]⟩) (.int .i64 0) (.int .i64 0) (.int .i64 0) (.slice none 0 0) (.slice none 0 0) (.int .i64 0) (.int .i64 0)) (B + 2) (.int .i64 y.fr) (.int .i64 y.en)))
   change bodyPost _ _ _ _ _ ((put2 (put9 w2 (B + 1) (.int .i64 0) (.string ⟨#[]⟩) (.int .i64 0) (.int .i64 0) (.int .i64 0) (.slice none 0 0) (.slice none 0 0) (.int .i64 0) (.int .i64 0)) (B + 2) (.int .i64 y.fr) (.int .i64 y.en))).drew
   clear hbf hf9 hb2f hf2
   generalize ((put2 (put9 w2 (B + 1) (.int .i64 0) (.string ⟨#[]⟩) (.int .i64 0) (.int .i64 0) (.int .i64 0) (.slice none 0 0) (.slice none 0 0) (.int .i64 0) (.int .i64 0)) (B + 2) (.int .i64 y.fr) (.int .i64 y.en))).drew = wf at *
   obtain ⟨⟨x0, x1, x2, x3, x4, x5, x6, x7, x8⟩, _⟩ := block9 hbg
   have s0 := (cell_of_row _ (B + 2) 0 _ _ (0, 0) hbh).trans (show _ = some (Value.int .i64 y.fr) from rfl)
   have s1 := (cell_of_row _ (B + 2) 1 _ _ (0, 0) hbh).trans (show _ = some (Value.int .i64 y.en) from rfl)
   have HFIN : Hid (RsvQ w h ps (.returned (.tuple #[.agg #[.int .i64 0, .string ⟨#[]⟩, .int .i64 0, .int .i64 0, .int .i64 0, .slice none 0 0, .slice none 0 0, .int .i64 0, .int .i64 0], .agg #[.int .i64 y.fr, .int .i64 y.en], .int .i64 5])) wf) := by
    have hB := HBE.out
    exact ⟨zeroN, .nil, none, 0, 0, none, 0, 0, (y.fr, y.en), 5, rfl, HE.out, SlcIn.nil _ _ _, TSlc.nil _ _ _, HQ2.out.trans' hff (fun k hk h => by omega)⟩
   clear hff hbg hbh
   refine bodyPost_ret (by simp [results, Tryz.results41, go_sem, x0, x1, x2, x3, x4, x5, x6, x7, x8, s0, s1]; rfl) rfl ?_
   exact HFIN.out
end Sc
end
section
open Go.RowKit Go.Shelf
namespace Cn
theorem ownE_any : OwnT 27 ownE := by
 intro w h o1 l1 c1 o2 l2 c2
 have HB := cells9_new w h o1 l1 c1 o2 l2 c2 29
 have HQ := hid (Quiet0.alloc w (.cells (cells9 h o1 l1 c1 o2 l2 c2) 29))
 obtain ⟨W, hW⟩ : ∃ W, W = w.alloc (.cells (cells9 h o1 l1 c1 o2 l2 c2) 29) := ⟨_, rfl⟩
 rw [<- hW] at HB HQ
 obtain ⟨a0, _⟩ := HB
 unfold tmv
 by_cases h8 : h.k = 8
 ·have k8 : (h.k == 8) = true := by simp [h8]
  have HV : Hid (ownE h.k = 3) := by show _ = _; unfold ownE; rw [if_pos h8]
  rw [HV.out]
  clear h8
  go_enter Tryz.func27, Tryz.ntmps27
  go_upto_region 1 with fail
  rw [<- hW]
  clear hW
  go_wp2_with fail
  go_ret
  exact ⟨rfl, HQ.out⟩
 ·have k8 : (h.k == 8) = false := by simp [h8]
  by_cases h10 : h.k = 10
  ·have k10 : (h.k == 10) = true := by simp [h10]
   have HV : Hid (ownE h.k = 2) := by show _ = _; unfold ownE; rw [if_neg h8, if_pos h10]
   rw [HV.out]
   clear h8 h10
   go_enter Tryz.func27, Tryz.ntmps27
   go_upto_region 1 with fail
   rw [<- hW]
   clear hW
   go_wp2_with fail
   go_ret
   exact ⟨rfl, HQ.out⟩
  ·have k10 : (h.k == 10) = false := by simp [h10]
   have HV : Hid (ownE h.k = 1) := by show _ = _; unfold ownE; rw [if_neg h8, if_neg h10]
   rw [HV.out]
   clear h8 h10
   go_enter Tryz.func27, Tryz.ntmps27
   go_upto_region 1 with fail
   rw [<- hW]
   clear hW
   go_wp2_with fail
   go_ret
   exact ⟨rfl, HQ.out⟩
theorem ownV_any : OwnT 29 ownV := by
 intro w h o1 l1 c1 o2 l2 c2
 have HB := cells9_new w h o1 l1 c1 o2 l2 c2 29
 have HQ := hid (Quiet0.alloc w (.cells (cells9 h o1 l1 c1 o2 l2 c2) 29))
 obtain ⟨W, hW⟩ : ∃ W, W = w.alloc (.cells (cells9 h o1 l1 c1 o2 l2 c2) 29) := ⟨_, rfl⟩
 rw [<- hW] at HB HQ
 obtain ⟨a0, _⟩ := HB
 unfold tmv
 by_cases h8 : h.k = 4
 ·have k8 : (h.k == 4) = true := by simp [h8]
  have HV : Hid (ownV h.k = 2) := by show _ = _; unfold ownV; rw [if_pos h8]
  rw [HV.out]
  clear h8
  go_enter Tryz.func29, Tryz.ntmps29
  go_upto_region 1 with fail
  rw [<- hW]
  clear hW
  go_wp2_with fail
  go_ret
  exact ⟨rfl, HQ.out⟩
 ·have k8 : (h.k == 4) = false := by simp [h8]
  have HV : Hid (ownV h.k = 1) := by show _ = _; unfold ownV; rw [if_neg h8]
  rw [HV.out]
  clear h8
  go_enter Tryz.func29, Tryz.ntmps29
  go_upto_region 1 with fail
  rw [<- hW]
  clear hW
  go_wp2_with fail
  go_ret
  exact ⟨rfl, HQ.out⟩
theorem okL_of : ∀ f : To, allS f = true -> okL f
 | .nil, _ => trivial
 | .cons h ps r, e => by
  rw [allS_cons, Bool.and_eq_true, Bool.and_eq_true] at e
  refine ⟨?_, okL_of ps e.1.2, okL_of r e.2⟩
  have hs := e.1.1
  unfold soundB at hs
  simp only [Bool.and_eq_true, decide_eq_true_eq] at hs
  have hl := hs.1.2
  refine ⟨fun h4 => ?_, fun h6 => ?_, fun h7 => ?_⟩
  ·rw [h4] at hl; have : kLeast 4 = 1 := rfl; omega
  ·rw [h6] at hl; have : kLeast 6 = 2 := rfl; omega
  ·rw [h7] at hl; have : kLeast 7 = 2 := rfl; omega
def clsd (own : Int -> Int) (rc : Int) (h : Nd) (ps : To) : Int × Int :=
 if (Sc.rsvP h ps).2.2 = 0 then (cnt own rc h ps [], 0) else (0, (Sc.rsvP h ps).2.2)
theorem closed_any (F : Nat) (own : Int -> Int) (rc : Int) (eg : ∀ args w, (callFunc F args).run Tryz.prog w = .ok (.enter F args) w) (ho : OwnT F own) (hin : ∀ k, InT (own k)) (hrc : InT rc) (h : Nd) (ps : To) (w : World) (R : Nat -> Prop) (o1 : Option Addr) (l1 c1 : Nat) (o2 : Option Addr) (l2 c2 : Nat)
    (hs1 : SlcIn R w o1 l1 h.tp) (hs : TSlc R w o2 l2 ps) (hz : ps.size <= 100000) (hg : allT GoodH (.cons h ps .nil)) (ht : Lx.Spaces w) :
    Calls Tryz.prog 28 #[ctr F rc, tmv h o1 l1 c1 o2 l2 c2] w fun e w' => e = .returned (.tuple #[.int .i64 (clsd own rc h ps).1, .int .i64 (clsd own rc h ps).2]) /\ Quiet0 w w' := by
 obtain ⟨W0, hW0⟩ : ∃ W0, W0 = (w.alloc (.cells #[.func (.func F) #[] #[], .int .i64 rc] 58)).alloc (.cells (cells9 h o1 l1 c1 o2 l2 c2) 29) := ⟨_, rfl⟩
 have HQ0 : Hid (Quiet0 w W0) := by rw [hW0]; exact (Quiet0.alloc _ _).trans (Quiet0.alloc _ _)
 have HB0 : Hid (W0.heap[w.heap.size]? = some (.cells #[.func (.func F) #[] #[], .int .i64 rc] 58 (0, 0))) := by
  show _ = _; rw [hW0, Below.heap_alloc _ _ _ (by simp)]; exact heap_alloc_new w _
 have HB1 : Hid (W0.heap[w.heap.size + 1]? = some (.cells (cells9 h o1 l1 c1 o2 l2 c2) 29 (0, 0))) := by
  show _ = _; rw [hW0]
  have := heap_alloc_new (w.alloc (.cells #[.func (.func F) #[] #[], .int .i64 rc] 58)) (.cells (cells9 h o1 l1 c1 o2 l2 c2) 29)
  simpa using this
 have HCB : Hid (∀ W, Quiet0 W0 W -> W.cell? ⟨w.heap.size, 0, none⟩ = some (.func (.func F) #[] #[]) /\ W.cell? ⟨w.heap.size, 1, none⟩ = some (.int .i64 rc) /\ Cells9 W (w.heap.size + 1) 0 h o1 l1 c1 o2 l2 c2) := fun W hq => by
  have hb := blk_after hq HB0.out
  exact ⟨by rw [cell_of_row _ _ _ _ _ (0, 0) hb]; rfl, by rw [cell_of_row _ _ _ _ _ (0, 0) hb]; rfl, cells9_block (blk_after hq HB1.out)⟩
 have HRS := hid (Sc.resolve_any h ps W0 R o1 l1 c1 o2 l2 c2 (hs1.stay HQ0.out) (hs.stay HQ0.out) hz hg (ht.stay HQ0.out))
 have HCN : Hid (Sc.RT h ps = true -> ∀ W, Quiet0 W0 W -> Calls Tryz.prog 49 #[ctr F rc, tmv h o1 l1 c1 o2 l2 c2, .slice none 0 0] W fun x w' => x = .returned (.int .i64 (cnt own rc h ps [])) /\ Quiet0 W w') := fun hr W hq => by
  have hk := okL_of (.cons h ps .nil) hr
  exact count_any F own rc eg ho hin hrc h ps W R (fun _ => True) o1 l1 c1 o2 l2 c2 none 0 0 [] (hs.stay (HQ0.out.trans hq)) (BnIn.nil _ _ _) (Nat.le_refl _) (by omega) (fun x hx => by cases hx) hk.1 hk.2.1
 have HRT : Hid ((Sc.rsvP h ps).2.2 = 0 -> Sc.RT h ps = true) := fun hh => by
  unfold Sc.rsvP at hh
  split at hh
  ·next hr => exact hr
  ·exact absurd hh (by decide)
 obtain ⟨res, hres⟩ : ∃ res, clsd own rc h ps = res := ⟨_, rfl⟩
 have HRES := hid hres
 rw [hres]
 clear hs1 hs hg ht ho hin hrc hres
 unfold tmv at HCN ⊢
 unfold tmv at HRS
 go_enter Tryz.func28, Tryz.ntmps28
 go_upto_region 1 with fail
 rw [<- hW0]
 clear hW0
 generalize hBB : w.heap.size = B at *
 clear hBB
 obtain ⟨b0, b1, a0, a1, a2, a3, a4, a5, a6, a7, a8⟩ := HCB.out W0 (Quiet0.refl _)
 go_wp2_with fail
 refine HRS.out.mono ?_; rintro x w1 ⟨g, gs, q1, m1, d1, q2, m2, d2, p, er, rfl, hrv, hg1, hg2, hq1⟩
 unfold tmv
 have HER : Hid ((Sc.rsvP h ps).2.2 = er) := by show _ = _; rw [hrv]
 have HQ2 : Hid (Quiet0 W0 ((w1.alloc (.cells (cells9 g q1 m1 d1 q2 m2 d2) 29)).alloc (.cells #[.int .i64 p.1, .int .i64 p.2] 27))) := hq1.trans ((Quiet0.alloc _ _).trans (Quiet0.alloc _ _))
 clear hrv hg1 hg2 hq1 b0 b1 a0 a1 a2 a3 a4 a5 a6 a7 a8
 go_upto_region 2 with fail
 change Code.wp _ _ _ _ ((w1.alloc (.cells (cells9 g q1 m1 d1 q2 m2 d2) 29)).alloc (.cells #[.int .i64 p.1, .int .i64 p.2] 27))
 generalize (w1.alloc (.cells (cells9 g q1 m1 d1 q2 m2 d2) 29)).alloc (.cells #[.int .i64 p.1, .int .i64 p.2] 27) = W2 at *
 by_cases he : er = 0
 ·have he2 : (er != 0) = false := by simp [he]
  have HFE : Hid (res = (cnt own rc h ps [], 0)) := by show _ = _; rw [<- HRES.out]; unfold clsd; rw [if_pos (by rw [HER.out]; exact he)]
  have HC := hid (HCN.out (HRT.out (by rw [HER.out]; exact he)) W2 HQ2.out)
  obtain ⟨b0, b1, a0, a1, a2, a3, a4, a5, a6, a7, a8⟩ := HCB.out W2 HQ2.out
  clear he
  generalize cnt own rc h ps [] = cv at *
  go_wp2_with fail
  refine HC.out.mono ?_; rintro x w3 ⟨rfl, hq3⟩
  have HQ3 := hid hq3
  clear hq3
  go_wp2_with fail
  refine bodyPost_ret (by first | (simp [results, Tryz.results28, go_sem]; done) | (simp [results, Tryz.results28, go_sem]; rfl)) rfl ?_
  exact ⟨by rw [HFE.out], HQ0.out.trans (HQ2.out.trans HQ3.out)⟩
 ·have he2 : (er != 0) = true := by simp [he]
  have HFE : Hid (res = (0, er)) := by show _ = _; rw [<- HRES.out]; unfold clsd; rw [if_neg (by rw [HER.out]; exact he), HER.out]
  clear he
  go_wp2_with fail
  refine bodyPost_ret (by first | (simp [results, Tryz.results28, go_sem]; done) | (simp [results, Tryz.results28, go_sem]; rfl)) rfl ?_
  exact ⟨by rw [HFE.out], HQ0.out.trans HQ2.out⟩
def eqsN (h : Nd) (ps : To) : Int × Int := clsd ownE 1 h ps
def varsN (h : Nd) (ps : To) : Int × Int := clsd ownV 1 h ps
theorem in1 : InT 1 := ⟨by decide, by decide⟩
theorem eqs_any (h : Nd) (ps : To) (w : World) (R : Nat -> Prop) (o1 : Option Addr) (l1 c1 : Nat) (o2 : Option Addr) (l2 c2 : Nat) (hs1 : SlcIn R w o1 l1 h.tp) (hs : TSlc R w o2 l2 ps) (hz : ps.size <= 100000) (hg : allT GoodH (.cons h ps .nil)) (ht : Lx.Spaces w) :
    Calls Tryz.prog 10 #[tmv h o1 l1 c1 o2 l2 c2] w fun e w' => e = .returned (.tuple #[.int .i64 (eqsN h ps).1, .int .i64 (eqsN h ps).2]) /\ Quiet0 w w' := by
 have HB := cells9_new w h o1 l1 c1 o2 l2 c2 29
 have hq := Quiet0.alloc w (.cells (cells9 h o1 l1 c1 o2 l2 c2) 29)
 obtain ⟨W, hW⟩ : ∃ W, W = w.alloc (.cells (cells9 h o1 l1 c1 o2 l2 c2) 29) := ⟨_, rfl⟩
 rw [<- hW] at HB hq
 have HQ := hid hq
 have HC := hid (closed_any 27 ownE 1 (enters_of Tryz.func27 (by kernel_rfl) rfl) ownE_any ownE_in in1 h ps W R o1 l1 c1 o2 l2 c2 (hs1.stay hq) (hs.stay hq) hz hg (ht.stay hq))
 obtain ⟨a0, a1, a2, a3, a4, a5, a6, a7, a8⟩ := HB
 change Hid (Calls _ _ _ _ fun e w' => e = .returned (.tuple #[.int .i64 (eqsN h ps).1, .int .i64 (eqsN h ps).2]) /\ Quiet0 W w') at HC
 generalize eqsN h ps = res at *
 clear hs1 hs hg ht hq
 unfold tmv at HC ⊢
 go_enter Tryz.func10, Tryz.ntmps10
 go_upto_region 1 with fail
 rw [<- hW]
 clear hW
 go_wp2_with fail
 refine HC.out.mono ?_; rintro x w3 ⟨rfl, hq3⟩
 have HQ3 := hid hq3
 clear hq3
 go_wp2_with fail
 refine bodyPost_ret (by first | (simp [results, Tryz.results10, go_sem]; done) | (simp [results, Tryz.results10, go_sem]; rfl)) rfl ?_
 exact ⟨rfl, HQ.out.trans HQ3.out⟩
theorem vars_any (h : Nd) (ps : To) (w : World) (R : Nat -> Prop) (o1 : Option Addr) (l1 c1 : Nat) (o2 : Option Addr) (l2 c2 : Nat) (hs1 : SlcIn R w o1 l1 h.tp) (hs : TSlc R w o2 l2 ps) (hz : ps.size <= 100000) (hg : allT GoodH (.cons h ps .nil)) (ht : Lx.Spaces w) :
    Calls Tryz.prog 11 #[tmv h o1 l1 c1 o2 l2 c2] w fun e w' => e = .returned (.tuple #[.int .i64 (varsN h ps).1, .int .i64 (varsN h ps).2]) /\ Quiet0 w w' := by
 have HB := cells9_new w h o1 l1 c1 o2 l2 c2 29
 have hq := Quiet0.alloc w (.cells (cells9 h o1 l1 c1 o2 l2 c2) 29)
 obtain ⟨W, hW⟩ : ∃ W, W = w.alloc (.cells (cells9 h o1 l1 c1 o2 l2 c2) 29) := ⟨_, rfl⟩
 rw [<- hW] at HB hq
 have HQ := hid hq
 have HC := hid (closed_any 29 ownV 1 (enters_of Tryz.func29 (by kernel_rfl) rfl) ownV_any ownV_in in1 h ps W R o1 l1 c1 o2 l2 c2 (hs1.stay hq) (hs.stay hq) hz hg (ht.stay hq))
 obtain ⟨a0, a1, a2, a3, a4, a5, a6, a7, a8⟩ := HB
 change Hid (Calls _ _ _ _ fun e w' => e = .returned (.tuple #[.int .i64 (varsN h ps).1, .int .i64 (varsN h ps).2]) /\ Quiet0 W w') at HC
 generalize varsN h ps = res at *
 clear hs1 hs hg ht hq
 unfold tmv at HC ⊢
 go_enter Tryz.func11, Tryz.ntmps11
 go_upto_region 1 with fail
 rw [<- hW]
 clear hW
 go_wp2_with fail
 refine HC.out.mono ?_; rintro x w3 ⟨rfl, hq3⟩
 have HQ3 := hid hq3
 clear hq3
 go_wp2_with fail
 refine bodyPost_ret (by first | (simp [results, Tryz.results11, go_sem]; done) | (simp [results, Tryz.results11, go_sem]; rfl)) rfl ?_
 exact ⟨rfl, HQ.out.trans HQ3.out⟩
end Cn
end
section
open Go.RowKit
namespace Sc
structure TmRowT (w : World) (T : Nat -> Prop) (v : Value) (f : To) (xs : List Value) : Prop where
 own : w.ownsRow 0 29 9 v f.length xs
 low : ∀ k, v.ownBlock = some k -> T k
 cells : RowT (fun k => T k /\ v.ownBlock ≠ some k) w xs f
theorem TmRowT.nil (w : World) (T : Nat -> Prop) : TmRowT w T (.slice none 0 0) .nil [] := ⟨World.ownsRow_nil _ _ _ _, fun k hk => (by cases hk), rfl⟩
theorem TmRowT.fr {w w' : World} {T : Nat -> Prop} {v : Value} {f : To} {xs : List Value} {S : Nat -> Prop} (h : TmRowT w T v f xs) (hf : Fr S w w') (hS : ∀ k, T k -> ¬ S k) : TmRowT w' T v f xs :=
 ⟨ownsRow_fr h.own hf (fun k hk hs => hS k (h.low k hk) hs), h.low, RowT.fr hf (fun k _ hk => ⟨hk, hS k hk.1⟩) f xs h.cells⟩
theorem TmRowT.stay {w w' : World} {T : Nat -> Prop} {v : Value} {f : To} {xs : List Value} (h : TmRowT w T v f xs) (hf : Quiet0 w w') : TmRowT w' T v f xs := h.fr hf (fun _ _ h => h)
theorem TmRowT.snoc {W w1 : World} {T : Nat -> Prop} {v : Value} {f : To} {xs : List Value} {h : Nd} {ps : To} {o1 : Option Addr} {l1 c1 : Nat} {o2 : Option Addr} {l2 c2 g c : Nat} (hr : TmRowT W T v f xs)
    (hs : SlcIn (fun k => T k /\ v.ownBlock ≠ some k) W o1 l1 h.tp) (ht : TSlc (fun k => T k /\ v.ownBlock ≠ some k) W o2 l2 ps)
    (ho : w1.ownsRow 0 29 9 (.slice (some ⟨g, 0, none⟩) (f.length + 1) c) (f.length + 1) (xs ++ (cells9 h o1 l1 c1 o2 l2 c2).toList)) (hf : Fr (fun k => v.ownBlock = some k) W w1) (hg : v.ownBlock = some g ∨ W.heap.size <= g) (hT : ∀ k, W.heap.size <= k -> T k) :
    TmRowT w1 T (.slice (some ⟨g, 0, none⟩) (f.length + 1) c) (f.app (.cons h ps .nil)) (xs ++ (cells9 h o1 l1 c1 o2 l2 c2).toList) := by
 refine ⟨by rw [To.app_length]; exact ho, ?_, ?_⟩
 ·intro k hk
  simp [Value.ownBlock] at hk
  subst hk
  rcases hg with h | h
  ·exact hr.low g h
  ·exact hT _ h
 ·have hk : ∀ k, k < W.heap.size -> (T k /\ v.ownBlock ≠ some k) -> ((T k /\ (Value.slice (some ⟨g, 0, none⟩) (f.length + 1) c).ownBlock ≠ some k) /\ ¬ v.ownBlock = some k) := by
    rintro k hk ⟨h1, h2⟩
    refine ⟨⟨h1, fun h => ?_⟩, h2⟩
    simp [Value.ownBlock] at h
    subst h
    rcases hg with h | h
    ·exact h2 h
    ·omega
  exact RowT.snoc (hs.fr hf hk) (ht.fr hf hk) f xs (RowT.fr hf hk f xs hr.cells)
theorem TmRowT.slc {w : World} {T : Nat -> Prop} {o : Option Addr} {len cap : Nat} {f : To} {xs : List Value} (h : TmRowT w T (.slice o len cap) f xs) (hl : len = f.length) (hm : len <= maxLen) : TSlc T w o len f := by
 refine ⟨hl, hm, fun h0 => ?_⟩
 rcases h.own.2 with ⟨_, h2⟩ | ⟨g, cap', cur, he, _⟩
 ·omega
 ·injection he with h1 h2 h3
  subst h1
  refine ⟨g, 0, rfl, RowT.at (h.low g rfl) f xs 0 (RowT.fr (Fr.refl (fun _ => False) w) (fun k _ hk => ⟨hk.1, fun h => h⟩) f xs h.cells) ?_⟩
  intro j u hj
  have := h.own.cells (g := g) rfl j u hj
  simpa [Addr.add_lit] using this
end Sc
end
section
namespace Em
open Sc (bindsB envOf ix ixE)
def run (most : Int) (h : Nd) (ps : To) : Mk := (termM most h ps [] ⟨[], 0, false⟩).2
theorem run_le {M : Nat} {h : Nd} {ps : To} (hm : (run M h ps).many = false) : (run M h ps).eqs.length <= M := by
 rcases (termM_step (M := (M : Int)) (N := (M : Int)) (n := M) rfl (Int.le_refl _) h ps).lock ⟨[], 0, false⟩ rfl (Nat.zero_le _) with ⟨_, h2, _⟩ | ⟨h1, _⟩
 ·exact h2
 ·unfold run at hm; rw [hm] at h1; cases h1
end Em
end
section
namespace Em
structure Has {α : Type} (most : Int) (E V : Nat) (f : Pm α) : Prop where
 up : ∀ m, m.many = true -> (f m).2.many = true
 ct : ∀ m, m.many = false -> ((f m).2.many = false /\ (f m).2.eqs.length = m.eqs.length + E /\ (f m).2.next = m.next + V) ∨ ((f m).2.many = true /\ most < (m.eqs.length : Int) + E)
theorem Has.pu {α : Type} (most : Int) (a : α) : Has most 0 0 (pu a) := ⟨fun _ h => h, fun _ h => .inl ⟨h, rfl, rfl⟩⟩
theorem Has.getP (most : Int) : Has most 0 0 getP := ⟨fun _ h => h, fun _ h => .inl ⟨h, rfl, rfl⟩⟩
theorem Has.takeP (most : Int) : Has most 0 1 takeP := ⟨fun _ h => h, fun _ h => .inl ⟨h, rfl, rfl⟩⟩
theorem Has.bumpP (most : Int) (d : Nat) : Has most 0 d (bumpP d) := ⟨fun _ h => h, fun _ h => .inl ⟨h, rfl, rfl⟩⟩
theorem Has.eqP (most : Int) (l r : Ty) (fr en : Int) : Has most 1 0 (eqP most l r fr en) := by
 refine ⟨fun m hm => ?_, fun m hm => ?_⟩
 ·unfold Em.eqP; dsimp only; split
  ·rfl
  ·exact hm
 ·unfold Em.eqP; dsimp only
  by_cases h : most <= m.eqs.length
  ·rw [if_pos h]; exact .inr ⟨rfl, by omega⟩
  ·rw [if_neg h]; exact .inl ⟨hm, by simp, rfl⟩
theorem Has.bd {α β : Type} {most : Int} {E V E' V' : Nat} {f : Pm α} {g : α -> Pm β} (h : Has most E V f) (k : ∀ a, Has most E' V' (g a)) : Has most (E + E') (V + V') (bd f g) := by
 refine ⟨fun m hm => (k _).up _ (h.up m hm), fun m hm => ?_⟩
 rcases h.ct m hm with ⟨h1, h2, h3⟩ | ⟨h1, h2⟩
 ·rcases (k (f m).1).ct (f m).2 h1 with ⟨k1, k2, k3⟩ | ⟨k1, k2⟩
  ·exact .inl ⟨k1, by unfold Em.bd; rw [k2, h2]; omega, by unfold Em.bd; rw [k3, h3]; omega⟩
  ·exact .inr ⟨k1, by rw [h2] at k2; omega⟩
 ·exact .inr ⟨(k _).up _ h1, by omega⟩
theorem Has.ifMany {α : Type} {most : Int} {E V : Nat} (x : α) {f : Pm α} (h : Has most E V f) : Has most E V (ifMany x f) := by
 refine ⟨fun m hm => ?_, fun m hm => ?_⟩
 ·unfold Em.ifMany; rw [hm]; exact hm
 ·unfold Em.ifMany; rw [hm]; simp only [Bool.false_eq_true, if_false]; exact h.ct m hm
theorem Has.cast {α : Type} {most : Int} {E V E' V' : Nat} {f : Pm α} (h : Has most E V f) (he : E = E') (hv : V = V') : Has most E' V' f := by subst he hv; exact h
theorem keptP_has (most : Int) (sh : Ty -> Ty) : ∀ l : List Eqn, Has most l.length 0 (keptP most sh l)
 | [] => Has.pu most _
 | e :: r => Has.ifMany _ ((Has.bd (Has.eqP most _ _ _ _) fun _ => keptP_has most sh r).cast (by simp; omega) rfl)
theorem copied_has (most : Int) (kept : List Eqn) (v : Ty) (fr tt : Nat) : Has most kept.length (tt - fr) (copied most kept v fr tt) :=
 (Has.bd (Has.getP most) fun _ => Has.bd (Has.bumpP most (tt - fr)) fun _ => Has.bd (keptP_has most _ kept) fun _ => Has.pu most _).cast (by omega) (by omega)
theorem letP_has {most : Int} {E V : Nat} {E' V' : Nat -> Nat} (h : Nd) {f : Pm Ty} {g : Pm Ty -> Pm Ty} (hf : Has most E V f) (hg : ∀ c a b, Has most a b c -> Has most (E' a) (V' b) (g c)) : Has most (E + E' E) (V + V' V) (letP most h f g) := by
 refine ⟨fun m hm => ?_, fun m hm => ?_⟩
 ·exact (hg _ _ _ (copied_has _ _ _ _ _)).up _ (hf.up m hm)
 ·rcases hf.ct m hm with ⟨h1, h2, h3⟩ | ⟨h1, h2⟩
  ·have hc := copied_has most ((f m).2.eqs.drop m.eqs.length) (f m).1 m.next (f m).2.next
   have hc' : Has most E V (copied most ((f m).2.eqs.drop m.eqs.length) (f m).1 m.next (f m).2.next) := hc.cast (by rw [List.length_drop, h2]; omega) (by rw [h3]; omega)
   rcases (hg _ _ _ hc').ct (f m).2 h1 with ⟨k1, k2, k3⟩ | ⟨k1, k2⟩
   ·exact .inl ⟨k1, k2.trans (by rw [h2]; omega), k3.trans (by rw [h3]; omega)⟩
   ·exact .inr ⟨k1, by rw [h2] at k2; omega⟩
  ·exact .inr ⟨(hg _ _ _ (copied_has _ _ _ _ _)).up _ h1, by omega⟩
end Em
end
section
namespace Em
abbrev EnvN := List (ByteArray × Nat)
def bringsN : EnvN -> ByteArray -> Nat
 | [], _ => 0
 | x :: r, s => if x.1 = s then x.2 else bringsN r s
abbrev at0 (vs : List (EnvN -> Nat)) (i : Nat) (e : EnvN) : Nat := vs.getD i (fun _ => 0) e
def sumN (e : EnvN) : List (EnvN -> Nat) -> Nat
 | [] => 0
 | v :: r => v e + sumN e r
def oneT (own : Int -> Nat) (rc : Nat) (h : Nd) (vs : List (EnvN -> Nat)) (e : EnvN) : Nat :=
 if h.k = 1 then own h.k + bringsN e h.nm
 else if h.k = 4 then own h.k + at0 vs 0 ((h.nm, 0) :: e)
 else if h.k = 6 then own h.k + (at0 vs 0 e + at0 vs 1 ((h.nm, at0 vs 0 e) :: e))
 else if h.k = 7 then own h.k + ((rc + at0 vs 0 ((h.nm, 0) :: e)) + at0 vs 1 ((h.nm, rc + at0 vs 0 ((h.nm, 0) :: e)) :: e))
 else own h.k + sumN e vs
def valsT (own : Int -> Nat) (rc : Nat) : To -> List (EnvN -> Nat)
 | .nil => []
 | .cons h ps r => oneT own rc h (valsT own rc ps) :: valsT own rc r
def cntT (own : Int -> Nat) (rc : Nat) (h : Nd) (ps : To) (e : EnvN) : Nat := oneT own rc h (valsT own rc ps) e
def owE (k : Int) : Nat := if k = 8 then 3 else if k = 10 then 2 else 1
def owV (k : Int) : Nat := if k = 4 then 2 else 1
def okK : To -> Prop
 | .nil => True
 | .cons h ps r => (1 <= h.k /\ h.k <= 10 /\ ((h.k = 2 ∨ h.k = 3) -> ps = .nil)) /\ okK ps /\ okK r
inductive EnvH (most : Int) : Env -> EnvN -> EnvN -> Prop
 | nil : EnvH most [] [] []
 | cons {s : ByteArray} {f : Pm Ty} {a b : Nat} {e : Env} {eE eV : EnvN} : Has most a b f -> EnvH most e eE eV -> EnvH most ((s, f) :: e) ((s, a) :: eE) ((s, b) :: eV)
theorem EnvH.look {most : Int} {e : Env} {eE eV : EnvN} (h : EnvH most e eE eV) (s : ByteArray) : Has most (bringsN eE s) (bringsN eV s) (lookE e s) := by
 induction h with
 | nil => exact Has.pu most _
 | cons h1 _ ih =>
  unfold lookE bringsN
  dsimp only
  split
  ·exact h1
  ·exact ih
def VH (most : Int) (v : Env -> Pm Ty) (a b : EnvN -> Nat) : Prop := ∀ e eE eV, EnvH most e eE eV -> Has most (a eE) (b eV) (v e)
inductive VsH (most : Int) : List (Env -> Pm Ty) -> List (EnvN -> Nat) -> List (EnvN -> Nat) -> Prop
 | nil : VsH most [] [] []
 | cons {v : Env -> Pm Ty} {a b : EnvN -> Nat} {l : List (Env -> Pm Ty)} {la lb : List (EnvN -> Nat)} : VH most v a b -> VsH most l la lb -> VsH most (v :: l) (a :: la) (b :: lb)
theorem VsH.at {most : Int} {l : List (Env -> Pm Ty)} {la lb : List (EnvN -> Nat)} (h : VsH most l la lb) : ∀ (i : Nat) {e : Env} {eE eV : EnvN}, EnvH most e eE eV -> Has most (at0 la i eE) (at0 lb i eV) (vat l i e) := by
 induction h with
 | nil => intro i e eE eV _; exact Has.pu most _
 | cons h1 _ ih =>
  intro i e eE eV he
  cases i with
  | zero => exact h1 _ _ _ he
  | succ i => exact ih i he
theorem VsH.map {most : Int} {e : Env} {eE eV : EnvN} (he : EnvH most e eE eV) {l : List (Env -> Pm Ty)} {la lb : List (EnvN -> Nat)} (h : VsH most l la lb) : Has most (sumN eE la) (sumN eV lb) (mapE e l) := by
 induction h with
 | nil => exact Has.pu most _
 | cons h1 _ ih => exact (Has.bd (h1 _ _ _ he) fun t => Has.bd ih fun l => Has.pu most _).cast (by simp [sumN]) (by simp [sumN])
theorem oneM_has (most : Int) (h : Nd) (ps : To) (hk : 1 <= h.k /\ h.k <= 10) {vs : List (Env -> Pm Ty)} {la lb : List (EnvN -> Nat)} (hp : (h.k = 2 ∨ h.k = 3) -> la = [] /\ lb = []) (hv : VsH most vs la lb) : VH most (oneM most h ps vs) (oneT owE 1 h la) (oneT owV 1 h lb) := by
 intro e eE eV he
 have q : ∀ (l r : Ty) (fr en : Int), Has most 1 0 (eqP most l r fr en) := Has.eqP most
 unfold oneM
 have key : ∀ {E V : Nat} {F : Ty -> Pm Ty}, (∀ own, Has most E V (F own)) -> Has most E (V + 1) (bd takeP fun own => ifMany own (F own)) := fun hF => (Has.bd (Has.takeP most) fun own => Has.ifMany own (hF own)).cast (by omega) (by omega)
 have fin : ∀ (own l r : Ty) (fr en : Int), Has most 1 0 (bd (eqP most l r fr en) fun _ => pu own) := fun own l r fr en => (Has.bd (q l r fr en) fun _ => Has.pu most own).cast rfl rfl
 obtain ⟨k1, k10⟩ := hk
 have oneT1 : ∀ (ow : Int -> Nat) (la : List (EnvN -> Nat)) (e : EnvN), h.k = 1 -> oneT ow 1 h la e = ow h.k + bringsN e h.nm := fun ow la e c => by unfold oneT; rw [if_pos c]
 have oneT4 : ∀ (ow : Int -> Nat) (la : List (EnvN -> Nat)) (e : EnvN), h.k = 4 -> oneT ow 1 h la e = ow h.k + at0 la 0 ((h.nm, 0) :: e) := fun ow la e c => by unfold oneT; rw [if_neg (by omega), if_pos c]
 have oneT6 : ∀ (ow : Int -> Nat) (la : List (EnvN -> Nat)) (e : EnvN), h.k = 6 -> oneT ow 1 h la e = ow h.k + (at0 la 0 e + at0 la 1 ((h.nm, at0 la 0 e) :: e)) := fun ow la e c => by unfold oneT; rw [if_neg (by omega), if_neg (by omega), if_pos c]
 have oneT7 : ∀ (ow : Int -> Nat) (la : List (EnvN -> Nat)) (e : EnvN), h.k = 7 -> oneT ow 1 h la e = ow h.k + ((1 + at0 la 0 ((h.nm, 0) :: e)) + at0 la 1 ((h.nm, 1 + at0 la 0 ((h.nm, 0) :: e)) :: e)) := fun ow la e c => by unfold oneT; rw [if_neg (by omega), if_neg (by omega), if_neg (by omega), if_pos c]
 have oneTo : ∀ (ow : Int -> Nat) (la : List (EnvN -> Nat)) (e : EnvN), h.k ≠ 1 -> h.k ≠ 4 -> h.k ≠ 6 -> h.k ≠ 7 -> oneT ow 1 h la e = ow h.k + sumN e la := fun ow la e c1 c4 c6 c7 => by unfold oneT; rw [if_neg c1, if_neg c4, if_neg c6, if_neg c7]
 have oE : h.k ≠ 8 -> h.k ≠ 10 -> owE h.k = 1 := fun a b => by unfold owE; rw [if_neg a, if_neg b]
 have oV : h.k ≠ 4 -> owV h.k = 1 := fun a => by unfold owV; rw [if_neg a]
 by_cases c2 : h.k = 2
 ·obtain ⟨rfl, rfl⟩ := hp (.inl c2)
  simp only [if_pos c2]
  refine Has.cast (key fun own => fin own _ _ _ _) ?_ ?_
  ·rw [oneTo _ _ _ (by omega) (by omega) (by omega) (by omega), oE (by omega) (by omega)]; rfl
  ·rw [oneTo _ _ _ (by omega) (by omega) (by omega) (by omega), oV (by omega)]; rfl
 by_cases c3 : h.k = 3
 ·obtain ⟨rfl, rfl⟩ := hp (.inr c3)
  simp only [if_neg c2, if_pos c3]
  refine Has.cast (key fun own => fin own _ _ _ _) ?_ ?_
  ·rw [oneTo _ _ _ (by omega) (by omega) (by omega) (by omega), oE (by omega) (by omega)]; rfl
  ·rw [oneTo _ _ _ (by omega) (by omega) (by omega) (by omega), oV (by omega)]; rfl
 by_cases c1 : h.k = 1
 ·simp only [if_neg c2, if_neg c3, if_pos c1]
  refine Has.cast (key fun own => (Has.bd (he.look h.nm) fun t => fin own _ _ _ _)) ?_ ?_
  ·rw [oneT1 _ _ _ c1, oE (by omega) (by omega)]; omega
  ·rw [oneT1 _ _ _ c1, oV (by omega)]; omega
 by_cases c4 : h.k = 4
 ·simp only [if_neg c2, if_neg c3, if_neg c1, if_pos c4]
  refine Has.cast (key fun own => (Has.bd (Has.takeP most) fun b => Has.bd (hv.at 0 (.cons (s := h.nm) (Has.pu most b) he)) fun t => fin own _ _ _ _)) ?_ ?_
  ·rw [oneT4 _ _ _ c4, oE (by omega) (by omega)]; omega
  ·rw [oneT4 _ _ _ c4, show owV h.k = 2 from by unfold owV; rw [if_pos c4]]; omega
 by_cases c6 : h.k = 6
 ·simp only [if_neg c2, if_neg c3, if_neg c1, if_neg c4, if_pos c6]
  refine Has.cast (key fun own => (Has.bd (letP_has (E' := fun a => at0 la 1 ((h.nm, a) :: eE)) (V' := fun b => at0 lb 1 ((h.nm, b) :: eV)) h (hv.at 0 he) fun c a b hc => hv.at 1 (.cons (s := h.nm) hc he)) fun t => fin own _ _ _ _)) ?_ ?_
  ·rw [oneT6 _ _ _ c6, oE (by omega) (by omega)]; omega
  ·rw [oneT6 _ _ _ c6, oV (by omega)]; omega
 by_cases c7 : h.k = 7
 ·simp only [if_neg c2, if_neg c3, if_neg c1, if_neg c4, if_neg c6, if_pos c7]
  have hf : Has most (1 + at0 la 0 ((h.nm, 0) :: eE)) (1 + at0 lb 0 ((h.nm, 0) :: eV)) (bd takeP fun v => bd (vat vs 0 ((h.nm, pu v) :: e)) fun t => bd (eqP most v t h.fr h.en) fun _ => pu v) :=
   (Has.bd (Has.takeP most) fun v => Has.bd (hv.at 0 (.cons (s := h.nm) (Has.pu most v) he)) fun t => fin v _ _ _ _).cast (by omega) (by omega)
  refine Has.cast (key fun own => (Has.bd (letP_has (E' := fun a => at0 la 1 ((h.nm, a) :: eE)) (V' := fun b => at0 lb 1 ((h.nm, b) :: eV)) h hf fun c a b hc => hv.at 1 (.cons (s := h.nm) hc he)) fun t => fin own _ _ _ _)) ?_ ?_
  ·rw [oneT7 _ _ _ c7, oE (by omega) (by omega)]; omega
  ·rw [oneT7 _ _ _ c7, oV (by omega)]; omega
 have hm := VsH.map he hv
 by_cases c5 : h.k = 5
 ·simp only [if_neg c2, if_neg c3, if_neg c1, if_neg c4, if_neg c6, if_neg c7, if_pos c5]
  refine Has.cast (key fun own => Has.bd hm fun p => fin own _ _ _ _) ?_ ?_
  ·rw [oneTo _ _ _ c1 c4 c6 c7, oE (by omega) (by omega)]; omega
  ·rw [oneTo _ _ _ c1 c4 c6 c7, oV c4]; omega
 by_cases c8 : h.k = 8
 ·simp only [if_neg c2, if_neg c3, if_neg c1, if_neg c4, if_neg c6, if_neg c7, if_neg c5, if_pos c8]
  refine Has.cast (key fun own => Has.bd hm fun p => Has.bd (q _ _ _ _) fun _ => Has.bd (q _ _ _ _) fun _ => fin own _ _ _ _) ?_ ?_
  ·rw [oneTo _ _ _ c1 c4 c6 c7, show owE h.k = 3 from by unfold owE; rw [if_pos c8]]; omega
  ·rw [oneTo _ _ _ c1 c4 c6 c7, oV c4]; omega
 by_cases c9 : h.k = 9
 ·simp only [if_neg c2, if_neg c3, if_neg c1, if_neg c4, if_neg c6, if_neg c7, if_neg c5, if_neg c8, if_pos c9]
  refine Has.cast (key fun own => Has.bd hm fun p => fin own _ _ _ _) ?_ ?_
  ·rw [oneTo _ _ _ c1 c4 c6 c7, oE (by omega) (by omega)]; omega
  ·rw [oneTo _ _ _ c1 c4 c6 c7, oV c4]; omega
 have c10 : h.k = 10 := by omega
 simp only [if_neg c2, if_neg c3, if_neg c1, if_neg c4, if_neg c6, if_neg c7, if_neg c5, if_neg c8, if_neg c9, if_pos c10]
 refine Has.cast (key fun own => Has.bd hm fun p => Has.bd (q _ _ _ _) fun _ => fin own _ _ _ _) ?_ ?_
 ·rw [oneTo _ _ _ c1 c4 c6 c7, show owE h.k = 2 from by unfold owE; rw [if_neg c8, if_pos c10]]; omega
 ·rw [oneTo _ _ _ c1 c4 c6 c7, oV c4]; omega
theorem valsM_has (most : Int) : ∀ f : To, okK f -> VsH most (valsM most f) (valsT owE 1 f) (valsT owV 1 f)
 | .nil, _ => .nil
 | .cons h ps r, ⟨⟨a, b, c⟩, hps, hr⟩ => .cons (oneM_has most h ps ⟨a, b⟩ (fun k => by rw [c k]; exact ⟨rfl, rfl⟩) (valsM_has most ps hps)) (valsM_has most r hr)
theorem run_has (most : Int) (h : Nd) (ps : To) (hk : okK (.cons h ps .nil)) : Has most (cntT owE 1 h ps []) (cntT owV 1 h ps []) (termM most h ps []) := by
 obtain ⟨⟨a, b, c⟩, hps, _⟩ := hk
 exact oneM_has most h ps ⟨a, b⟩ (fun k => by rw [c k]; exact ⟨rfl, rfl⟩) (valsM_has most ps hps) [] [] [] .nil
end Em
end
end Go.Proofs.YtcninopmelmajaaGreatDoor
