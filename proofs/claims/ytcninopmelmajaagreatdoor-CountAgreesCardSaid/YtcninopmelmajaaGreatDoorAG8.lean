/-
  Texts laid together (ScFreeDo): laws and walks, with their conditions.
-/
import Derived.Laws.OwnMore
import Derived.Test.YtcninopmelmajaaGreatDoorAG7
set_option maxHeartbeats 8000000
set_option maxRecDepth 1000000
namespace Go.Proofs.YtcninopmelmajaaGreatDoor
open Go.Lib (hid)
section
open Go.RowKit Go.Shelf
namespace Sc
abbrev put9at (w : World) (g off : Nat) (a0 a1 a2 a3 a4 a5 a6 a7 a8 : Value) : World :=
 ((((((((w.setCell ⟨g, off, none⟩ a0).setCell ⟨g, off + 1, none⟩ a1).setCell ⟨g, off + 2, none⟩ a2).setCell ⟨g, off + 3, none⟩ a3).setCell ⟨g, off + 4, none⟩ a4).setCell ⟨g, off + 5, none⟩ a5).setCell ⟨g, off + 6, none⟩ a6).setCell ⟨g, off + 7, none⟩ a7).setCell ⟨g, off + 8, none⟩ a8
theorem put9at_fr (w : World) (g off : Nat) (a0 a1 a2 a3 a4 a5 a6 a7 a8 : Value) : Fr (fun k => k = g) w (put9at w g off a0 a1 a2 a3 a4 a5 a6 a7 a8) :=
 ((((((((Fr.setCell (fun k => k = g) w ⟨g, off, none⟩ a0 rfl).trans (Fr.setCell (fun k => k = g) _ ⟨g, off + 1, none⟩ a1 rfl)).trans (Fr.setCell (fun k => k = g) _ ⟨g, off + 2, none⟩ a2 rfl)).trans (Fr.setCell (fun k => k = g) _ ⟨g, off + 3, none⟩ a3 rfl)).trans (Fr.setCell (fun k => k = g) _ ⟨g, off + 4, none⟩ a4 rfl)).trans (Fr.setCell (fun k => k = g) _ ⟨g, off + 5, none⟩ a5 rfl)).trans (Fr.setCell (fun k => k = g) _ ⟨g, off + 6, none⟩ a6 rfl)).trans (Fr.setCell (fun k => k = g) _ ⟨g, off + 7, none⟩ a7 rfl)).trans (Fr.setCell (fun k => k = g) _ ⟨g, off + 8, none⟩ a8 rfl)
theorem put9at_row {w : World} {base : Nat} {e : TypeId} {g m c n : Nat} {xs : List Value} {z0 z1 z2 z3 z4 z5 z6 z7 z8 : Value} (hx : xs.length = n * 9) (h : w.ownsRow base e 9 (.slice (some ⟨g, 0, none⟩) m c) m (xs ++ [z0, z1, z2, z3, z4, z5, z6, z7, z8])) (a0 a1 a2 a3 a4 a5 a6 a7 a8 : Value) :
    (put9at w g (n * 9) a0 a1 a2 a3 a4 a5 a6 a7 a8).ownsRow base e 9 (.slice (some ⟨g, 0, none⟩) m c) m (xs ++ [a0, a1, a2, a3, a4, a5, a6, a7, a8]) := by
 have h1 := ((((((((((h.stored (n * 9) a0).1.stored (n * 9 + 1) a1).1.stored (n * 9 + 2) a2).1.stored (n * 9 + 3) a3).1.stored (n * 9 + 4) a4).1.stored (n * 9 + 5) a5).1.stored (n * 9 + 6) a6).1.stored (n * 9 + 7) a7).1.stored (n * 9 + 8) a8).1)
 have key : ∀ (j : Nat) (u : Value) (ys : List Value), (xs ++ ys).set (n * 9 + j) u = xs ++ ys.set j u := fun j u ys => by
  rw [List.set_append_right _ _ (by omega), hx]; congr 2; omega
 have k0 : (xs ++ [z0, z1, z2, z3, z4, z5, z6, z7, z8]).set (n * 9) a0 = xs ++ [a0, z1, z2, z3, z4, z5, z6, z7, z8] := key 0 a0 _
 rw [k0, key, key, key, key, key, key, key, key] at h1
 exact h1
theorem row9_facts {w : World} {base : Nat} {e : TypeId} {g m c n : Nat} {xs : List Value} {z0 z1 z2 z3 z4 z5 z6 z7 z8 : Value} (hx : xs.length = n * 9) (hm : n + 1 = m) (h : w.ownsRow base e 9 (.slice (some ⟨g, 0, none⟩) m c) m (xs ++ [z0, z1, z2, z3, z4, z5, z6, z7, z8])) :
    (w.cell? ⟨g, n * 9, none⟩ = some z0 /\ w.cell? ⟨g, n * 9 + 1, none⟩ = some z1 /\ w.cell? ⟨g, n * 9 + 2, none⟩ = some z2 /\ w.cell? ⟨g, n * 9 + 3, none⟩ = some z3 /\ w.cell? ⟨g, n * 9 + 4, none⟩ = some z4 /\ w.cell? ⟨g, n * 9 + 5, none⟩ = some z5 /\ w.cell? ⟨g, n * 9 + 6, none⟩ = some z6 /\ w.cell? ⟨g, n * 9 + 7, none⟩ = some z7 /\ w.cell? ⟨g, n * 9 + 8, none⟩ = some z8) /\
    (w.frozen? ⟨g, n * 9, none⟩ = false /\ w.frozen? ⟨g, n * 9 + 1, none⟩ = false /\ w.frozen? ⟨g, n * 9 + 2, none⟩ = false /\ w.frozen? ⟨g, n * 9 + 3, none⟩ = false /\ w.frozen? ⟨g, n * 9 + 4, none⟩ = false /\ w.frozen? ⟨g, n * 9 + 5, none⟩ = false /\ w.frozen? ⟨g, n * 9 + 6, none⟩ = false /\ w.frozen? ⟨g, n * 9 + 7, none⟩ = false /\ w.frozen? ⟨g, n * 9 + 8, none⟩ = false) := by
 have key : ∀ j, j < 9 -> w.cell? ⟨g, n * 9 + j, none⟩ = [z0, z1, z2, z3, z4, z5, z6, z7, z8][j]? := fun j hj => by
  rw [h.cellAt _ (by omega), List.getElem?_append_right (by omega), hx]; congr 1; omega
 exact ⟨⟨key 0 (by omega), key 1 (by omega), key 2 (by omega), key 3 (by omega), key 4 (by omega), key 5 (by omega), key 6 (by omega), key 7 (by omega), key 8 (by omega)⟩, h.frozenAt _, h.frozenAt _, h.frozenAt _, h.frozenAt _, h.frozenAt _, h.frozenAt _, h.frozenAt _, h.frozenAt _, h.frozenAt _⟩
def FJ (ob b : Nat) (s : List Nd) (D : Nat -> Prop) (W : World) : Prop := ∃ (o : Option Addr) (c : Nat) (xs : List Value), W.heap[ob]? = some (.cells #[.slice o s.length c] 25 (0, 0)) /\ ListN (ob + 1) W o c s xs /\ s.length + b <= 300000 /\ ∀ k, D k ↔ (k = ob ∨ (Value.slice o s.length c).ownBlock = some k)
theorem freeDo_facts {W w4 : World} {ob B g4 m co : Nat} {o : Option Addr} {h : Nd} {o1 : Option Addr} {l1 c1 : Nat} {o2 : Option Addr} {l2 c2 : Nat} (hb : W.heap[ob]? = some (.cells #[.slice o m co] 25 (0, 0))) (hx : W.heap[B]? = some (.cells (cells9 h o1 l1 c1 o2 l2 c2) 29 (0, 0)))
    (hlow : ∀ k, (Value.slice o m co).ownBlock = some k -> ob + 1 <= k /\ k < B) (hz : B + 2 = W.heap.size) (hob : ob < B) (hf' : Fr (fun k => (Value.slice o m co).ownBlock = some k) W.drew w4) (hg : (Value.slice o m co).ownBlock = some g4 ∨ W.heap.size <= g4) :
    (ob ≠ g4 /\ g4 ≠ ob) /\ (B ≠ g4 /\ g4 ≠ B) /\ w4.heap[ob]? = some (.cells #[.slice o m co] 25 (0, 0)) /\ w4.heap[B]? = some (.cells (cells9 h o1 l1 c1 o2 l2 c2) 29 (0, 0)) := by
 have hf := (Fr.drew (fun k => (Value.slice o m co).ownBlock = some k) W).trans hf'
 have h1 : ob ≠ g4 := by
  rcases hg with h | h
  ·have := (hlow _ h).1; omega
  ·omega
 have h2 : B ≠ g4 := by
  rcases hg with h | h
  ·have := (hlow _ h).2; omega
  ·omega
 exact ⟨⟨h1, fun e => h1 e.symm⟩, ⟨h2, fun e => h2 e.symm⟩, blk_fr hf (fun e => by have := (hlow _ e).1; omega) hb, blk_fr hf (fun e => by have := (hlow _ e).2; omega) hx⟩
def PushQ (ob : Nat) (s : List Nd) (D : Nat -> Prop) (W0 wx : World) : Prop := ∃ (o : Option Addr) (c : Nat) (xs : List Value), wx.heap[ob]? = some (.cells #[.slice o s.length c] 25 (0, 0)) /\ ListN (ob + 1) wx o c s xs /\ Fr D W0 wx /\ ∀ k, (Value.slice o s.length c).ownBlock = some k -> D k ∨ W0.heap.size <= k
theorem push_end {W w4 wx : World} {ob g4 m co c4 : Nat} {o : Option Addr} {xs : List Value} {D : Nat -> Prop} {s : List Nd} {h : Nd} {o1 : Option Addr} {l1 c1 : Nat} {o2 : Option Addr} {l2 c2 : Nat} (hm : s.length = m) (hl : ListN (ob + 1) W o co s xs)
    (hw : wx.ownsRow 0 29 9 (.slice (some ⟨g4, 0, none⟩) (m + 1) c4) (m + 1) (xs ++ (cells9 h o1 l1 c1 o2 l2 c2).toList)) (hb : wx.heap[ob]? = some (.cells #[.slice (some ⟨g4, 0, none⟩) (m + 1) c4] 25 (0, 0)))
    (hf' : Fr (fun k => (Value.slice o m co).ownBlock = some k) W.drew w4) (hfx : Fr (fun k => k = ob ∨ k = g4) w4 wx) (hg : (Value.slice o m co).ownBlock = some g4 ∨ W.heap.size <= g4) (hob : ob < W.heap.size) (hD : ∀ k, D k ↔ (k = ob ∨ (Value.slice o m co).ownBlock = some k)) : PushQ ob (s ++ [h]) D W wx := by
 have hn : (s ++ [h]).length = m + 1 := by simp [hm]
 refine ⟨some ⟨g4, 0, none⟩, c4, xs ++ (cells9 h o1 l1 c1 o2 l2 c2).toList, by rw [hn]; exact hb, ⟨by rw [hn]; exact hw, RowN.app _ _ _ _ hl.2.1 ⟨o1, l1, c1, o2, l2, c2, [], by simp, rfl⟩, ?_⟩, ?_, ?_⟩
 ·intro k hk
  simp [Value.ownBlock] at hk
  subst hk
  rcases hg with h | h
  ·exact hl.2.2 _ (by rw [hm]; exact h)
  ·omega
 ·refine (((Fr.drew (fun k => (Value.slice o m co).ownBlock = some k) W).trans hf').mono (fun k _ h => (hD k).2 (.inr h))).trans' hfx (fun k hk h => ?_)
  rcases h with h | h
  ·exact (hD k).2 (.inl h)
  ·subst h
   rcases hg with h | h
   ·exact (hD _).2 (.inr h)
   ·omega
 ·intro k hk
  simp [Value.ownBlock] at hk
  subst hk
  rcases hg with h | h
  ·exact .inl ((hD _).2 (.inr h))
  ·exact .inr h
theorem push_end1 {W w4 : World} {ob g4 m co c4 : Nat} {o : Option Addr} {xs : List Value} {D : Nat -> Prop} {s : List Nd} {h : Nd} {o1 : Option Addr} {l1 c1 : Nat} {o2 : Option Addr} {l2 c2 : Nat} (hm : s.length = m) (hl : ListN (ob + 1) W o co s xs)
    (ho : w4.ownsRow 0 29 9 (.slice (some ⟨g4, 0, none⟩) (m + 1) c4) (m + 1) (xs ++ zero9.toList)) (hb : w4.heap[ob]? = some (.cells #[.slice o m co] 25 (0, 0))) (hne : ob ≠ g4)
    (hf' : Fr (fun k => (Value.slice o m co).ownBlock = some k) W.drew w4) (hg : (Value.slice o m co).ownBlock = some g4 ∨ W.drew.heap.size <= g4) (hob : ob < W.heap.size) (hD : ∀ k, D k ↔ (k = ob ∨ (Value.slice o m co).ownBlock = some k)) :
    PushQ ob (s ++ [h]) D W ((put9at w4 g4 (m * 9) (.int .i64 h.k) (.string h.nm) (.int .i64 h.n) (.int .i64 h.tk) (.int .i64 h.tn) (.slice o1 l1 c1) (.slice o2 l2 c2) (.int .i64 h.fr) (.int .i64 h.en)).setCell ⟨ob, 0, none⟩ (.slice (some ⟨g4, 0, none⟩) (m + 1) c4)) := by
 have hx : xs.length = m * 9 := by rw [<- hm]; exact hl.1.1
 have hfp := put9at_fr w4 g4 (m * 9) (.int .i64 h.k) (.string h.nm) (.int .i64 h.n) (.int .i64 h.tk) (.int .i64 h.tn) (.slice o1 l1 c1) (.slice o2 l2 c2) (.int .i64 h.fr) (.int .i64 h.en)
 have hr := put9at_row (n := m) hx ho (.int .i64 h.k) (.string h.nm) (.int .i64 h.n) (.int .i64 h.tk) (.int .i64 h.tn) (.slice o1 l1 c1) (.slice o2 l2 c2) (.int .i64 h.fr) (.int .i64 h.en)
 have hbo := blk_fr hfp hne hb
 exact push_end hm hl (ownsRow_fr hr (Fr.setCell (fun k => k = ob) _ _ _ rfl) (fun k hk e => by simp [Value.ownBlock] at hk; omega)) (one_setCell hbo) hf' ((hfp.mono (fun _ _ h => .inr h)).trans (Fr.setCell _ _ _ _ (.inl rfl))) hg hob hD
theorem push_end2 {W w4 : World} {ob g4 m co c4 : Nat} {o : Option Addr} {xs : List Value} {D : Nat -> Prop} {s : List Nd} {h : Nd} {o1 : Option Addr} {l1 c1 : Nat} {o2 : Option Addr} {l2 c2 : Nat} (hm : s.length = m) (hl : ListN (ob + 1) W o co s xs)
    (ho : w4.ownsRow 0 29 9 (.slice (some ⟨g4, 0, none⟩) (m + 1) c4) (m + 1) (xs ++ zero9.toList)) (hb : w4.heap[ob]? = some (.cells #[.slice o m co] 25 (0, 0))) (hne : ob ≠ g4)
    (hf' : Fr (fun k => (Value.slice o m co).ownBlock = some k) W.drew w4) (hg : (Value.slice o m co).ownBlock = some g4 ∨ W.drew.heap.size <= g4) (hob : ob < W.heap.size) (hD : ∀ k, D k ↔ (k = ob ∨ (Value.slice o m co).ownBlock = some k)) :
    PushQ ob (s ++ [h]) D W (put9at (w4.setCell ⟨ob, 0, none⟩ (.slice (some ⟨g4, 0, none⟩) (m + 1) c4)) g4 (m * 9) (.int .i64 h.k) (.string h.nm) (.int .i64 h.n) (.int .i64 h.tk) (.int .i64 h.tn) (.slice o1 l1 c1) (.slice o2 l2 c2) (.int .i64 h.fr) (.int .i64 h.en)) := by
 have hx : xs.length = m * 9 := by rw [<- hm]; exact hl.1.1
 have hfs := Fr.setCell (fun k => k = ob) w4 ⟨ob, 0, none⟩ (.slice (some ⟨g4, 0, none⟩) (m + 1) c4) rfl
 have hfp := put9at_fr (w4.setCell ⟨ob, 0, none⟩ (.slice (some ⟨g4, 0, none⟩) (m + 1) c4)) g4 (m * 9) (.int .i64 h.k) (.string h.nm) (.int .i64 h.n) (.int .i64 h.tk) (.int .i64 h.tn) (.slice o1 l1 c1) (.slice o2 l2 c2) (.int .i64 h.fr) (.int .i64 h.en)
 have hr := put9at_row (n := m) hx (ownsRow_fr ho hfs (fun k hk e => by simp [Value.ownBlock] at hk; omega)) (.int .i64 h.k) (.string h.nm) (.int .i64 h.n) (.int .i64 h.tk) (.int .i64 h.tn) (.slice o1 l1 c1) (.slice o2 l2 c2) (.int .i64 h.fr) (.int .i64 h.en)
 exact push_end hm hl hr (blk_fr hfp hne (one_setCell hb)) hf' ((hfs.mono (fun _ _ h => .inl h)).trans (hfp.mono (fun _ _ h => .inr h))) hg hob hD
theorem freeDo_any (R : Nat -> Prop) (ob : Nat) (hR : ∀ k, R k -> k < ob) : DoW 93 #[.pointer (some ⟨ob, 0, none⟩)] R ob frS (fun x _ => x) (FJ ob) where
 own := by
  rintro b s D A ⟨o, c, xs, hb, hl, hz, hd⟩ k hk
  rcases (hd k).1 hk with rfl | h
  ·exact ⟨lt_of_block hb, fun h => by have := hR _ h; omega⟩
  ·exact ⟨(hl.1.lt k h).2, fun hr => by have := hR _ hr; have := hl.2.2 k h; omega⟩
 big := by
  rintro b s D A ⟨o, c, xs, hb, _⟩
  exact Nat.le_of_lt (lt_of_block hb)
 weak := by
  rintro b b' s D A ⟨o, c, xs, hb, hl, hz, hd⟩ hle
  exact ⟨o, c, xs, hb, hl, by omega, hd⟩
 stay := by
  rintro b s D A B ⟨o, c, xs, hb, hl, hz, hd⟩ hf
  exact ⟨o, c, xs, blk_fr hf (fun h => h.2 ((hd _).2 (.inl rfl))) hb, list_fr hl hf (fun k hk h => h.2 ((hd k).2 (.inr hk))), hz, hd⟩
 call := by
  rintro b s D A T e h o1 l1 c1 o2 l2 c2 no n c ⟨o, co, xs, hb, hl, hz, hd⟩ hN hn hs hk
  obtain ⟨W0, hW0⟩ : ∃ W0, W0 = (A.alloc (.cells (cells9 h o1 l1 c1 o2 l2 c2) 29)).alloc (.cells zero9 29) := ⟨_, rfl⟩
  have HQ0 : Hid (Quiet0 A W0) := by rw [hW0]; exact (Quiet0.alloc _ _).trans (Quiet0.alloc _ _)
  have hz0 : A.heap.size + 2 = W0.heap.size := by rw [hW0]; simp
  have HZ0 := hid hz0
  have HB0 : Hid (W0.heap[A.heap.size]? = some (.cells (cells9 h o1 l1 c1 o2 l2 c2) 29 (0, 0))) := by
   show _ = _; rw [hW0, Below.heap_alloc _ _ _ (by simp)]; exact heap_alloc_new A _
  have HB1 : Hid (W0.heap[A.heap.size + 1]? = some (.cells zero9 29 (0, 0))) := by
   show _ = _; rw [hW0]
   have := heap_alloc_new (A.alloc (.cells (cells9 h o1 l1 c1 o2 l2 c2) 29)) (.cells zero9 29)
   simpa using this
  have hob := lt_of_block hb
  have hb2 := blk_fr HQ0.out (fun h => h) hb
  have HOB := hid hb2
  have HLN := hid (ListN.stay hl HQ0.out)
  have HLA := hid hl
  have HD := hid hd
  have HI := hid (index_any T e h.nm no n c W0 (hN.stay HQ0.out) (by omega))
  have HXL : Hid (xs.length = s.length * 9) := hl.1.1
  clear hb hb2 hl hd hN hs hk hz0
  unfold tmv
  by_cases hx : ix e h.nm < 0
  ·have HS : Hid (frS s h e = s ++ [h]) := by show _ = _; unfold frS; rw [if_pos hx]
   generalize ix e h.nm = r at *
   go_enter Tryz.func93, Tryz.ntmps93
   go_upto_region 1 with fail
   rw [<- hW0]
   clear hW0
   generalize hB : A.heap.size = B at *
   have HBE := hid hB
   clear hB
   obtain ⟨⟨x0, x1, x2, x3, x4, x5, x6, x7, x8⟩, y0, y1, y2, y3, y4, y5, y6, y7, y8⟩ := block9 HB0.out
   go_wp2_with fail
   refine HI.out.mono ?_; rintro x w2 ⟨rfl, rfl⟩
   go_upto_region 2 with fail
   have cob := cell_of_one HOB.out
   have fob := free_of_one HOB.out
   generalize hm : s.length = m at *
   have HM := hid hm
   clear hm
   have hlow : ∀ k, (Value.slice o m co).ownBlock = some k -> ob + 1 <= k /\ k < B := fun k hk => by have h1 := HLA.out.2.2 k (by rw [HM.out]; exact hk); have h2 := (HLA.out.1.lt k (by rw [HM.out]; exact hk)).2; have := HBE.out; omega
   have HLOW := hid hlow
   clear hlow
   have HOW15 : Hid (W0.ownsRow 0 29 9 (.slice o m co) m xs) := by have := HLN.out.1; rw [HM.out] at this; exact this
   have hA := Quiet0.alloc W0 (.cells zero9 29)
   obtain ⟨⟨xa0, xa1, xa2, xa3, xa4, xa5, xa6, xa7, xa8⟩, _⟩ := block9 (blk_after hA HB0.out)
   have coA := cell_of_one (blk_after hA HOB.out)
   clear hA
   have hi1 : (m : Int) < ((m + 1 : Nat) : Int) := by omega
   have hi2 : (m : Int) < (m : Int) + 1 := by omega
   have hi3 : (0 : Int) <= m := by omega
   have HHO : Hid (ob < W0.heap.size) := by have := HZ0.out; show _ < _; omega
   have HDD : Hid (∀ k, D k ↔ (k = ob ∨ (Value.slice o m co).ownBlock = some k)) := HD.out
   go_cut [15] (fun _ wx => PushQ ob (s ++ [h]) D W0 wx)
   case first =>
    go_region_law ((refine St.step_append_one W0.drew rfl (.tmp 11) (.tmp 14) 25 rfl 29 _ 9 112 elemTm (.slice o m co) m xs rfl ?hown zero9 rfl rfl ?c1 ?c2 ?c3 ?_); (case hown => exact HOW15.out); (case c1 => simp [Value.oneCell']); (case c2 => (unfold maxLen; omega)); (case c3 => omega); intro g4 c4 w4 ho4 hf4 hg4; obtain ⟨⟨p0, p1, p2, p3, p4, p5, p6, p7, p8⟩, r0, r1, r2, r3, r4, r5, r6, r7, r8⟩ := row9_facts (z0 := .int .i64 0) (z1 := .string ⟨#[]⟩) (z2 := .int .i64 0) (z3 := .int .i64 0) (z4 := .int .i64 0) (z5 := .slice none 0 0) (z6 := .slice none 0 0) (z7 := .int .i64 0) (z8 := .int .i64 0) HXL.out rfl ho4; have HO4 := hid ho4; have HF4 := hid hf4; have HG4 := hid hg4; clear ho4; obtain ⟨⟨ha1, ha2⟩, ⟨ha3, ha4⟩, hb4, hx4⟩ := freeDo_facts HOB.out HB0.out HLOW.out HZ0.out hob hf4 hg4; have co4 := cell_of_one hb4; have fo4 := free_of_one hb4; obtain ⟨⟨xx0, xx1, xx2, xx3, xx4, xx5, xx6, xx7, xx8⟩, _⟩ := block9 hx4; have HB4 := hid hb4; clear hb4 hx4 hf4 hg4)
    all_goals
     go_wp2_with fail
     go_meet
     first
      | with_reducible exact push_end1 HM.out HLN.out HO4.out HB4.out ha1 HF4.out HG4.out HHO.out HDD.out
      | with_reducible exact push_end2 HM.out HLN.out HO4.out HB4.out ha1 HF4.out HG4.out HHO.out HDD.out
      | with_reducible exact (push_end1 HM.out HLN.out HO4.out HB4.out ha1 HF4.out HG4.out HHO.out HDD.out).drew
      | with_reducible exact (push_end2 HM.out HLN.out HO4.out HB4.out ha1 HF4.out HG4.out HHO.out HDD.out).drew
   case rest =>
    rename World => wx
    obtain ⟨oq, cq, ys, hbq, hlq, hfq, hnq⟩ := hcut
    have hDB : ∀ k, D k -> k < B := fun k hk => by
     rcases (HDD.out k).1 hk with h | h
     ·omega
     ·exact (HLOW.out k h).2
    have hxq := blk_fr hfq (fun h => by have := hDB _ h; omega) HB0.out
    have hrq := blk_fr hfq (fun h => by have := hDB _ h; omega) HB1.out
    have HBQ := hid hbq
    have HLQ := hid hlq
    have HFQ := hid hfq
    have HNQ := hid hnq
    have HRQ := hid hrq
    have HDB := hid hDB
    clear x0 x1 x2 x3 x4 x5 x6 x7 x8 y0 y1 y2 y3 y4 y5 y6 y7 y8 cob fob xa0 xa1 xa2 xa3 xa4 xa5 xa6 xa7 xa8 coA hbq hlq hfq hnq hDB
    obtain ⟨⟨x0, x1, x2, x3, x4, x5, x6, x7, x8⟩, _⟩ := block9 hxq
    obtain ⟨⟨z0, z1, z2, z3, z4, z5, z6, z7, z8⟩, t0, t1, t2, t3, t4, t5, t6, t7, t8⟩ := block9 hrq
    clear hxq hrq
    go_wp2_with fail
    have hff := put9_fr wx (B + 1) (.int .i64 h.k) (.string h.nm) (.int .i64 h.n) (.int .i64 h.tk) (.int .i64 h.tn) (.slice o1 l1 c1) (.slice o2 l2 c2) (.int .i64 h.fr) (.int .i64 h.en)
    have hbf := put9_block (a0 := .int .i64 h.k) (a1 := .string h.nm) (a2 := .int .i64 h.n) (a3 := .int .i64 h.tk) (a4 := .int .i64 h.tn) (a5 := .slice o1 l1 c1) (a6 := .slice o2 l2 c2) (a7 := .int .i64 h.fr) (a8 := .int .i64 h.en) HRQ.out
    change bodyPost _ _ _ _ _ (put9 wx (B + 1) (.int .i64 h.k) (.string h.nm) (.int .i64 h.n) (.int .i64 h.tk) (.int .i64 h.tn) (.slice o1 l1 c1) (.slice o2 l2 c2) (.int .i64 h.fr) (.int .i64 h.en))
    clear x0 x1 x2 x3 x4 x5 x6 x7 x8 z0 z1 z2 z3 z4 z5 z6 z7 z8 t0 t1 t2 t3 t4 t5 t6 t7 t8
    generalize put9 wx (B + 1) (.int .i64 h.k) (.string h.nm) (.int .i64 h.n) (.int .i64 h.tk) (.int .i64 h.tn) (.slice o1 l1 c1) (.slice o2 l2 c2) (.int .i64 h.fr) (.int .i64 h.en) = wf at *
    obtain ⟨⟨x0, x1, x2, x3, x4, x5, x6, x7, x8⟩, _⟩ := block9 hbf
    have HFIN : Hid (DoQ frS (fun x _ => x) (FJ ob) b s D e h o1 l1 c1 o2 l2 c2 A (.returned (tmv h o1 l1 c1 o2 l2 c2)) wf) := by
     have hz2 := HZ0.out
     have hB := HBE.out
     have hnk : ∀ k, (Value.slice oq (s ++ [h]).length cq).ownBlock = some k -> k ≠ B + 1 := fun k hk => by
      rcases HNQ.out k hk with h | h
      ·have := HDB.out k h; omega
      ·omega
     refine ⟨rfl, fun k => k = ob ∨ (Value.slice oq (s ++ [h]).length cq).ownBlock = some k, ?_, ?_, ?_⟩
     ·rw [HS.out]
      refine ⟨oq, cq, ys, blk_fr hff (by omega) HBQ.out, list_fr HLQ.out hff hnk, ?_, fun k => Iff.rfl⟩
      rw [List.length_append]; have := HM.out; simp only [List.length_cons, List.length_nil]; omega
     ·exact ((HQ0.out.fr).trans HFQ.out).trans' hff (fun k hk h => by omega)
     ·intro k hk
      rcases hk with h | h
      ·exact .inl ((HDD.out k).2 (.inl h))
      ·rcases HNQ.out k h with h | h
       ·exact .inl h
       ·exact .inr (by omega)
    clear hff hbf
    refine bodyPost_ret (by simp [results, Tryz.results93, go_sem, x0, x1, x2, x3, x4, x5, x6, x7, x8]; rfl) rfl ?_
    exact HFIN.out
  ·have HS : Hid (frS s h e = s) := by show _ = _; unfold frS; rw [if_neg hx]
   generalize ix e h.nm = r at *
   go_enter Tryz.func93, Tryz.ntmps93
   go_upto_region 1 with fail
   rw [<- hW0]
   clear hW0
   generalize hB : A.heap.size = B at *
   have HBE := hid hB
   clear hB
   obtain ⟨⟨x0, x1, x2, x3, x4, x5, x6, x7, x8⟩, y0, y1, y2, y3, y4, y5, y6, y7, y8⟩ := block9 HB0.out
   obtain ⟨⟨z0, z1, z2, z3, z4, z5, z6, z7, z8⟩, t0, t1, t2, t3, t4, t5, t6, t7, t8⟩ := block9 HB1.out
   go_wp2_with fail
   refine HI.out.mono ?_; rintro x w2 ⟨rfl, rfl⟩
   go_wp2_with fail
   have hff := put9_fr W0 (B + 1) (.int .i64 h.k) (.string h.nm) (.int .i64 h.n) (.int .i64 h.tk) (.int .i64 h.tn) (.slice o1 l1 c1) (.slice o2 l2 c2) (.int .i64 h.fr) (.int .i64 h.en)
   have hbf := put9_block (a0 := .int .i64 h.k) (a1 := .string h.nm) (a2 := .int .i64 h.n) (a3 := .int .i64 h.tk) (a4 := .int .i64 h.tn) (a5 := .slice o1 l1 c1) (a6 := .slice o2 l2 c2) (a7 := .int .i64 h.fr) (a8 := .int .i64 h.en) HB1.out
   change bodyPost _ _ _ _ _ (put9 W0 (B + 1) (.int .i64 h.k) (.string h.nm) (.int .i64 h.n) (.int .i64 h.tk) (.int .i64 h.tn) (.slice o1 l1 c1) (.slice o2 l2 c2) (.int .i64 h.fr) (.int .i64 h.en))
   clear x0 x1 x2 x3 x4 x5 x6 x7 x8 y0 y1 y2 y3 y4 y5 y6 y7 y8 z0 z1 z2 z3 z4 z5 z6 z7 z8 t0 t1 t2 t3 t4 t5 t6 t7 t8
   generalize put9 W0 (B + 1) (.int .i64 h.k) (.string h.nm) (.int .i64 h.n) (.int .i64 h.tk) (.int .i64 h.tn) (.slice o1 l1 c1) (.slice o2 l2 c2) (.int .i64 h.fr) (.int .i64 h.en) = wf at *
   obtain ⟨⟨x0, x1, x2, x3, x4, x5, x6, x7, x8⟩, _⟩ := block9 hbf
   have HFIN : Hid (DoQ frS (fun x _ => x) (FJ ob) b s D e h o1 l1 c1 o2 l2 c2 A (.returned (tmv h o1 l1 c1 o2 l2 c2)) wf) := by
    have hz2 := HZ0.out
    have hB := HBE.out
    refine ⟨rfl, D, ?_, (HQ0.out.fr).trans' hff (fun k hk h => by omega), fun k hk => .inl hk⟩
    rw [HS.out]
    exact ⟨o, co, xs, blk_fr hff (by omega) HOB.out, list_fr HLN.out hff (fun k hk e => by have := (HLA.out.1.lt k hk).2; omega), by omega, HD.out⟩
   clear hff hbf
   refine bodyPost_ret (by simp [results, Tryz.results93, go_sem, x0, x1, x2, x3, x4, x5, x6, x7, x8]; rfl) rfl ?_
   exact HFIN.out
end Sc
end
end Go.Proofs.YtcninopmelmajaaGreatDoor
