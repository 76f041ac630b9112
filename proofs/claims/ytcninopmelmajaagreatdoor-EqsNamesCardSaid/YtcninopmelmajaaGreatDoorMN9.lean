/-
  Texts laid together (ScFreeDo, ScDo, ScFree, TeSize, TeRight, TyRefVars0, TyRefVars, TyRefVars2, TeRSound, TeRSound1): laws and walks, with their conditions.
-/
import Derived.Laws.OwnMore
import Derived.RangeFuncLeaves
import Derived.Test.YtcninopmelmajaaGreatDoorMN8
set_option maxHeartbeats 8000000
set_option maxRecDepth 1000000
namespace Go.Proofs.YtcninopmelmajaaGreatDoor
open Go.Lib (hid)
section
open Go.RowKit Go.Shelf
namespace Sc
abbrev put9at (w : World) (g off : Nat) (a0 a1 a2 a3 a4 a5 a6 a7 a8 : Value) : World :=
 ((((((((w.setCell ⟨g, off, none⟩ a0).setCell ⟨g, off + 1, none⟩ a1).setCell ⟨g, off + 2, none⟩ a2).setCell ⟨g, off + 3, none⟩ a3).setCell ⟨g, off + 4, none⟩ a4).setCell ⟨g, off + 5, none⟩ a5).setCell ⟨g, off + 6, none⟩ a6).setCell ⟨g, off + 7, none⟩ a7).setCell ⟨g, off + 8, none⟩ a8
theorem put9at_fr (w : World) (g off : Nat) (a0 a1 a2 a3 a4 a5 a6 a7 a8 : Value) : Fr (fun k => k = g) w (put9at w g off a0 a1 a2 a3 a4 a5 a6 a7 a8) :=
 ((((((((Fr.setCell (fun k => k = g) w ⟨g, off, none⟩ a0 rfl).trans (Fr.setCell (fun k => k = g) _ ⟨g, off + 1, none⟩ a1 rfl)).trans (Fr.setCell (fun k => k = g) _ ⟨g, off + 2, none⟩ a2 rfl)).trans (Fr.setCell (fun k => k = g) _ ⟨g, off + 3, none⟩ a3 rfl)).trans (Fr.setCell (fun k => k = g) _ ⟨g, off + 4, none⟩ a4 rfl)).trans (Fr.setCell (fun k => k = g) _ ⟨g, off + 5, none⟩ a5 rfl)).trans (Fr.setCell (fun k => k = g) _ ⟨g, off + 6, none⟩ a6 rfl)).trans (Fr.setCell (fun k => k = g) _ ⟨g, off + 7, none⟩ a7 rfl)).trans (Fr.setCell (fun k => k = g) _ ⟨g, off + 8, none⟩ a8 rfl)
theorem put9at_row {w : World} {base : Nat} {e : TypeId} {g m c n : Nat} {xs : List Value} {z0 z1 z2 z3 z4 z5 z6 z7 z8 : Value} (hx : xs.length = n * 9) (h : w.ownsRow base e 9 (.slice (some ⟨g, 0, none⟩) m c) m (xs ++ [z0, z1, z2, z3, z4, z5, z6, z7, z8])) (a0 a1 a2 a3 a4 a5 a6 a7 a8 : Value) :
    (put9at w g (n * 9) a0 a1 a2 a3 a4 a5 a6 a7 a8).ownsRow base e 9 (.slice (some ⟨g, 0, none⟩) m c) m (xs ++ [a0, a1, a2, a3, a4, a5, a6, a7, a8]) := by
 have h1 := ((((((((((h.stored (n * 9) a0).1.stored (n * 9 + 1) a1).1.stored (n * 9 + 2) a2).1.stored (n * 9 + 3) a3).1.stored (n * 9 + 4) a4).1.stored (n * 9 + 5) a5).1.stored (n * 9 + 6) a6).1.stored (n * 9 + 7) a7).1.stored (n * 9 + 8) a8).1)
 have key : ∀ (j : Nat) (u : Value) (ys : List Value), (xs ++ ys).set (n * 9 + j) u = xs ++ ys.set j u := fun j u ys => by
  rw [List.set_append_right _ _ (by omega), hx]; congr 2; omega
 have k0 : (xs ++ [z0, z1, z2, z3, z4, z5, z6, z7, z8]).set (n * 9) a0 = xs ++ [a0, z1, z2, z3, z4, z5, z6, z7, z8] := key 0 a0 _
 rw [k0, key, key, key, key, key, key, key, key] at h1
 exact h1
theorem row9_facts {w : World} {base : Nat} {e : TypeId} {g m c n : Nat} {xs : List Value} {z0 z1 z2 z3 z4 z5 z6 z7 z8 : Value} (hx : xs.length = n * 9) (hm : n + 1 = m) (h : w.ownsRow base e 9 (.slice (some ⟨g, 0, none⟩) m c) m (xs ++ [z0, z1, z2, z3, z4, z5, z6, z7, z8])) :
    (w.cell? ⟨g, n * 9, none⟩ = some z0 /\ w.cell? ⟨g, n * 9 + 1, none⟩ = some z1 /\ w.cell? ⟨g, n * 9 + 2, none⟩ = some z2 /\ w.cell? ⟨g, n * 9 + 3, none⟩ = some z3 /\ w.cell? ⟨g, n * 9 + 4, none⟩ = some z4 /\ w.cell? ⟨g, n * 9 + 5, none⟩ = some z5 /\ w.cell? ⟨g, n * 9 + 6, none⟩ = some z6 /\ w.cell? ⟨g, n * 9 + 7, none⟩ = some z7 /\ w.cell? ⟨g, n * 9 + 8, none⟩ = some z8) /\
    (w.frozen? ⟨g, n * 9, none⟩ = false /\ w.frozen? ⟨g, n * 9 + 1, none⟩ = false /\ w.frozen? ⟨g, n * 9 + 2, none⟩ = false /\ w.frozen? ⟨g, n * 9 + 3, none⟩ = false /\ w.frozen? ⟨g, n * 9 + 4, none⟩ = false /\ w.frozen? ⟨g, n * 9 + 5, none⟩ = false /\ w.frozen? ⟨g, n * 9 + 6, none⟩ = false /\ w.frozen? ⟨g, n * 9 + 7, none⟩ = false /\ w.frozen? ⟨g, n * 9 + 8, none⟩ = false) := by
 have key : ∀ j, j < 9 -> w.cell? ⟨g, n * 9 + j, none⟩ = [z0, z1, z2, z3, z4, z5, z6, z7, z8][j]? := fun j hj => by
  rw [h.cellAt _ (by omega), List.getElem?_append_right (by omega), hx]; congr 1; omega
 exact ⟨⟨key 0 (by omega), key 1 (by omega), key 2 (by omega), key 3 (by omega), key 4 (by omega), key 5 (by omega), key 6 (by omega), key 7 (by omega), key 8 (by omega)⟩, h.frozenAt _, h.frozenAt _, h.frozenAt _, h.frozenAt _, h.frozenAt _, h.frozenAt _, h.frozenAt _, h.frozenAt _, h.frozenAt _⟩
def FJ (ob b : Nat) (s : List Nd) (D : Nat -> Prop) (W : World) : Prop := ∃ (o : Option Addr) (c : Nat) (xs : List Value), W.heap[ob]? = some (.cells #[.slice o s.length c] 25 (0, 0)) /\ ListN (ob + 1) W o c s xs /\ s.length + b <= 300000 /\ ∀ k, D k ↔ (k = ob ∨ (Value.slice o s.length c).ownBlock = some k)
theorem freeDo_facts {W w4 : World} {ob B g4 m co : Nat} {o : Option Addr} {h : Nd} {o1 : Option Addr} {l1 c1 : Nat} {o2 : Option Addr} {l2 c2 : Nat} (hb : W.heap[ob]? = some (.cells #[.slice o m co] 25 (0, 0))) (hx : W.heap[B]? = some (.cells (cells9 h o1 l1 c1 o2 l2 c2) 29 (0, 0)))
    (hlow : ∀ k, (Value.slice o m co).ownBlock = some k -> ob + 1 <= k /\ k < B) (hz : B + 2 = W.heap.size) (hob : ob < B) (hf' : Fr (fun k => (Value.slice o m co).ownBlock = some k) W.drew w4) (hg : (Value.slice o m co).ownBlock = some g4 ∨ W.heap.size <= g4) :
    (ob ≠ g4 /\ g4 ≠ ob) /\ (B ≠ g4 /\ g4 ≠ B) /\ w4.heap[ob]? = some (.cells #[.slice o m co] 25 (0, 0)) /\ w4.heap[B]? = some (.cells (cells9 h o1 l1 c1 o2 l2 c2) 29 (0, 0)) := by
 have hf := (Fr.drew (fun k => (Value.slice o m co).ownBlock = some k) W).trans hf'
 have h1 : ob ≠ g4 := by
  rcases hg with h | h
  ·have := (hlow _ h).1; omega
  ·omega
 have h2 : B ≠ g4 := by
  rcases hg with h | h
  ·have := (hlow _ h).2; omega
  ·omega
 exact ⟨⟨h1, fun e => h1 e.symm⟩, ⟨h2, fun e => h2 e.symm⟩, blk_fr hf (fun e => by have := (hlow _ e).1; omega) hb, blk_fr hf (fun e => by have := (hlow _ e).2; omega) hx⟩
def PushQ (ob : Nat) (s : List Nd) (D : Nat -> Prop) (W0 wx : World) : Prop := ∃ (o : Option Addr) (c : Nat) (xs : List Value), wx.heap[ob]? = some (.cells #[.slice o s.length c] 25 (0, 0)) /\ ListN (ob + 1) wx o c s xs /\ Fr D W0 wx /\ ∀ k, (Value.slice o s.length c).ownBlock = some k -> D k ∨ W0.heap.size <= k
theorem push_end {W w4 wx : World} {ob g4 m co c4 : Nat} {o : Option Addr} {xs : List Value} {D : Nat -> Prop} {s : List Nd} {h : Nd} {o1 : Option Addr} {l1 c1 : Nat} {o2 : Option Addr} {l2 c2 : Nat} (hm : s.length = m) (hl : ListN (ob + 1) W o co s xs)
    (hw : wx.ownsRow 0 29 9 (.slice (some ⟨g4, 0, none⟩) (m + 1) c4) (m + 1) (xs ++ (cells9 h o1 l1 c1 o2 l2 c2).toList)) (hb : wx.heap[ob]? = some (.cells #[.slice (some ⟨g4, 0, none⟩) (m + 1) c4] 25 (0, 0)))
    (hf' : Fr (fun k => (Value.slice o m co).ownBlock = some k) W.drew w4) (hfx : Fr (fun k => k = ob ∨ k = g4) w4 wx) (hg : (Value.slice o m co).ownBlock = some g4 ∨ W.heap.size <= g4) (hob : ob < W.heap.size) (hD : ∀ k, D k ↔ (k = ob ∨ (Value.slice o m co).ownBlock = some k)) : PushQ ob (s ++ [h]) D W wx := by
 have hn : (s ++ [h]).length = m + 1 := by simp [hm]
 refine ⟨some ⟨g4, 0, none⟩, c4, xs ++ (cells9 h o1 l1 c1 o2 l2 c2).toList, by rw [hn]; exact hb, ⟨by rw [hn]; exact hw, RowN.app _ _ _ _ hl.2.1 ⟨o1, l1, c1, o2, l2, c2, [], by simp, rfl⟩, ?_⟩, ?_, ?_⟩
 ·intro k hk
  simp [Value.ownBlock] at hk
  subst hk
  rcases hg with h | h
  ·exact hl.2.2 _ (by rw [hm]; exact h)
  ·omega
 ·refine (((Fr.drew (fun k => (Value.slice o m co).ownBlock = some k) W).trans hf').mono (fun k _ h => (hD k).2 (.inr h))).trans' hfx (fun k hk h => ?_)
  rcases h with h | h
  ·exact (hD k).2 (.inl h)
  ·subst h
   rcases hg with h | h
   ·exact (hD _).2 (.inr h)
   ·omega
 ·intro k hk
  simp [Value.ownBlock] at hk
  subst hk
  rcases hg with h | h
  ·exact .inl ((hD _).2 (.inr h))
  ·exact .inr h
theorem push_end1 {W w4 : World} {ob g4 m co c4 : Nat} {o : Option Addr} {xs : List Value} {D : Nat -> Prop} {s : List Nd} {h : Nd} {o1 : Option Addr} {l1 c1 : Nat} {o2 : Option Addr} {l2 c2 : Nat} (hm : s.length = m) (hl : ListN (ob + 1) W o co s xs)
    (ho : w4.ownsRow 0 29 9 (.slice (some ⟨g4, 0, none⟩) (m + 1) c4) (m + 1) (xs ++ zero9.toList)) (hb : w4.heap[ob]? = some (.cells #[.slice o m co] 25 (0, 0))) (hne : ob ≠ g4)
    (hf' : Fr (fun k => (Value.slice o m co).ownBlock = some k) W.drew w4) (hg : (Value.slice o m co).ownBlock = some g4 ∨ W.drew.heap.size <= g4) (hob : ob < W.heap.size) (hD : ∀ k, D k ↔ (k = ob ∨ (Value.slice o m co).ownBlock = some k)) :
    PushQ ob (s ++ [h]) D W ((put9at w4 g4 (m * 9) (.int .i64 h.k) (.string h.nm) (.int .i64 h.n) (.int .i64 h.tk) (.int .i64 h.tn) (.slice o1 l1 c1) (.slice o2 l2 c2) (.int .i64 h.fr) (.int .i64 h.en)).setCell ⟨ob, 0, none⟩ (.slice (some ⟨g4, 0, none⟩) (m + 1) c4)) := by
 have hx : xs.length = m * 9 := by rw [<- hm]; exact hl.1.1
 have hfp := put9at_fr w4 g4 (m * 9) (.int .i64 h.k) (.string h.nm) (.int .i64 h.n) (.int .i64 h.tk) (.int .i64 h.tn) (.slice o1 l1 c1) (.slice o2 l2 c2) (.int .i64 h.fr) (.int .i64 h.en)
 have hr := put9at_row (n := m) hx ho (.int .i64 h.k) (.string h.nm) (.int .i64 h.n) (.int .i64 h.tk) (.int .i64 h.tn) (.slice o1 l1 c1) (.slice o2 l2 c2) (.int .i64 h.fr) (.int .i64 h.en)
 have hbo := blk_fr hfp hne hb
 exact push_end hm hl (ownsRow_fr hr (Fr.setCell (fun k => k = ob) _ _ _ rfl) (fun k hk e => by simp [Value.ownBlock] at hk; omega)) (one_setCell hbo) hf' ((hfp.mono (fun _ _ h => .inr h)).trans (Fr.setCell _ _ _ _ (.inl rfl))) hg hob hD
theorem push_end2 {W w4 : World} {ob g4 m co c4 : Nat} {o : Option Addr} {xs : List Value} {D : Nat -> Prop} {s : List Nd} {h : Nd} {o1 : Option Addr} {l1 c1 : Nat} {o2 : Option Addr} {l2 c2 : Nat} (hm : s.length = m) (hl : ListN (ob + 1) W o co s xs)
    (ho : w4.ownsRow 0 29 9 (.slice (some ⟨g4, 0, none⟩) (m + 1) c4) (m + 1) (xs ++ zero9.toList)) (hb : w4.heap[ob]? = some (.cells #[.slice o m co] 25 (0, 0))) (hne : ob ≠ g4)
    (hf' : Fr (fun k => (Value.slice o m co).ownBlock = some k) W.drew w4) (hg : (Value.slice o m co).ownBlock = some g4 ∨ W.drew.heap.size <= g4) (hob : ob < W.heap.size) (hD : ∀ k, D k ↔ (k = ob ∨ (Value.slice o m co).ownBlock = some k)) :
    PushQ ob (s ++ [h]) D W (put9at (w4.setCell ⟨ob, 0, none⟩ (.slice (some ⟨g4, 0, none⟩) (m + 1) c4)) g4 (m * 9) (.int .i64 h.k) (.string h.nm) (.int .i64 h.n) (.int .i64 h.tk) (.int .i64 h.tn) (.slice o1 l1 c1) (.slice o2 l2 c2) (.int .i64 h.fr) (.int .i64 h.en)) := by
 have hx : xs.length = m * 9 := by rw [<- hm]; exact hl.1.1
 have hfs := Fr.setCell (fun k => k = ob) w4 ⟨ob, 0, none⟩ (.slice (some ⟨g4, 0, none⟩) (m + 1) c4) rfl
 have hfp := put9at_fr (w4.setCell ⟨ob, 0, none⟩ (.slice (some ⟨g4, 0, none⟩) (m + 1) c4)) g4 (m * 9) (.int .i64 h.k) (.string h.nm) (.int .i64 h.n) (.int .i64 h.tk) (.int .i64 h.tn) (.slice o1 l1 c1) (.slice o2 l2 c2) (.int .i64 h.fr) (.int .i64 h.en)
 have hr := put9at_row (n := m) hx (ownsRow_fr ho hfs (fun k hk e => by simp [Value.ownBlock] at hk; omega)) (.int .i64 h.k) (.string h.nm) (.int .i64 h.n) (.int .i64 h.tk) (.int .i64 h.tn) (.slice o1 l1 c1) (.slice o2 l2 c2) (.int .i64 h.fr) (.int .i64 h.en)
 exact push_end hm hl hr (blk_fr hfp hne (one_setCell hb)) hf' ((hfs.mono (fun _ _ h => .inl h)).trans (hfp.mono (fun _ _ h => .inr h))) hg hob hD
theorem freeDo_any (R : Nat -> Prop) (ob : Nat) (hR : ∀ k, R k -> k < ob) : DoW 93 #[.pointer (some ⟨ob, 0, none⟩)] R ob frS (fun x _ => x) (FJ ob) where
 own := by
  rintro b s D A ⟨o, c, xs, hb, hl, hz, hd⟩ k hk
  rcases (hd k).1 hk with rfl | h
  ·exact ⟨lt_of_block hb, fun h => by have := hR _ h; omega⟩
  ·exact ⟨(hl.1.lt k h).2, fun hr => by have := hR _ hr; have := hl.2.2 k h; omega⟩
 big := by
  rintro b s D A ⟨o, c, xs, hb, _⟩
  exact Nat.le_of_lt (lt_of_block hb)
 weak := by
  rintro b b' s D A ⟨o, c, xs, hb, hl, hz, hd⟩ hle
  exact ⟨o, c, xs, hb, hl, by omega, hd⟩
 stay := by
  rintro b s D A B ⟨o, c, xs, hb, hl, hz, hd⟩ hf
  exact ⟨o, c, xs, blk_fr hf (fun h => h.2 ((hd _).2 (.inl rfl))) hb, list_fr hl hf (fun k hk h => h.2 ((hd k).2 (.inr hk))), hz, hd⟩
 call := by
  rintro b s D A T e h o1 l1 c1 o2 l2 c2 no n c ⟨o, co, xs, hb, hl, hz, hd⟩ hN hn hs hk
  obtain ⟨W0, hW0⟩ : ∃ W0, W0 = (A.alloc (.cells (cells9 h o1 l1 c1 o2 l2 c2) 29)).alloc (.cells zero9 29) := ⟨_, rfl⟩
  have HQ0 : Hid (Quiet0 A W0) := by rw [hW0]; exact (Quiet0.alloc _ _).trans (Quiet0.alloc _ _)
  have hz0 : A.heap.size + 2 = W0.heap.size := by rw [hW0]; simp
  have HZ0 := hid hz0
  have HB0 : Hid (W0.heap[A.heap.size]? = some (.cells (cells9 h o1 l1 c1 o2 l2 c2) 29 (0, 0))) := by
   show _ = _; rw [hW0, Below.heap_alloc _ _ _ (by simp)]; exact heap_alloc_new A _
  have HB1 : Hid (W0.heap[A.heap.size + 1]? = some (.cells zero9 29 (0, 0))) := by
   show _ = _; rw [hW0]
   have := heap_alloc_new (A.alloc (.cells (cells9 h o1 l1 c1 o2 l2 c2) 29)) (.cells zero9 29)
   simpa using this
  have hob := lt_of_block hb
  have hb2 := blk_fr HQ0.out (fun h => h) hb
  have HOB := hid hb2
  have HLN := hid (ListN.stay hl HQ0.out)
  have HLA := hid hl
  have HD := hid hd
  have HI := hid (index_any T e h.nm no n c W0 (hN.stay HQ0.out) (by omega))
  have HXL : Hid (xs.length = s.length * 9) := hl.1.1
  clear hb hb2 hl hd hN hs hk hz0
  unfold tmv
  by_cases hx : ix e h.nm < 0
  ·have HS : Hid (frS s h e = s ++ [h]) := by show _ = _; unfold frS; rw [if_pos hx]
   generalize ix e h.nm = r at *
   go_enter Tryz.func93, Tryz.ntmps93
   go_upto_region 1 with fail
   rw [<- hW0]
   clear hW0
   generalize hB : A.heap.size = B at *
   have HBE := hid hB
   clear hB
   obtain ⟨⟨x0, x1, x2, x3, x4, x5, x6, x7, x8⟩, y0, y1, y2, y3, y4, y5, y6, y7, y8⟩ := block9 HB0.out
   go_wp2_with fail
   refine HI.out.mono ?_; rintro x w2 ⟨rfl, rfl⟩
   go_upto_region 2 with fail
   have cob := cell_of_one HOB.out
   have fob := free_of_one HOB.out
   generalize hm : s.length = m at *
   have HM := hid hm
   clear hm
   have hlow : ∀ k, (Value.slice o m co).ownBlock = some k -> ob + 1 <= k /\ k < B := fun k hk => by have h1 := HLA.out.2.2 k (by rw [HM.out]; exact hk); have h2 := (HLA.out.1.lt k (by rw [HM.out]; exact hk)).2; have := HBE.out; omega
   have HLOW := hid hlow
   clear hlow
   have HOW15 : Hid (W0.ownsRow 0 29 9 (.slice o m co) m xs) := by have := HLN.out.1; rw [HM.out] at this; exact this
   have hA := Quiet0.alloc W0 (.cells zero9 29)
   obtain ⟨⟨xa0, xa1, xa2, xa3, xa4, xa5, xa6, xa7, xa8⟩, _⟩ := block9 (blk_after hA HB0.out)
   have coA := cell_of_one (blk_after hA HOB.out)
   clear hA
   have hi1 : (m : Int) < ((m + 1 : Nat) : Int) := by omega
   have hi2 : (m : Int) < (m : Int) + 1 := by omega
   have hi3 : (0 : Int) <= m := by omega
   have HHO : Hid (ob < W0.heap.size) := by have := HZ0.out; show _ < _; omega
   have HDD : Hid (∀ k, D k ↔ (k = ob ∨ (Value.slice o m co).ownBlock = some k)) := HD.out
   go_cut [15] (fun _ wx => PushQ ob (s ++ [h]) D W0 wx)
   case first =>
    go_region_law ((refine St.step_append_one W0.drew rfl (.tmp 11) (.tmp 14) 25 rfl 29 _ 9 112 elemTm (.slice o m co) m xs rfl ?hown zero9 rfl rfl ?c1 ?c2 ?c3 ?_); (case hown => exact HOW15.out); (case c1 => simp [Value.oneCell']); (case c2 => (unfold maxLen; omega)); (case c3 => omega); intro g4 c4 w4 ho4 hf4 hg4; obtain ⟨⟨p0, p1, p2, p3, p4, p5, p6, p7, p8⟩, r0, r1, r2, r3, r4, r5, r6, r7, r8⟩ := row9_facts (z0 := .int .i64 0) (z1 := .string ⟨#[]⟩) (z2 := .int .i64 0) (z3 := .int .i64 0) (z4 := .int .i64 0) (z5 := .slice none 0 0) (z6 := .slice none 0 0) (z7 := .int .i64 0) (z8 := .int .i64 0) HXL.out rfl ho4; have HO4 := hid ho4; have HF4 := hid hf4; have HG4 := hid hg4; clear ho4; obtain ⟨⟨ha1, ha2⟩, ⟨ha3, ha4⟩, hb4, hx4⟩ := freeDo_facts HOB.out HB0.out HLOW.out HZ0.out hob hf4 hg4; have co4 := cell_of_one hb4; have fo4 := free_of_one hb4; obtain ⟨⟨xx0, xx1, xx2, xx3, xx4, xx5, xx6, xx7, xx8⟩, _⟩ := block9 hx4; have HB4 := hid hb4; clear hb4 hx4 hf4 hg4)
    all_goals
     go_wp2_with fail
     go_meet
     first
      | with_reducible exact push_end1 HM.out HLN.out HO4.out HB4.out ha1 HF4.out HG4.out HHO.out HDD.out
      | with_reducible exact push_end2 HM.out HLN.out HO4.out HB4.out ha1 HF4.out HG4.out HHO.out HDD.out
      | with_reducible exact (push_end1 HM.out HLN.out HO4.out HB4.out ha1 HF4.out HG4.out HHO.out HDD.out).drew
      | with_reducible exact (push_end2 HM.out HLN.out HO4.out HB4.out ha1 HF4.out HG4.out HHO.out HDD.out).drew
   case rest =>
    rename World => wx
    obtain ⟨oq, cq, ys, hbq, hlq, hfq, hnq⟩ := hcut
    have hDB : ∀ k, D k -> k < B := fun k hk => by
     rcases (HDD.out k).1 hk with h | h
     ·omega
     ·exact (HLOW.out k h).2
    have hxq := blk_fr hfq (fun h => by have := hDB _ h; omega) HB0.out
    have hrq := blk_fr hfq (fun h => by have := hDB _ h; omega) HB1.out
    have HBQ := hid hbq
    have HLQ := hid hlq
    have HFQ := hid hfq
    have HNQ := hid hnq
    have HRQ := hid hrq
    have HDB := hid hDB
    clear x0 x1 x2 x3 x4 x5 x6 x7 x8 y0 y1 y2 y3 y4 y5 y6 y7 y8 cob fob xa0 xa1 xa2 xa3 xa4 xa5 xa6 xa7 xa8 coA hbq hlq hfq hnq hDB
    obtain ⟨⟨x0, x1, x2, x3, x4, x5, x6, x7, x8⟩, _⟩ := block9 hxq
    obtain ⟨⟨z0, z1, z2, z3, z4, z5, z6, z7, z8⟩, t0, t1, t2, t3, t4, t5, t6, t7, t8⟩ := block9 hrq
    clear hxq hrq
    go_wp2_with fail
    have hff := put9_fr wx (B + 1) (.int .i64 h.k) (.string h.nm) (.int .i64 h.n) (.int .i64 h.tk) (.int .i64 h.tn) (.slice o1 l1 c1) (.slice o2 l2 c2) (.int .i64 h.fr) (.int .i64 h.en)
    have hbf := put9_block (a0 := .int .i64 h.k) (a1 := .string h.nm) (a2 := .int .i64 h.n) (a3 := .int .i64 h.tk) (a4 := .int .i64 h.tn) (a5 := .slice o1 l1 c1) (a6 := .slice o2 l2 c2) (a7 := .int .i64 h.fr) (a8 := .int .i64 h.en) HRQ.out
    change bodyPost _ _ _ _ _ (put9 wx (B + 1) (.int .i64 h.k) (.string h.nm) (.int .i64 h.n) (.int .i64 h.tk) (.int .i64 h.tn) (.slice o1 l1 c1) (.slice o2 l2 c2) (.int .i64 h.fr) (.int .i64 h.en))
    clear x0 x1 x2 x3 x4 x5 x6 x7 x8 z0 z1 z2 z3 z4 z5 z6 z7 z8 t0 t1 t2 t3 t4 t5 t6 t7 t8
    generalize put9 wx (B + 1) (.int .i64 h.k) (.string h.nm) (.int .i64 h.n) (.int .i64 h.tk) (.int .i64 h.tn) (.slice o1 l1 c1) (.slice o2 l2 c2) (.int .i64 h.fr) (.int .i64 h.en) = wf at *
    obtain ⟨⟨x0, x1, x2, x3, x4, x5, x6, x7, x8⟩, _⟩ := block9 hbf
    have HFIN : Hid (DoQ frS (fun x _ => x) (FJ ob) b s D e h o1 l1 c1 o2 l2 c2 A (.returned (tmv h o1 l1 c1 o2 l2 c2)) wf) := by
     have hz2 := HZ0.out
     have hB := HBE.out
     have hnk : ∀ k, (Value.slice oq (s ++ [h]).length cq).ownBlock = some k -> k ≠ B + 1 := fun k hk => by
      rcases HNQ.out k hk with h | h
      ·have := HDB.out k h; omega
      ·omega
     refine ⟨rfl, fun k => k = ob ∨ (Value.slice oq (s ++ [h]).length cq).ownBlock = some k, ?_, ?_, ?_⟩
     ·rw [HS.out]
      refine ⟨oq, cq, ys, blk_fr hff (by omega) HBQ.out, list_fr HLQ.out hff hnk, ?_, fun k => Iff.rfl⟩
      rw [List.length_append]; have := HM.out; simp only [List.length_cons, List.length_nil]; omega
     ·exact ((HQ0.out.fr).trans HFQ.out).trans' hff (fun k hk h => by omega)
     ·intro k hk
      rcases hk with h | h
      ·exact .inl ((HDD.out k).2 (.inl h))
      ·rcases HNQ.out k h with h | h
       ·exact .inl h
       ·exact .inr (by omega)
    clear hff hbf
    refine bodyPost_ret (by simp [results, Tryz.results93, go_sem, x0, x1, x2, x3, x4, x5, x6, x7, x8]; rfl) rfl ?_
    exact HFIN.out
  ·have HS : Hid (frS s h e = s) := by show _ = _; unfold frS; rw [if_neg hx]
   generalize ix e h.nm = r at *
   go_enter Tryz.func93, Tryz.ntmps93
   go_upto_region 1 with fail
   rw [<- hW0]
   clear hW0
   generalize hB : A.heap.size = B at *
   have HBE := hid hB
   clear hB
   obtain ⟨⟨x0, x1, x2, x3, x4, x5, x6, x7, x8⟩, y0, y1, y2, y3, y4, y5, y6, y7, y8⟩ := block9 HB0.out
   obtain ⟨⟨z0, z1, z2, z3, z4, z5, z6, z7, z8⟩, t0, t1, t2, t3, t4, t5, t6, t7, t8⟩ := block9 HB1.out
   go_wp2_with fail
   refine HI.out.mono ?_; rintro x w2 ⟨rfl, rfl⟩
   go_wp2_with fail
   have hff := put9_fr W0 (B + 1) (.int .i64 h.k) (.string h.nm) (.int .i64 h.n) (.int .i64 h.tk) (.int .i64 h.tn) (.slice o1 l1 c1) (.slice o2 l2 c2) (.int .i64 h.fr) (.int .i64 h.en)
   have hbf := put9_block (a0 := .int .i64 h.k) (a1 := .string h.nm) (a2 := .int .i64 h.n) (a3 := .int .i64 h.tk) (a4 := .int .i64 h.tn) (a5 := .slice o1 l1 c1) (a6 := .slice o2 l2 c2) (a7 := .int .i64 h.fr) (a8 := .int .i64 h.en) HB1.out
   change bodyPost _ _ _ _ _ (put9 W0 (B + 1) (.int .i64 h.k) (.string h.nm) (.int .i64 h.n) (.int .i64 h.tk) (.int .i64 h.tn) (.slice o1 l1 c1) (.slice o2 l2 c2) (.int .i64 h.fr) (.int .i64 h.en))
   clear x0 x1 x2 x3 x4 x5 x6 x7 x8 y0 y1 y2 y3 y4 y5 y6 y7 y8 z0 z1 z2 z3 z4 z5 z6 z7 z8 t0 t1 t2 t3 t4 t5 t6 t7 t8
   generalize put9 W0 (B + 1) (.int .i64 h.k) (.string h.nm) (.int .i64 h.n) (.int .i64 h.tk) (.int .i64 h.tn) (.slice o1 l1 c1) (.slice o2 l2 c2) (.int .i64 h.fr) (.int .i64 h.en) = wf at *
   obtain ⟨⟨x0, x1, x2, x3, x4, x5, x6, x7, x8⟩, _⟩ := block9 hbf
   have HFIN : Hid (DoQ frS (fun x _ => x) (FJ ob) b s D e h o1 l1 c1 o2 l2 c2 A (.returned (tmv h o1 l1 c1 o2 l2 c2)) wf) := by
    have hz2 := HZ0.out
    have hB := HBE.out
    refine ⟨rfl, D, ?_, (HQ0.out.fr).trans' hff (fun k hk h => by omega), fun k hk => .inl hk⟩
    rw [HS.out]
    exact ⟨o, co, xs, blk_fr hff (by omega) HOB.out, list_fr HLN.out hff (fun k hk e => by have := (HLA.out.1.lt k hk).2; omega), by omega, HD.out⟩
   clear hff hbf
   refine bodyPost_ret (by simp [results, Tryz.results93, go_sem, x0, x1, x2, x3, x4, x5, x6, x7, x8]; rfl) rfl ?_
   exact HFIN.out
end Sc
end
section
open Go.RowKit Go.Shelf
namespace Sc
def UJ (L0 : Nat) (_ : Nat) (_ : Unit) (D : Nat -> Prop) (W : World) : Prop := L0 <= W.heap.size /\ ∀ k, ¬ D k
theorem resDo_any (R : Nat -> Prop) (L0 : Nat) : DoW 96 #[] R L0 (fun (s : Unit) _ _ => s) rsO (UJ L0) where
 own := fun b s D A h k hk => absurd hk (h.2 k)
 big := fun b s D A h => h.1
 weak := fun b b' s D A h _ => h
 stay := fun b s D A B h hf => ⟨Nat.le_trans h.1 hf.size, h.2⟩
 call := by
  rintro b s D A T e h o1 l1 c1 o2 l2 c2 no n c hJ hN hn hs hk
  obtain ⟨W0, hW0⟩ : ∃ W0, W0 = (A.alloc (.cells (cells9 h o1 l1 c1 o2 l2 c2) 29)).alloc (.cells zero9 29) := ⟨_, rfl⟩
  have HQ0 : Hid (Quiet0 A W0) := by rw [hW0]; exact (Quiet0.alloc _ _).trans (Quiet0.alloc _ _)
  have hz0 : A.heap.size + 2 = W0.heap.size := by rw [hW0]; simp
  have HZ0 := hid hz0
  have HJ := hid hJ
  have HB0 : Hid (W0.heap[A.heap.size]? = some (.cells (cells9 h o1 l1 c1 o2 l2 c2) 29 (0, 0))) := by
   show _ = _; rw [hW0, Below.heap_alloc _ _ _ (by simp)]; exact heap_alloc_new A _
  have HB1 : Hid (W0.heap[A.heap.size + 1]? = some (.cells zero9 29 (0, 0))) := by
   show _ = _; rw [hW0]
   have := heap_alloc_new (A.alloc (.cells (cells9 h o1 l1 c1 o2 l2 c2) 29)) (.cells zero9 29)
   simpa using this
  have HI := hid (index_any T e h.nm no n c W0 (hN.stay HQ0.out) (by omega))
  clear hN hs hk hz0 hJ
  unfold tmv
  by_cases hx : 0 <= ix e h.nm
  ·have HO : Hid (rsO h e = { h with n := ix e h.nm }) := by show _ = _; unfold rsO; rw [if_pos hx]
   have hx' : ix e h.nm ≥ 0 := hx
   generalize ix e h.nm = r at *
   go_enter Tryz.func96, Tryz.ntmps96
   go_upto_region 1 with fail
   rw [<- hW0]
   clear hW0
   generalize hB : A.heap.size = B at *
   have HBE := hid hB
   clear hB
   obtain ⟨⟨x0, x1, x2, x3, x4, x5, x6, x7, x8⟩, y0, y1, y2, y3, y4, y5, y6, y7, y8⟩ := block9 HB0.out
   obtain ⟨⟨z0, z1, z2, z3, z4, z5, z6, z7, z8⟩, t0, t1, t2, t3, t4, t5, t6, t7, t8⟩ := block9 HB1.out
   go_wp2_with fail
   refine HI.out.mono ?_; rintro x w2 ⟨rfl, rfl⟩
   go_wp2_with fail
   have hff := put9_fr (W0.setCell ⟨B, 2, none⟩ (.int .i64 r)) (B + 1) (.int .i64 h.k) (.string h.nm) (.int .i64 r) (.int .i64 h.tk) (.int .i64 h.tn) (.slice o1 l1 c1) (.slice o2 l2 c2) (.int .i64 h.fr) (.int .i64 h.en)
   have hbf := put9_block (a0 := .int .i64 h.k) (a1 := .string h.nm) (a2 := .int .i64 r) (a3 := .int .i64 h.tk) (a4 := .int .i64 h.tn) (a5 := .slice o1 l1 c1) (a6 := .slice o2 l2 c2) (a7 := .int .i64 h.fr) (a8 := .int .i64 h.en) (blk_fr (Fr.setCell (fun k => k = B) W0 ⟨B, 2, none⟩ (.int .i64 r) rfl) (by omega) HB1.out)
   change bodyPost _ _ _ _ _ (put9 (W0.setCell ⟨B, 2, none⟩ (.int .i64 r)) (B + 1) (.int .i64 h.k) (.string h.nm) (.int .i64 r) (.int .i64 h.tk) (.int .i64 h.tn) (.slice o1 l1 c1) (.slice o2 l2 c2) (.int .i64 h.fr) (.int .i64 h.en))
   clear x0 x1 x2 x3 x4 x5 x6 x7 x8 y0 y1 y2 y3 y4 y5 y6 y7 y8 z0 z1 z2 z3 z4 z5 z6 z7 z8 t0 t1 t2 t3 t4 t5 t6 t7 t8
   have hfw : Fr (fun k => k = B ∨ k = B + 1) W0 (W0.setCell ⟨B, 2, none⟩ (.int .i64 r)) := (Fr.setCell _ W0 ⟨B, 2, none⟩ (.int .i64 r) (.inl rfl))
   generalize put9 (W0.setCell ⟨B, 2, none⟩ (.int .i64 r)) (B + 1) (.int .i64 h.k) (.string h.nm) (.int .i64 r) (.int .i64 h.tk) (.int .i64 h.tn) (.slice o1 l1 c1) (.slice o2 l2 c2) (.int .i64 h.fr) (.int .i64 h.en) = wf at *
   obtain ⟨⟨x0, x1, x2, x3, x4, x5, x6, x7, x8⟩, _⟩ := block9 hbf
   have HFIN : Hid (DoQ (fun (s : Unit) _ _ => s) rsO (UJ L0) b s D e h o1 l1 c1 o2 l2 c2 A (.returned (.agg #[.int .i64 h.k, .string h.nm, .int .i64 r, .int .i64 h.tk, .int .i64 h.tn, .slice o1 l1 c1, .slice o2 l2 c2, .int .i64 h.fr, .int .i64 h.en])) wf) := by
    have hz2 := HZ0.out
    have hB := HBE.out
    have hfs := hff.size
    have hfz := hfw.size
    refine ⟨by rw [HO.out]; rfl, D, ⟨by have := HJ.out.1; omega, HJ.out.2⟩, ((HQ0.out.fr).trans' hfw (fun k hk h => by omega)).trans' hff (fun k hk h => by omega), fun k hk => .inl hk⟩
   clear hff hbf
   refine bodyPost_ret (by simp [results, Tryz.results96, go_sem, x0, x1, x2, x3, x4, x5, x6, x7, x8]; rfl) rfl ?_
   exact HFIN.out
  ·have HO : Hid (rsO h e = h) := by show _ = _; unfold rsO; rw [if_neg hx]
   have hx' : ¬ ix e h.nm ≥ 0 := hx
   generalize ix e h.nm = r at *
   go_enter Tryz.func96, Tryz.ntmps96
   go_upto_region 1 with fail
   rw [<- hW0]
   clear hW0
   generalize hB : A.heap.size = B at *
   have HBE := hid hB
   clear hB
   obtain ⟨⟨x0, x1, x2, x3, x4, x5, x6, x7, x8⟩, y0, y1, y2, y3, y4, y5, y6, y7, y8⟩ := block9 HB0.out
   obtain ⟨⟨z0, z1, z2, z3, z4, z5, z6, z7, z8⟩, t0, t1, t2, t3, t4, t5, t6, t7, t8⟩ := block9 HB1.out
   go_wp2_with fail
   refine HI.out.mono ?_; rintro x w2 ⟨rfl, rfl⟩
   go_wp2_with fail
   have hff := put9_fr W0 (B + 1) (.int .i64 h.k) (.string h.nm) (.int .i64 h.n) (.int .i64 h.tk) (.int .i64 h.tn) (.slice o1 l1 c1) (.slice o2 l2 c2) (.int .i64 h.fr) (.int .i64 h.en)
   have hbf := put9_block (a0 := .int .i64 h.k) (a1 := .string h.nm) (a2 := .int .i64 h.n) (a3 := .int .i64 h.tk) (a4 := .int .i64 h.tn) (a5 := .slice o1 l1 c1) (a6 := .slice o2 l2 c2) (a7 := .int .i64 h.fr) (a8 := .int .i64 h.en) HB1.out
   change bodyPost _ _ _ _ _ (put9 W0 (B + 1) (.int .i64 h.k) (.string h.nm) (.int .i64 h.n) (.int .i64 h.tk) (.int .i64 h.tn) (.slice o1 l1 c1) (.slice o2 l2 c2) (.int .i64 h.fr) (.int .i64 h.en))
   clear x0 x1 x2 x3 x4 x5 x6 x7 x8 y0 y1 y2 y3 y4 y5 y6 y7 y8 z0 z1 z2 z3 z4 z5 z6 z7 z8 t0 t1 t2 t3 t4 t5 t6 t7 t8
   have hfw : Fr (fun k => k = B ∨ k = B + 1) W0 W0 := Fr.refl _ _
   generalize put9 W0 (B + 1) (.int .i64 h.k) (.string h.nm) (.int .i64 h.n) (.int .i64 h.tk) (.int .i64 h.tn) (.slice o1 l1 c1) (.slice o2 l2 c2) (.int .i64 h.fr) (.int .i64 h.en) = wf at *
   obtain ⟨⟨x0, x1, x2, x3, x4, x5, x6, x7, x8⟩, _⟩ := block9 hbf
   have HFIN : Hid (DoQ (fun (s : Unit) _ _ => s) rsO (UJ L0) b s D e h o1 l1 c1 o2 l2 c2 A (.returned (.agg #[.int .i64 h.k, .string h.nm, .int .i64 h.n, .int .i64 h.tk, .int .i64 h.tn, .slice o1 l1 c1, .slice o2 l2 c2, .int .i64 h.fr, .int .i64 h.en])) wf) := by
    have hz2 := HZ0.out
    have hB := HBE.out
    have hfs := hff.size
    have hfz := hfw.size
    refine ⟨by rw [HO.out]; rfl, D, ⟨by have := HJ.out.1; omega, HJ.out.2⟩, ((HQ0.out.fr).trans' hfw (fun k hk h => by omega)).trans' hff (fun k hk h => by omega), fun k hk => .inl hk⟩
   clear hff hbf
   refine bodyPost_ret (by simp [results, Tryz.results96, go_sem, x0, x1, x2, x3, x4, x5, x6, x7, x8]; rfl) rfl ?_
   exact HFIN.out
end Sc
end
section
open Go.RowKit Go.Shelf
namespace Sc
theorem eg_free : ∀ args w, (callFunc 93 args).run Tryz.prog w = .ok (.enter 93 args) w := enters_of Tryz.func93 (by kernel_rfl) rfl
theorem eg_res : ∀ args w, (callFunc 96 args).run Tryz.prog w = .ok (.enter 96 args) w := enters_of Tryz.func96 (by kernel_rfl) rfl
theorem free_any (h : Nd) (ps : To) (w : World) (R : Nat -> Prop) (o1 : Option Addr) (l1 c1 : Nat) (o2 : Option Addr) (l2 c2 : Nat) (hs1 : SlcIn R w o1 l1 h.tp) (hs : TSlc R w o2 l2 ps) (hz : ps.size <= 100000) (hv : varOk h ps) (hav : allV ps) :
    Calls Tryz.prog 63 #[tmv h o1 l1 c1 o2 l2 c2] w (ListQ w (free1 [] h ps)) := by
 obtain ⟨W1, hW1⟩ : ∃ W1, W1 = (w.alloc (.cells (cells9 h o1 l1 c1 o2 l2 c2) 29)).alloc (.cells #[.slice none 0 0] 25) := ⟨_, rfl⟩
 have HQ1 : Hid (Quiet0 w W1) := by rw [hW1]; exact (Quiet0.alloc _ _).trans (Quiet0.alloc _ _)
 have hb0 : W1.heap[w.heap.size]? = some (.cells (cells9 h o1 l1 c1 o2 l2 c2) 29 (0, 0)) := by
  rw [hW1, Below.heap_alloc _ _ _ (by simp)]; exact heap_alloc_new w _
 have hb1 : W1.heap[w.heap.size + 1]? = some (.cells #[.slice none 0 0] 25 (0, 0)) := by
  rw [hW1]
  have := heap_alloc_new (w.alloc (.cells (cells9 h o1 l1 c1 o2 l2 c2) 29)) (.cells #[.slice none 0 0] 25)
  simpa using this
 have hz1 : W1.heap.size = w.heap.size + 2 := by rw [hW1]; simp
 have hJ : FJ (w.heap.size + 1) (0 + (ps.size + 1)) [] (fun k => k = w.heap.size + 1) W1 := ⟨none, 0, [], hb1, list_nil _ _, by simp; omega, fun k => by simp [Value.ownBlock]⟩
 have HC := hid (walkT_any (F := 93) (lb := #[.pointer (some ⟨w.heap.size + 1, 0, none⟩)]) (R := fun k => k < w.heap.size) (L0 := w.heap.size + 1) (stp := frS) (out := fun x _ => x) eg_free (freeDo_any _ _ (fun k hk => by omega)) (fun k hk => by omega) (fun _ _ => rfl) h ps 0 [] _ W1 (fun _ => False) [] o1 l1 c1 o2 l2 c2 none 0 0 hJ (NmIn.nil _ _ _) (Nat.le_refl _) (fun _ h => h.elim) (by omega)
  (((hs1.mono (T := fun k => k < w.heap.size) (fun k hk _ => hk)).stay HQ1.out)) (((hs.mono (T := fun k => k < w.heap.size) (fun k hk _ => hk)).stay HQ1.out)) hv hav)
 have HF : Hid ((wk1 frS (fun x _ => x) [] [] h ps).1 = free1 [] h ps) := by show _ = _; rw [wk1_free]; rfl
 obtain ⟨⟨a0, a1, a2, a3, a4, a5, a6, a7, a8⟩, _⟩ := block9 hb0
 clear hb0 hb1 hJ hs1 hs hv hav hz1
 unfold tmv at HC ⊢
 go_enter Tryz.func63, Tryz.ntmps63
 go_upto_region 2 with fail
 change Code.wp _ _ _ _ ((w.alloc (.cells (cells9 h o1 l1 c1 o2 l2 c2) 29)).alloc (.cells #[.slice none 0 0] 25))
 rw [<- hW1]
 clear hW1
 go_wp2_with fail
 refine HC.out.mono ?_; rintro x w2 ⟨r2, e2, D2, E2, rfl, ⟨o, c, xs, hb, hl, _, hd⟩, _, _, hf, _⟩
 rw [HF.out] at hb hl hd
 have cb := cell_of_one hb
 have HL := hid hl
 have HFR := hid hf
 unfold tmv
 clear hb hl hd hf a0 a1 a2 a3 a4 a5 a6 a7 a8
 go_wp2_with fail
 go_ret
 exact ⟨o, c, xs, rfl, list_low HL.out (by omega), HQ1.out.trans' HFR.out (fun k hk h => by have h' : k = w.heap.size + 1 := h; omega)⟩
theorem rsO_tp (h : Nd) (e : List ByteArray) : (rsO h e).tp = h.tp := by unfold rsO; split <;> rfl
end Sc
end
section
open Go.RowKit Go.Shelf
attribute [local go_sem] Oper.semAt_some
theorem encT_size {R : Nat -> Prop} {i : Nat} {x : Nd × To} {va : Array Value} {W : World} (h : EncT R i x va W) : va.size = 2 := by
 obtain ⟨o1, l1, c1, o2, l2, c2, rfl, _⟩ := h; rfl
end
section
open Go.RowKit Go.Shelf
attribute [local go_sem] Oper.semAt_some
def GoodH (h : Nd) : Prop := h.nm.size <= 100000 /\ h.tp.size <= 100000 /\ wfI h.tn /\ wfF h.tp
theorem soundT_any (h : Nd) (w : World) (R : Nat -> Prop) (o1 : Option Addr) (l1 c1 : Nat) (o2 : Option Addr) (l2 c2 : Nat) (hs : SlcIn R w o1 l1 h.tp) (hg : GoodH h) (hl2 : l2 <= 9223372036854775807) (ht : Lx.Spaces w) :
    Calls Tryz.prog 51 #[tmv h o1 l1 c1 o2 l2 c2] w fun e w' => e = .returned (.bool (soundB h l2)) /\ Quiet0 w w' := by
 obtain ⟨k, nm, n, tk, tn, tp0, fr, en⟩ := h
 obtain ⟨g1, g2, g3, g4⟩ := hg
 by_cases h1 : 1 <= k
 ·by_cases h2 : k <= 10
  ·exact sound_in k h1 h2 nm n tk tn tp0 fr en w o1 l1 c1 o2 l2 c2 hs.slc g1 g2 g3 g4 hl2 ht
  ·have e : soundB ⟨k, nm, n, tk, tn, tp0, fr, en⟩ l2 = false := by unfold soundB; simp [h2]
   rw [e]
   have hk1 : ¬ k < 1 := by omega
   have hk2 : 10 < k := by omega
   have HQ := hid (Quiet0.alloc w (.cells #[.int .i64 k, .string nm, .int .i64 n, .int .i64 tk, .int .i64 tn, .slice o1 l1 c1, .slice o2 l2 c2, .int .i64 fr, .int .i64 en] 29))
   clear hs g1 g2 g3 g4 ht e
   unfold tmv
   go_enter Tryz.func51, Tryz.ntmps51
   go_wp2_with fail
   go_ret
   exact ⟨rfl, HQ.out⟩
 ·have e : soundB ⟨k, nm, n, tk, tn, tp0, fr, en⟩ l2 = false := by unfold soundB; simp [h1]
  rw [e]
  have hk1 : k < 1 := by omega
  have HQ := hid (Quiet0.alloc w (.cells #[.int .i64 k, .string nm, .int .i64 n, .int .i64 tk, .int .i64 tn, .slice o1 l1 c1, .slice o2 l2 c2, .int .i64 fr, .int .i64 en] 29))
  clear hs g1 g2 g3 g4 ht e
  unfold tmv
  go_enter Tryz.func51, Tryz.ntmps51
  go_wp2_with fail
  go_ret
  exact ⟨rfl, HQ.out⟩
abbrev sndX (x : Nd × To) : Bool := soundB x.1 x.2.length
def RtI (rb : Nat) (w : World) (xs : List (Nd × To)) (i : Nat) (D : Nat -> Prop) (W : World) : Prop :=
 ((∀ k, D k ↔ k = rb) /\ W.heap[rb]? = some (.cells #[.bool false] 4 (0, 0)) /\ Quiet0 w W) /\ (xs.take i).all sndX = true
theorem RtI.fr {rb : Nat} {w : World} {xs : List (Nd × To)} {i : Nat} {D S : Nat -> Prop} {W W' : World} (h : RtI rb w xs i D W) (hf : Fr S W W') (h1 : ¬ S rb) (h2 : ∀ k, k < w.heap.size -> ¬ S k) : RtI rb w xs i D W' :=
 ⟨⟨h.1.1, (hf.block _ (lt_of_block h.1.2.1) h1).trans h.1.2.1, Fr.trans' h.1.2.2 hf (fun k hk hs => h2 k hk hs)⟩, h.2⟩
theorem rightTm_any (h : Nd) (ps : To) (w : World) (R : Nat -> Prop) (o1 : Option Addr) (l1 c1 : Nat) (o2 : Option Addr) (l2 c2 : Nat) (hs1 : SlcIn R w o1 l1 h.tp) (hs : TSlc R w o2 l2 ps) (hz : ps.size <= 100000) (hg : allT GoodH (.cons h ps .nil)) (ht : Lx.Spaces w) :
    Calls Tryz.prog 30 #[tmv h o1 l1 c1 o2 l2 c2] w fun e w' => e = .returned (.bool ((To.cons h ps .nil).flat.all sndX)) /\ Quiet0 w w' := by
 obtain ⟨xs, hxs⟩ : ∃ xs, (To.cons h ps .nil).flat = xs := ⟨_, rfl⟩
 rw [hxs]
 refine (callsIn_wide (n := 5)).1 ?_
 refine callsIn_of_wp_marks Tryz.func30 rfl trivial ?_ rfl
 simp only [Tryz.ntmps30, List.size_toArray, List.length_cons, List.length_nil, Nat.reduceAdd, Nat.reduceSub, Array.replicate_succ, Array.replicate_zero, List.push_toArray, List.append_toArray, List.nil_append, List.cons_append]
 have HC := fun W => (callsIn_wide (n := 4)).2 (all_call h o1 l1 c1 o2 l2 c2 W)
 have HT := hid ht
 have HG := hid (allT_flat _ hg)
 unfold tmv at HC ⊢
 gi_wp2_with (fail)
 refine ⟨trivial, (HC _).mono ?_⟩; rintro e W2' ⟨rfl, hW2⟩
 obtain ⟨W1, hW1⟩ : ∃ W1, W1 = ((w.alloc (.cells (cells9 h o1 l1 c1 o2 l2 c2) 29)).alloc (.cells #[.bool false] 4)) := ⟨_, rfl⟩
 have hz1 : W1.heap.size = w.heap.size + 1 + 1 := by rw [hW1]; simp
 have hq1 : Quiet0 w W1 := by rw [hW1]; exact (Quiet0.alloc _ _).trans (Quiet0.alloc _ _)
 have hb1 : W1.heap[w.heap.size + 1]? = some (.cells #[.bool false] 4 (0, 0)) := by
  rw [hW1]
  have := heap_alloc_new (w.alloc (.cells (cells9 h o1 l1 c1 o2 l2 c2) 29)) (.cells #[.bool false] 4)
  simpa using this
 have hW2' : W2' = W1.alloc (.cells (cells9 h o1 l1 c1 o2 l2 c2) 29) := by rw [hW1]; exact hW2
 have hq2 : Quiet0 w W2' := by rw [hW2']; exact hq1.trans (Quiet0.alloc _ _)
 have hb2 : W2'.heap[w.heap.size + 1]? = some (.cells #[.bool false] 4 (0, 0)) := by
  rw [hW2', Below.heap_alloc _ _ _ (by omega)]; exact hb1
 have htb : W2'.heap[W1.heap.size]? = some (.cells (cells9 h o1 l1 c1 o2 l2 c2) 29 (0, 0)) := by rw [hW2']; exact heap_alloc_new W1 _
 have hz2 : W2'.heap.size = w.heap.size + 3 := by rw [hW2']; simp; omega
 have hseq := all_seq (5 - 1) (fun k => k < w.heap.size ∨ k = W1.heap.size) h ps o1 l1 c1 o2 l2 c2 W1.heap.size W2' (fun k hk => by omega) htb (.inr rfl) ((hs1.mono (T := fun k => k < w.heap.size ∨ k = W1.heap.size) (fun k hk _ => .inl hk)).stay hq2) ((hs.mono (T := fun k => k < w.heap.size ∨ k = W1.heap.size) (fun k hk _ => .inl hk)).stay hq2) hz
 rw [hz1] at hseq
 rw [hxs] at hseq HG
 have HSEQ := hid hseq
 have HB2 := hid hb2
 have HQ2 := hid hq2
 clear hW1 hW2 hW2' hq1 hb1 hq2 hb2 htb hseq HC hxs hg ht
 gi_wp2_with (fail)
 refine wpIn_range_c (w := W2') rfl (enters_of Tryz.func83 (by kernel_rfl) rfl) HSEQ.out (fun k hk => by omega) (Fr.refl _ _) (fun i x va W he => encT_size he)
  (RtI (w.heap.size + 1) w xs)
  (fun i x a' D W => RtI (w.heap.size + 1) w xs i D W /\ ∃ (xb : Nat) (t7 t8 : Value) (p1 : Option Addr) (m1 d1 : Nat) (p2 : Option Addr) (m2 d2 : Nat), W.heap[xb]? = some (.cells (cells9 x.1 p1 m1 d1 p2 m2 d2) 29 (0, 0)) /\ xb ≠ W2'.heap.size + 1 /\ SlcIn (fun k => k < w.heap.size ∨ k = w.heap.size + 1 + 1) W p1 m1 x.1.tp /\ TSlc (fun k => k < w.heap.size ∨ k = w.heap.size + 1 + 1) W p2 m2 x.2 /\ a' = { tmps := #[.agg #[.int .i64 h.k, .string h.nm, .int .i64 h.n, .int .i64 h.tk, .int .i64 h.tn, .slice o1 l1 c1, .slice o2 l2 c2, .int .i64 h.fr, .int .i64 h.en], .pointer (some ⟨w.heap.size, 0, none⟩), .pointer (some ⟨w.heap.size + 1, 0, none⟩), undef, .pointer (some ⟨xb, 0, none⟩), .agg #[.int .i64 h.k, .string h.nm, .int .i64 h.n, .int .i64 h.tk, .int .i64 h.tn, .slice o1 l1 c1, .slice o2 l2 c2, .int .i64 h.fr, .int .i64 h.en], .func (.func 83) #[] #[.pointer (some ⟨w.heap.size + 1 + 1, 0, none⟩)], t7, t8, undef, undef, undef], defers := [] })
  (fun c W => c = .ret /\ W.heap[w.heap.size + 1]? = some (.cells #[.bool false] 4 (0, 0)) /\ Quiet0 w W /\ xs.all sndX = false) (fun k => k = w.heap.size + 1) ?own ?stay ?stayM ?stayX ?start ?assign ?body ?done ?stop
 case own =>
  rintro i D A ⟨⟨hd, hb, hq⟩, _⟩ k hk
  have e := (hd k).1 hk
  have hl := lt_of_block hb
  exact ⟨by omega, by omega, .inl (by omega)⟩
 case stay =>
  rintro i D A B hI hf
  exact hI.fr hf (fun h => h.2 ((hI.1.1 _).2 rfl)) (fun k hk h => by have := h.1; omega)
 case stayM =>
  rintro i x a' D A B ⟨hI, xb, t7, t8, p1, m1, d1, p2, m2, d2, hxb, hne, hp1, hp2, ha⟩ hf
  exact ⟨hI.fr hf (by omega) (fun k hk h => by omega), xb, t7, t8, p1, m1, d1, p2, m2, d2, blk_fr hf hne hxb, hne, hp1.fr hf (fun k _ h => ⟨h, by omega⟩), hp2.fr hf (fun k _ h => ⟨h, by omega⟩), ha⟩
 case stayX =>
  rintro c A B ⟨hc, hb, hq, hx⟩ hf
  exact ⟨hc, blk_fr hf (by omega) hb, hq.trans' hf (fun k hk h => by omega), hx⟩
 case start => exact ⟨⟨fun k => Iff.rfl, HB2.out, HQ2.out⟩, rfl⟩
 case assign =>
  rintro l i x va D W K hx ⟨p1, m1, d1, p2, m2, d2, rfl, hp1, hp2⟩ hI hWs hK
  unfold tmv
  have hq := Quiet0.alloc W (.cells (cells9 x.1 p1 m1 d1 p2 m2 d2) 29)
  have hnew := heap_alloc_new W (.cells (cells9 x.1 p1 m1 d1 p2 m2 d2) 29)
  have hne : W.heap.size ≠ W2'.heap.size + 1 := by omega
  have hI2 := hI.fr (S := fun _ => False) hq (fun h => h) (fun _ _ h => h)
  have hp1' := hp1.stay hq
  have hp2' := hp2.stay hq
  clear hI hWs
  gi_wp2
  exact hK _ _ ⟨hI2, W.heap.size, .int .i64 (i : Int), tmv x.1 p1 m1 d1 p2 m2 d2, p1, m1, d1, p2, m2, d2, hnew, hne, hp1', hp2', by simp [tmv]⟩ hq
 case body =>
  rintro l i x a' D W hx ⟨hI, xb, t7, t8, p1, m1, d1, p2, m2, d2, hxb, hne, hp1, hp2, rfl⟩ hW
  obtain ⟨a0, a1, a2, a3, a4, a5, a6, a7, a8⟩ := cells9_block hxb
  have hxm := HG.out x (List.mem_of_getElem? hx)
  have hl2 : m2 <= 9223372036854775807 := by have := hp2.2.1; unfold maxLen at this; omega
  have hCS := (callsIn_wide (n := 5 - 1 - 1)).2 (soundT_any x.1 W _ p1 m1 d1 p2 m2 d2 hp1 hxm.1 hl2 (HT.out.stay hI.1.2.2))
  have hlen : m2 = x.2.length := hp2.1
  rw [hlen] at hCS
  unfold tmv at hCS
  cases hb : soundB x.1 x.2.length
  ·rw [hb] at hCS
   gi_wp2_with (fail)
   refine ⟨trivial, (CallsIn.inRound l hCS).mono ?_⟩; rintro e w1 ⟨rfl, hq1⟩
   have hI1 := hI.fr (S := fun _ => False) hq1 (fun h => h) (fun _ _ h => h)
   have cc := cell_of_one hI1.1.2.1
   have zz := free_of_one hI1.1.2.1
   have hal : xs.all sndX = false := by
    rw [List.all_eq_false]; exact ⟨x, List.mem_of_getElem? hx, by show ¬ soundB x.1 x.2.length = true; rw [hb]; simp⟩
   gi_wp2
   have hfs := Fr.setCell (fun k => k = w.heap.size + 1) w1 ⟨w.heap.size + 1, 0, none⟩ (.bool false) rfl
   exact ⟨⟨rfl, one_setCell hI1.1.2.1, hI1.1.2.2.trans' hfs (fun k hk e => by omega), hal⟩, Fr.trans hq1.fr (hfs.mono (fun k _ e => (hI.1.1 k).2 e))⟩
  ·rw [hb] at hCS
   gi_wp2_with (fail)
   refine ⟨trivial, (CallsIn.inRound l hCS).mono ?_⟩; rintro e w1 ⟨rfl, hq1⟩
   have hI1 := hI.fr (S := fun _ => False) hq1 (fun h => h) (fun _ _ h => h)
   gi_wp2
   refine ⟨D, ⟨hI1.1, ?_⟩, hq1.fr, fun k hk => .inl hk⟩
   rw [List.take_add_one, hx, List.all_append, hI.2]
   simp [sndX, hb]
 case done =>
  rintro D W ⟨⟨hd, hb, hq⟩, hall⟩ hdef
  rw [List.take_length] at hall
  have cc := cell_of_one hb
  have zz := free_of_one hb
  gi_wp2
  have hne3 : W2'.heap.size ≠ w.heap.size + 1 := by omega
  have hd2 : (W.setCell ⟨w.heap.size + 1, 0, none⟩ (.bool true)).heap[W2'.heap.size]? = some (.deferred (some [])) := by
   rw [Below.heap_setCell _ _ _ _ (fun e => hne3 e)]; exact hdef
  refine ⟨by simp, .inl ⟨_, _, rfl, run_takeDeferred hd2, ?_⟩⟩
  have hfp := Fr.putObj (fun k => k = W2'.heap.size) (W.setCell ⟨w.heap.size + 1, 0, none⟩ (.bool true)) W2'.heap.size (.deferred none) rfl
  have cr := cell_of_one (blk_fr hfp (by omega) (one_setCell hb))
  refine ⟨_, by simp [results, Tryz.results30, go_sem, cr]; rfl, ?_, ?_⟩
  ·rw [hall]
  ·exact (hq.trans' (Fr.setCell (fun k => k = w.heap.size + 1) W ⟨w.heap.size + 1, 0, none⟩ (.bool true) rfl) (fun k hk e => by omega)).trans' hfp (fun k hk e => by omega)
 case stop =>
  rintro c W ⟨rfl, hb, hq, hx⟩ hdef
  gi_wp2
  refine ⟨by simp, .inl ⟨_, _, rfl, run_takeDeferred hdef, ?_⟩⟩
  have hfp := Fr.putObj (fun k => k = W2'.heap.size) W W2'.heap.size (.deferred none) rfl
  have cr := cell_of_one (blk_fr hfp (by omega) hb)
  refine ⟨_, by simp [results, Tryz.results30, go_sem, cr]; rfl, ?_, ?_⟩
  ·rw [hx]
  ·exact hq.trans' hfp (fun k hk e => by omega)
end
section
open Go.RowKit Go.Maps
def IntsV (w : World) (v : Value) (l : List Int) : Prop := ∃ a c, v = .slice a l.length c /\ IntsAt w a l
theorem ownsInts_v {w : World} {v : Value} {l : List Int} (h : w.ownsRow 0 3 1 v l.length (ints l)) : IntsV w v l := by
 obtain ⟨a, c, rfl, _, _, h'⟩ := IntRow.at (B := 0) ⟨h, fun _ _ => Nat.zero_le _⟩
 refine ⟨a, c, rfl, fun i x hx => ?_⟩
 obtain ⟨g, rfl, hc⟩ := row_int h' hx
 exact ⟨g, 0, rfl, by simpa using hc⟩
theorem own_empty {w : World} {b : Nat} (h : w.heap[b]? = some (.cells #[] 3 (0, 0))) : w.ownsRow 0 3 1 (.slice (some ⟨b, 0, none⟩) 0 0) ([] : List Int).length (ints []) := by
 refine ⟨rfl, .inr ⟨b, 0, #[], rfl, Nat.zero_le _, h, Nat.le_refl _, Nat.zero_le _, rfl, rfl⟩⟩
theorem run_append_nothing (w : World) (ty : TypeId) (v : Value) (n : Nat) (xs : List Value) (hown : w.ownsRow 0 3 1 v n xs) (hv : v ≠ .slice none 0 0) (o : Option Addr) (c : Nat) :
    (Builtin.append_ #[35, 35] ty #[v, .slice o 0 c]).run Tryz.prog w = .ok v w := by
 rcases hown.2 with ⟨rfl, _⟩ | ⟨g, cap, cur, rfl, _, hg, hc, hm, hs, _⟩
 ·exact absurd rfl hv
 ·obtain ⟨i0, hi, hz0, hz1, hz2⟩ := info_parts elemInt.info
  have hu := elemInt.under
  cases o <;> simp [Builtin.append_, run_underlying hu, sizeOf, typeInfo, hi, Builtin.lenOf, Builtin.firstCells, loadCells, loadCellsFrom, storeCells, hc]
end
section
open Go.RowKit Go.Maps
theorem step_ints {ops : Array Oper} {o : Oper} {a : Act} {K : Act -> World -> Prop} {Q : Exit -> Act -> World -> Prop} {E : Prop} (W : World)
    (hg : o.guard = none) (s x : Operand) (hop : o.op = Op.call { callee := Callee.builtin Builtin.append, args := #[s, x], argTypes := #[35, 35] })
    (v : Value) (xs : List Int) (hs : a.eval s = v) (hown : W.ownsRow 0 3 1 v xs.length (ints xs)) (va : Option Addr) (ys : List Int) (m c : Nat) (hm : m = ys.length) (hx : a.eval x = .slice va m c) (hat : IntsAt W va ys) (hb : xs.length + ys.length <= 1000000) (hne : v ≠ .slice none 0 0)
    (hK : ∀ v' w', w'.ownsRow 0 3 1 v' (xs ++ ys).length (ints (xs ++ ys)) -> Fr (fun k => v.ownBlock = some k) W w' -> (∀ g, v'.ownBlock = some g -> v.ownBlock = some g ∨ g = W.heap.size) -> v' ≠ .slice none 0 0 -> K (a.put o.dst v') w') :
    if Region.wanted o (yielded ops a.tmps) = true then Oper.wp Tryz.prog o a W K Q else E := by
 subst hm
 rw [if_pos (by unfold Region.wanted; rw [hg])]
 by_cases h0 : ys = []
 ·subst h0
  have hr := run_append_nothing W o.type v _ _ hown hne va c
  unfold Oper.wp execOp
  simp only [hop, resolve, invoke, builtin, Sem.run_bind, Sem.run_pure, Result.andThen_ok, List.map_toArray, List.map_cons, List.map_nil, hs, hx, List.length_nil, hr]
  exact hK v W (by simpa using hown) (Fr.refl _ _) (fun g h => .inl h) hne
 ·obtain ⟨y, r, rfl⟩ := List.exists_cons_of_ne_nil h0
  obtain ⟨b, off, rfl, _⟩ := hat 0 y rfl
  obtain ⟨i0, hi, hz0, hz1, hz2⟩ := info_parts elemInt.info
  refine wp_append_lies (P := Tryz.prog) W s x 35 hop 0 3 i0 (.int .i64 0) 1 8 elemInt.under hi hz0 hz1 hz2 (by decide) (by decide) v xs.length (ints xs) hs hown ⟨b, off, none⟩ (y :: r).length c (ints (y :: r)) hx (by simp [ints]) ?_ (by unfold ints; intro u hu; obtain ⟨z, _, rfl⟩ := List.mem_map.1 hu; rfl) (by simp) (by unfold maxLen; omega) (by omega) (Nat.zero_le _) _ rfl ?_
  ·intro j u hj
   unfold ints at hj
   rw [List.getElem?_map] at hj
   cases hz : (y :: r)[j]? with
   | none => rw [hz] at hj; cases hj
   | some z =>
    rw [hz] at hj
    cases hj
    obtain ⟨b', off', he, hc⟩ := hat j z hz
    cases he
    simpa [Addr.add_lit] using hc
  ·intro g cap w' ho hgr hg' _
   refine hK _ w' ?_ (Fr.grown hgr (fun k hk => hk)) ?_ (by simp)
   ·rw [List.length_append]; unfold ints at *; rw [List.map_append]; exact ho
   ·intro g2 h2
    simp [Value.ownBlock] at h2
    subst h2
    exact hg'
theorem ints_one {W : World} {b : Nat} {n : Int} (h : W.heap[b]? = some (.cells #[.int .i64 n] 3 (0, 0))) : IntsAt W (some ⟨b, 0, none⟩) [n] := by
 intro i x hx
 cases i with
 | zero =>
  simp at hx
  subst hx
  exact ⟨b, 0, rfl, by rw [cell_of_row _ _ _ _ _ (0, 0) h]; rfl⟩
 | succ i => simp at hx
end
section
open Go.RowKit Go.Maps
def RVars (k n : Int) (ps : Fo) : Prop := ∀ (w : World) (o : Option Addr) (len cap : Nat) (vo : Value) (L : List Int), Slc w o len ps -> IntsV w vo L -> L.length + ps.size <= 199000 + 999 ->
 Calls Tryz.prog 57 #[tyv k n o len cap, vo] w fun e w' => ∃ vo', e = .returned vo' /\ IntsV w' vo' (Fo.vars L (.cons k n ps .nil)) /\ Quiet0 w w'
theorem refVars_any (k n : Int) (ps : Fo) : RVars k n ps := by
 refine Fo.ind' (T := RVars) ?_ k n ps
 intro k n ps ih w o len cap vo L hs hv hsz
 obtain ⟨va, vc, rfl, hat⟩ := hv
 have HS := hid hs
 have HL := hid hs.1
 have hmx := hs.2.1
 unfold maxLen at hmx
 have IH := hid ih
 have HAT0 := hid hat
 obtain ⟨RES, hres⟩ : ∃ RES, RES = Fo.vars L (.cons k n ps .nil) := ⟨_, rfl⟩
 have HRES : Hid (RES = Fo.vars (varStep L k n ps) ps) := hres
 have HIN := hid (fun (W : World) (hq : Quiet0 w W) => refIn_any va L.length vc L n W (hat.stay hq) rfl (by omega))
 obtain ⟨W0, hW0⟩ : ∃ W0, W0 = w.alloc (.cells #[.int .i64 k, .int .i64 n, .slice o len cap] 24) := ⟨_, rfl⟩
 have HQ0 : Hid (Quiet0 w W0) := by rw [hW0]; exact Quiet0.alloc _ _
 have HBB : Hid (∀ W, Quiet0 W0 W -> W.cell? ⟨w.heap.size, 0, none⟩ = some (.int .i64 k) /\ W.cell? ⟨w.heap.size, 1, none⟩ = some (.int .i64 n) /\ W.cell? ⟨w.heap.size, 2, none⟩ = some (.slice o len cap)) := by
  intro W hq; rw [hW0] at hq; exact box_cells w k n o len cap _ W hq
 rw [<- hres]
 clear hs hat ih hres
 unfold tyv
 cases hk : (k == 1)
 ·have HST : Hid (varStep L k n ps = L) := by show _ = _; unfold varStep; rw [hk]; rfl
  go_enter Tryz.func57, Tryz.ntmps57
  generalize hB : w.heap.size = B at *
  go_upto_region 1 with fail
  rw [<- hW0]
  clear hW0
  obtain ⟨a0, a1, a2⟩ := HBB.out W0 (Quiet0.refl _)
  go_wp2_with fail
  go_loopw [1, 5] (fun v t wr => ∃ (i : Nat) (l : List Int), t = .int .i64 i /\ i <= len /\ IntsV wr v l /\ Fo.vars l (ps.drop i) = RES /\ l.length + (ps.drop i).size <= 200000 /\ Quiet0 W0 wr) (fun _ t _ => len - (intOf t).toNat)
  case atStart => exact ⟨0, L, rfl, Nat.zero_le _, ⟨va, vc, rfl, HAT0.out.stay HQ0.out⟩, by rw [Fo.drop_zero, HRES.out, HST.out], by rw [Fo.drop_zero]; omega, Quiet0.refl _⟩
  case round =>
   obtain ⟨i, l, rfl, hi, hv, hr, hz, hq⟩ := hrel
   have HV := hid hv
   have HR := hid hr
   have HZ := hid hz
   have HQ := hid hq
   obtain ⟨b0, b1, b2⟩ := HBB.out wr hq
   clear hv hr hz hq
   by_cases hlt : i < len
   ·have hlt' : (i : Int) < len := by omega
    obtain ⟨b, off, k1, n1, qs, o1, len1, cap1, rfl, hd, hg, e0, e1, e2, hs1⟩ := (HS.out.stay (HQ0.out.trans HQ.out)).nth hlt
    have hzz : l.length + qs.size + 1 + (ps.drop (i + 1)).size <= 200000 := by have := HZ.out; rw [hd] at this; simp only [Fo.size] at this; omega
    have HC := hid (IH.out i k1 n1 qs hg wr o1 len1 cap1 u1 l hs1 HV.out (by omega))
    have HR2 : Hid (Fo.vars (Fo.vars l (.cons k1 n1 qs .nil)) (ps.drop (i + 1)) = RES) := by
     show _ = _
     rw [<- HR.out, hd]; rfl
    have HZ2 : Hid ((Fo.vars l (.cons k1 n1 qs .nil)).length + (ps.drop (i + 1)).size <= 200000) := by
     show _ <= _
     have := vars_len (.cons k1 n1 qs .nil) l
     simp only [Fo.size] at this
     omega
    unfold tyv at HC
    generalize Fo.vars l (.cons k1 n1 qs .nil) = l2 at *
    clear hd hg hs1 hzz
    go_wp2_with fail
    refine HC.out.mono ?_; rintro e w2 ⟨v2, rfl, hv2, hq2⟩
    have HV2 := hid hv2
    have HQ2 := hid (HQ.out.trans hq2)
    clear hv2 hq2
    go_wp2_with fail
    go_roundw
    case rel => exact ⟨i + 1, l2, by go_num, by omega, HV2.out, HR2.out, HZ2.out, HQ2.out⟩
    case measure => simp [intOf]; omega
   ·have hlt' : ¬ (i : Int) < len := by omega
    have hfin : l = RES := by have := HR.out; rw [Fo.drop_end ps i (by have := HL.out; omega)] at this; exact this
    have HFIN := hid hfin
    clear hfin
    go_wp2_with fail
    go_ret
    exact ⟨_, rfl, HFIN.out ▸ HV.out, HQ0.out.trans HQ.out⟩
 ·cases hin : inB L n
  ·have HST : Hid (varStep L k n ps = L ++ [n]) := by show _ = _; unfold varStep; rw [hk, hin]; rfl
   rw [hin] at HIN
   go_enter Tryz.func57, Tryz.ntmps57
   generalize hB : w.heap.size = B at *
   go_upto_region 1 with fail
   rw [<- hW0]
   clear hW0
   obtain ⟨a0, a1, a2⟩ := HBB.out W0 (Quiet0.refl _)
   go_wp2_with fail
   refine (HIN.out _ HQ0.out).mono ?_; rintro e W1' ⟨rfl, rfl⟩
   have hq1 := Quiet0.refl W0
   have HQ1 := hid hq1
   clear a0 a1 a2
   go_upto_region 2 with fail
   obtain ⟨a0, a1, a2⟩ := HBB.out W0 hq1
   clear hq1
   have HAT := hid (HAT0.out.stay (HQ0.out.trans HQ1.out))
   have HS1 : Hid (∀ W, Quiet0 W0 W -> W.cell? ⟨B, 1, none⟩ = some (.int .i64 n)) := fun W hq => (HBB.out W (HQ1.out.trans hq)).2.1
   go_cut [1] (fun v wx => IntsV wx v (L ++ [n]) /\ Quiet0 W0 wx)
   case first =>
    have hqc := Quiet0.refl W0
    go_region_held3 (fun w' => w'.cell? ⟨B, 1, none⟩ = some (.int .i64 n))
     (((refine HS1.out _ ?_); (repeat with_reducible first | exact hqc | exact Quiet0.refl _ | refine jq ?_ | refine jr ?_)))
     (first
      | ((refine step_ints _ rfl (.tmp 16) (.tmp 17) rfl (.slice (some ⟨W0.heap.size, 0, none⟩) 0 0) [] rfl ?hown va L L.length vc rfl rfl ?hat ?hbd ?hne ?_); (case hown => ((refine own_empty ?_); (repeat (first | ((with_reducible refine blk_new _ _ _ _ ?hbe); (case hbe => (simp; done))) | with_reducible refine blk_after (Quiet0.alloc _ _) ?_ | with_reducible refine blk_drew ?_ | ((with_reducible refine blk_fr hf3 ?hbo ?_); (case hbo => (simp [Value.ownBlock]; done))) | ((with_reducible refine blk_fr hf3 ?hbo ?_); (case hbo => (simp [Value.ownBlock]; omega))) | fail)))); (case hat => (repeat (first | with_reducible exact HAT.out | with_reducible refine IntsAt.stay ?_ (Quiet0.alloc _ _) | with_reducible refine IntsAt.stay ?_ (Quiet0.drew _) | fail))); (case hbd => (simp; omega)); (case hne => simp); intro v3 w3 ho3 hf3 hg3 hn3; (refine with_fr2 (w0 := W0) ?hch hf3 ?hlo ?_); (case hch => (repeat with_reducible first | exact hqc | exact Quiet0.refl _ | refine jq ?_ | refine jr ?_)); (case hlo => (intro k hk; simp [Value.ownBlock] at hk; omega)); intro hqc hw3)
      | ((refine step_ints _ rfl (.tmp 16) (.tmp 17) rfl (.slice (some ⟨W0.heap.size + 1, 0, none⟩) 0 0) [] rfl ?hown va L L.length vc rfl rfl ?hat ?hbd ?hne ?_); (case hown => ((refine own_empty ?_); (repeat (first | ((with_reducible refine blk_new _ _ _ _ ?hbe); (case hbe => (simp; done))) | with_reducible refine blk_after (Quiet0.alloc _ _) ?_ | with_reducible refine blk_drew ?_ | ((with_reducible refine blk_fr hf3 ?hbo ?_); (case hbo => (simp [Value.ownBlock]; done))) | ((with_reducible refine blk_fr hf3 ?hbo ?_); (case hbo => (simp [Value.ownBlock]; omega))) | fail)))); (case hat => (repeat (first | with_reducible exact HAT.out | with_reducible refine IntsAt.stay ?_ (Quiet0.alloc _ _) | with_reducible refine IntsAt.stay ?_ (Quiet0.drew _) | fail))); (case hbd => (simp; omega)); (case hne => simp); intro v3 w3 ho3 hf3 hg3 hn3; (refine with_fr2 (w0 := W0) ?hch hf3 ?hlo ?_); (case hch => (repeat with_reducible first | exact hqc | exact Quiet0.refl _ | refine jq ?_ | refine jr ?_)); (case hlo => (intro k hk; simp [Value.ownBlock] at hk; omega)); intro hqc hw3)
      | ((refine step_ints _ rfl (.tmp 18) (.tmp 21) rfl v3 ([] ++ L) rfl ?hown (some ⟨W0.heap.size, 0, none⟩) [n] 1 1 rfl rfl ?hat ?hbd hn3 ?_); (case hown => (first | with_reducible exact ho3 | with_reducible exact ho3.alloc _ | fail)); (case hat => ((refine ints_one ?_); (repeat (first | ((with_reducible refine blk_new _ _ _ _ ?hbe); (case hbe => (simp; done))) | with_reducible refine blk_after (Quiet0.alloc _ _) ?_ | with_reducible refine blk_drew ?_ | ((with_reducible refine blk_fr hf3 ?hbo ?_); (case hbo => (simp [Value.ownBlock]; done))) | ((with_reducible refine blk_fr hf3 ?hbo ?_); (case hbo => (simp [Value.ownBlock]; omega))) | fail)))); (case hbd => (simp; omega)); intro v4 w4 ho4 hf4 hg4 hn4; (refine with_fr2 (w0 := W0) ?hch hf4 ?hlo ?_); (case hch => (repeat with_reducible first | exact hqc | exact Quiet0.refl _ | refine jq ?_ | refine jr ?_)); (case hlo => (intro k hk; rcases hg3 k hk with h | h; (simp [Value.ownBlock] at h; omega); (simp at h; omega))); intro hqc hw4)
      | ((refine step_ints _ rfl (.tmp 18) (.tmp 21) rfl v3 ([] ++ L) rfl ?hown (some ⟨W0.heap.size + 1, 0, none⟩) [n] 1 1 rfl rfl ?hat ?hbd hn3 ?_); (case hown => (first | with_reducible exact ho3 | with_reducible exact ho3.alloc _ | fail)); (case hat => ((refine ints_one ?_); (repeat (first | ((with_reducible refine blk_new _ _ _ _ ?hbe); (case hbe => (simp; done))) | with_reducible refine blk_after (Quiet0.alloc _ _) ?_ | with_reducible refine blk_drew ?_ | ((with_reducible refine blk_fr hf3 ?hbo ?_); (case hbo => (simp [Value.ownBlock]; done))) | ((with_reducible refine blk_fr hf3 ?hbo ?_); (case hbo => (simp [Value.ownBlock]; omega))) | fail)))); (case hbd => (simp; omega)); intro v4 w4 ho4 hf4 hg4 hn4; (refine with_fr2 (w0 := W0) ?hch hf4 ?hlo ?_); (case hch => (repeat with_reducible first | exact hqc | exact Quiet0.refl _ | refine jq ?_ | refine jr ?_)); (case hlo => (intro k hk; rcases hg3 k hk with h | h; (simp [Value.ownBlock] at h; omega); (simp at h; omega))); intro hqc hw4)
      | ((refine step_ints _ rfl (.tmp 18) (.tmp 21) rfl v3 ([] ++ L) rfl ?hown (some ⟨w3.heap.size, 0, none⟩) [n] 1 1 rfl rfl ?hat ?hbd hn3 ?_); (case hown => (first | with_reducible exact ho3 | with_reducible exact ho3.alloc _ | fail)); (case hat => ((refine ints_one ?_); (repeat (first | ((with_reducible refine blk_new _ _ _ _ ?hbe); (case hbe => (simp; done))) | with_reducible refine blk_after (Quiet0.alloc _ _) ?_ | with_reducible refine blk_drew ?_ | ((with_reducible refine blk_fr hf3 ?hbo ?_); (case hbo => (simp [Value.ownBlock]; done))) | ((with_reducible refine blk_fr hf3 ?hbo ?_); (case hbo => (simp [Value.ownBlock]; omega))) | fail)))); (case hbd => (simp; omega)); intro v4 w4 ho4 hf4 hg4 hn4; (refine with_fr2 (w0 := W0) ?hch hf4 ?hlo ?_); (case hch => (repeat with_reducible first | exact hqc | exact Quiet0.refl _ | refine jq ?_ | refine jr ?_)); (case hlo => (intro k hk; rcases hg3 k hk with h | h; (simp [Value.ownBlock] at h; omega); (simp at h; omega))); intro hqc hw4)
      | fail)
    all_goals
     go_wp2_with fail
     go_meet
     exact ⟨by have := ownsInts_v ho4; simpa using this, hqc⟩
   case rest =>
    obtain ⟨hvn, hqn⟩ := hcut
    have HVN := hid hvn
    have HQN := hid (HQ1.out.trans hqn)
    clear a0 a1 a2 hvn hqn
    go_wp2_with fail
    go_loopw [1, 5] (fun v t wr => ∃ (i : Nat) (l : List Int), t = .int .i64 i /\ i <= len /\ IntsV wr v l /\ Fo.vars l (ps.drop i) = RES /\ l.length + (ps.drop i).size <= 200000 /\ Quiet0 W0 wr) (fun _ t _ => len - (intOf t).toNat)
    case atStart => exact ⟨0, L ++ [n], rfl, Nat.zero_le _, HVN.out, by rw [Fo.drop_zero, HRES.out, HST.out], by rw [Fo.drop_zero]; simp; omega, HQN.out⟩
    case round =>
     obtain ⟨i, l, rfl, hi, hv, hr, hz, hq⟩ := hrel
     have HV := hid hv
     have HR := hid hr
     have HZ := hid hz
     have HQ := hid hq
     obtain ⟨b0, b1, b2⟩ := HBB.out wr hq
     clear hv hr hz hq
     by_cases hlt : i < len
     ·have hlt' : (i : Int) < len := by omega
      obtain ⟨b, off, k1, n1, qs, o1, len1, cap1, rfl, hd, hg, e0, e1, e2, hs1⟩ := (HS.out.stay (HQ0.out.trans HQ.out)).nth hlt
      have hzz : l.length + qs.size + 1 + (ps.drop (i + 1)).size <= 200000 := by have := HZ.out; rw [hd] at this; simp only [Fo.size] at this; omega
      have HC := hid (IH.out i k1 n1 qs hg wr o1 len1 cap1 u1 l hs1 HV.out (by omega))
      have HR2 : Hid (Fo.vars (Fo.vars l (.cons k1 n1 qs .nil)) (ps.drop (i + 1)) = RES) := by
       show _ = _
       rw [<- HR.out, hd]; rfl
      have HZ2 : Hid ((Fo.vars l (.cons k1 n1 qs .nil)).length + (ps.drop (i + 1)).size <= 200000) := by
       show _ <= _
       have := vars_len (.cons k1 n1 qs .nil) l
       simp only [Fo.size] at this
       omega
      unfold tyv at HC
      generalize Fo.vars l (.cons k1 n1 qs .nil) = l2 at *
      clear hd hg hs1 hzz
      go_wp2_with fail
      refine HC.out.mono ?_; rintro e w2 ⟨v2, rfl, hv2, hq2⟩
      have HV2 := hid hv2
      have HQ2 := hid (HQ.out.trans hq2)
      clear hv2 hq2
      go_wp2_with fail
      go_roundw
      case rel => exact ⟨i + 1, l2, by go_num, by omega, HV2.out, HR2.out, HZ2.out, HQ2.out⟩
      case measure => simp [intOf]; omega
     ·have hlt' : ¬ (i : Int) < len := by omega
      have hfin : l = RES := by have := HR.out; rw [Fo.drop_end ps i (by have := HL.out; omega)] at this; exact this
      have HFIN := hid hfin
      clear hfin
      go_wp2_with fail
      go_ret
      exact ⟨_, rfl, HFIN.out ▸ HV.out, HQ0.out.trans HQ.out⟩
  ·have HST : Hid (varStep L k n ps = L) := by show _ = _; unfold varStep; rw [hk, hin]; rfl
   rw [hin] at HIN
   go_enter Tryz.func57, Tryz.ntmps57
   generalize hB : w.heap.size = B at *
   go_upto_region 1 with fail
   rw [<- hW0]
   clear hW0
   obtain ⟨a0, a1, a2⟩ := HBB.out W0 (Quiet0.refl _)
   go_wp2_with fail
   refine (HIN.out _ HQ0.out).mono ?_; rintro e W1' ⟨rfl, rfl⟩
   have hq1 := Quiet0.refl W0
   have HQ1 := hid hq1
   clear a0 a1 a2 hq1
   go_wp2_with fail
   go_loopw [1, 5] (fun v t wr => ∃ (i : Nat) (l : List Int), t = .int .i64 i /\ i <= len /\ IntsV wr v l /\ Fo.vars l (ps.drop i) = RES /\ l.length + (ps.drop i).size <= 200000 /\ Quiet0 W0 wr) (fun _ t _ => len - (intOf t).toNat)
   case atStart => exact ⟨0, L, rfl, Nat.zero_le _, ⟨va, vc, rfl, HAT0.out.stay (HQ0.out.trans HQ1.out)⟩, by rw [Fo.drop_zero, HRES.out, HST.out], by rw [Fo.drop_zero]; omega, HQ1.out⟩
   case round =>
    obtain ⟨i, l, rfl, hi, hv, hr, hz, hq⟩ := hrel
    have HV := hid hv
    have HR := hid hr
    have HZ := hid hz
    have HQ := hid hq
    obtain ⟨b0, b1, b2⟩ := HBB.out wr hq
    clear hv hr hz hq
    by_cases hlt : i < len
    ·have hlt' : (i : Int) < len := by omega
     obtain ⟨b, off, k1, n1, qs, o1, len1, cap1, rfl, hd, hg, e0, e1, e2, hs1⟩ := (HS.out.stay (HQ0.out.trans HQ.out)).nth hlt
     have hzz : l.length + qs.size + 1 + (ps.drop (i + 1)).size <= 200000 := by have := HZ.out; rw [hd] at this; simp only [Fo.size] at this; omega
     have HC := hid (IH.out i k1 n1 qs hg wr o1 len1 cap1 u1 l hs1 HV.out (by omega))
     have HR2 : Hid (Fo.vars (Fo.vars l (.cons k1 n1 qs .nil)) (ps.drop (i + 1)) = RES) := by
      show _ = _
      rw [<- HR.out, hd]; rfl
     have HZ2 : Hid ((Fo.vars l (.cons k1 n1 qs .nil)).length + (ps.drop (i + 1)).size <= 200000) := by
      show _ <= _
      have := vars_len (.cons k1 n1 qs .nil) l
      simp only [Fo.size] at this
      omega
     unfold tyv at HC
     generalize Fo.vars l (.cons k1 n1 qs .nil) = l2 at *
     clear hd hg hs1 hzz
     go_wp2_with fail
     refine HC.out.mono ?_; rintro e w2 ⟨v2, rfl, hv2, hq2⟩
     have HV2 := hid hv2
     have HQ2 := hid (HQ.out.trans hq2)
     clear hv2 hq2
     go_wp2_with fail
     go_roundw
     case rel => exact ⟨i + 1, l2, by go_num, by omega, HV2.out, HR2.out, HZ2.out, HQ2.out⟩
     case measure => simp [intOf]; omega
    ·have hlt' : ¬ (i : Int) < len := by omega
     have hfin : l = RES := by have := HR.out; rw [Fo.drop_end ps i (by have := HL.out; omega)] at this; exact this
     have HFIN := hid hfin
     clear hfin
     go_wp2_with fail
     go_ret
     exact ⟨_, rfl, HFIN.out ▸ HV.out, HQ0.out.trans HQ.out⟩
end
section
open Go.RowKit Go.Shelf
theorem refNamed_any (k : Int) (w : World) : Calls Tryz.prog 54 #[.int .i64 k] w fun e w' => e = .returned (.bool (kName k)) /\ Quiet0 w w' := by
 unfold kName
 cases h1 : (k == 1) <;> cases h4 : (k == 4) <;> cases h6 : (k == 6) <;> cases h7 : (k == 7)
 all_goals
  go_enter Tryz.func54, Tryz.ntmps54
  go_wp2_with fail
  go_ret
  exact ⟨by simp, Quiet0.refl _⟩
structure SndC (h : Nd) (W0 : World) (o1 : Option Addr) (l1 c1 : Nat) (o2 : Option Addr) (l2 c2 : Nat) (nb : Nat) : Prop where
 box : ∀ W, Quiet0 W0 W -> Cells9 W nb 0 h o1 l1 c1 o2 l2 c2
 named : ∀ W, Calls Tryz.prog 54 #[.int .i64 h.k] W fun e w' => e = .returned (.bool (kName h.k)) /\ Quiet0 W w'
 name : ∀ W, Calls Tryz.prog 55 #[.string h.nm] W fun e w' => e = .returned (.bool (Lx.nameB h.nm.data.toList)) /\ Quiet0 W w'
 right : ∀ W, Quiet0 W0 W -> Calls Tryz.prog 56 #[.agg #[.int .i64 h.tk, .int .i64 h.tn, .slice o1 l1 c1]] W fun e w' => e = .returned (.bool (rightT h.tk h.tn h.tp)) /\ Quiet0 W w'
 vars : ∀ W, Quiet0 W0 W -> Calls Tryz.prog 57 #[.agg #[.int .i64 h.tk, .int .i64 h.tn, .slice o1 l1 c1], .slice none 0 0] W fun e w' => ∃ va vc, e = .returned (.slice va (Fo.vars [] (.cons h.tk h.tn h.tp .nil)).length vc) /\ Quiet0 W w'
 same : ∀ W, Quiet0 W0 W -> Calls Tryz.prog 38 #[.agg #[.int .i64 h.tk, .int .i64 h.tn, .slice o1 l1 c1], .agg #[.int .i64 0, .int .i64 0, .slice none 0 0]] W fun e w' => e = .returned (.bool (sameT h.tk h.tn h.tp 0 0 .nil)) /\ Quiet0 W w'
theorem sndC_of (h : Nd) (w : World) (R : Nat -> Prop) (o1 : Option Addr) (l1 c1 : Nat) (o2 : Option Addr) (l2 c2 : Nat) (hs : SlcIn R w o1 l1 h.tp) (hnm : h.nm.size <= 100000) (htz : h.tp.size <= 100000) :
    SndC h (w.alloc (.cells (cells9 h o1 l1 c1 o2 l2 c2) 29)) o1 l1 c1 o2 l2 c2 w.heap.size := by
 have hq0 := Quiet0.alloc w (.cells (cells9 h o1 l1 c1 o2 l2 c2) 29)
 refine ⟨fun W hq => box9 w h o1 l1 c1 o2 l2 c2 _ W hq, fun W => refNamed_any h.k W, fun W => Lx.refName_any h.nm hnm W, fun W hq => refRight_any h.tk h.tn h.tp W o1 l1 c1 (hs.slc.stay (hq0.trans hq)), fun W hq => ?_, fun W hq => refSame_any h.tk h.tn h.tp 0 0 .nil W o1 l1 c1 none 0 0 (hs.slc.stay (hq0.trans hq)) (Slc.nil _ _)⟩
 refine (refVars_any h.tk h.tn h.tp W o1 l1 c1 (.slice none 0 0) [] (hs.slc.stay (hq0.trans hq)) ⟨none, 0, rfl, ?_⟩ (by simp; omega)).mono ?_
 ·intro i x h; simp at h
 ·rintro e w' ⟨vo, rfl, ⟨va, vc, rfl, _⟩, hq⟩
  exact ⟨va, vc, rfl, hq⟩
end
section
open Go.RowKit Go.Shelf
theorem refSound_1 (nm : ByteArray) (n tk tn : Int) (tp : Fo) (fr en : Int) (w : World) (o1 : Option Addr) (l1 c1 : Nat) (o2 : Option Addr) (l2 c2 : Nat) (hw : wfI n)
    (SC : SndC ⟨1, nm, n, tk, tn, tp, fr, en⟩ (w.alloc (.cells (cells9 ⟨1, nm, n, tk, tn, tp, fr, en⟩ o1 l1 c1 o2 l2 c2) 29)) o1 l1 c1 o2 l2 c2 w.heap.size) :
    Calls Tryz.prog 34 #[tmv ⟨1, nm, n, tk, tn, tp, fr, en⟩ o1 l1 c1 o2 l2 c2] w fun e w' => e = .returned (.bool (soundB ⟨1, nm, n, tk, tn, tp, fr, en⟩ l2)) /\ Quiet0 w w' := by
 have HSC := hid SC
 have HW := hid hw
 have HN : Hid (∀ W, Calls Tryz.prog 54 #[.int .i64 1] W fun e w' => e = .returned (.bool true) /\ Quiet0 W w') := SC.named
 obtain ⟨W0, hW0⟩ : ∃ W0, W0 = w.alloc (.cells (cells9 ⟨1, nm, n, tk, tn, tp, fr, en⟩ o1 l1 c1 o2 l2 c2) 29) := ⟨_, rfl⟩
 have HQ0 : Hid (Quiet0 w W0) := by rw [hW0]; exact Quiet0.alloc _ _
 clear SC hw
 rw [<- hW0] at HSC
 unfold tmv
 go_enter Tryz.func34, Tryz.ntmps34
 go_upto_region 1 with fail
 change Code.wp _ _ _ _ (w.alloc (.cells (cells9 ⟨1, nm, n, tk, tn, tp, fr, en⟩ o1 l1 c1 o2 l2 c2) 29))
 rw [<- hW0]
 clear hW0
 generalize w.heap.size = B at *
 obtain ⟨x0, x1, x2, x3, x4, x5, x6, x7, x8⟩ := HSC.out.box W0 (Quiet0.refl _)
 dsimp only at x0 x1 x2 x3 x4 x5 x6 x7 x8
 go_quiet (fail)
 go_wp2_with fail
 refine (HN.out _).mono ?_; rintro e w1 ⟨rfl, hq1⟩
 have HQ1 : Hid (Quiet0 W0 w1) := Quiet0.trans (Fr.drewN _ _ _) hq1
 clear x0 x1 x2 x3 x4 x5 x6 x7 x8 hq1
 obtain ⟨x0, x1, x2, x3, x4, x5, x6, x7, x8⟩ := HSC.out.box w1 HQ1.out
 dsimp only at x0 x1 x2 x3 x4 x5 x6 x7 x8
 cases hA : Lx.nameB nm.data.toList
 ·have HNM := hid HSC.out.name
  rw [hA] at HNM
  go_wp2_with fail
  refine (HNM.out _).mono ?_; rintro e w2 ⟨rfl, hq2⟩
  go_wp2_with fail
  go_ret
  exact ⟨by simp [soundB, namedB, kName, hA], HQ0.out.trans (HQ1.out.trans hq2)⟩
 ·have HNM := hid HSC.out.name
  rw [hA] at HNM
  have HNA := hid hA
  clear hA
  go_wp2_with fail
  refine (HNM.out _).mono ?_; rintro e w2 ⟨rfl, hq2⟩
  have HQ2 := hid (HQ1.out.trans hq2)
  clear x0 x1 x2 x3 x4 x5 x6 x7 x8 hq2
  go_wp2_with fail
  refine (HN.out _).mono ?_; rintro e w3 ⟨rfl, hq3⟩
  have HQ3 := hid (HQ2.out.trans hq3)
  clear hq3
  obtain ⟨x0, x1, x2, x3, x4, x5, x6, x7, x8⟩ := HSC.out.box w3 HQ3.out
  dsimp only at x0 x1 x2 x3 x4 x5 x6 x7 x8
  have HSM := hid HSC.out.same
  cases hT : sameT tk tn tp 0 0 .nil
  ·rw [hT] at HSM
   go_wp2_with fail
   refine (HSM.out _ HQ3.out).mono ?_; rintro e w4 ⟨rfl, hq4⟩
   go_wp2_with fail
   go_ret
   exact ⟨by simp [soundB, typedB, hT], HQ0.out.trans (HQ3.out.trans hq4)⟩
  ·rw [hT] at HSM
   have HTY := hid hT
   clear hT
   go_wp2_with fail
   refine (HSM.out _ HQ3.out).mono ?_; rintro e w4 ⟨rfl, hq4⟩
   have HQ4 := hid (HQ3.out.trans hq4)
   clear x0 x1 x2 x3 x4 x5 x6 x7 x8 hq4
   obtain ⟨x0, x1, x2, x3, x4, x5, x6, x7, x8⟩ := HSC.out.box w4 HQ4.out
   dsimp only at x0 x1 x2 x3 x4 x5 x6 x7 x8
   by_cases hn : n < 0
   ·go_wp2_with fail
    go_ret
    exact ⟨by simp [soundB]; omega, HQ0.out.trans HQ4.out⟩
   ·have hwn : n <= 9223372036854775807 := by have := HW.out; unfold wfI at this; simp only [Lit.wf, IntKind.min, IntKind.max, IntKind.signed, IntKind.bits, Bool.and_eq_true, decide_eq_true_eq, if_true] at this; omega
    go_wp2_with fail
    all_goals
     go_ret
     refine ⟨?_, HQ0.out.trans HQ4.out⟩
     have h1 := HNA.out
     have h2 := HTY.out
     refine congrArg (fun b => Ending.returned (Value.bool b)) ?_
     rw [Bool.eq_iff_iff]
     simp [soundB, namedB, typedB, kName, kTop, kLeast, kMost, h1, h2]
     omega
end
end Go.Proofs.YtcninopmelmajaaGreatDoor
