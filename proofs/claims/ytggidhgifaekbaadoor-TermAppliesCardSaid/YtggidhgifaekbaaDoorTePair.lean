/-
  Terms alike: the reference's alike, same, Same and Equal. Conditions: the terms lie in memory as told.
-/
import Derived.Test.YtggidhgifaekbaaDoorTeRef
import Derived.Test.YtggidhgifaekbaaDoorTySame2
import Derived.Test.YtggidhgifaekbaaDoorTyAux
import Derived.Deep.RegionHeld3
namespace Go.Proofs.YtggidhgifaekbaaDoor
open Go.RowKit

/-- two heads alike, but for what is theirs to part by: spans and variables' numbers (all), or neither -/
def headB (all : Bool) (a b : Nd) : Bool :=
  (a.k == b.k) && (a.nm.toList == b.nm.toList) && (if all then (a.n == b.n) && ((a.fr == b.fr) && (a.en == b.en)) else (a.n == b.n) || (a.k == 1)) && sameT a.tk a.tn a.tp b.tk b.tn b.tp
def alikeT (all : Bool) (a : Nd) (p : To) (b : Nd) (q : To) : Bool := headB all a b && p.alike (headB all) q
theorem alike_cons (all : Bool) (a : Nd) (p r : To) (b : Nd) (q r' : To) : (To.cons a p r).alike (headB all) (.cons b q r') = (alikeT all a p b q && r.alike (headB all) r') := by simp [To.alike, alikeT]
theorem alike_len (all : Bool) (a : Nd) (p : To) (b : Nd) (q : To) (h : p.length ≠ q.length) : alikeT all a p b q = false := by
  unfold alikeT
  cases hh : p.alike (headB all) q
  · simp
  · exact absurd (To.alike_length _ _ _ hh) h
theorem box92 (w : World) (a : Nd) (o1 : Option Addr) (l1 c1 : Nat) (o2 : Option Addr) (l2 c2 : Nat) (b : Nd) (p1 : Option Addr) (m1 d1 : Nat) (p2 : Option Addr) (m2 d2 : Nat) (t : TypeId) (W : World) (hq : Quiet0 ((w.alloc (.cells (cells9 a o1 l1 c1 o2 l2 c2) t)).alloc (.cells (cells9 b p1 m1 d1 p2 m2 d2) t)) W) :
    Cells9 W w.heap.size 0 a o1 l1 c1 o2 l2 c2 ∧ Cells9 W (w.heap.size + 1) 0 b p1 m1 d1 p2 m2 d2 := by
  refine ⟨box9 w a o1 l1 c1 o2 l2 c2 t W ((Quiet0.alloc _ _).trans hq), ?_⟩
  have h := box9 (w.alloc (.cells (cells9 a o1 l1 c1 o2 l2 c2) t)) b p1 m1 d1 p2 m2 d2 t W hq
  have e : (w.alloc (.cells (cells9 a o1 l1 c1 o2 l2 c2) t)).heap.size = w.heap.size + 1 := by simp
  rw [e] at h
  exact h
set_option maxHeartbeats 4000000 in
theorem refAlike_any (all : Bool) (a : Nd) (p : To) (b : Nd) (q : To) (w : World) (o1 : Option Addr) (l1 c1 : Nat) (o2 : Option Addr) (l2 c2 : Nat) (p1 : Option Addr) (m1 d1 : Nat) (p2 : Option Addr) (m2 d2 : Nat) (R : Nat → Prop)
    (h1 : SlcIn R w o1 l1 a.tp) (h2 : TSlc R w o2 l2 p) (h3 : SlcIn R w p1 m1 b.tp) (h4 : TSlc R w p2 m2 q) :
    Calls Tryd.prog 111 #[tmv a o1 l1 c1 o2 l2 c2, tmv b p1 m1 d1 p2 m2 d2, .bool all] w fun e w' => e = .returned (.bool (headB all a b && (p.length == q.length))) ∧ Quiet0 w w' := by
  have HC := Lib.hid (fun (W : World) (hq : Quiet0 w W) => refSame_any a.tk a.tn a.tp b.tk b.tn b.tp W o1 l1 c1 p1 m1 d1 (h1.slc.stay hq) (h3.slc.stay hq))
  have e2 := h2.1
  have e4 := h4.1
  rw [← e2, ← e4]
  clear h1 h2 h3 h4 e2 e4
  unfold headB
  unfold tyv at HC
  generalize sameT a.tk a.tn a.tp b.tk b.tn b.tp = sb at *
  obtain ⟨ak, an, aN, atk, atn, atp, af, ae⟩ := a
  obtain ⟨bk, bn, bN, btk, btn, btp, bf, be⟩ := b
  dsimp only at *
  unfold tmv
  dsimp only
  cases hk : (ak == bk)
  · have hk' : (ak != bk) = true := by simp [bne, hk]
    cases all
    all_goals
      go_enter Tryd.func111, Tryd.ntmps111
      go_wp2_with fail
      go_ret
      exact ⟨rfl, (Quiet0.alloc _ _).trans (Quiet0.alloc _ _)⟩
  · have hk' : (ak != bk) = false := by simp [bne, hk]
    cases hn : (an.toList == bn.toList)
    · have hn' : (an.toList != bn.toList) = true := by simp [bne, hn]
      cases all
      all_goals
        go_enter Tryd.func111, Tryd.ntmps111
        go_wp2_with fail
        go_ret
        exact ⟨rfl, (Quiet0.alloc _ _).trans (Quiet0.alloc _ _)⟩
    · have hn' : (an.toList != bn.toList) = false := by simp [bne, hn]
      cases sb
      · cases all
        all_goals
          go_enter Tryd.func111, Tryd.ntmps111
          go_wp2_with fail
          refine (HC.out _ ((Quiet0.alloc _ _).trans (Quiet0.alloc _ _))).mono ?_; rintro e w1 ⟨rfl, hq1⟩
          go_wp2_with fail
          go_ret
          exact ⟨by simp, ((Quiet0.alloc _ _).trans (Quiet0.alloc _ _)).trans hq1⟩
      · cases hl : (l2 == m2)
        · have hl' : ((l2 : Int) != (m2 : Int)) = true := by
            have : l2 ≠ m2 := by simpa using hl
            simp [bne]; omega
          cases all
          all_goals
            go_enter Tryd.func111, Tryd.ntmps111
            go_wp2_with fail
            refine (HC.out _ ((Quiet0.alloc _ _).trans (Quiet0.alloc _ _))).mono ?_; rintro e w1 ⟨rfl, hq1⟩
            obtain ⟨⟨a0, a1, a2, a3, a4, a5, a6, a7, a8⟩, b0, b1, b2, b3, b4, b5, b6, b7, b8⟩ := box92 w ⟨ak, an, aN, atk, atn, atp, af, ae⟩ o1 l1 c1 o2 l2 c2 ⟨bk, bn, bN, btk, btn, btp, bf, be⟩ p1 m1 d1 p2 m2 d2 _ _ hq1
            dsimp only at *
            go_wp2_with fail
            go_ret
            exact ⟨by simp, ((Quiet0.alloc _ _).trans (Quiet0.alloc _ _)).trans hq1⟩
        · have hl' : ((l2 : Int) != (m2 : Int)) = false := by
            have : l2 = m2 := by simpa using hl
            simp [bne, this]
          cases hN : (aN == bN)
          · cases all
            · cases hk1 : (ak == 1)
              all_goals
                go_enter Tryd.func111, Tryd.ntmps111
                go_wp2_with fail
                refine (HC.out _ ((Quiet0.alloc _ _).trans (Quiet0.alloc _ _))).mono ?_; rintro e w1 ⟨rfl, hq1⟩
                obtain ⟨⟨a0, a1, a2, a3, a4, a5, a6, a7, a8⟩, b0, b1, b2, b3, b4, b5, b6, b7, b8⟩ := box92 w ⟨ak, an, aN, atk, atn, atp, af, ae⟩ o1 l1 c1 o2 l2 c2 ⟨bk, bn, bN, btk, btn, btp, bf, be⟩ p1 m1 d1 p2 m2 d2 _ _ hq1
                dsimp only at *
                go_wp2_with fail
                go_ret
                exact ⟨by simp, ((Quiet0.alloc _ _).trans (Quiet0.alloc _ _)).trans hq1⟩
            · go_enter Tryd.func111, Tryd.ntmps111
              go_wp2_with fail
              refine (HC.out _ ((Quiet0.alloc _ _).trans (Quiet0.alloc _ _))).mono ?_; rintro e w1 ⟨rfl, hq1⟩
              obtain ⟨⟨a0, a1, a2, a3, a4, a5, a6, a7, a8⟩, b0, b1, b2, b3, b4, b5, b6, b7, b8⟩ := box92 w ⟨ak, an, aN, atk, atn, atp, af, ae⟩ o1 l1 c1 o2 l2 c2 ⟨bk, bn, bN, btk, btn, btp, bf, be⟩ p1 m1 d1 p2 m2 d2 _ _ hq1
              dsimp only at *
              go_wp2_with fail
              go_ret
              exact ⟨by simp, ((Quiet0.alloc _ _).trans (Quiet0.alloc _ _)).trans hq1⟩
          · cases all
            · go_enter Tryd.func111, Tryd.ntmps111
              go_wp2_with fail
              refine (HC.out _ ((Quiet0.alloc _ _).trans (Quiet0.alloc _ _))).mono ?_; rintro e w1 ⟨rfl, hq1⟩
              obtain ⟨⟨a0, a1, a2, a3, a4, a5, a6, a7, a8⟩, b0, b1, b2, b3, b4, b5, b6, b7, b8⟩ := box92 w ⟨ak, an, aN, atk, atn, atp, af, ae⟩ o1 l1 c1 o2 l2 c2 ⟨bk, bn, bN, btk, btn, btp, bf, be⟩ p1 m1 d1 p2 m2 d2 _ _ hq1
              dsimp only at *
              go_wp2_with fail
              go_ret
              exact ⟨by simp, ((Quiet0.alloc _ _).trans (Quiet0.alloc _ _)).trans hq1⟩
            · go_enter Tryd.func111, Tryd.ntmps111
              go_wp2_with fail
              refine (HC.out _ ((Quiet0.alloc _ _).trans (Quiet0.alloc _ _))).mono ?_; rintro e w1 ⟨rfl, hq1⟩
              obtain ⟨⟨a0, a1, a2, a3, a4, a5, a6, a7, a8⟩, b0, b1, b2, b3, b4, b5, b6, b7, b8⟩ := box92 w ⟨ak, an, aN, atk, atn, atp, af, ae⟩ o1 l1 c1 o2 l2 c2 ⟨bk, bn, bN, btk, btn, btp, bf, be⟩ p1 m1 d1 p2 m2 d2 _ _ hq1
              dsimp only at *
              go_wp2_with fail
              all_goals
                go_ret
                exact ⟨by simp_all, ((Quiet0.alloc _ _).trans (Quiet0.alloc _ _)).trans hq1⟩
def RAlike (all : Bool) (a : Nd) (p : To) : Prop := ∀ (b : Nd) (q : To) (w : World) (o1 : Option Addr) (l1 c1 : Nat) (o2 : Option Addr) (l2 c2 : Nat) (p1 : Option Addr) (m1 d1 : Nat) (p2 : Option Addr) (m2 d2 : Nat) (R : Nat → Prop),
  SlcIn R w o1 l1 a.tp → TSlc R w o2 l2 p → SlcIn R w p1 m1 b.tp → TSlc R w p2 m2 q →
  Calls Tryd.prog 74 #[tmv a o1 l1 c1 o2 l2 c2, tmv b p1 m1 d1 p2 m2 d2, .bool all] w fun e w' => e = .returned (.bool (alikeT all a p b q)) ∧ Quiet0 w w'
set_option maxRecDepth 100000 in
set_option maxHeartbeats 4000000 in
theorem refSameT_any (all : Bool) (a : Nd) (p : To) : RAlike all a p := by
  refine To.ind' (T := RAlike all) ?_ a p
  intro a p ih b q w o1 l1 c1 o2 l2 c2 p1 m1 d1 p2 m2 d2 R h1 h2 h3 h4
  have HC0 := Lib.hid (fun (W : World) (hq : Quiet0 w W) => refAlike_any all a p b q W o1 l1 c1 o2 l2 c2 p1 m1 d1 p2 m2 d2 R (h1.stay hq) (h2.stay hq) (h3.stay hq) (h4.stay hq))
  have HS := Lib.hid h2
  have HS' := Lib.hid h4
  have IH := Lib.hid ih
  have HL := Lib.hid h2.1
  have HL' := Lib.hid h4.1
  have hmx := h2.2.1
  unfold maxLen at hmx
  clear h1 h2 h3 h4 ih
  obtain ⟨res, hres⟩ : ∃ res, res = alikeT all a p b q := ⟨_, rfl⟩
  have HRES := Lib.hid hres
  rw [← hres]
  clear hres
  obtain ⟨hb, hhb⟩ : ∃ hb, hb = (headB all a b && (p.length == q.length)) := ⟨_, rfl⟩
  have HHB := Lib.hid hhb
  rw [← hhb] at HC0
  clear hhb
  unfold tmv at HC0 ⊢
  obtain ⟨W0, hW0⟩ : ∃ W0, W0 = (w.alloc (.cells (cells9 a o1 l1 c1 o2 l2 c2) 35)).alloc (.cells (cells9 b p1 m1 d1 p2 m2 d2) 35) := ⟨_, rfl⟩
  have HQ0 : Hid (Quiet0 w W0) := by rw [hW0]; exact (Quiet0.alloc _ _).trans (Quiet0.alloc _ _)
  have HBB : Hid (∀ W, Quiet0 W0 W → W.cell? ⟨w.heap.size, 6, none⟩ = some (.slice o2 l2 c2) ∧ W.cell? ⟨w.heap.size + 1, 6, none⟩ = some (.slice p2 m2 d2)) := by
    intro W hq; rw [hW0] at hq
    have := box92 w a o1 l1 c1 o2 l2 c2 b p1 m1 d1 p2 m2 d2 _ W hq
    exact ⟨this.1.2.2.2.2.2.2.1, this.2.2.2.2.2.2.2.1⟩
  cases hb
  · have HF : Hid (res = false) := by
      show _ = _
      rw [HRES.out]
      have := HHB.out
      cases hh : headB all a b
      · unfold alikeT; rw [hh]; rfl
      · rw [hh] at this
        exact alike_len all a p b q (by simpa using this)
    go_enter Tryd.func74, Tryd.ntmps74
    go_wp2_with fail
    change Calls _ _ _ ((w.alloc (.cells (cells9 a o1 l1 c1 o2 l2 c2) 35)).alloc (.cells (cells9 b p1 m1 d1 p2 m2 d2) 35)) _
    rw [← hW0]
    refine (HC0.out _ HQ0.out).mono ?_; rintro e w1 ⟨rfl, hq1⟩
    clear hW0
    go_wp2_with fail
    go_ret
    exact ⟨by rw [HF.out]; rfl, HQ0.out.trans hq1⟩
  · have HR2 : Hid (res = p.alike (headB all) q) := by
      show _ = _; rw [HRES.out]
      have h := HHB.out.symm
      rw [Bool.and_eq_true] at h
      unfold alikeT; rw [h.1]; simp
    have hlen : l2 = m2 := by
      have h := HHB.out.symm
      rw [Bool.and_eq_true] at h
      have := HL.out; have := HL'.out; have := h.2; simp at this; omega
    subst hlen
    clear HRES HHB
    go_enter Tryd.func74, Tryd.ntmps74
    go_wp2_with fail
    change Calls _ _ _ ((w.alloc (.cells (cells9 a o1 l1 c1 o2 l2 c2) 35)).alloc (.cells (cells9 b p1 m1 d1 p2 l2 d2) 35)) _
    rw [← hW0]
    refine (HC0.out _ HQ0.out).mono ?_; rintro e w1 ⟨rfl, hq1⟩
    have HQ1 := Lib.hid hq1
    clear hW0 hq1
    go_wp2_with fail
    generalize w.heap.size = nb at *
    go_loopw [7] (fun t wr => ∃ (i : Nat), t = .int .i64 i ∧ i ≤ l2 ∧ res = (p.drop i).alike (headB all) (q.drop i) ∧ Quiet0 W0 wr) (fun t _ => l2 - (intOf t).toNat)
    case atStart => exact ⟨0, rfl, Nat.zero_le _, by rw [To.drop_zero, To.drop_zero]; exact HR2.out, HQ1.out⟩
    case round =>
      obtain ⟨i, rfl, hi, hr, hq⟩ := hrel
      have HR := Lib.hid hr
      have HQ := Lib.hid hq
      obtain ⟨g1, g2⟩ := HBB.out wr hq
      clear hr hq
      by_cases hlt : i < l2
      · have hlt' : (i : Int) < l2 := by omega
        obtain ⟨b1, off1, hd1, qs1, x1, y1, z1, x2, y2, z2, rfl, hdr1, hg1, hR1, ⟨e0, e1, e2, e3, e4, e5, e6, e7, e8⟩, hsl1, hts1⟩ := (HS.out.stay (HQ0.out.trans HQ.out)).nth hlt
        obtain ⟨b2, off2, hd2, qs2, u1, v1, t1, u2, v2, t2, rfl, hdr2, hg2, hR2, ⟨f0, f1, f2, f3, f4, f5, f6, f7, f8⟩, hsl2, hts2⟩ := (HS'.out.stay (HQ0.out.trans HQ.out)).nth hlt
        have HC := Lib.hid (fun (W : World) (hq : Quiet0 wr W) => IH.out i hd1 qs1 hg1 hd2 qs2 W x1 y1 z1 x2 y2 z2 u1 v1 t1 u2 v2 t2 R (hsl1.stay hq) (hts1.stay hq) (hsl2.stay hq) (hts2.stay hq))
        have HN : Hid (res = (alikeT all hd1 qs1 hd2 qs2 && (p.drop (i + 1)).alike (headB all) (q.drop (i + 1)))) := by
          show _ = _
          rw [HR.out, hdr1, hdr2, alike_cons]
        unfold tmv at HC
        clear hdr1 hg1 hsl1 hts1 hdr2 hg2 hsl2 hts2 hR1 hR2
        cases hbv : alikeT all hd1 qs1 hd2 qs2
        all_goals
          have HBV := Lib.hid hbv
          clear hbv
          go_wp2_with fail
          refine wp_region_still_tail 11 (by kernel_rfl) (by kernel_rfl) ?_
          simp only [List.take_succ_cons, List.take_zero, List.drop_succ_cons, List.drop_zero]
          change wpStill _ _ (World.drew wr) _ _ _
          repeat still_step
          refine wpStill_nil ?_
          change wpList _ _ _ _ _ (World.drew wr)
          go_wp2_with fail
          refine (HC.out _ (Quiet0.drew _)).mono ?_; rintro e w1 ⟨rfl, hq1⟩
          rw [HBV.out]
          have HQ1 := Lib.hid ((HQ.out.trans (Quiet0.drew _)).trans hq1)
          clear hq1
          go_wp2_with fail
        · go_ret
          exact ⟨by rw [HN.out, HBV.out]; rfl, HQ0.out.trans HQ1.out⟩
        · go_roundw
          case rel => exact ⟨i + 1, by go_num, by omega, by rw [HN.out, HBV.out]; rfl, HQ1.out⟩
          case measure => simp [intOf]; omega
      · have hlt' : ¬ (i : Int) < l2 := by omega
        have HY : Hid (res = true) := by
          show _ = _
          rw [HR.out, To.drop_end p i (by have := HL.out; omega), To.drop_end q i (by have := HL'.out; omega)]; rfl
        go_wp2_with fail
        go_ret
        exact ⟨by rw [HY.out]; rfl, HQ0.out.trans HQ.out⟩
end Go.Proofs.YtggidhgifaekbaaDoor
