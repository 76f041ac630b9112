/-
  Texts laid together (ScRenLaw, ScOpenS, TeLaid, ScMeans0): laws and walks, with their conditions in their statements.
-/
import Derived.LaidMore
import Derived.Stop.Joined
import Derived.LaidLaws
import Derived.Lib.LaidTab
import Derived.Stop.LaidErr
import Derived.Test.YtnfodiedalhlhaaDoorRN25
import Derived.Test.YtnfodiedalhlhaaDoorRN26
section
namespace Go.Proofs.YtnfodiedalhlhaaDoor
open Go.RowKit Go.Shelf
namespace Sc
set_option maxRecDepth 100000 in
set_option maxHeartbeats 4000000 in
theorem rl_early (h : Nd) (ps : To) (w : World) (o1 : Option Addr) (l1 c1 : Nat) (o2 : Option Addr) (l2 c2 : Nat) (lo : Option Addr) (lc : Nat) (l : List ByteArray) (h1 : SlcIn (Low w) w o1 l1 h.tp) (h2 : TSlc (Low w) w o2 l2 ps) (ho : OkO h) (hop : allT OkO ps) (ht : Lx.Spaces w) (hx : greatTm h ps = true ∨ 60 < l.length) :
    Calls Tryd.prog 6 #[tmv h o1 l1 c1 o2 l2 c2, .slice lo l.length lc] w fun e w' => e = .returned (.bool true) ∧ Quiet0 w w' := by
  obtain ⟨W0, hW0⟩ : ∃ W0, W0 = w.alloc (.cells (cells9 h o1 l1 c1 o2 l2 c2) 30) := ⟨_, rfl⟩
  have hq0 : Quiet0 w W0 := by rw [hW0]; exact Quiet0.alloc _ _
  have HQ0 := Lib.hid hq0
  have HB : Hid (∀ W, Quiet0 W0 W → (W.cell? ⟨w.heap.size, 0, none⟩ = some (.int .i64 h.k) ∧ W.cell? ⟨w.heap.size, 1, none⟩ = some (.string h.nm) ∧ W.cell? ⟨w.heap.size, 2, none⟩ = some (.int .i64 h.n) ∧ W.cell? ⟨w.heap.size, 3, none⟩ = some (.int .i64 h.tk) ∧ W.cell? ⟨w.heap.size, 4, none⟩ = some (.int .i64 h.tn) ∧ W.cell? ⟨w.heap.size, 5, none⟩ = some (.slice o1 l1 c1) ∧ W.cell? ⟨w.heap.size, 6, none⟩ = some (.slice o2 l2 c2) ∧ W.cell? ⟨w.heap.size, 7, none⟩ = some (.int .i64 h.fr) ∧ W.cell? ⟨w.heap.size, 8, none⟩ = some (.int .i64 h.en))) := by
    intro W hq; rw [hW0] at hq; exact box9 w h o1 l1 c1 o2 l2 c2 _ W hq
  have HG : Hid (∀ W, Quiet0 W0 W → Calls Tryd.prog 15 #[tmv h o1 l1 c1 o2 l2 c2] W fun e w' => e = .returned (.bool (greatTm h ps)) ∧ Quiet0 W w') := fun W hq => great8_any h ps w W o1 l1 c1 o2 l2 c2 h1 h2 ho hop (hq0.trans hq)
  have HA : Hid (∀ W, Quiet0 W0 W → Calls Tryd.prog 11 #[] W fun e w' => e = .returned (.bool true) ∧ Quiet0 W w') := fun W hq => awake8_any W (ht.stay (hq0.trans hq))
  have HX := Lib.hid hx
  clear h1 h2 ho hop ht hq0 hx
  unfold tmv at HG ⊢
  generalize greatTm h ps = g at *
  generalize l.length = ln at *
  go_enter Tryd.func6, Tryd.ntmps6
  go_upto_region 1 with fail
  rw [← hW0]
  clear hW0
  generalize hBB : w.heap.size = B at *
  clear hBB
  obtain ⟨a0, a1, a2, a3, a4, a5, a6, a7, a8⟩ := HB.out W0 (Quiet0.refl _)
  go_wp2_with fail
  refine (HG.out _ (Quiet0.refl _)).mono ?_; rintro x w1 ⟨rfl, hq1⟩
  clear a0 a1 a2 a3 a4 a5 a6 a7 a8
  obtain ⟨a0, a1, a2, a3, a4, a5, a6, a7, a8⟩ := HB.out w1 hq1
  have HQ1 := Lib.hid hq1
  clear hq1
  cases g
  case true =>
    go_wp2_with fail
    refine (HA.out _ HQ1.out).mono ?_; rintro x w2 ⟨rfl, hq2⟩
    have HQ2 := Lib.hid hq2
    clear hq2
    go_wp2_with fail
    go_ret
    exact ⟨rfl, HQ0.out.trans (HQ1.out.trans HQ2.out)⟩
  case false =>
    by_cases hl : (60 : Int) < (ln : Int)
    · go_wp2_with fail
      refine (HA.out _ HQ1.out).mono ?_; rintro x w2 ⟨rfl, hq2⟩
      have HQ2 := Lib.hid hq2
      clear hq2
      go_wp2_with fail
      go_ret
      exact ⟨rfl, HQ0.out.trans (HQ1.out.trans HQ2.out)⟩
    · exfalso
      rcases HX.out with h | h
      · cases h
      · omega
set_option maxRecDepth 100000 in
set_option maxHeartbeats 8000000 in
theorem rl_main (h : Nd) (ps : To) (w : World) (o1 : Option Addr) (l1 c1 : Nat) (o2 : Option Addr) (l2 c2 : Nat) (lo : Option Addr) (lc : Nat) (l : List ByteArray) (h1 : SlcIn (Low w) w o1 l1 h.tp) (h2 : TSlc (Low w) w o2 l2 ps) (ho : OkO h) (hop : allT OkO ps) (hL : Sc.StrT (Low w) w lo l) (hlc : l.length ≤ lc) (ht : Lx.Spaces w) (hg : greatTm h ps = false) (hll : l.length ≤ 60) :
    Calls Tryd.prog 6 #[tmv h o1 l1 c1 o2 l2 c2, .slice lo l.length lc] w fun e w' => e = .returned (.bool true) ∧ Quiet0 w w' := by
  have hsm := Sc.small_of hg ho hop
  obtain ⟨W0, hW0⟩ : ∃ W0, W0 = w.alloc (.cells (cells9 h o1 l1 c1 o2 l2 c2) 30) := ⟨_, rfl⟩
  have hq0 : Quiet0 w W0 := by rw [hW0]; exact Quiet0.alloc _ _
  have HQ0 := Lib.hid hq0
  have HB : Hid (∀ W, Quiet0 W0 W → (W.cell? ⟨w.heap.size, 0, none⟩ = some (.int .i64 h.k) ∧ W.cell? ⟨w.heap.size, 1, none⟩ = some (.string h.nm) ∧ W.cell? ⟨w.heap.size, 2, none⟩ = some (.int .i64 h.n) ∧ W.cell? ⟨w.heap.size, 3, none⟩ = some (.int .i64 h.tk) ∧ W.cell? ⟨w.heap.size, 4, none⟩ = some (.int .i64 h.tn) ∧ W.cell? ⟨w.heap.size, 5, none⟩ = some (.slice o1 l1 c1) ∧ W.cell? ⟨w.heap.size, 6, none⟩ = some (.slice o2 l2 c2) ∧ W.cell? ⟨w.heap.size, 7, none⟩ = some (.int .i64 h.fr) ∧ W.cell? ⟨w.heap.size, 8, none⟩ = some (.int .i64 h.en))) := by
    intro W hq; rw [hW0] at hq; exact box9 w h o1 l1 c1 o2 l2 c2 _ W hq
  have HG : Hid (∀ W, Quiet0 W0 W → Calls Tryd.prog 15 #[tmv h o1 l1 c1 o2 l2 c2] W fun e w' => e = .returned (.bool false) ∧ Quiet0 W w') := fun W hq => by
    have := great8_any h ps w W o1 l1 c1 o2 l2 c2 h1 h2 ho hop (hq0.trans hq)
    rw [hg] at this; exact this
  have HA : Hid (∀ W, Quiet0 W0 W → Calls Tryd.prog 11 #[] W fun e w' => e = .returned (.bool true) ∧ Quiet0 W w') := fun W hq => awake8_any W (ht.stay (hq0.trans hq))
  have HR : Hid (∀ W, Quiet0 W0 W → Calls Tryd.prog 16 #[tmv h o1 l1 c1 o2 l2 c2] W fun e w' => e = .returned (.bool (RT h ps)) ∧ Quiet0 W w') := fun W hq => refRightT_any h ps W _ o1 l1 c1 o2 l2 c2 (h1.stay (hq0.trans hq)) (h2.stay (hq0.trans hq)) hsm.right.1 hsm.right.2
  have HRN : Hid ((∀ s ∈ l, s.size ≤ 60) → ∀ W, Quiet0 W0 W → Calls Tryd.prog 26 #[tmv h o1 l1 c1 o2 l2 c2, .slice lo l.length lc] W (TmQ W (renS h ps l).1 (renS h ps l).2)) := fun hs W hq => srename_any h ps W (Low w) (Low w) o1 l1 c1 o2 l2 c2 lo lc l (h1.stay (hq0.trans hq)) (h2.stay (hq0.trans hq)) (by have := hsm.size; omega) hsm.good (hL.stay (hq0.trans hq)) (by omega) (fun s h => by have := hs s h; omega) (ht.stay (hq0.trans hq))
  have HRR : Hid (RT h ps = true → (∀ s ∈ l, s.size ≤ 60) → ∀ W, Quiet0 W0 W → Calls Tryd.prog 27 #[tmv h o1 l1 c1 o2 l2 c2, .slice lo l.length lc] W (RenQ (Low w) W (renS h ps l).1 (renS h ps l).2 o1 l1 c1 l2)) := fun hr hs W hq => by
    have := rrename_any h ps W (Low w) (Low w) o1 l1 c1 o2 l2 c2 lo lc l (h1.stay (hq0.trans hq)) (h2.stay (hq0.trans hq)) (hL.stay (hq0.trans hq)) hlc (by omega) (fun s h => by have := hs s h; omega) (by have := hsm.size; omega) (fun k hk => Nat.lt_of_lt_of_le hk (hq0.trans hq).size) (fun k hk => Nat.lt_of_lt_of_le hk (hq0.trans hq).size)
    rw [show renS h ps l = renN h ps l from by unfold renS; rw [if_pos hr]]
    exact this
  have HEQ : Hid (∀ (W : World) (R1 R2 : Nat → Prop) (a : Nd) (p : To) (q1 : Option Addr) (m1 d1 : Nat) (q2 : Option Addr) (m2 d2 : Nat) (p1 : Option Addr) (k1 e1 : Nat) (p2 : Option Addr) (k2 e2 : Nat), SlcIn R1 W q1 m1 a.tp → TSlc R1 W q2 m2 p → SlcIn R2 W p1 k1 a.tp → TSlc R2 W p2 k2 p → Calls Tryd.prog 17 #[tmv a q1 m1 d1 q2 m2 d2, tmv a p1 k1 e1 p2 k2 e2] W fun e w' => e = .returned (.bool true) ∧ Quiet0 W w') := fun W R1 R2 a p q1 m1 d1 q2 m2 d2 p1 k1 e1 p2 k2 e2 x1 x2 x3 x4 => by
    have := refEqualT_any a p a p W (fun _ => True) q1 m1 d1 q2 m2 d2 p1 k1 e1 p2 k2 e2 (x1.mono (fun _ _ _ => trivial)) (x2.mono (fun _ _ _ => trivial)) (x3.mono (fun _ _ _ => trivial)) (x4.mono (fun _ _ _ => trivial))
    rw [alikeT_refl] at this; exact this
  have HSC : Hid (RT h ps = true → (∀ s ∈ l, s.size ≤ 60) → ∀ (W : World) (R1 : Nat → Prop) (q1 : Option Addr) (m1 d1 : Nat) (q2 : Option Addr) (m2 d2 : Nat), SlcIn R1 W q1 m1 (renS h ps l).1.tp → TSlc R1 W q2 m2 (renS h ps l).2 → Quiet0 W0 W → Calls Tryd.prog 25 #[tmv (renS h ps l).1 q1 m1 d1 q2 m2 d2, tmv h o1 l1 c1 o2 l2 c2] W fun e w' => e = .returned (.bool true) ∧ Quiet0 W w') := fun hr hs W R1 q1 m1 d1 q2 m2 d2 x1 x2 hq => by
    have he : renS h ps l = renN h ps l := by unfold renS; rw [if_pos hr]
    rw [he] at x1 x2 ⊢
    have := alike8_any (renN h ps l).1 (renN h ps l).2 h ps W R1 (Low w) q1 m1 d1 q2 m2 d2 o1 l1 c1 o2 l2 c2 x1 x2 (by rw [ren_size]; have := hsm.size; omega) (ren_good hsm.good (fun s h => by have := hs s h; omega)) (h1.stay (hq0.trans hq)) (h2.stay (hq0.trans hq)) (by have := hsm.size; omega) hsm.good (ht.stay (hq0.trans hq))
    rw [alkB_ref, ren_right l hr, hr, ren_alike h ps l] at this
    exact this
  have HRS : Hid (RT h ps = false → renS h ps l = (h, ps)) := fun hr => by unfold renS; rw [hr]; rfl
  have H1 := Lib.hid h1
  have H2 := Lib.hid h2
  have HL := Lib.hid hL
  clear h1 h2 ho hop ht hq0 hg hsm hL hlc
  generalize renS h ps l = q at *
  obtain ⟨g, gs⟩ := q
  dsimp only at HRN HRR HSC
  unfold RenQ at HRR
  unfold TmQ at HRN
  unfold tmv at HG HR HRN HRR HEQ HSC ⊢
  generalize RT h ps = r at *
  obtain ⟨ln, hln⟩ : ∃ ln, l.length = ln := ⟨_, rfl⟩
  have HLN := Lib.hid hln
  rw [hln] at hll HRN HRR ⊢
  clear hln
  have hl60 : ¬ (60 : Int) < (ln : Int) := by omega
  go_enter Tryd.func6, Tryd.ntmps6
  go_upto_region 1 with fail
  rw [← hW0]
  clear hW0
  generalize hBB : w.heap.size = B at *
  have HBE := Lib.hid hBB
  clear hBB
  obtain ⟨a0, a1, a2, a3, a4, a5, a6, a7, a8⟩ := HB.out W0 (Quiet0.refl _)
  go_wp2_with fail
  refine (HG.out _ (Quiet0.refl _)).mono ?_; rintro x w2 ⟨rfl, hq2⟩
  clear a0 a1 a2 a3 a4 a5 a6 a7 a8
  have HQ2 := Lib.hid hq2
  clear hq2
  go_wp2_with fail
  go_loopw [5] (fun t wr => ∃ (i : Nat), t = .int .i64 i ∧ i ≤ ln ∧ (∀ j s, j < i → l[j]? = some s → s.size ≤ 60) ∧ Quiet0 W0 wr) (fun t _ => ln - (intOf t).toNat)
  case atStart => exact ⟨0, rfl, Nat.zero_le _, fun j s hj => by omega, HQ2.out⟩
  case round =>
    obtain ⟨i, rfl, hi, hsz, hqr⟩ := hrel
    have HSZ := Lib.hid hsz
    have HQR := Lib.hid hqr
    clear hsz hqr
    by_cases hlt : i < ln
    · have hlt' : (i : Int) < ln := by omega
      obtain ⟨s, hs⟩ : ∃ s, l[i]? = some s := ⟨_, List.getElem?_eq_getElem (by have := HLN.out; omega)⟩
      obtain ⟨b, off, rfl, _, g0⟩ := HL.out i s hs
      have g1 := (HQ0.out.trans HQR.out).at g0
      have HS := Lib.hid hs
      clear hs g0
      by_cases hs60 : (60 : Int) < (s.size : Int)
      · go_wp2_with fail
        refine (HA.out _ HQR.out).mono ?_; rintro x w3 ⟨rfl, hq3⟩
        have HQ3 := Lib.hid hq3
        clear hq3
        go_wp2_with fail
        go_ret
        exact ⟨rfl, HQ0.out.trans (HQR.out.trans HQ3.out)⟩
      · go_wp2_with fail
        go_roundw
        case rel =>
          refine ⟨i + 1, by go_num, hlt, fun j t hj hjt => ?_, HQR.out⟩
          by_cases he : j = i
          · subst he
            have := HS.out
            rw [this] at hjt
            injection hjt with hjt
            subst hjt
            omega
          · exact HSZ.out j t (by omega) hjt
        case measure => simp [intOf] <;> omega
    · have hlt' : ¬ (i : Int) < ln := by omega
      have HALL : Hid (∀ s ∈ l, s.size ≤ 60) := fun s hs => by
        obtain ⟨j, hj⟩ := List.getElem?_of_mem hs
        have h1 := (List.getElem?_eq_some_iff.1 hj).1
        exact HSZ.out j s (by have := HLN.out; omega) hj
      obtain ⟨a0, a1, a2, a3, a4, a5, a6, a7, a8⟩ := HB.out _ HQR.out
      clear HSZ
      go_wp2_with fail
      refine (HRN.out HALL.out _ HQR.out).mono ?_; rintro x w3 ⟨q1, m1, d1, q2, m2, d2, rfl, ht1, ht2, hq3⟩
      clear a0 a1 a2 a3 a4 a5 a6 a7 a8
      obtain ⟨W4, hW4⟩ : ∃ W4, W4 = w3.alloc (.cells (cells9 g q1 m1 d1 q2 m2 d2) 30) := ⟨_, rfl⟩
      have hqa : Quiet0 w3 W4 := by rw [hW4]; exact Quiet0.alloc _ _
      have HQ4 : Hid (Quiet0 W0 W4) := Lib.hid (HQR.out.trans (hq3.trans hqa))
      have hbu : W4.heap[w3.heap.size]? = some (.cells (cells9 g q1 m1 d1 q2 m2 d2) 30 (0, 0)) := by rw [hW4]; exact heap_alloc_new w3 _
      have HT1 := Lib.hid (ht1.stay hqa)
      have HT2 := Lib.hid (ht2.stay hqa)
      have HBU := Lib.hid hbu
      clear hbu ht1 ht2 hq3 hqa HRN
      go_upto_region 9 with fail
      change Code.wp _ _ _ _ (w3.alloc (.cells (cells9 g q1 m1 d1 q2 m2 d2) 30))
      rw [← hW4]
      clear hW4
      generalize w3.heap.size = ub at *
      have HCB : Hid (∀ W, Quiet0 W4 W → (W.cell? ⟨B, 0, none⟩ = some (.int .i64 h.k) ∧ W.cell? ⟨B, 1, none⟩ = some (.string h.nm) ∧ W.cell? ⟨B, 2, none⟩ = some (.int .i64 h.n) ∧ W.cell? ⟨B, 3, none⟩ = some (.int .i64 h.tk) ∧ W.cell? ⟨B, 4, none⟩ = some (.int .i64 h.tn) ∧ W.cell? ⟨B, 5, none⟩ = some (.slice o1 l1 c1) ∧ W.cell? ⟨B, 6, none⟩ = some (.slice o2 l2 c2) ∧ W.cell? ⟨B, 7, none⟩ = some (.int .i64 h.fr) ∧ W.cell? ⟨B, 8, none⟩ = some (.int .i64 h.en)) ∧ (W.cell? ⟨ub, 0, none⟩ = some (.int .i64 g.k) ∧ W.cell? ⟨ub, 1, none⟩ = some (.string g.nm) ∧ W.cell? ⟨ub, 2, none⟩ = some (.int .i64 g.n) ∧ W.cell? ⟨ub, 3, none⟩ = some (.int .i64 g.tk) ∧ W.cell? ⟨ub, 4, none⟩ = some (.int .i64 g.tn) ∧ W.cell? ⟨ub, 5, none⟩ = some (.slice q1 m1 d1) ∧ W.cell? ⟨ub, 6, none⟩ = some (.slice q2 m2 d2) ∧ W.cell? ⟨ub, 7, none⟩ = some (.int .i64 g.fr) ∧ W.cell? ⟨ub, 8, none⟩ = some (.int .i64 g.en))) := fun W hq => ⟨HB.out W (HQ4.out.trans hq), cells9_block (blk_after hq HBU.out)⟩
      have hqc := Quiet0.refl W4
      obtain ⟨⟨a0, a1, a2, a3, a4, a5, a6, a7, a8⟩, _⟩ := HCB.out _ hqc
      go_wp2_with fail
      refine (HR.out _ HQ4.out).mono ?_; rintro x w5 ⟨rfl, hq5⟩
      clear a0 a1 a2 a3 a4 a5 a6 a7 a8
      have HQ5 := Lib.hid hq5
      clear hq5 hqc
      cases r
      case false =>
        have hqq : (g, gs) = (h, ps) := HRS.out (by trivial)
        obtain ⟨rfl, rfl⟩ := Prod.mk.inj hqq
        obtain ⟨⟨a0, a1, a2, a3, a4, a5, a6, a7, a8⟩, b0, b1, b2, b3, b4, b5, b6, b7, b8⟩ := HCB.out _ HQ5.out
        have HE := Lib.hid (HEQ.out w5 _ _ g gs q1 m1 d1 q2 m2 d2 o1 l1 c1 o2 l2 c2 (HT1.out.stay HQ5.out) (HT2.out.stay HQ5.out) (H1.out.stay (HQ0.out.trans (HQ4.out.trans HQ5.out))) (H2.out.stay (HQ0.out.trans (HQ4.out.trans HQ5.out))))
        clear hqq
        go_wp2_with fail
        refine HE.out.mono ?_; rintro x w6 ⟨rfl, hq6⟩
        clear a0 a1 a2 a3 a4 a5 a6 a7 a8 b0 b1 b2 b3 b4 b5 b6 b7 b8
        have HQ6 := Lib.hid (HQ4.out.trans (HQ5.out.trans hq6))
        clear hq6
        go_wp2_with fail
        refine (HA.out _ HQ6.out).mono ?_; rintro x w7 ⟨rfl, hq7⟩
        have HQ7 := Lib.hid (HQ6.out.trans hq7)
        clear hq7
        go_wp2_with fail
        go_ret
        exact ⟨rfl, HQ0.out.trans HQ7.out⟩
      case true =>
        have HQ45 : Hid (Quiet0 W0 w5) := HQ4.out.trans HQ5.out
        have HS5 : Hid (∀ W, Quiet0 w5 W → (W.cell? ⟨B, 0, none⟩ = some (.int .i64 h.k) ∧ W.cell? ⟨B, 1, none⟩ = some (.string h.nm) ∧ W.cell? ⟨B, 2, none⟩ = some (.int .i64 h.n) ∧ W.cell? ⟨B, 3, none⟩ = some (.int .i64 h.tk) ∧ W.cell? ⟨B, 4, none⟩ = some (.int .i64 h.tn) ∧ W.cell? ⟨B, 5, none⟩ = some (.slice o1 l1 c1) ∧ W.cell? ⟨B, 6, none⟩ = some (.slice o2 l2 c2) ∧ W.cell? ⟨B, 7, none⟩ = some (.int .i64 h.fr) ∧ W.cell? ⟨B, 8, none⟩ = some (.int .i64 h.en)) ∧ (W.cell? ⟨ub, 0, none⟩ = some (.int .i64 g.k) ∧ W.cell? ⟨ub, 1, none⟩ = some (.string g.nm) ∧ W.cell? ⟨ub, 2, none⟩ = some (.int .i64 g.n) ∧ W.cell? ⟨ub, 3, none⟩ = some (.int .i64 g.tk) ∧ W.cell? ⟨ub, 4, none⟩ = some (.int .i64 g.tn) ∧ W.cell? ⟨ub, 5, none⟩ = some (.slice q1 m1 d1) ∧ W.cell? ⟨ub, 6, none⟩ = some (.slice q2 m2 d2) ∧ W.cell? ⟨ub, 7, none⟩ = some (.int .i64 g.fr) ∧ W.cell? ⟨ub, 8, none⟩ = some (.int .i64 g.en))) := fun W hq => HCB.out W (HQ5.out.trans hq)
        have HRR5 := Lib.hid (fun (W : World) (hq : Quiet0 w5 W) => HRR.out (by trivial) HALL.out W (HQ45.out.trans hq))
        have HSC5 := Lib.hid (fun (W : World) (hq : Quiet0 w5 W) => HSC.out (by trivial) HALL.out W _ q1 m1 d1 q2 m2 d2 (HT1.out.stay (HQ5.out.trans hq)) (HT2.out.stay (HQ5.out.trans hq)) (HQ45.out.trans hq))
        have HA5 := Lib.hid (fun (W : World) (hq : Quiet0 w5 W) => HA.out W (HQ45.out.trans hq))
        have HEQ5 : Hid (∀ (W : World) (R2 : Nat → Prop) (p1 : Option Addr) (k1 e1 : Nat) (p2 : Option Addr) (k2 e2 : Nat), Quiet0 w5 W → SlcIn R2 W p1 k1 g.tp → TSlc R2 W p2 k2 gs → Calls Tryd.prog 17 #[.agg #[.int .i64 g.k, .string g.nm, .int .i64 g.n, .int .i64 g.tk, .int .i64 g.tn, .slice q1 m1 d1, .slice q2 m2 d2, .int .i64 g.fr, .int .i64 g.en], .agg #[.int .i64 g.k, .string g.nm, .int .i64 g.n, .int .i64 g.tk, .int .i64 g.tn, .slice p1 k1 e1, .slice p2 k2 e2, .int .i64 g.fr, .int .i64 g.en]] W fun e w' => e = .returned (.bool true) ∧ Quiet0 W w') := fun W R2 p1 k1 e1 p2 k2 e2 hq x3 x4 => HEQ.out W _ R2 g gs q1 m1 d1 q2 m2 d2 p1 k1 e1 p2 k2 e2 (HT1.out.stay (HQ5.out.trans hq)) (HT2.out.stay (HQ5.out.trans hq)) x3 x4
        clear HRR HSC HA HEQ HCB HB HG HR HRS HALL HBU HL HLN HQ2 HQR
        go_upto_region 11 with fail
        have hqc := Quiet0.refl w5
        go_region_held3 (fun W => (W.cell? ⟨B, 0, none⟩ = some (.int .i64 h.k) ∧ W.cell? ⟨B, 1, none⟩ = some (.string h.nm) ∧ W.cell? ⟨B, 2, none⟩ = some (.int .i64 h.n) ∧ W.cell? ⟨B, 3, none⟩ = some (.int .i64 h.tk) ∧ W.cell? ⟨B, 4, none⟩ = some (.int .i64 h.tn) ∧ W.cell? ⟨B, 5, none⟩ = some (.slice o1 l1 c1) ∧ W.cell? ⟨B, 6, none⟩ = some (.slice o2 l2 c2) ∧ W.cell? ⟨B, 7, none⟩ = some (.int .i64 h.fr) ∧ W.cell? ⟨B, 8, none⟩ = some (.int .i64 h.en)) ∧ (W.cell? ⟨ub, 0, none⟩ = some (.int .i64 g.k) ∧ W.cell? ⟨ub, 1, none⟩ = some (.string g.nm) ∧ W.cell? ⟨ub, 2, none⟩ = some (.int .i64 g.n) ∧ W.cell? ⟨ub, 3, none⟩ = some (.int .i64 g.tk) ∧ W.cell? ⟨ub, 4, none⟩ = some (.int .i64 g.tn) ∧ W.cell? ⟨ub, 5, none⟩ = some (.slice q1 m1 d1) ∧ W.cell? ⟨ub, 6, none⟩ = some (.slice q2 m2 d2) ∧ W.cell? ⟨ub, 7, none⟩ = some (.int .i64 g.fr) ∧ W.cell? ⟨ub, 8, none⟩ = some (.int .i64 g.en)))
          (((refine HS5.out _ ?_); (repeat (first | with_reducible exact hqc | with_reducible exact Quiet0.refl _ | with_reducible refine Quiet0.trans ?_ (Quiet0.alloc _ _) | with_reducible refine Quiet0.trans ?_ (Quiet0.drew _) | fail))))
          (first
            | (go_at_call 27; (with_reducible refine Calls.mono (HRR5.out _ ?hq) ?_); (case hq => (repeat (first | with_reducible exact hqc | with_reducible exact Quiet0.refl _ | with_reducible refine Quiet0.trans ?_ (Quiet0.alloc _ _) | with_reducible refine Quiet0.trans ?_ (Quiet0.drew _) | fail))); rintro e wx ⟨p2, e2, rfl, hx1, hx2, hqx⟩; (refine with_q (w0 := w5) ?hq2 hqx ?_); (case hq2 => (repeat (first | with_reducible exact hqc | with_reducible exact Quiet0.refl _ | with_reducible refine Quiet0.trans ?_ (Quiet0.alloc _ _) | with_reducible refine Quiet0.trans ?_ (Quiet0.drew _) | fail))); intro hqc)
            | (go_at_call 17; (with_reducible refine Calls.mono (HEQ5.out _ _ _ _ _ _ _ _ ?hq (hx1.stay ?hq3) (hx2.stay ?hq4)) ?_); (case hq => (repeat (first | with_reducible exact hqc | with_reducible exact Quiet0.refl _ | with_reducible refine Quiet0.trans ?_ (Quiet0.alloc _ _) | with_reducible refine Quiet0.trans ?_ (Quiet0.drew _) | fail))); (case hq3 => (repeat (first | with_reducible exact Quiet0.refl _ | with_reducible refine Quiet0.trans ?_ (Quiet0.alloc _ _) | with_reducible refine Quiet0.trans ?_ (Quiet0.drew _) | fail))); (case hq4 => (repeat (first | with_reducible exact Quiet0.refl _ | with_reducible refine Quiet0.trans ?_ (Quiet0.alloc _ _) | with_reducible refine Quiet0.trans ?_ (Quiet0.drew _) | fail))); rintro e wx ⟨rfl, hqx⟩; (refine with_q (w0 := w5) ?hq2 hqx ?_); (case hq2 => (repeat (first | with_reducible exact hqc | with_reducible exact Quiet0.refl _ | with_reducible refine Quiet0.trans ?_ (Quiet0.alloc _ _) | with_reducible refine Quiet0.trans ?_ (Quiet0.drew _) | fail))); intro hqc)
            | (go_at_call 25; (with_reducible refine Calls.mono (HSC5.out _ ?hq) ?_); (case hq => (repeat (first | with_reducible exact hqc | with_reducible exact Quiet0.refl _ | with_reducible refine Quiet0.trans ?_ (Quiet0.alloc _ _) | with_reducible refine Quiet0.trans ?_ (Quiet0.drew _) | fail))); rintro e wx ⟨rfl, hqx⟩; (refine with_q (w0 := w5) ?hq2 hqx ?_); (case hq2 => (repeat (first | with_reducible exact hqc | with_reducible exact Quiet0.refl _ | with_reducible refine Quiet0.trans ?_ (Quiet0.alloc _ _) | with_reducible refine Quiet0.trans ?_ (Quiet0.drew _) | fail))); intro hqc)
            | (go_at_call 11; (with_reducible refine Calls.mono (HA5.out _ ?hq) ?_); (case hq => (repeat (first | with_reducible exact hqc | with_reducible exact Quiet0.refl _ | with_reducible refine Quiet0.trans ?_ (Quiet0.alloc _ _) | with_reducible refine Quiet0.trans ?_ (Quiet0.drew _) | fail))); rintro e wx ⟨rfl, hqx⟩; (refine with_q (w0 := w5) ?hq2 hqx ?_); (case hq2 => (repeat (first | with_reducible exact hqc | with_reducible exact Quiet0.refl _ | with_reducible refine Quiet0.trans ?_ (Quiet0.alloc _ _) | with_reducible refine Quiet0.trans ?_ (Quiet0.drew _) | fail))); intro hqc)
            | fail)
        all_goals
          go_wp2_with fail
          go_ret
          exact ⟨rfl, HQ0.out.trans (HQ45.out.trans hqc)⟩
theorem scopeRenames_all (h : Nd) (ps : To) (w : World) (o1 : Option Addr) (l1 c1 : Nat) (o2 : Option Addr) (l2 c2 : Nat) (lo : Option Addr) (lc : Nat) (l : List ByteArray) (h1 : SlcIn (Low w) w o1 l1 h.tp) (h2 : TSlc (Low w) w o2 l2 ps) (ho : OkO h) (hop : allT OkO ps) (hL : Sc.StrT (Low w) w lo l) (hlc : l.length ≤ lc) (ht : Lx.Spaces w) :
    Calls Tryd.prog 6 #[tmv h o1 l1 c1 o2 l2 c2, .slice lo l.length lc] w fun e w' => e = .returned (.bool true) ∧ Quiet0 w w' := by
  cases hg : greatTm h ps
  · by_cases hl : l.length ≤ 60
    · exact rl_main h ps w o1 l1 c1 o2 l2 c2 lo lc l h1 h2 ho hop hL hlc ht hg hl
    · exact rl_early h ps w o1 l1 c1 o2 l2 c2 lo lc l h1 h2 ho hop ht (.inr (by omega))
  · exact rl_early h ps w o1 l1 c1 o2 l2 c2 lo lc l h1 h2 ho hop ht (.inl hg)
end Sc
end Go.Proofs.YtnfodiedalhlhaaDoor
end
section
namespace Go.Proofs.YtnfodiedalhlhaaDoor
open Go.ChangeShapes Go.WideShapes Go.ChangeAt Go.RowKit
theorem soSpot {w : World} {a : Addr} {v : Value} (h : w.cell? (a.add 0) = some v) : ∃ b off, a = ⟨b, off, none⟩ := by
  obtain ⟨b, off, s⟩ := a
  cases s with
  | none => exact ⟨b, off, rfl⟩
  | some s =>
    unfold World.cell? Addr.add at h
    simp only [if_true] at h
    split at h <;> simp_all
theorem soList {α : Type} {P : Nat → α → Prop} : ∀ len : Nat, (∀ i, i < len → ∃ t, P i t) → ∃ l : List α, l.length = len ∧ ∀ i t, l[i]? = some t → P i t
  | 0, _ => ⟨[], rfl, fun i t h => by simp at h⟩
  | len + 1, h => by
    obtain ⟨l, hl, hp⟩ := soList len (fun i hi => h i (by omega))
    obtain ⟨t, ht⟩ := h len (by omega)
    refine ⟨l ++ [t], by simp [hl], fun i u hu => ?_⟩
    by_cases hi : i < len
    · rw [List.getElem?_append_left (by omega)] at hu
      exact hp i u hu
    · have h2 : i < (l ++ [t]).length := (List.getElem?_eq_some_iff.1 hu).1
      have h3 : i = len := by simp [hl] at h2; omega
      subst h3
      rw [List.getElem?_append_right (by omega)] at hu
      simp [hl] at hu
      subst hu
      exact ht
section
variable {H : Type} {enc : TypeId × Value → H} {w : World} {base : Nat} {spare : Nat → Bool} {held : Bool}
theorem open_strs {v : Value} {d : DataW H} {p : List MemPlace} (hv : ∃ a len cap, v = .slice a len cap) (h : DataW.Trod enc Tryd.prog w base spare held 40 v d p) :
    ∃ o c l, v = .slice o (List.length l) c ∧ Sc.StrT (Low w) w o l ∧ (∀ s ∈ l, s.size ≤ maxLen) ∧ l.length ≤ maxLen ∧ l.length ≤ c := by
  obtain ⟨a0, l0, cc0, rfl⟩ := hv
  obtain ⟨fuel, hf⟩ := h
  rcases DataW.trod_slice Tryd.underlying40 hf with ⟨he, _⟩ | ⟨a, len, cap, elems, rest, n, hfu, he, _, _, hl, hm, hlen, hel, _⟩
  · simp [Value.cells] at he
    obtain ⟨rfl, rfl, rfl⟩ := he
    exact ⟨none, 0, [], rfl, Sc.StrT.nil _ _ _, fun t h => by simp at h, by simp, by simp⟩
  · simp [Value.cells] at he
    obtain ⟨rfl, rfl, rfl⟩ := he
    have one : ∀ i, i < l0 → ∃ s : ByteArray, w.cell? (a.add i) = some (.string s) ∧ s.size ≤ maxLen := by
      intro i hi
      have h1 := hel i hi
      rw [List.getElem?_eq_getElem (by omega)] at h1
      obtain ⟨cs', h2, h3⟩ := Option.bind_eq_some_iff.1 h1
      rw [show Tryd.prog.cellsOf 9 = 1 from by kernel_rfl] at h2
      obtain ⟨_, hcl, hcell⟩ := World.cells?_some h2
      obtain ⟨s, rfl, _, hw⟩ := DataW.trod_string Tryd.underlying9 h3
      have e0 := hcell 0 (by omega)
      simp [Deep.add_add] at e0
      exact ⟨s, e0, hw⟩
    obtain ⟨l, hll, hp⟩ := soList l0 one
    subst hll
    refine ⟨some a, _, l, rfl, fun j s hs => ?_, fun t ht => ?_, by omega, hl⟩
    · obtain ⟨t0, ht0⟩ : ∃ t0, l[0]? = some t0 := ⟨_, List.getElem?_eq_getElem (by have := (List.getElem?_eq_some_iff.1 hs).1; omega)⟩
      obtain ⟨f0, _⟩ := hp 0 t0 ht0
      obtain ⟨b, off, rfl⟩ := soSpot f0
      have h1 := (hp j s hs).1
      exact ⟨b, off, rfl, World.block_lt_of_cell? w _ f0, by simpa [Addr.add_lit] using h1⟩
    · obtain ⟨i, hi⟩ := List.getElem?_of_mem ht
      exact (hp i t hi).2
end
end Go.Proofs.YtnfodiedalhlhaaDoor
end
section
namespace Go.Proofs.YtnfodiedalhlhaaDoor
open Go.ChangeShapes Go.WideShapes Go.ChangeAt Go.RowKit
def doorSteps : Nat := 48
def laidL : List (String × DataW Unit) := [("unicode.White_Space", Rows.laid_unicode_White_Space), ("strings.asciiSpace", Rows.laid_strings_asciiSpace)]
set_option maxRecDepth 100000 in
theorem ascii_data : (Rows.laid_strings_asciiSpace : DataW Unit) = Lib.tabData .u8 Lib.asciiSpaceTab := by rfl
set_option maxRecDepth 100000 in
theorem door_met (os : Os) (args : Array Value) : laidMetH Tryd.prog laidL ((World.doorLaid Tryd.prog doorSteps os).forCall (fun _ _ => 0) ⟨#[], args, []⟩).memory :=
  laidMetH_of_parts3 (fuel := 8) (laidMet_of_run' 8 (by kernel_rfl) (by kernel_rfl)) (by kernel_rfl) (by kernel_rfl)
set_option maxRecDepth 100000 in
theorem spaces_of_laid {W : World} (h : laidMetH Tryd.prog laidL W) : Lx.Spaces W := by
  rw [MakeChecks.laidMetH_plain _ _ _ (by kernel_rfl)] at h
  have h2 := laidMet.tail h
  rw [ascii_data] at h2
  exact Lib.tabIs_of_head (g := 0) (n := 256) (by kernel_rfl) (by kernel_rfl) (t := 128) (e := 5) Tryd.underlying128 Tryd.underlying5 (by kernel_rfl) (by kernel_rfl) h2
end Go.Proofs.YtnfodiedalhlhaaDoor
end
section
namespace Go.Proofs.YtnfodiedalhlhaaDoor
open Go.RowKit Go.Shelf
namespace Sc
def kn (t : Nd) : Int × Int := (t.k, t.n)
theorem rsv_ok {h : Nd} {ps : To} (hr : RT h ps = true) (hf : free1 [] h ps = []) : rsvP h ps = ((resH h ps, resP h ps), (0, 0), 0) := by
  unfold rsvP
  rw [if_pos hr, hf]
theorem rsv_zero {h : Nd} {ps : To} (h0 : (rsvP h ps).2.2 = 0) : RT h ps = true ∧ free1 [] h ps = [] := by
  unfold rsvP at h0
  cases hr : RT h ps
  · rw [hr] at h0; simp at h0
  · rw [if_pos hr] at h0
    cases hf : free1 [] h ps with
    | nil => exact ⟨rfl, rfl⟩
    | cons x r => rw [hf] at h0; simp at h0
theorem means_err (h : Nd) (ps : To) (l : List ByteArray) : (rsvP (renS h ps l).1 (renS h ps l).2).2.2 = (rsvP h ps).2.2 := by
  unfold renS
  cases hr : RT h ps
  · rfl
  · exact ren_rsv l hr
theorem res_one (h : Nd) (ps : To) : resR 0 ByteArray.empty 0 [] (.cons h ps .nil) = .cons (resH h ps) (resP h ps) .nil := by
  unfold resR; rw [wk_cons]; rfl
theorem kn_flat (f : To) : f.flat.map (fun t => (t.1.k, t.1.n)) = (hds f).map kn := by
  unfold hds; rw [List.map_map]; rfl
theorem means_heads {h : Nd} {ps : To} {l : List ByteArray} (h0 : (rsvP h ps).2.2 = 0) : ((rsvP (renS h ps l).1 (renS h ps l).2).1.1 :: hds (rsvP (renS h ps l).1 (renS h ps l).2).1.2).map kn = ((rsvP h ps).1.1 :: hds (rsvP h ps).1.2).map kn := by
  obtain ⟨hr, hf⟩ := rsv_zero h0
  have he : renS h ps l = renN h ps l := by unfold renS; rw [if_pos hr]
  rw [he, rsv_ok hr hf, rsv_ok (ren_right l hr) ((ren_free h ps l).2 hf)]
  have hA := ren_alike h ps l
  have hok := right_okF (.cons (renN h ps l).1 (renN h ps l).2 .nil) (ren_right l hr)
  have hff := (ren_free h ps l).2 hf
  generalize (renN h ps l).1 = g at *
  generalize (renN h ps l).2 = gs at *
  have hk := alike_means (.cons g gs .nil) (.cons h ps .nil) 0 ByteArray.empty 0 ByteArray.empty 0 [] [] hok (right_okF _ hr) (by
    rw [refAR_cons]
    have he : envOf 0 ByteArray.empty 0 [] = [] := rfl
    rw [he, hA]; rfl) (by
    rw [freeL_cons]
    have he : envOf 0 ByteArray.empty 0 [] = [] := rfl
    rw [he, hff]; rfl)
  have hs := sameKN_flat _ _ hk
  rw [res_one, res_one, kn_flat, kn_flat, hds_cons, hds_cons] at hs
  have hn : hds .nil = [] := rfl
  rw [hn, List.append_nil, List.append_nil] at hs
  exact hs
theorem rsv_size {h : Nd} {ps : To} (h0 : (rsvP h ps).2.2 = 0) : (rsvP h ps).1.2.size = ps.size := by
  obtain ⟨hr, hf⟩ := rsv_zero h0
  rw [rsv_ok hr hf]
  exact wk1_size _ _ _ _ _ _
end Sc
end Go.Proofs.YtnfodiedalhlhaaDoor
end
