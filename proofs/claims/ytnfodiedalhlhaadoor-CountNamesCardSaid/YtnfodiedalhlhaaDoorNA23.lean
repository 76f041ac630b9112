/-
  Texts laid together (CnNames, ScOpenS, TeLaid): laws and walks, with their conditions in their statements.
-/
import Derived.LaidMore
import Derived.Stop.Joined
import Derived.LaidLaws
import Derived.Lib.LaidTab
import Derived.Stop.LaidErr
import Derived.Test.YtnfodiedalhlhaaDoorNA22
section
namespace Go.Proofs.YtnfodiedalhlhaaDoor
open Go.RowKit Go.Shelf
namespace Cn
set_option maxRecDepth 100000 in
set_option maxHeartbeats 4000000 in
theorem cn_early (h : Nd) (ps : To) (w : World) (o1 : Option Addr) (l1 c1 : Nat) (o2 : Option Addr) (l2 c2 : Nat) (lo : Option Addr) (lc : Nat) (l : List ByteArray) (h1 : SlcIn (Low w) w o1 l1 h.tp) (h2 : TSlc (Low w) w o2 l2 ps) (ho : OkO h) (hop : allT OkO ps) (ht : Lx.Spaces w) (hx : great17 h ps = true ∨ 60 < l.length ∨ Sc.RT h ps = false) :
    Calls Tryd.prog 10 #[tmv h o1 l1 c1 o2 l2 c2, .slice lo l.length lc] w fun e w' => e = .returned (.bool true) ∧ Quiet0 w w' := by
  obtain ⟨W0, hW0⟩ : ∃ W0, W0 = w.alloc (.cells (cells9 h o1 l1 c1 o2 l2 c2) 30) := ⟨_, rfl⟩
  have hq0 : Quiet0 w W0 := by rw [hW0]; exact Quiet0.alloc _ _
  have HQ0 := Lib.hid hq0
  have HB : Hid (∀ W, Quiet0 W0 W → (W.cell? ⟨w.heap.size, 0, none⟩ = some (.int .i64 h.k) ∧ W.cell? ⟨w.heap.size, 1, none⟩ = some (.string h.nm) ∧ W.cell? ⟨w.heap.size, 2, none⟩ = some (.int .i64 h.n) ∧ W.cell? ⟨w.heap.size, 3, none⟩ = some (.int .i64 h.tk) ∧ W.cell? ⟨w.heap.size, 4, none⟩ = some (.int .i64 h.tn) ∧ W.cell? ⟨w.heap.size, 5, none⟩ = some (.slice o1 l1 c1) ∧ W.cell? ⟨w.heap.size, 6, none⟩ = some (.slice o2 l2 c2) ∧ W.cell? ⟨w.heap.size, 7, none⟩ = some (.int .i64 h.fr) ∧ W.cell? ⟨w.heap.size, 8, none⟩ = some (.int .i64 h.en))) := by
    intro W hq; rw [hW0] at hq; exact box9 w h o1 l1 c1 o2 l2 c2 _ W hq
  have HG : Hid (∀ W, Quiet0 W0 W → Calls Tryd.prog 32 #[tmv h o1 l1 c1 o2 l2 c2] W fun e w' => e = .returned (.bool (great17 h ps)) ∧ Quiet0 W w') := fun W hq => great17_any h ps w W o1 l1 c1 o2 l2 c2 h1 h2 ho hop (hq0.trans hq)
  have HA : Hid (∀ W, Quiet0 W0 W → Calls Tryd.prog 30 #[] W fun e w' => e = .returned (.bool true) ∧ Quiet0 W w') := fun W hq => awake18_any W (ht.stay (hq0.trans hq))
  have HR : Hid (great17 h ps = false → ∀ W, Quiet0 W0 W → Calls Tryd.prog 16 #[tmv h o1 l1 c1 o2 l2 c2] W fun e w' => e = .returned (.bool (Sc.RT h ps)) ∧ Quiet0 W w') := fun hg W hq => by
    have hsm := Sc.small_of (great17_no hg) ho hop
    exact refRightT_any h ps W _ o1 l1 c1 o2 l2 c2 (h1.stay (hq0.trans hq)) (h2.stay (hq0.trans hq)) hsm.right.1 hsm.right.2
  have HX := Lib.hid hx
  clear h1 h2 ho hop ht hq0 hx
  unfold tmv at HG HR ⊢
  generalize great17 h ps = g at *
  generalize Sc.RT h ps = r at *
  generalize l.length = ln at *
  go_enter Tryd.func10, Tryd.ntmps10
  go_upto_region 1 with fail
  rw [← hW0]
  clear hW0
  generalize hBB : w.heap.size = B at *
  clear hBB
  obtain ⟨a0, a1, a2, a3, a4, a5, a6, a7, a8⟩ := HB.out W0 (Quiet0.refl _)
  go_wp2_with fail
  refine (HG.out _ (Quiet0.refl _)).mono ?_; rintro x w1 ⟨rfl, hq1⟩
  clear a0 a1 a2 a3 a4 a5 a6 a7 a8
  obtain ⟨a0, a1, a2, a3, a4, a5, a6, a7, a8⟩ := HB.out w1 hq1
  have HQ1 := Lib.hid hq1
  clear hq1
  cases g
  case true =>
    go_wp2_with fail
    refine (HA.out _ HQ1.out).mono ?_; rintro x w2 ⟨rfl, hq2⟩
    have HQ2 := Lib.hid hq2
    clear hq2
    go_wp2_with fail
    go_ret
    exact ⟨rfl, HQ0.out.trans (HQ1.out.trans HQ2.out)⟩
  case false =>
    by_cases hl : (60 : Int) < (ln : Int)
    · go_wp2_with fail
      refine (HA.out _ HQ1.out).mono ?_; rintro x w2 ⟨rfl, hq2⟩
      have HQ2 := Lib.hid hq2
      clear hq2
      go_wp2_with fail
      go_ret
      exact ⟨rfl, HQ0.out.trans (HQ1.out.trans HQ2.out)⟩
    · have hrf : r = false := by
        rcases HX.out with h | h | h
        · cases h
        · omega
        · exact h
      subst hrf
      go_wp2_with fail
      refine (HR.out (by trivial) _ HQ1.out).mono ?_; rintro x w2 ⟨rfl, hq2⟩
      have HQ2 := Lib.hid (HQ1.out.trans hq2)
      clear hq2 a0 a1 a2 a3 a4 a5 a6 a7 a8
      go_wp2_with fail
      refine (HA.out _ HQ2.out).mono ?_; rintro x w3 ⟨rfl, hq3⟩
      have HQ3 := Lib.hid hq3
      clear hq3
      go_wp2_with fail
      go_ret
      exact ⟨rfl, HQ0.out.trans (HQ2.out.trans HQ3.out)⟩
set_option maxRecDepth 100000 in
set_option maxHeartbeats 8000000 in
theorem cn_main (h : Nd) (ps : To) (w : World) (o1 : Option Addr) (l1 c1 : Nat) (o2 : Option Addr) (l2 c2 : Nat) (lo : Option Addr) (lc : Nat) (l : List ByteArray) (h1 : SlcIn (Low w) w o1 l1 h.tp) (h2 : TSlc (Low w) w o2 l2 ps) (ho : OkO h) (hop : allT OkO ps) (hL : Sc.StrT (Low w) w lo l) (hlc : l.length ≤ lc) (ht : Lx.Spaces w) (hg : great17 h ps = false) (hll : l.length ≤ 60) (hr : Sc.RT h ps = true) :
    Calls Tryd.prog 10 #[tmv h o1 l1 c1 o2 l2 c2, .slice lo l.length lc] w fun e w' => e = .returned (.bool true) ∧ Quiet0 w w' := by
  have hsm := Sc.small_of (great17_no hg) ho hop
  obtain ⟨W0, hW0⟩ : ∃ W0, W0 = w.alloc (.cells (cells9 h o1 l1 c1 o2 l2 c2) 30) := ⟨_, rfl⟩
  have hq0 : Quiet0 w W0 := by rw [hW0]; exact Quiet0.alloc _ _
  have HQ0 := Lib.hid hq0
  have HB : Hid (∀ W, Quiet0 W0 W → (W.cell? ⟨w.heap.size, 0, none⟩ = some (.int .i64 h.k) ∧ W.cell? ⟨w.heap.size, 1, none⟩ = some (.string h.nm) ∧ W.cell? ⟨w.heap.size, 2, none⟩ = some (.int .i64 h.n) ∧ W.cell? ⟨w.heap.size, 3, none⟩ = some (.int .i64 h.tk) ∧ W.cell? ⟨w.heap.size, 4, none⟩ = some (.int .i64 h.tn) ∧ W.cell? ⟨w.heap.size, 5, none⟩ = some (.slice o1 l1 c1) ∧ W.cell? ⟨w.heap.size, 6, none⟩ = some (.slice o2 l2 c2) ∧ W.cell? ⟨w.heap.size, 7, none⟩ = some (.int .i64 h.fr) ∧ W.cell? ⟨w.heap.size, 8, none⟩ = some (.int .i64 h.en))) := by
    intro W hq; rw [hW0] at hq; exact box9 w h o1 l1 c1 o2 l2 c2 _ W hq
  have HG : Hid (∀ W, Quiet0 W0 W → Calls Tryd.prog 32 #[tmv h o1 l1 c1 o2 l2 c2] W fun e w' => e = .returned (.bool false) ∧ Quiet0 W w') := fun W hq => by
    have := great17_any h ps w W o1 l1 c1 o2 l2 c2 h1 h2 ho hop (hq0.trans hq)
    rw [hg] at this; exact this
  have HA : Hid (∀ W, Quiet0 W0 W → Calls Tryd.prog 30 #[] W fun e w' => e = .returned (.bool true) ∧ Quiet0 W w') := fun W hq => awake18_any W (ht.stay (hq0.trans hq))
  have HR : Hid (∀ W, Quiet0 W0 W → Calls Tryd.prog 16 #[tmv h o1 l1 c1 o2 l2 c2] W fun e w' => e = .returned (.bool true) ∧ Quiet0 W w') := fun W hq => by
    have := refRightT_any h ps W _ o1 l1 c1 o2 l2 c2 (h1.stay (hq0.trans hq)) (h2.stay (hq0.trans hq)) hsm.right.1 hsm.right.2
    rw [show allS (.cons h ps .nil) = true from hr] at this; exact this
  have HRN : Hid ((∀ s ∈ l, s.size ≤ 60) → ∀ W, Quiet0 W0 W → Calls Tryd.prog 27 #[tmv h o1 l1 c1 o2 l2 c2, .slice lo l.length lc] W (Sc.RenQ (Low w) W (Sc.renN h ps l).1 (Sc.renN h ps l).2 o1 l1 c1 l2)) := fun hs W hq => Sc.rrename_any h ps W (Low w) (Low w) o1 l1 c1 o2 l2 c2 lo lc l (h1.stay (hq0.trans hq)) (h2.stay (hq0.trans hq)) (hL.stay (hq0.trans hq)) hlc (by omega) (fun s h => by have := hs s h; omega) (by have := hsm.size; omega) (fun k hk => Nat.lt_of_lt_of_le hk (hq0.trans hq).size) (fun k hk => Nat.lt_of_lt_of_le hk (hq0.trans hq).size)
  have HE : Hid (∀ W, Quiet0 W0 W → Calls Tryd.prog 29 #[tmv h o1 l1 c1 o2 l2 c2] W fun e w' => e = .returned (.tuple #[.int .i64 (eqsN h ps).1, .int .i64 (eqsN h ps).2]) ∧ Quiet0 W w') := fun W hq => eqs_any h ps W _ o1 l1 c1 o2 l2 c2 (h1.stay (hq0.trans hq)) (h2.stay (hq0.trans hq)) (by have := hsm.size; omega) hsm.good (ht.stay (hq0.trans hq))
  have HV : Hid (∀ W, Quiet0 W0 W → Calls Tryd.prog 33 #[tmv h o1 l1 c1 o2 l2 c2] W fun e w' => e = .returned (.tuple #[.int .i64 (varsN h ps).1, .int .i64 (varsN h ps).2]) ∧ Quiet0 W w') := fun W hq => vars_any h ps W _ o1 l1 c1 o2 l2 c2 (h1.stay (hq0.trans hq)) (h2.stay (hq0.trans hq)) (by have := hsm.size; omega) hsm.good (ht.stay (hq0.trans hq))
  have HU : Hid (∀ W, Quiet0 W0 W → Calls Tryd.prog 35 #[tmv h o1 l1 c1 o2 l2 c2] W (UsP W (usesN h ps))) := fun W hq => usesC_any h ps W _ o1 l1 c1 o2 l2 c2 (h1.stay (hq0.trans hq)) (h2.stay (hq0.trans hq)) (by have := hsm.size; omega) hsm.good (ht.stay (hq0.trans hq))
  have HTU : Hid ((∀ s ∈ l, s.size ≤ 60) → allT GoodH (.cons (Sc.renN h ps l).1 (Sc.renN h ps l).2 .nil) ∧ (Sc.renN h ps l).2.size ≤ 100000) := fun hs => ⟨Sc.ren_good hsm.good (fun s h => by have := hs s h; omega), by rw [Sc.ren_size]; have := hsm.size; omega⟩
  have HN1 : Hid (eqsN (Sc.renN h ps l).1 (Sc.renN h ps l).2 = eqsN h ps) := ren_clsd ownE 1 l hr
  have HN2 : Hid (varsN (Sc.renN h ps l).1 (Sc.renN h ps l).2 = varsN h ps) := ren_clsd ownV 1 l hr
  have HN3 : Hid (usesN (Sc.renN h ps l).1 (Sc.renN h ps l).2 = usesN h ps) := ren_uses l hr
  have HZU : Hid ((usesN h ps).length ≤ 1000000) := by show _ ≤ _; have := usesN_le h ps; have := hsm.size; omega
  have HL := Lib.hid hL
  have HT := Lib.hid ht
  clear h1 h2 ho hop ht hq0 hg hr hsm hL hlc
  generalize Sc.renN h ps l = q at *
  obtain ⟨g, gs⟩ := q
  dsimp only at HRN HTU HN1 HN2 HN3
  unfold Sc.RenQ at HRN
  unfold tmv at HG HR HRN HE HV HU ⊢
  unfold UsP at HU
  generalize eqsN h ps = ev at *
  generalize varsN h ps = vv at *
  generalize usesN h ps = uv at *
  obtain ⟨ev1, ev2⟩ := ev
  obtain ⟨vv1, vv2⟩ := vv
  dsimp only at HE HV
  obtain ⟨ln, hln⟩ : ∃ ln, l.length = ln := ⟨_, rfl⟩
  have HLN := Lib.hid hln
  rw [hln] at hll HRN ⊢
  clear hln
  have hl60 : ¬ (60 : Int) < (ln : Int) := by omega
  go_enter Tryd.func10, Tryd.ntmps10
  go_upto_region 1 with fail
  rw [← hW0]
  clear hW0
  generalize hBB : w.heap.size = B at *
  have HBE := Lib.hid hBB
  clear hBB
  obtain ⟨a0, a1, a2, a3, a4, a5, a6, a7, a8⟩ := HB.out W0 (Quiet0.refl _)
  go_wp2_with fail
  refine (HG.out _ (Quiet0.refl _)).mono ?_; rintro x w1 ⟨rfl, hq1⟩
  clear a0 a1 a2 a3 a4 a5 a6 a7 a8
  obtain ⟨a0, a1, a2, a3, a4, a5, a6, a7, a8⟩ := HB.out w1 hq1
  have HQ1 := Lib.hid hq1
  clear hq1
  go_wp2_with fail
  refine (HR.out _ HQ1.out).mono ?_; rintro x w2 ⟨rfl, hq2⟩
  clear a0 a1 a2 a3 a4 a5 a6 a7 a8
  have HQ2 := Lib.hid (HQ1.out.trans hq2)
  clear hq2
  go_wp2_with fail
  go_loopw [5] (fun t wr => ∃ (i : Nat), t = .int .i64 i ∧ i ≤ ln ∧ (∀ j s, j < i → l[j]? = some s → s.size ≤ 60) ∧ Quiet0 W0 wr) (fun t _ => ln - (intOf t).toNat)
  case atStart => exact ⟨0, rfl, Nat.zero_le _, fun j s hj => by omega, HQ2.out⟩
  case round =>
    obtain ⟨i, rfl, hi, hsz, hqr⟩ := hrel
    have HSZ := Lib.hid hsz
    have HQR := Lib.hid hqr
    clear hsz hqr
    by_cases hlt : i < ln
    · have hlt' : (i : Int) < ln := by omega
      obtain ⟨s, hs⟩ : ∃ s, l[i]? = some s := ⟨_, List.getElem?_eq_getElem (by have := HLN.out; omega)⟩
      obtain ⟨b, off, rfl, _, g0⟩ := HL.out i s hs
      have g1 := (HQ0.out.trans HQR.out).at g0
      have HS := Lib.hid hs
      clear hs g0
      by_cases hs60 : (60 : Int) < (s.size : Int)
      · go_wp2_with fail
        refine (HA.out _ HQR.out).mono ?_; rintro x w3 ⟨rfl, hq3⟩
        have HQ3 := Lib.hid hq3
        clear hq3
        go_wp2_with fail
        go_ret
        exact ⟨rfl, HQ0.out.trans (HQR.out.trans HQ3.out)⟩
      · go_wp2_with fail
        go_roundw
        case rel =>
          refine ⟨i + 1, by go_num, hlt, fun j t hj hjt => ?_, HQR.out⟩
          by_cases he : j = i
          · subst he
            have := HS.out
            rw [this] at hjt
            injection hjt with hjt
            subst hjt
            omega
          · exact HSZ.out j t (by omega) hjt
        case measure => simp [intOf] <;> omega
    · have hlt' : ¬ (i : Int) < ln := by omega
      have HALL : Hid (∀ s ∈ l, s.size ≤ 60) := fun s hs => by
        obtain ⟨j, hj⟩ := List.getElem?_of_mem hs
        have h1 := (List.getElem?_eq_some_iff.1 hj).1
        exact HSZ.out j s (by have := HLN.out; omega) hj
      obtain ⟨a0, a1, a2, a3, a4, a5, a6, a7, a8⟩ := HB.out _ HQR.out
      clear HSZ
      go_wp2_with fail
      refine (HRN.out HALL.out _ HQR.out).mono ?_; rintro x w3 ⟨o3, c3, rfl, ht1, ht2, hq3⟩
      clear a0 a1 a2 a3 a4 a5 a6 a7 a8
      obtain ⟨W4, hW4⟩ : ∃ W4, W4 = w3.alloc (.cells (cells9 g o1 l1 c1 o3 l2 c3) 30) := ⟨_, rfl⟩
      have hqa : Quiet0 w3 W4 := by rw [hW4]; exact Quiet0.alloc _ _
      have HQ4 : Hid (Quiet0 W0 W4) := Lib.hid (HQR.out.trans (hq3.trans hqa))
      have hbu : W4.heap[w3.heap.size]? = some (.cells (cells9 g o1 l1 c1 o3 l2 c3) 30 (0, 0)) := by rw [hW4]; exact heap_alloc_new w3 _
      have HT1 := Lib.hid (ht1.stay hqa)
      have HT2 := Lib.hid (ht2.stay hqa)
      have HBU := Lib.hid hbu
      have HTU2 := Lib.hid (HTU.out HALL.out)
      clear hbu ht1 ht2 hq3 hqa
      go_upto_region 9 with fail
      change Code.wp _ _ _ _ (w3.alloc (.cells (cells9 g o1 l1 c1 o3 l2 c3) 30))
      rw [← hW4]
      clear hW4
      generalize w3.heap.size = ub at *
      have HEU : Hid (∀ W, Quiet0 W4 W → Calls Tryd.prog 29 #[tmv g o1 l1 c1 o3 l2 c3] W fun e w' => e = .returned (.tuple #[.int .i64 ev1, .int .i64 ev2]) ∧ Quiet0 W w') := fun W hq => by
        have := eqs_any g gs W _ o1 l1 c1 o3 l2 c3 (HT1.out.stay hq) (HT2.out.stay hq) HTU2.out.2 HTU2.out.1 (HT.out.stay (HQ0.out.trans (HQ4.out.trans hq)))
        rw [HN1.out] at this; exact this
      have HVU : Hid (∀ W, Quiet0 W4 W → Calls Tryd.prog 33 #[tmv g o1 l1 c1 o3 l2 c3] W fun e w' => e = .returned (.tuple #[.int .i64 vv1, .int .i64 vv2]) ∧ Quiet0 W w') := fun W hq => by
        have := vars_any g gs W _ o1 l1 c1 o3 l2 c3 (HT1.out.stay hq) (HT2.out.stay hq) HTU2.out.2 HTU2.out.1 (HT.out.stay (HQ0.out.trans (HQ4.out.trans hq)))
        rw [HN2.out] at this; exact this
      have HUU : Hid (∀ W, Quiet0 W4 W → Calls Tryd.prog 35 #[tmv g o1 l1 c1 o3 l2 c3] W (UsP W uv)) := fun W hq => by
        have := usesC_any g gs W _ o1 l1 c1 o3 l2 c3 (HT1.out.stay hq) (HT2.out.stay hq) HTU2.out.2 HTU2.out.1 (HT.out.stay (HQ0.out.trans (HQ4.out.trans hq)))
        rw [HN3.out] at this; exact this
      have HCB : Hid (∀ W, Quiet0 W4 W → (W.cell? ⟨B, 0, none⟩ = some (.int .i64 h.k) ∧ W.cell? ⟨B, 1, none⟩ = some (.string h.nm) ∧ W.cell? ⟨B, 2, none⟩ = some (.int .i64 h.n) ∧ W.cell? ⟨B, 3, none⟩ = some (.int .i64 h.tk) ∧ W.cell? ⟨B, 4, none⟩ = some (.int .i64 h.tn) ∧ W.cell? ⟨B, 5, none⟩ = some (.slice o1 l1 c1) ∧ W.cell? ⟨B, 6, none⟩ = some (.slice o2 l2 c2) ∧ W.cell? ⟨B, 7, none⟩ = some (.int .i64 h.fr) ∧ W.cell? ⟨B, 8, none⟩ = some (.int .i64 h.en)) ∧ (W.cell? ⟨ub, 0, none⟩ = some (.int .i64 g.k) ∧ W.cell? ⟨ub, 1, none⟩ = some (.string g.nm) ∧ W.cell? ⟨ub, 2, none⟩ = some (.int .i64 g.n) ∧ W.cell? ⟨ub, 3, none⟩ = some (.int .i64 g.tk) ∧ W.cell? ⟨ub, 4, none⟩ = some (.int .i64 g.tn) ∧ W.cell? ⟨ub, 5, none⟩ = some (.slice o1 l1 c1) ∧ W.cell? ⟨ub, 6, none⟩ = some (.slice o3 l2 c3) ∧ W.cell? ⟨ub, 7, none⟩ = some (.int .i64 g.fr) ∧ W.cell? ⟨ub, 8, none⟩ = some (.int .i64 g.en))) := fun W hq => ⟨HB.out W (HQ4.out.trans hq), cells9_block (blk_after hq HBU.out)⟩
      have HE4 := Lib.hid (fun (W : World) (hq : Quiet0 W4 W) => HE.out W (HQ4.out.trans hq))
      have HV4 := Lib.hid (fun (W : World) (hq : Quiet0 W4 W) => HV.out W (HQ4.out.trans hq))
      have HU4 := Lib.hid (fun (W : World) (hq : Quiet0 W4 W) => HU.out W (HQ4.out.trans hq))
      have HA4 := Lib.hid (fun (W : World) (hq : Quiet0 W4 W) => HA.out W (HQ4.out.trans hq))
      unfold tmv at HEU HVU HUU
      unfold UsP at HUU
      clear HT1 HT2 HTU2 HTU HN1 HN2 HN3 HE HV HU HA HB HRN HG HR HALL HBU HT HL HLN HQ1 HQ2 HQR
      have hqc := Quiet0.refl W4
      obtain ⟨⟨a0, a1, a2, a3, a4, a5, a6, a7, a8⟩, _⟩ := HCB.out _ hqc
      go_wp2_with fail
      refine (HE4.out _ hqc).mono ?_; rintro x w5 ⟨rfl, hq5⟩
      clear a0 a1 a2 a3 a4 a5 a6 a7 a8
      obtain ⟨_, a0, a1, a2, a3, a4, a5, a6, a7, a8⟩ := HCB.out _ hq5
      have HQ5 := Lib.hid hq5
      clear hq5 hqc
      go_wp2_with fail
      refine (HEU.out _ HQ5.out).mono ?_; rintro x w6 ⟨rfl, hq6⟩
      have hq6 := HQ5.out.trans hq6
      clear a0 a1 a2 a3 a4 a5 a6 a7 a8
      obtain ⟨⟨a0, a1, a2, a3, a4, a5, a6, a7, a8⟩, _⟩ := HCB.out _ hq6
      have HQ6 := Lib.hid hq6
      clear hq6
      go_wp2_with fail
      refine (HV4.out _ HQ6.out).mono ?_; rintro x w7 ⟨rfl, hq7⟩
      have hq7 := HQ6.out.trans hq7
      clear a0 a1 a2 a3 a4 a5 a6 a7 a8
      obtain ⟨_, a0, a1, a2, a3, a4, a5, a6, a7, a8⟩ := HCB.out _ hq7
      have HQ7 := Lib.hid hq7
      clear hq7
      go_wp2_with fail
      refine (HVU.out _ HQ7.out).mono ?_; rintro x w8 ⟨rfl, hq8⟩
      have HQ8 := Lib.hid (HQ7.out.trans hq8)
      clear hq8 a0 a1 a2 a3 a4 a5 a6 a7 a8
      have HS8 : Hid (∀ W, Quiet0 w8 W → (W.cell? ⟨B, 0, none⟩ = some (.int .i64 h.k) ∧ W.cell? ⟨B, 1, none⟩ = some (.string h.nm) ∧ W.cell? ⟨B, 2, none⟩ = some (.int .i64 h.n) ∧ W.cell? ⟨B, 3, none⟩ = some (.int .i64 h.tk) ∧ W.cell? ⟨B, 4, none⟩ = some (.int .i64 h.tn) ∧ W.cell? ⟨B, 5, none⟩ = some (.slice o1 l1 c1) ∧ W.cell? ⟨B, 6, none⟩ = some (.slice o2 l2 c2) ∧ W.cell? ⟨B, 7, none⟩ = some (.int .i64 h.fr) ∧ W.cell? ⟨B, 8, none⟩ = some (.int .i64 h.en)) ∧ (W.cell? ⟨ub, 0, none⟩ = some (.int .i64 g.k) ∧ W.cell? ⟨ub, 1, none⟩ = some (.string g.nm) ∧ W.cell? ⟨ub, 2, none⟩ = some (.int .i64 g.n) ∧ W.cell? ⟨ub, 3, none⟩ = some (.int .i64 g.tk) ∧ W.cell? ⟨ub, 4, none⟩ = some (.int .i64 g.tn) ∧ W.cell? ⟨ub, 5, none⟩ = some (.slice o1 l1 c1) ∧ W.cell? ⟨ub, 6, none⟩ = some (.slice o3 l2 c3) ∧ W.cell? ⟨ub, 7, none⟩ = some (.int .i64 g.fr) ∧ W.cell? ⟨ub, 8, none⟩ = some (.int .i64 g.en))) := fun W hq => HCB.out W (HQ8.out.trans hq)
      have HU8 : Hid (∀ W, Quiet0 w8 W → Calls Tryd.prog 35 #[.agg #[.int .i64 h.k, .string h.nm, .int .i64 h.n, .int .i64 h.tk, .int .i64 h.tn, .slice o1 l1 c1, .slice o2 l2 c2, .int .i64 h.fr, .int .i64 h.en]] W fun e w' => ∃ oo oc, e = .returned (.slice oo uv.length oc) ∧ IntsAt w' oo uv ∧ Quiet0 W w') := fun W hq => (HU4.out W (HQ8.out.trans hq)).mono (by rintro e w' ⟨oo, oc, h1, h2, h3⟩; exact ⟨oo, oc, h1, ints_of_own h2, h3⟩)
      have HUU8 : Hid (∀ W, Quiet0 w8 W → Calls Tryd.prog 35 #[.agg #[.int .i64 g.k, .string g.nm, .int .i64 g.n, .int .i64 g.tk, .int .i64 g.tn, .slice o1 l1 c1, .slice o3 l2 c3, .int .i64 g.fr, .int .i64 g.en]] W fun e w' => ∃ oo oc, e = .returned (.slice oo uv.length oc) ∧ IntsAt w' oo uv ∧ Quiet0 W w') := fun W hq => (HUU.out W (HQ8.out.trans hq)).mono (by rintro e w' ⟨oo, oc, h1, h2, h3⟩; exact ⟨oo, oc, h1, ints_of_own h2, h3⟩)
      have HA8 := Lib.hid (fun (W : World) (hq : Quiet0 w8 W) => HA4.out W (HQ8.out.trans hq))
      have HI8 : Hid (∀ (W : World) (a b : Option Addr) (ca cb : Nat), IntsAt W a uv → IntsAt W b uv → Calls Tryd.prog 34 #[.slice a uv.length ca, .slice b uv.length cb] W fun e w' => e = .returned (.bool true) ∧ Quiet0 W w') := fun W a b ca cb h1 h2 => by
        have := ints_any a ca b cb uv uv W h1 h2 HZU.out
        rw [beq_self_eq_true] at this; exact this
      clear HE4 HV4 HU4 HA4 HEU HVU HUU HCB HZU
      generalize uv.length = un at *
      go_upto_region 13 with fail
      have hqc := Quiet0.refl w8
      go_region_held3 (fun W => (W.cell? ⟨B, 0, none⟩ = some (.int .i64 h.k) ∧ W.cell? ⟨B, 1, none⟩ = some (.string h.nm) ∧ W.cell? ⟨B, 2, none⟩ = some (.int .i64 h.n) ∧ W.cell? ⟨B, 3, none⟩ = some (.int .i64 h.tk) ∧ W.cell? ⟨B, 4, none⟩ = some (.int .i64 h.tn) ∧ W.cell? ⟨B, 5, none⟩ = some (.slice o1 l1 c1) ∧ W.cell? ⟨B, 6, none⟩ = some (.slice o2 l2 c2) ∧ W.cell? ⟨B, 7, none⟩ = some (.int .i64 h.fr) ∧ W.cell? ⟨B, 8, none⟩ = some (.int .i64 h.en)) ∧ (W.cell? ⟨ub, 0, none⟩ = some (.int .i64 g.k) ∧ W.cell? ⟨ub, 1, none⟩ = some (.string g.nm) ∧ W.cell? ⟨ub, 2, none⟩ = some (.int .i64 g.n) ∧ W.cell? ⟨ub, 3, none⟩ = some (.int .i64 g.tk) ∧ W.cell? ⟨ub, 4, none⟩ = some (.int .i64 g.tn) ∧ W.cell? ⟨ub, 5, none⟩ = some (.slice o1 l1 c1) ∧ W.cell? ⟨ub, 6, none⟩ = some (.slice o3 l2 c3) ∧ W.cell? ⟨ub, 7, none⟩ = some (.int .i64 g.fr) ∧ W.cell? ⟨ub, 8, none⟩ = some (.int .i64 g.en)))
        (((refine HS8.out _ ?_); (repeat (first | with_reducible exact hqc | with_reducible exact Quiet0.refl _ | with_reducible refine Quiet0.trans ?_ (Quiet0.alloc _ _) | with_reducible refine Quiet0.trans ?_ (Quiet0.drew _) | fail))))
        (first
          | (go_at_call 35; (with_reducible refine Calls.mono (HU8.out _ ?hq) ?_); (case hq => (repeat (first | with_reducible exact hqc | with_reducible exact Quiet0.refl _ | with_reducible refine Quiet0.trans ?_ (Quiet0.alloc _ _) | with_reducible refine Quiet0.trans ?_ (Quiet0.drew _) | fail))); rintro e wx ⟨ua, uc, rfl, hia, hqx⟩; (refine with_q (w0 := w8) ?hq2 hqx ?_); (case hq2 => (repeat (first | with_reducible exact hqc | with_reducible exact Quiet0.refl _ | with_reducible refine Quiet0.trans ?_ (Quiet0.alloc _ _) | with_reducible refine Quiet0.trans ?_ (Quiet0.drew _) | fail))); intro hqc)
          | (go_at_call 35; (with_reducible refine Calls.mono (HUU8.out _ ?hq) ?_); (case hq => (repeat (first | with_reducible exact hqc | with_reducible exact Quiet0.refl _ | with_reducible refine Quiet0.trans ?_ (Quiet0.alloc _ _) | with_reducible refine Quiet0.trans ?_ (Quiet0.drew _) | fail))); rintro e wx ⟨ub2, uc2, rfl, hib, hqx⟩; replace hia := hia.stay hqx; (refine with_q (w0 := w8) ?hq2 hqx ?_); (case hq2 => (repeat (first | with_reducible exact hqc | with_reducible exact Quiet0.refl _ | with_reducible refine Quiet0.trans ?_ (Quiet0.alloc _ _) | with_reducible refine Quiet0.trans ?_ (Quiet0.drew _) | fail))); intro hqc)
          | (go_at_call 34; (with_reducible refine Calls.mono (HI8.out _ _ _ _ _ hia hib) ?_); rintro e wx ⟨rfl, hqx⟩; (refine with_q (w0 := w8) ?hq2 hqx ?_); (case hq2 => (repeat (first | with_reducible exact hqc | with_reducible exact Quiet0.refl _ | with_reducible refine Quiet0.trans ?_ (Quiet0.alloc _ _) | with_reducible refine Quiet0.trans ?_ (Quiet0.drew _) | fail))); intro hqc)
          | (go_at_call 30; (with_reducible refine Calls.mono (HA8.out _ ?hq) ?_); (case hq => (repeat (first | with_reducible exact hqc | with_reducible exact Quiet0.refl _ | with_reducible refine Quiet0.trans ?_ (Quiet0.alloc _ _) | with_reducible refine Quiet0.trans ?_ (Quiet0.drew _) | fail))); rintro e wx ⟨rfl, hqx⟩; (refine with_q (w0 := w8) ?hq2 hqx ?_); (case hq2 => (repeat (first | with_reducible exact hqc | with_reducible exact Quiet0.refl _ | with_reducible refine Quiet0.trans ?_ (Quiet0.alloc _ _) | with_reducible refine Quiet0.trans ?_ (Quiet0.drew _) | fail))); intro hqc)
          | fail)
      all_goals
        go_wp2_with fail
        go_ret
        exact ⟨rfl, HQ0.out.trans (HQ4.out.trans (HQ8.out.trans hqc))⟩
theorem countNames_all (h : Nd) (ps : To) (w : World) (o1 : Option Addr) (l1 c1 : Nat) (o2 : Option Addr) (l2 c2 : Nat) (lo : Option Addr) (lc : Nat) (l : List ByteArray) (h1 : SlcIn (Low w) w o1 l1 h.tp) (h2 : TSlc (Low w) w o2 l2 ps) (ho : OkO h) (hop : allT OkO ps) (hL : Sc.StrT (Low w) w lo l) (hlc : l.length ≤ lc) (ht : Lx.Spaces w) :
    Calls Tryd.prog 10 #[tmv h o1 l1 c1 o2 l2 c2, .slice lo l.length lc] w fun e w' => e = .returned (.bool true) ∧ Quiet0 w w' := by
  cases hg : great17 h ps
  · by_cases hl : l.length ≤ 60
    · cases hr : Sc.RT h ps
      · exact cn_early h ps w o1 l1 c1 o2 l2 c2 lo lc l h1 h2 ho hop ht (.inr (.inr hr))
      · exact cn_main h ps w o1 l1 c1 o2 l2 c2 lo lc l h1 h2 ho hop hL hlc ht hg hl hr
    · exact cn_early h ps w o1 l1 c1 o2 l2 c2 lo lc l h1 h2 ho hop ht (.inr (.inl (by omega)))
  · exact cn_early h ps w o1 l1 c1 o2 l2 c2 lo lc l h1 h2 ho hop ht (.inl hg)
end Cn
end Go.Proofs.YtnfodiedalhlhaaDoor
end
section
namespace Go.Proofs.YtnfodiedalhlhaaDoor
open Go.ChangeShapes Go.WideShapes Go.ChangeAt Go.RowKit
theorem soSpot {w : World} {a : Addr} {v : Value} (h : w.cell? (a.add 0) = some v) : ∃ b off, a = ⟨b, off, none⟩ := by
  obtain ⟨b, off, s⟩ := a
  cases s with
  | none => exact ⟨b, off, rfl⟩
  | some s =>
    unfold World.cell? Addr.add at h
    simp only [if_true] at h
    split at h <;> simp_all
theorem soList {α : Type} {P : Nat → α → Prop} : ∀ len : Nat, (∀ i, i < len → ∃ t, P i t) → ∃ l : List α, l.length = len ∧ ∀ i t, l[i]? = some t → P i t
  | 0, _ => ⟨[], rfl, fun i t h => by simp at h⟩
  | len + 1, h => by
    obtain ⟨l, hl, hp⟩ := soList len (fun i hi => h i (by omega))
    obtain ⟨t, ht⟩ := h len (by omega)
    refine ⟨l ++ [t], by simp [hl], fun i u hu => ?_⟩
    by_cases hi : i < len
    · rw [List.getElem?_append_left (by omega)] at hu
      exact hp i u hu
    · have h2 : i < (l ++ [t]).length := (List.getElem?_eq_some_iff.1 hu).1
      have h3 : i = len := by simp [hl] at h2; omega
      subst h3
      rw [List.getElem?_append_right (by omega)] at hu
      simp [hl] at hu
      subst hu
      exact ht
section
variable {H : Type} {enc : TypeId × Value → H} {w : World} {base : Nat} {spare : Nat → Bool} {held : Bool}
theorem open_strs {v : Value} {d : DataW H} {p : List MemPlace} (hv : ∃ a len cap, v = .slice a len cap) (h : DataW.Trod enc Tryd.prog w base spare held 40 v d p) :
    ∃ o c l, v = .slice o (List.length l) c ∧ Sc.StrT (Low w) w o l ∧ (∀ s ∈ l, s.size ≤ maxLen) ∧ l.length ≤ maxLen ∧ l.length ≤ c := by
  obtain ⟨a0, l0, cc0, rfl⟩ := hv
  obtain ⟨fuel, hf⟩ := h
  rcases DataW.trod_slice Tryd.underlying40 hf with ⟨he, _⟩ | ⟨a, len, cap, elems, rest, n, hfu, he, _, _, hl, hm, hlen, hel, _⟩
  · simp [Value.cells] at he
    obtain ⟨rfl, rfl, rfl⟩ := he
    exact ⟨none, 0, [], rfl, Sc.StrT.nil _ _ _, fun t h => by simp at h, by simp, by simp⟩
  · simp [Value.cells] at he
    obtain ⟨rfl, rfl, rfl⟩ := he
    have one : ∀ i, i < l0 → ∃ s : ByteArray, w.cell? (a.add i) = some (.string s) ∧ s.size ≤ maxLen := by
      intro i hi
      have h1 := hel i hi
      rw [List.getElem?_eq_getElem (by omega)] at h1
      obtain ⟨cs', h2, h3⟩ := Option.bind_eq_some_iff.1 h1
      rw [show Tryd.prog.cellsOf 9 = 1 from by kernel_rfl] at h2
      obtain ⟨_, hcl, hcell⟩ := World.cells?_some h2
      obtain ⟨s, rfl, _, hw⟩ := DataW.trod_string Tryd.underlying9 h3
      have e0 := hcell 0 (by omega)
      simp [Deep.add_add] at e0
      exact ⟨s, e0, hw⟩
    obtain ⟨l, hll, hp⟩ := soList l0 one
    subst hll
    refine ⟨some a, _, l, rfl, fun j s hs => ?_, fun t ht => ?_, by omega, hl⟩
    · obtain ⟨t0, ht0⟩ : ∃ t0, l[0]? = some t0 := ⟨_, List.getElem?_eq_getElem (by have := (List.getElem?_eq_some_iff.1 hs).1; omega)⟩
      obtain ⟨f0, _⟩ := hp 0 t0 ht0
      obtain ⟨b, off, rfl⟩ := soSpot f0
      have h1 := (hp j s hs).1
      exact ⟨b, off, rfl, World.block_lt_of_cell? w _ f0, by simpa [Addr.add_lit] using h1⟩
    · obtain ⟨i, hi⟩ := List.getElem?_of_mem ht
      exact (hp i t hi).2
end
end Go.Proofs.YtnfodiedalhlhaaDoor
end
section
namespace Go.Proofs.YtnfodiedalhlhaaDoor
open Go.ChangeShapes Go.WideShapes Go.ChangeAt Go.RowKit
def doorSteps : Nat := 48
def laidL : List (String × DataW Unit) := [("unicode.White_Space", Rows.laid_unicode_White_Space), ("strings.asciiSpace", Rows.laid_strings_asciiSpace)]
set_option maxRecDepth 100000 in
theorem ascii_data : (Rows.laid_strings_asciiSpace : DataW Unit) = Lib.tabData .u8 Lib.asciiSpaceTab := by rfl
set_option maxRecDepth 100000 in
theorem door_met (os : Os) (args : Array Value) : laidMetH Tryd.prog laidL ((World.doorLaid Tryd.prog doorSteps os).forCall (fun _ _ => 0) ⟨#[], args, []⟩).memory :=
  laidMetH_of_parts3 (fuel := 8) (laidMet_of_run' 8 (by kernel_rfl) (by kernel_rfl)) (by kernel_rfl) (by kernel_rfl)
set_option maxRecDepth 100000 in
theorem spaces_of_laid {W : World} (h : laidMetH Tryd.prog laidL W) : Lx.Spaces W := by
  rw [MakeChecks.laidMetH_plain _ _ _ (by kernel_rfl)] at h
  have h2 := laidMet.tail h
  rw [ascii_data] at h2
  exact Lib.tabIs_of_head (g := 0) (n := 256) (by kernel_rfl) (by kernel_rfl) (t := 128) (e := 5) Tryd.underlying128 Tryd.underlying5 (by kernel_rfl) (by kernel_rfl) h2
end Go.Proofs.YtnfodiedalhlhaaDoor
end
