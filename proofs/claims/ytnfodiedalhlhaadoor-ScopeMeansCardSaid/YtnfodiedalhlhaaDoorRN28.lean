/-
  Texts laid together (ScMeansLaw): laws and walks, with their conditions in their statements.
-/
import Derived.Test.YtnfodiedalhlhaaDoorRN27
section
namespace Go.Proofs.YtnfodiedalhlhaaDoor
open Go.RowKit Go.Shelf
namespace Sc
set_option maxRecDepth 100000 in
set_option maxHeartbeats 4000000 in
theorem sm_early (h : Nd) (ps : To) (w : World) (o1 : Option Addr) (l1 c1 : Nat) (o2 : Option Addr) (l2 c2 : Nat) (lo : Option Addr) (lc : Nat) (l : List ByteArray) (h1 : SlcIn (Low w) w o1 l1 h.tp) (h2 : TSlc (Low w) w o2 l2 ps) (ho : OkO h) (hop : allT OkO ps) (ht : Lx.Spaces w) (hx : greatTm h ps = true ∨ 60 < l.length) :
    Calls Tryd.prog 7 #[tmv h o1 l1 c1 o2 l2 c2, .slice lo l.length lc] w fun e w' => e = .returned (.bool true) ∧ Quiet0 w w' := by
  obtain ⟨W0, hW0⟩ : ∃ W0, W0 = w.alloc (.cells (cells9 h o1 l1 c1 o2 l2 c2) 30) := ⟨_, rfl⟩
  have hq0 : Quiet0 w W0 := by rw [hW0]; exact Quiet0.alloc _ _
  have HQ0 := Lib.hid hq0
  have HB : Hid (∀ W, Quiet0 W0 W → (W.cell? ⟨w.heap.size, 0, none⟩ = some (.int .i64 h.k) ∧ W.cell? ⟨w.heap.size, 1, none⟩ = some (.string h.nm) ∧ W.cell? ⟨w.heap.size, 2, none⟩ = some (.int .i64 h.n) ∧ W.cell? ⟨w.heap.size, 3, none⟩ = some (.int .i64 h.tk) ∧ W.cell? ⟨w.heap.size, 4, none⟩ = some (.int .i64 h.tn) ∧ W.cell? ⟨w.heap.size, 5, none⟩ = some (.slice o1 l1 c1) ∧ W.cell? ⟨w.heap.size, 6, none⟩ = some (.slice o2 l2 c2) ∧ W.cell? ⟨w.heap.size, 7, none⟩ = some (.int .i64 h.fr) ∧ W.cell? ⟨w.heap.size, 8, none⟩ = some (.int .i64 h.en))) := by
    intro W hq; rw [hW0] at hq; exact box9 w h o1 l1 c1 o2 l2 c2 _ W hq
  have HG : Hid (∀ W, Quiet0 W0 W → Calls Tryd.prog 15 #[tmv h o1 l1 c1 o2 l2 c2] W fun e w' => e = .returned (.bool (greatTm h ps)) ∧ Quiet0 W w') := fun W hq => great8_any h ps w W o1 l1 c1 o2 l2 c2 h1 h2 ho hop (hq0.trans hq)
  have HA : Hid (∀ W, Quiet0 W0 W → Calls Tryd.prog 11 #[] W fun e w' => e = .returned (.bool true) ∧ Quiet0 W w') := fun W hq => awake8_any W (ht.stay (hq0.trans hq))
  have HX := Lib.hid hx
  clear h1 h2 ho hop ht hq0 hx
  unfold tmv at HG ⊢
  generalize greatTm h ps = g at *
  generalize l.length = ln at *
  go_enter Tryd.func7, Tryd.ntmps7
  go_upto_region 1 with fail
  rw [← hW0]
  clear hW0
  generalize hBB : w.heap.size = B at *
  clear hBB
  obtain ⟨a0, a1, a2, a3, a4, a5, a6, a7, a8⟩ := HB.out W0 (Quiet0.refl _)
  go_wp2_with fail
  refine (HG.out _ (Quiet0.refl _)).mono ?_; rintro x w1 ⟨rfl, hq1⟩
  clear a0 a1 a2 a3 a4 a5 a6 a7 a8
  obtain ⟨a0, a1, a2, a3, a4, a5, a6, a7, a8⟩ := HB.out w1 hq1
  have HQ1 := Lib.hid hq1
  clear hq1
  cases g
  case true =>
    go_wp2_with fail
    refine (HA.out _ HQ1.out).mono ?_; rintro x w2 ⟨rfl, hq2⟩
    have HQ2 := Lib.hid hq2
    clear hq2
    go_wp2_with fail
    go_ret
    exact ⟨rfl, HQ0.out.trans (HQ1.out.trans HQ2.out)⟩
  case false =>
    by_cases hl : (60 : Int) < (ln : Int)
    · go_wp2_with fail
      refine (HA.out _ HQ1.out).mono ?_; rintro x w2 ⟨rfl, hq2⟩
      have HQ2 := Lib.hid hq2
      clear hq2
      go_wp2_with fail
      go_ret
      exact ⟨rfl, HQ0.out.trans (HQ1.out.trans HQ2.out)⟩
    · exfalso
      rcases HX.out with h | h
      · cases h
      · omega
def HdQ (n : Nat) (L : List Nd) (W : World) (e : Ending) (w' : World) : Prop := ∃ o c, e = .returned (.slice o n c) ∧ HeadsAt w' o L ∧ Quiet0 W w'
theorem hd_of {n : Nat} {L : List Nd} {W : World} {e : Ending} {w' : World} (h : ListQ W L e w') (hn : L.length = n) : HdQ n L W e w' := by
  obtain ⟨o, c, xs, rfl, hl, hq⟩ := h
  exact ⟨o, c, by rw [hn], hl.heads, hq⟩
set_option maxRecDepth 100000 in
set_option maxHeartbeats 8000000 in
theorem sm_main (h : Nd) (ps : To) (w : World) (o1 : Option Addr) (l1 c1 : Nat) (o2 : Option Addr) (l2 c2 : Nat) (lo : Option Addr) (lc : Nat) (l : List ByteArray) (h1 : SlcIn (Low w) w o1 l1 h.tp) (h2 : TSlc (Low w) w o2 l2 ps) (ho : OkO h) (hop : allT OkO ps) (hL : Sc.StrT (Low w) w lo l) (ht : Lx.Spaces w) (hg : greatTm h ps = false) (hll : l.length ≤ 60) :
    Calls Tryd.prog 7 #[tmv h o1 l1 c1 o2 l2 c2, .slice lo l.length lc] w fun e w' => e = .returned (.bool true) ∧ Quiet0 w w' := by
  have hsm := Sc.small_of hg ho hop
  obtain ⟨W0, hW0⟩ : ∃ W0, W0 = w.alloc (.cells (cells9 h o1 l1 c1 o2 l2 c2) 30) := ⟨_, rfl⟩
  have hq0 : Quiet0 w W0 := by rw [hW0]; exact Quiet0.alloc _ _
  have HQ0 := Lib.hid hq0
  have HB : Hid (∀ W, Quiet0 W0 W → (W.cell? ⟨w.heap.size, 0, none⟩ = some (.int .i64 h.k) ∧ W.cell? ⟨w.heap.size, 1, none⟩ = some (.string h.nm) ∧ W.cell? ⟨w.heap.size, 2, none⟩ = some (.int .i64 h.n) ∧ W.cell? ⟨w.heap.size, 3, none⟩ = some (.int .i64 h.tk) ∧ W.cell? ⟨w.heap.size, 4, none⟩ = some (.int .i64 h.tn) ∧ W.cell? ⟨w.heap.size, 5, none⟩ = some (.slice o1 l1 c1) ∧ W.cell? ⟨w.heap.size, 6, none⟩ = some (.slice o2 l2 c2) ∧ W.cell? ⟨w.heap.size, 7, none⟩ = some (.int .i64 h.fr) ∧ W.cell? ⟨w.heap.size, 8, none⟩ = some (.int .i64 h.en))) := by
    intro W hq; rw [hW0] at hq; exact box9 w h o1 l1 c1 o2 l2 c2 _ W hq
  have HG : Hid (∀ W, Quiet0 W0 W → Calls Tryd.prog 15 #[tmv h o1 l1 c1 o2 l2 c2] W fun e w' => e = .returned (.bool false) ∧ Quiet0 W w') := fun W hq => by
    have := great8_any h ps w W o1 l1 c1 o2 l2 c2 h1 h2 ho hop (hq0.trans hq)
    rw [hg] at this; exact this
  have HA : Hid (∀ W, Quiet0 W0 W → Calls Tryd.prog 11 #[] W fun e w' => e = .returned (.bool true) ∧ Quiet0 W w') := fun W hq => awake8_any W (ht.stay (hq0.trans hq))
  have HRS : Hid (∀ W, Quiet0 W0 W → Calls Tryd.prog 13 #[tmv h o1 l1 c1 o2 l2 c2] W (RsvQ W h ps)) := fun W hq => resolve_any h ps W _ o1 l1 c1 o2 l2 c2 (h1.stay (hq0.trans hq)) (h2.stay (hq0.trans hq)) (by have := hsm.size; omega) hsm.good (ht.stay (hq0.trans hq))
  have HRN : Hid ((∀ s ∈ l, s.size ≤ 60) → ∀ W, Quiet0 W0 W → Calls Tryd.prog 26 #[tmv h o1 l1 c1 o2 l2 c2, .slice lo l.length lc] W (TmQ W (renS h ps l).1 (renS h ps l).2)) := fun hs W hq => srename_any h ps W (Low w) (Low w) o1 l1 c1 o2 l2 c2 lo lc l (h1.stay (hq0.trans hq)) (h2.stay (hq0.trans hq)) (by have := hsm.size; omega) hsm.good (hL.stay (hq0.trans hq)) (by omega) (fun s h => by have := hs s h; omega) (ht.stay (hq0.trans hq))
  have HSR : Hid ((renS h ps l).2.size = ps.size) := by
    show _ = _
    unfold renS; split
    · exact ren_size h ps l
    · rfl
  have HRU : Hid ((∀ s ∈ l, s.size ≤ 60) → ∀ (W : World) (R1 : Nat → Prop) (q1 : Option Addr) (m1 d1 : Nat) (q2 : Option Addr) (m2 d2 : Nat), SlcIn R1 W q1 m1 (renS h ps l).1.tp → TSlc R1 W q2 m2 (renS h ps l).2 → Quiet0 W0 W → Calls Tryd.prog 13 #[tmv (renS h ps l).1 q1 m1 d1 q2 m2 d2] W (RsvQ W (renS h ps l).1 (renS h ps l).2)) := fun hs W R1 q1 m1 d1 q2 m2 d2 x1 x2 hq =>
    resolve_any _ _ W R1 q1 m1 d1 q2 m2 d2 x1 x2 (by rw [HSR.out]; have := hsm.size; omega) (by
      unfold renS; split
      · exact ren_good hsm.good (fun s h => by have := hs s h; omega)
      · exact hsm.good) (ht.stay (hq0.trans hq))
  have HME := Lib.hid (means_err h ps l)
  have HMH : Hid ((rsvP h ps).2.2 = 0 → ((rsvP (renS h ps l).1 (renS h ps l).2).1.1 :: hds (rsvP (renS h ps l).1 (renS h ps l).2).1.2).map kn = ((rsvP h ps).1.1 :: hds (rsvP h ps).1.2).map kn) := fun h0 => means_heads h0
  have HS1 : Hid ((rsvP h ps).2.2 = 0 → (rsvP h ps).1.2.size ≤ 1000) := fun h0 => by rw [rsv_size h0]; have := hsm.size; omega
  have HS2 : Hid ((rsvP (renS h ps l).1 (renS h ps l).2).2.2 = 0 → (rsvP (renS h ps l).1 (renS h ps l).2).1.2.size ≤ 1000) := fun h0 => by rw [rsv_size h0, HSR.out]; have := hsm.size; omega
  have HL := Lib.hid hL
  clear h1 h2 ho hop ht hq0 hg hsm hL HSR
  unfold RsvQ at HRS HRU
  generalize renS h ps l = q at *
  obtain ⟨g, gs⟩ := q
  dsimp only at HRN HRU HME HMH HS2
  generalize rsvP h ps = RA at *
  generalize rsvP g gs = RB at *
  obtain ⟨⟨ha, asl⟩, pa, ea⟩ := RA
  obtain ⟨⟨hb, bs⟩, pb, eb⟩ := RB
  dsimp only at HME HMH HS1 HS2
  obtain rfl : eb = ea := HME.out
  unfold TmQ at HRN
  unfold tmv at HG HRS HRN HRU ⊢
  obtain ⟨ln, hln⟩ : ∃ ln, l.length = ln := ⟨_, rfl⟩
  have HLN := Lib.hid hln
  rw [hln] at hll HRN ⊢
  clear hln HME
  have hl60 : ¬ (60 : Int) < (ln : Int) := by omega
  go_enter Tryd.func7, Tryd.ntmps7
  go_upto_region 1 with fail
  rw [← hW0]
  clear hW0
  generalize hBB : w.heap.size = B at *
  have HBE := Lib.hid hBB
  clear hBB
  obtain ⟨a0, a1, a2, a3, a4, a5, a6, a7, a8⟩ := HB.out W0 (Quiet0.refl _)
  go_wp2_with fail
  refine (HG.out _ (Quiet0.refl _)).mono ?_; rintro x w2 ⟨rfl, hq2⟩
  clear a0 a1 a2 a3 a4 a5 a6 a7 a8
  have HQ2 := Lib.hid hq2
  clear hq2
  go_wp2_with fail
  go_loopw [5] (fun t wr => ∃ (i : Nat), t = .int .i64 i ∧ i ≤ ln ∧ (∀ j s, j < i → l[j]? = some s → s.size ≤ 60) ∧ Quiet0 W0 wr) (fun t _ => ln - (intOf t).toNat)
  case atStart => exact ⟨0, rfl, Nat.zero_le _, fun j s hj => by omega, HQ2.out⟩
  case round =>
    obtain ⟨i, rfl, hi, hsz, hqr⟩ := hrel
    have HSZ := Lib.hid hsz
    have HQR := Lib.hid hqr
    clear hsz hqr
    by_cases hlt : i < ln
    · have hlt' : (i : Int) < ln := by omega
      obtain ⟨s, hs⟩ : ∃ s, l[i]? = some s := ⟨_, List.getElem?_eq_getElem (by have := HLN.out; omega)⟩
      obtain ⟨b, off, rfl, _, g0⟩ := HL.out i s hs
      have g1 := (HQ0.out.trans HQR.out).at g0
      have HS := Lib.hid hs
      clear hs g0
      by_cases hs60 : (60 : Int) < (s.size : Int)
      · go_wp2_with fail
        refine (HA.out _ HQR.out).mono ?_; rintro x w3 ⟨rfl, hq3⟩
        have HQ3 := Lib.hid hq3
        clear hq3
        go_wp2_with fail
        go_ret
        exact ⟨rfl, HQ0.out.trans (HQR.out.trans HQ3.out)⟩
      · go_wp2_with fail
        go_roundw
        case rel =>
          refine ⟨i + 1, by go_num, hlt, fun j t hj hjt => ?_, HQR.out⟩
          by_cases he : j = i
          · subst he
            have := HS.out
            rw [this] at hjt
            injection hjt with hjt
            subst hjt
            omega
          · exact HSZ.out j t (by omega) hjt
        case measure => simp [intOf] <;> omega
    · have hlt' : ¬ (i : Int) < ln := by omega
      have HALL : Hid (∀ s ∈ l, s.size ≤ 60) := fun s hs => by
        obtain ⟨j, hj⟩ := List.getElem?_of_mem hs
        have h1 := (List.getElem?_eq_some_iff.1 hj).1
        exact HSZ.out j s (by have := HLN.out; omega) hj
      obtain ⟨a0, a1, a2, a3, a4, a5, a6, a7, a8⟩ := HB.out _ HQR.out
      clear HSZ
      go_wp2_with fail
      refine (HRS.out _ HQR.out).mono ?_; rintro x w3 ⟨a, as', q1, m1, d1, q2, m2, d2, p, er, rfl, hrv, ht1, ht2, hq3⟩
      obtain ⟨⟨rfl, rfl⟩, rfl, rfl⟩ : (ha = a ∧ asl = as') ∧ pa = p ∧ eb = er := by
        have e1 := Prod.mk.inj hrv
        have e2 := Prod.mk.inj e1.1
        have e3 := Prod.mk.inj e1.2
        exact ⟨e2, e3⟩
      clear hrv a0 a1 a2 a3 a4 a5 a6 a7 a8
      obtain ⟨W4, hW4⟩ : ∃ W4, W4 = (w3.alloc (.cells (cells9 ha q1 m1 d1 q2 m2 d2) 30)).alloc (.cells #[.int .i64 pa.1, .int .i64 pa.2] 28) := ⟨_, rfl⟩
      have hqa : Quiet0 w3 W4 := by rw [hW4]; exact (Quiet0.alloc _ _).trans (Quiet0.alloc _ _)
      have HQ4 : Hid (Quiet0 W0 W4) := Lib.hid (HQR.out.trans (hq3.trans hqa))
      have hba : W4.heap[w3.heap.size]? = some (.cells (cells9 ha q1 m1 d1 q2 m2 d2) 30 (0, 0)) := by rw [hW4, Below.heap_alloc _ _ _ (by simp)]; exact heap_alloc_new w3 _
      have HT1 := Lib.hid (ht1.stay hqa)
      have HT2 := Lib.hid (ht2.stay hqa)
      have HBA := Lib.hid hba
      clear hba ht1 ht2 hq3 hqa HRS
      go_upto_region 9 with fail
      change Code.wp _ _ _ _ ((w3.alloc (.cells (cells9 ha q1 m1 d1 q2 m2 d2) 30)).alloc (.cells #[.int .i64 pa.1, .int .i64 pa.2] 28))
      rw [← hW4]
      clear hW4
      generalize w3.heap.size = ub at *
      obtain ⟨a0, a1, a2, a3, a4, a5, a6, a7, a8⟩ := HB.out _ HQ4.out
      go_wp2_with fail
      refine (HRN.out HALL.out _ HQ4.out).mono ?_; rintro x w5 ⟨p1, k1, e1, p2, k2, e2, rfl, hx1, hx2, hq5⟩
      clear a0 a1 a2 a3 a4 a5 a6 a7 a8
      have HQ5 := Lib.hid (HQ4.out.trans hq5)
      have HQ45 := Lib.hid hq5
      have HU := Lib.hid (HRU.out HALL.out w5 _ p1 k1 e1 p2 k2 e2 hx1 hx2 HQ5.out)
      clear hx1 hx2 hq5 HRN HRU
      go_wp2_with fail
      refine HU.out.mono ?_; rintro x w6 ⟨b, bs', r1, v1, t1, r2, v2, t2, p', er', rfl, hrv, hx1, hx2, hq6⟩
      obtain ⟨⟨rfl, rfl⟩, rfl, rfl⟩ : (hb = b ∧ bs = bs') ∧ pb = p' ∧ eb = er' := by
        have e1 := Prod.mk.inj hrv
        have e2 := Prod.mk.inj e1.1
        have e3 := Prod.mk.inj e1.2
        exact ⟨e2, e3⟩
      clear hrv
      obtain ⟨W7, hW7⟩ : ∃ W7, W7 = (w6.alloc (.cells (cells9 hb r1 v1 t1 r2 v2 t2) 30)).alloc (.cells #[.int .i64 pb.1, .int .i64 pb.2] 28) := ⟨_, rfl⟩
      have hqa : Quiet0 w6 W7 := by rw [hW7]; exact (Quiet0.alloc _ _).trans (Quiet0.alloc _ _)
      have HQ47 : Hid (Quiet0 W4 W7) := HQ45.out.trans (hq6.trans hqa)
      have HQ7 : Hid (Quiet0 W0 W7) := HQ4.out.trans HQ47.out
      have hbb : W7.heap[w6.heap.size]? = some (.cells (cells9 hb r1 v1 t1 r2 v2 t2) 30 (0, 0)) := by rw [hW7, Below.heap_alloc _ _ _ (by simp)]; exact heap_alloc_new w6 _
      have HX1 := Lib.hid (hx1.stay hqa)
      have HX2 := Lib.hid (hx2.stay hqa)
      have HBB := Lib.hid hbb
      have HBA7 := Lib.hid (blk_after HQ47.out HBA.out)
      have HT17 := Lib.hid (HT1.out.stay HQ47.out)
      have HT27 := Lib.hid (HT2.out.stay HQ47.out)
      clear hbb hx1 hx2 hq6 hqa HBA HT1 HT2 HQ45 HQ5 HU
      go_upto_region 10 with fail
      change Code.wp _ _ _ _ ((w6.alloc (.cells (cells9 hb r1 v1 t1 r2 v2 t2) 30)).alloc (.cells #[.int .i64 pb.1, .int .i64 pb.2] 28))
      rw [← hW7]
      clear hW7
      generalize w6.heap.size = vb at *
      by_cases he : eb = 0
      · subst he
        have hlen := congrArg List.length (HMH.out rfl)
        rw [List.length_map, List.length_map] at hlen
        have HKN := Lib.hid (HMH.out rfl)
        have hs1 := HS1.out rfl
        have hs2 := HS2.out rfl
        have HLA : Hid (∀ W, Quiet0 W7 W → Calls Tryd.prog 28 #[tmv ha q1 m1 d1 q2 m2 d2] W (HdQ (ha :: hds asl).length (ha :: hds asl) W)) := fun W hq => (refListN_any ha asl W _ q1 m1 d1 q2 m2 d2 (HT27.out.stay hq) (by omega)).mono (fun e w' h => hd_of h rfl)
        have HLB : Hid (∀ W, Quiet0 W7 W → Calls Tryd.prog 28 #[tmv hb r1 v1 t1 r2 v2 t2] W (HdQ (ha :: hds asl).length (hb :: hds bs) W)) := fun W hq => (refListN_any hb bs W _ r1 v1 t1 r2 v2 t2 (HX2.out.stay hq) (by omega)).mono (fun e w' h => hd_of h hlen)
        have hnz : (ha :: hds asl).length ≤ 100000 := by rw [List.length_cons, hds_length]; omega
        have HLL2 := Lib.hid hlen
        clear hlen hs1 hs2 HMH HS1 HS2
        unfold HdQ tmv at HLA HLB
        generalize ha :: hds asl = LA at *
        generalize hb :: hds bs = LB at *
        obtain ⟨nn, hnn⟩ : ∃ nn, LA.length = nn := ⟨_, rfl⟩
        rw [hnn] at HLA HLB hnz
        have HNN := Lib.hid hnn
        clear hnn
        have HS7 : Hid (∀ W, Quiet0 W7 W → (W.cell? ⟨ub, 0, none⟩ = some (.int .i64 ha.k) ∧ W.cell? ⟨ub, 1, none⟩ = some (.string ha.nm) ∧ W.cell? ⟨ub, 2, none⟩ = some (.int .i64 ha.n) ∧ W.cell? ⟨ub, 3, none⟩ = some (.int .i64 ha.tk) ∧ W.cell? ⟨ub, 4, none⟩ = some (.int .i64 ha.tn) ∧ W.cell? ⟨ub, 5, none⟩ = some (.slice q1 m1 d1) ∧ W.cell? ⟨ub, 6, none⟩ = some (.slice q2 m2 d2) ∧ W.cell? ⟨ub, 7, none⟩ = some (.int .i64 ha.fr) ∧ W.cell? ⟨ub, 8, none⟩ = some (.int .i64 ha.en)) ∧ (W.cell? ⟨vb, 0, none⟩ = some (.int .i64 hb.k) ∧ W.cell? ⟨vb, 1, none⟩ = some (.string hb.nm) ∧ W.cell? ⟨vb, 2, none⟩ = some (.int .i64 hb.n) ∧ W.cell? ⟨vb, 3, none⟩ = some (.int .i64 hb.tk) ∧ W.cell? ⟨vb, 4, none⟩ = some (.int .i64 hb.tn) ∧ W.cell? ⟨vb, 5, none⟩ = some (.slice r1 v1 t1) ∧ W.cell? ⟨vb, 6, none⟩ = some (.slice r2 v2 t2) ∧ W.cell? ⟨vb, 7, none⟩ = some (.int .i64 hb.fr) ∧ W.cell? ⟨vb, 8, none⟩ = some (.int .i64 hb.en))) := fun W hq => ⟨cells9_block (blk_after hq HBA7.out), cells9_block (blk_after hq HBB.out)⟩
        clear HBA7 HBB HT17 HT27 HX1 HX2 HL HLN HB HG HALL HQ2 HQR HQ47
        go_upto_region 12 with fail
        go_cut [12, 13] (fun v12 v13 wx => ∃ (oa : Option Addr) (ca : Nat) (ob : Option Addr) (cb : Nat), v12 = .slice oa nn ca ∧ v13 = .slice ob nn cb ∧ HeadsAt wx oa LA ∧ HeadsAt wx ob LB ∧ Quiet0 W7 wx)
        case first =>
          have hqc := Quiet0.refl W7
          go_region_held3 (fun W => (W.cell? ⟨ub, 0, none⟩ = some (.int .i64 ha.k) ∧ W.cell? ⟨ub, 1, none⟩ = some (.string ha.nm) ∧ W.cell? ⟨ub, 2, none⟩ = some (.int .i64 ha.n) ∧ W.cell? ⟨ub, 3, none⟩ = some (.int .i64 ha.tk) ∧ W.cell? ⟨ub, 4, none⟩ = some (.int .i64 ha.tn) ∧ W.cell? ⟨ub, 5, none⟩ = some (.slice q1 m1 d1) ∧ W.cell? ⟨ub, 6, none⟩ = some (.slice q2 m2 d2) ∧ W.cell? ⟨ub, 7, none⟩ = some (.int .i64 ha.fr) ∧ W.cell? ⟨ub, 8, none⟩ = some (.int .i64 ha.en)) ∧ (W.cell? ⟨vb, 0, none⟩ = some (.int .i64 hb.k) ∧ W.cell? ⟨vb, 1, none⟩ = some (.string hb.nm) ∧ W.cell? ⟨vb, 2, none⟩ = some (.int .i64 hb.n) ∧ W.cell? ⟨vb, 3, none⟩ = some (.int .i64 hb.tk) ∧ W.cell? ⟨vb, 4, none⟩ = some (.int .i64 hb.tn) ∧ W.cell? ⟨vb, 5, none⟩ = some (.slice r1 v1 t1) ∧ W.cell? ⟨vb, 6, none⟩ = some (.slice r2 v2 t2) ∧ W.cell? ⟨vb, 7, none⟩ = some (.int .i64 hb.fr) ∧ W.cell? ⟨vb, 8, none⟩ = some (.int .i64 hb.en)))
            (((refine HS7.out _ ?_); (repeat (first | with_reducible exact hqc | with_reducible exact Quiet0.refl _ | with_reducible refine Quiet0.trans ?_ (Quiet0.alloc _ _) | with_reducible refine Quiet0.trans ?_ (Quiet0.drew _) | fail))))
            (first
              | (go_at_call 28; (with_reducible refine Calls.mono (HLA.out _ ?hq) ?_); (case hq => (repeat (first | with_reducible exact hqc | with_reducible exact Quiet0.refl _ | with_reducible refine Quiet0.trans ?_ (Quiet0.alloc _ _) | with_reducible refine Quiet0.trans ?_ (Quiet0.drew _) | fail))); rintro e wx ⟨oa, ca, rfl, hha, hqx⟩; (refine with_q (w0 := W7) ?hq2 hqx ?_); (case hq2 => (repeat (first | with_reducible exact hqc | with_reducible exact Quiet0.refl _ | with_reducible refine Quiet0.trans ?_ (Quiet0.alloc _ _) | with_reducible refine Quiet0.trans ?_ (Quiet0.drew _) | fail))); intro hqc)
              | (go_at_call 28; (with_reducible refine Calls.mono (HLB.out _ ?hq) ?_); (case hq => (repeat (first | with_reducible exact hqc | with_reducible exact Quiet0.refl _ | with_reducible refine Quiet0.trans ?_ (Quiet0.alloc _ _) | with_reducible refine Quiet0.trans ?_ (Quiet0.drew _) | fail))); rintro e wx ⟨ob, cb, rfl, hhb, hqx⟩; replace hha := hha.stay hqx; (refine with_q (w0 := W7) ?hq2 hqx ?_); (case hq2 => (repeat (first | with_reducible exact hqc | with_reducible exact Quiet0.refl _ | with_reducible refine Quiet0.trans ?_ (Quiet0.alloc _ _) | with_reducible refine Quiet0.trans ?_ (Quiet0.drew _) | fail))); intro hqc)
              | fail)
          all_goals
            go_wp2_with fail
            go_meet
            exact ⟨_, _, _, _, rfl, rfl, hha, hhb, hqc⟩
        case rest =>
          rename World => w8
          obtain ⟨oa, ca, ob, cb, rfl, rfl, hha, hhb, hq8⟩ := hcut
          have HHA := Lib.hid hha
          have HHB := Lib.hid hhb
          have HQ8 := Lib.hid (HQ7.out.trans hq8)
          clear hha hhb hq8 HS7 HLA HLB
          go_wp2_with fail
          go_loopw [14] (fun t wr => ∃ (i : Nat), t = .int .i64 i ∧ i ≤ nn ∧ Quiet0 w8 wr) (fun t _ => nn - (intOf t).toNat)
          case atStart => exact ⟨0, rfl, Nat.zero_le _, Quiet0.refl _⟩
          case round =>
            obtain ⟨i, rfl, hi, hqi⟩ := hrel
            have HQI := Lib.hid hqi
            clear hqi
            by_cases hlt : i < nn
            · have hlt' : (i : Int) < nn := by omega
              have hp0 : (0 : Int) ≤ (i : Int) := by omega
              obtain ⟨ta, hta⟩ : ∃ t, LA[i]? = some t := ⟨_, List.getElem?_eq_getElem (by have := HNN.out; omega)⟩
              obtain ⟨tb, htb⟩ : ∃ t, LB[i]? = some t := ⟨_, List.getElem?_eq_getElem (by have := HNN.out; have := HLL2.out; omega)⟩
              have hkn : kn tb = kn ta := by
                have e := congrArg (fun z => z[i]?) HKN.out
                simp only [List.getElem?_map, hta, htb, Option.map_some] at e
                injection e
              obtain ⟨hk1, hk2⟩ := Prod.mk.inj hkn
              obtain ⟨ba, fa, y1, y2, y3, y4, y5, y6, rfl, hca⟩ := (HHA.out.stay HQI.out) i ta hta
              obtain ⟨bb, fb, z1, z2, z3, z4, z5, z6, rfl, hcb⟩ := (HHB.out.stay HQI.out) i tb htb
              have HS : Hid (∀ W, Quiet0 wr W → W.cell? ⟨ba, fa + i * 9, none⟩ = some (.int .i64 ta.k) ∧ W.cell? ⟨ba, fa + i * 9 + 2, none⟩ = some (.int .i64 ta.n) ∧ W.cell? ⟨bb, fb + i * 9, none⟩ = some (.int .i64 ta.k) ∧ W.cell? ⟨bb, fb + i * 9 + 2, none⟩ = some (.int .i64 ta.n)) := fun W hq => by
                have x1 := hca.fr hq (fun h => h)
                have x2 := hcb.fr hq (fun h => h)
                refine ⟨x1.1, x1.2.2.1, ?_, ?_⟩
                · rw [← show tb.k = ta.k from hk1]; exact x2.1
                · rw [← show tb.n = ta.n from hk2]; exact x2.2.2.1
              clear hta htb hkn hk1 hk2 hca hcb
              go_upto_region 18 with fail
              have hqc := Quiet0.refl wr
              go_region_held3 (fun W => W.cell? ⟨ba, fa + i * 9, none⟩ = some (.int .i64 ta.k) ∧ W.cell? ⟨ba, fa + i * 9 + 2, none⟩ = some (.int .i64 ta.n) ∧ W.cell? ⟨bb, fb + i * 9, none⟩ = some (.int .i64 ta.k) ∧ W.cell? ⟨bb, fb + i * 9 + 2, none⟩ = some (.int .i64 ta.n))
                (((refine HS.out _ ?_); (repeat (first | with_reducible exact hqc | with_reducible exact Quiet0.refl _ | with_reducible refine Quiet0.trans ?_ (Quiet0.alloc _ _) | with_reducible refine Quiet0.trans ?_ (Quiet0.drew _) | fail))))
                (fail)
              all_goals
                go_wp2_with fail
                go_roundw
                case rel => exact ⟨i + 1, by go_num, hlt, HQI.out.trans (by (repeat (first | with_reducible exact hqc | with_reducible exact Quiet0.refl _ | with_reducible refine Quiet0.trans ?_ (Quiet0.alloc _ _) | with_reducible refine Quiet0.trans ?_ (Quiet0.drew _) | fail)))⟩
                case measure => simp [intOf] <;> omega
            · have hlt' : ¬ (i : Int) < nn := by omega
              have hqq := HQ8.out.trans HQI.out
              have HQQ := Lib.hid hqq
              clear hqq
              go_wp2_with fail
              refine (HA.out _ HQQ.out).mono ?_; rintro x w9 ⟨rfl, hq9⟩
              have HQ9 := Lib.hid (HQQ.out.trans hq9)
              clear hq9
              go_wp2_with fail
              go_ret
              exact ⟨rfl, HQ0.out.trans HQ9.out⟩
      · have heb : (eb != 0) = true := by simp [he]
        have hee : (eb == 0) = false := by simp [he]
        go_wp2_with fail
        refine (HA.out _ HQ7.out).mono ?_; rintro x w9 ⟨rfl, hq9⟩
        have HQ9 := Lib.hid (HQ7.out.trans hq9)
        clear hq9
        go_wp2_with fail
        go_ret
        exact ⟨rfl, HQ0.out.trans HQ9.out⟩
theorem scopeMeans_all (h : Nd) (ps : To) (w : World) (o1 : Option Addr) (l1 c1 : Nat) (o2 : Option Addr) (l2 c2 : Nat) (lo : Option Addr) (lc : Nat) (l : List ByteArray) (h1 : SlcIn (Low w) w o1 l1 h.tp) (h2 : TSlc (Low w) w o2 l2 ps) (ho : OkO h) (hop : allT OkO ps) (hL : Sc.StrT (Low w) w lo l) (ht : Lx.Spaces w) :
    Calls Tryd.prog 7 #[tmv h o1 l1 c1 o2 l2 c2, .slice lo l.length lc] w fun e w' => e = .returned (.bool true) ∧ Quiet0 w w' := by
  cases hg : greatTm h ps
  · by_cases hl : l.length ≤ 60
    · exact sm_main h ps w o1 l1 c1 o2 l2 c2 lo lc l h1 h2 ho hop hL ht hg hl
    · exact sm_early h ps w o1 l1 c1 o2 l2 c2 lo lc l h1 h2 ho hop ht (.inr (by omega))
  · exact sm_early h ps w o1 l1 c1 o2 l2 c2 lo lc l h1 h2 ho hop ht (.inl hg)
end Sc
end Go.Proofs.YtnfodiedalhlhaaDoor
end
