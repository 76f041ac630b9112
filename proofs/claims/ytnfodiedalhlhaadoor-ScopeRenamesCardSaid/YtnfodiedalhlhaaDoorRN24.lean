/-
  Texts laid together (ScAlk, ScAlkLaw, CnRen, CnNames0, ScRen): laws and walks, with their conditions in their statements.
-/
import Derived.Test.YtnfodiedalhlhaaDoorRN21
import Derived.Test.YtnfodiedalhlhaaDoorRN23
section
namespace Go.Proofs.YtnfodiedalhlhaaDoor
open Go.RowKit Go.Shelf
namespace Sc
def TmRdy (W : World) (g : Nd) (gs : To) (o1 : Option Addr) (l1 : Nat) (o2 : Option Addr) (l2 : Nat) : Prop := SlcIn (fun _ => True) W o1 l1 g.tp ∧ TSlc (fun _ => True) W o2 l2 gs
theorem TmRdy.stay {w W : World} {g : Nd} {gs : To} {o1 : Option Addr} {l1 : Nat} {o2 : Option Addr} {l2 : Nat} (h : TmRdy w g gs o1 l1 o2 l2) (hq : Quiet0 w W) : TmRdy W g gs o1 l1 o2 l2 := ⟨h.1.stay hq, h.2.stay hq⟩
theorem with_tm {w W w3 : World} {g : Nd} {gs : To} {o1 : Option Addr} {l1 : Nat} {o2 : Option Addr} {l2 : Nat} {G : Prop} (h : TmRdy w g gs o1 l1 o2 l2) (hq : Quiet0 w W) (hqx : Quiet0 W w3) (k : TmRdy w3 g gs o1 l1 o2 l2 → G) : G := k (h.stay (hq.trans hqx))
def BrQ (w : World) (g : Nd) (gs : To) (x : Ending) (w' : World) : Prop := ∃ o1 l1 c1 o2 l2 c2, x = .returned (tmv g o1 l1 c1 o2 l2 c2) ∧ TmRdy w' g gs o1 l1 o2 l2 ∧ Quiet0 w w'
def bareN (h : Nd) (ps : To) : Nd := stripH (barH h ps)
def bareT (h : Nd) (ps : To) : To := stripF (barP h ps)
def alkB (h : Nd) (ps : To) (h' : Nd) (ps' : To) : Bool := RT h ps && RT h' ps' && alikeT true (bareN h ps) (bareT h ps) (bareN h' ps') (bareT h' ps')
theorem bare_rdy (h : Nd) (ps : To) (w : World) (R : Nat → Prop) (o1 : Option Addr) (l1 c1 : Nat) (o2 : Option Addr) (l2 c2 : Nat) (hs1 : SlcIn R w o1 l1 h.tp) (hs : TSlc R w o2 l2 ps) (hz : ps.size ≤ 100000) (hg : allT GoodH (.cons h ps .nil)) (hr : RT h ps = true) :
    Calls Tryd.prog 50 #[tmv h o1 l1 c1 o2 l2 c2] w (BrQ w (bareN h ps) (bareT h ps)) := by
  obtain ⟨hv, hok, _⟩ := RT_ok hr
  have hav := okF_allV ps hok
  refine (bare_any h ps w R o1 l1 c1 o2 l2 c2 hs1 hs hz hv hav (by have := hg.1.2.1; omega) (allT_mono (fun h hh => by have := hh.2.1; omega) _ hg.2.1)).mono ?_
  rintro x w' ⟨q1, m1, d1, q2, m2, d2, rfl, h1, h2, h3⟩
  exact ⟨q1, m1, d1, q2, m2, d2, rfl, ⟨h1.mono (fun _ _ _ => trivial), h2.mono (fun _ _ _ => trivial)⟩, h3⟩
set_option maxRecDepth 100000 in
set_option maxHeartbeats 4000000 in
theorem alike8_any (h : Nd) (ps : To) (h' : Nd) (ps' : To) (w : World) (R R' : Nat → Prop) (o1 : Option Addr) (l1 c1 : Nat) (o2 : Option Addr) (l2 c2 : Nat) (p1 : Option Addr) (m1 d1 : Nat) (p2 : Option Addr) (m2 d2 : Nat) (hs1 : SlcIn R w o1 l1 h.tp) (hs : TSlc R w o2 l2 ps) (hz : ps.size ≤ 100000) (hg : allT GoodH (.cons h ps .nil)) (hs1' : SlcIn R' w p1 m1 h'.tp) (hs' : TSlc R' w p2 m2 ps') (hz' : ps'.size ≤ 100000) (hg' : allT GoodH (.cons h' ps' .nil)) (ht : Lx.Spaces w) :
    Calls Tryd.prog 25 #[tmv h o1 l1 c1 o2 l2 c2, tmv h' p1 m1 d1 p2 m2 d2] w fun e w' => e = .returned (.bool (alkB h ps h' ps')) ∧ Quiet0 w w' := by
  obtain ⟨W0, hW0⟩ : ∃ W0, W0 = (w.alloc (.cells (cells9 h o1 l1 c1 o2 l2 c2) 30)).alloc (.cells (cells9 h' p1 m1 d1 p2 m2 d2) 30) := ⟨_, rfl⟩
  have HQ0 : Hid (Quiet0 w W0) := by rw [hW0]; exact (Quiet0.alloc _ _).trans (Quiet0.alloc _ _)
  have HB : Hid (∀ W, Quiet0 W0 W → (W.cell? ⟨w.heap.size, 0, none⟩ = some (.int .i64 h.k) ∧ W.cell? ⟨w.heap.size, 1, none⟩ = some (.string h.nm) ∧ W.cell? ⟨w.heap.size, 2, none⟩ = some (.int .i64 h.n) ∧ W.cell? ⟨w.heap.size, 3, none⟩ = some (.int .i64 h.tk) ∧ W.cell? ⟨w.heap.size, 4, none⟩ = some (.int .i64 h.tn) ∧ W.cell? ⟨w.heap.size, 5, none⟩ = some (.slice o1 l1 c1) ∧ W.cell? ⟨w.heap.size, 6, none⟩ = some (.slice o2 l2 c2) ∧ W.cell? ⟨w.heap.size, 7, none⟩ = some (.int .i64 h.fr) ∧ W.cell? ⟨w.heap.size, 8, none⟩ = some (.int .i64 h.en)) ∧ (W.cell? ⟨w.heap.size + 1, 0, none⟩ = some (.int .i64 h'.k) ∧ W.cell? ⟨w.heap.size + 1, 1, none⟩ = some (.string h'.nm) ∧ W.cell? ⟨w.heap.size + 1, 2, none⟩ = some (.int .i64 h'.n) ∧ W.cell? ⟨w.heap.size + 1, 3, none⟩ = some (.int .i64 h'.tk) ∧ W.cell? ⟨w.heap.size + 1, 4, none⟩ = some (.int .i64 h'.tn) ∧ W.cell? ⟨w.heap.size + 1, 5, none⟩ = some (.slice p1 m1 d1) ∧ W.cell? ⟨w.heap.size + 1, 6, none⟩ = some (.slice p2 m2 d2) ∧ W.cell? ⟨w.heap.size + 1, 7, none⟩ = some (.int .i64 h'.fr) ∧ W.cell? ⟨w.heap.size + 1, 8, none⟩ = some (.int .i64 h'.en))) := by
    intro W hq; rw [hW0] at hq; exact box92 w h o1 l1 c1 o2 l2 c2 h' p1 m1 d1 p2 m2 d2 _ W hq
  have HR : Hid (∀ W, Quiet0 W0 W → Calls Tryd.prog 38 #[tmv h o1 l1 c1 o2 l2 c2] W fun e w' => e = .returned (.bool (RT h ps)) ∧ Quiet0 W w') := fun W hq => rightTm_any h ps W R o1 l1 c1 o2 l2 c2 (hs1.stay (HQ0.out.trans hq)) (hs.stay (HQ0.out.trans hq)) hz hg (ht.stay (HQ0.out.trans hq))
  have HR' : Hid (∀ W, Quiet0 W0 W → Calls Tryd.prog 38 #[tmv h' p1 m1 d1 p2 m2 d2] W fun e w' => e = .returned (.bool (RT h' ps')) ∧ Quiet0 W w') := fun W hq => rightTm_any h' ps' W R' p1 m1 d1 p2 m2 d2 (hs1'.stay (HQ0.out.trans hq)) (hs'.stay (HQ0.out.trans hq)) hz' hg' (ht.stay (HQ0.out.trans hq))
  have HW : Hid (RT h ps = true → ∀ W, Quiet0 W0 W → Calls Tryd.prog 50 #[tmv h o1 l1 c1 o2 l2 c2] W (BrQ W (bareN h ps) (bareT h ps))) := fun hr W hq => bare_rdy h ps W R o1 l1 c1 o2 l2 c2 (hs1.stay (HQ0.out.trans hq)) (hs.stay (HQ0.out.trans hq)) hz hg hr
  have HW' : Hid (RT h' ps' = true → ∀ W, Quiet0 W0 W → Calls Tryd.prog 50 #[tmv h' p1 m1 d1 p2 m2 d2] W (BrQ W (bareN h' ps') (bareT h' ps'))) := fun hr W hq => bare_rdy h' ps' W R' p1 m1 d1 p2 m2 d2 (hs1'.stay (HQ0.out.trans hq)) (hs'.stay (HQ0.out.trans hq)) hz' hg' hr
  have HE : Hid (∀ (W : World) (o1 : Option Addr) (l1 c1 : Nat) (o2 : Option Addr) (l2 c2 : Nat) (p1 : Option Addr) (m1 d1 : Nat) (p2 : Option Addr) (m2 d2 : Nat), TmRdy W (bareN h ps) (bareT h ps) o1 l1 o2 l2 → TmRdy W (bareN h' ps') (bareT h' ps') p1 m1 p2 m2 → Calls Tryd.prog 49 #[tmv (bareN h ps) o1 l1 c1 o2 l2 c2, tmv (bareN h' ps') p1 m1 d1 p2 m2 d2] W fun e w' => e = .returned (.bool (alikeT true (bareN h ps) (bareT h ps) (bareN h' ps') (bareT h' ps'))) ∧ Quiet0 W w') := fun W o1 l1 c1 o2 l2 c2 p1 m1 d1 p2 m2 d2 g1 g2 => equalTm_any _ _ _ _ W o1 l1 c1 o2 l2 c2 p1 m1 d1 p2 m2 d2 _ g1.1 g1.2 g2.1 g2.2
  clear hs1 hs hg hs1' hs' hg' ht hz hz'
  obtain ⟨res, hres⟩ : ∃ res, res = alkB h ps h' ps' := ⟨_, rfl⟩
  have HRES := Lib.hid hres
  rw [← hres]
  clear hres
  unfold tmv at HR HR' HW HW' HE ⊢
  cases hr : RT h ps
  case false =>
    have HF : Hid (res = false) := by show _ = _; rw [HRES.out]; unfold alkB; rw [hr]; rfl
    rw [hr] at HR
    clear hr HW HW' HE HR'
    go_enter Tryd.func25, Tryd.ntmps25
    go_upto_region 1 with fail
    rw [← hW0]
    clear hW0
    generalize hB : w.heap.size = B at *
    clear hB
    have hqc := Quiet0.refl W0
    obtain ⟨⟨a0, a1, a2, a3, a4, a5, a6, a7, a8⟩, b0, b1, b2, b3, b4, b5, b6, b7, b8⟩ := HB.out _ hqc
    go_region_law (first
        | (go_simp; go_at_call 38; (with_reducible refine Calls.mono (HR.out _ ?hq) ?_); (case hq => (repeat (first | with_reducible exact hqc | with_reducible exact Quiet0.refl _ | with_reducible refine Quiet0.trans ?_ (Quiet0.alloc _ _) | with_reducible refine Quiet0.trans ?_ (Quiet0.drew _) | fail))); rintro e wx ⟨rfl, hqx⟩; (refine with_q (w0 := W0) ?hq2 hqx ?_); (case hq2 => (repeat (first | with_reducible exact hqc | with_reducible exact Quiet0.refl _ | with_reducible refine Quiet0.trans ?_ (Quiet0.alloc _ _) | with_reducible refine Quiet0.trans ?_ (Quiet0.drew _) | fail))); intro hqc; obtain ⟨⟨a0, a1, a2, a3, a4, a5, a6, a7, a8⟩, b0, b1, b2, b3, b4, b5, b6, b7, b8⟩ := HB.out _ hqc)
        | fail)
    all_goals
      have HQC : Hid (Quiet0 W0 _) := hqc
      clear hqc
      go_wp2_with fail
      go_ret
      exact ⟨by rw [HF.out]; rfl, HQ0.out.trans HQC.out⟩
  case true =>
    cases hr' : RT h' ps'
    case false =>
      have HF : Hid (res = false) := by show _ = _; rw [HRES.out]; unfold alkB; rw [hr, hr']; rfl
      rw [hr] at HR
      rw [hr'] at HR'
      clear hr hr' HW HW' HE
      go_enter Tryd.func25, Tryd.ntmps25
      go_upto_region 1 with fail
      rw [← hW0]
      clear hW0
      generalize hB : w.heap.size = B at *
      clear hB
      have hqc := Quiet0.refl W0
      obtain ⟨⟨a0, a1, a2, a3, a4, a5, a6, a7, a8⟩, b0, b1, b2, b3, b4, b5, b6, b7, b8⟩ := HB.out _ hqc
      go_region_law (first
          | (go_simp; go_at_call 38; (with_reducible refine Calls.mono (HR.out _ ?hq) ?_); (case hq => (repeat (first | with_reducible exact hqc | with_reducible exact Quiet0.refl _ | with_reducible refine Quiet0.trans ?_ (Quiet0.alloc _ _) | with_reducible refine Quiet0.trans ?_ (Quiet0.drew _) | fail))); rintro e wx ⟨rfl, hqx⟩; (refine with_q (w0 := W0) ?hq2 hqx ?_); (case hq2 => (repeat (first | with_reducible exact hqc | with_reducible exact Quiet0.refl _ | with_reducible refine Quiet0.trans ?_ (Quiet0.alloc _ _) | with_reducible refine Quiet0.trans ?_ (Quiet0.drew _) | fail))); intro hqc; obtain ⟨⟨a0, a1, a2, a3, a4, a5, a6, a7, a8⟩, b0, b1, b2, b3, b4, b5, b6, b7, b8⟩ := HB.out _ hqc)
          | (go_simp; go_at_call 38; (with_reducible refine Calls.mono (HR'.out _ ?hq) ?_); (case hq => (repeat (first | with_reducible exact hqc | with_reducible exact Quiet0.refl _ | with_reducible refine Quiet0.trans ?_ (Quiet0.alloc _ _) | with_reducible refine Quiet0.trans ?_ (Quiet0.drew _) | fail))); rintro e wx ⟨rfl, hqx⟩; (refine with_q (w0 := W0) ?hq2 hqx ?_); (case hq2 => (repeat (first | with_reducible exact hqc | with_reducible exact Quiet0.refl _ | with_reducible refine Quiet0.trans ?_ (Quiet0.alloc _ _) | with_reducible refine Quiet0.trans ?_ (Quiet0.drew _) | fail))); intro hqc; obtain ⟨⟨a0, a1, a2, a3, a4, a5, a6, a7, a8⟩, b0, b1, b2, b3, b4, b5, b6, b7, b8⟩ := HB.out _ hqc)
          | fail)
      all_goals
        have HQC : Hid (Quiet0 W0 _) := hqc
        clear hqc
        go_wp2_with fail
        go_ret
        exact ⟨by rw [HF.out]; rfl, HQ0.out.trans HQC.out⟩
    case true =>
      have HF : Hid (res = alikeT true (bareN h ps) (bareT h ps) (bareN h' ps') (bareT h' ps')) := by show _ = _; rw [HRES.out]; unfold alkB; rw [hr, hr']; rfl
      have HV := Lib.hid (HW.out hr)
      have HV' := Lib.hid (HW'.out hr')
      rw [hr] at HR
      rw [hr'] at HR'
      clear hr hr' HW HW'
      generalize alikeT true (bareN h ps) (bareT h ps) (bareN h' ps') (bareT h' ps') = rb at *
      generalize bareN h ps = g at *
      generalize bareT h ps = gs at *
      generalize bareN h' ps' = g' at *
      generalize bareT h' ps' = gs' at *
      go_enter Tryd.func25, Tryd.ntmps25
      go_upto_region 1 with fail
      rw [← hW0]
      clear hW0
      generalize hB : w.heap.size = B at *
      clear hB
      have hqc := Quiet0.refl W0
      obtain ⟨⟨a0, a1, a2, a3, a4, a5, a6, a7, a8⟩, b0, b1, b2, b3, b4, b5, b6, b7, b8⟩ := HB.out _ hqc
      go_region_law (first
          | (go_simp; go_at_call 38; (with_reducible refine Calls.mono (HR.out _ ?hq) ?_); (case hq => (repeat (first | with_reducible exact hqc | with_reducible exact Quiet0.refl _ | with_reducible refine Quiet0.trans ?_ (Quiet0.alloc _ _) | with_reducible refine Quiet0.trans ?_ (Quiet0.drew _) | fail))); rintro e wx ⟨rfl, hqx⟩; (refine with_q (w0 := W0) ?hq2 hqx ?_); (case hq2 => (repeat (first | with_reducible exact hqc | with_reducible exact Quiet0.refl _ | with_reducible refine Quiet0.trans ?_ (Quiet0.alloc _ _) | with_reducible refine Quiet0.trans ?_ (Quiet0.drew _) | fail))); intro hqc; obtain ⟨⟨a0, a1, a2, a3, a4, a5, a6, a7, a8⟩, b0, b1, b2, b3, b4, b5, b6, b7, b8⟩ := HB.out _ hqc)
          | (go_simp; go_at_call 38; (with_reducible refine Calls.mono (HR'.out _ ?hq) ?_); (case hq => (repeat (first | with_reducible exact hqc | with_reducible exact Quiet0.refl _ | with_reducible refine Quiet0.trans ?_ (Quiet0.alloc _ _) | with_reducible refine Quiet0.trans ?_ (Quiet0.drew _) | fail))); rintro e wx ⟨rfl, hqx⟩; (refine with_q (w0 := W0) ?hq2 hqx ?_); (case hq2 => (repeat (first | with_reducible exact hqc | with_reducible exact Quiet0.refl _ | with_reducible refine Quiet0.trans ?_ (Quiet0.alloc _ _) | with_reducible refine Quiet0.trans ?_ (Quiet0.drew _) | fail))); intro hqc; obtain ⟨⟨a0, a1, a2, a3, a4, a5, a6, a7, a8⟩, b0, b1, b2, b3, b4, b5, b6, b7, b8⟩ := HB.out _ hqc)
          | (go_simp; go_at_call 50; (with_reducible refine Calls.mono (HV.out _ ?hq) ?_); (case hq => (repeat (first | with_reducible exact hqc | with_reducible exact Quiet0.refl _ | with_reducible refine Quiet0.trans ?_ (Quiet0.alloc _ _) | with_reducible refine Quiet0.trans ?_ (Quiet0.drew _) | fail))); rintro e wx ⟨q1, n1, e1, q2, n2, e2, rfl, hk1, hqx⟩; (try (refine with_tm hk2 ?hq3 hqx ?_; (case hq3 => (repeat (first | with_reducible exact Quiet0.refl _ | with_reducible refine Quiet0.trans ?_ (Quiet0.alloc _ _) | with_reducible refine Quiet0.trans ?_ (Quiet0.drew _) | fail))); intro hk2)); unfold tmv; (refine with_q (w0 := W0) ?hq2 hqx ?_); (case hq2 => (repeat (first | with_reducible exact hqc | with_reducible exact Quiet0.refl _ | with_reducible refine Quiet0.trans ?_ (Quiet0.alloc _ _) | with_reducible refine Quiet0.trans ?_ (Quiet0.drew _) | fail))); intro hqc; obtain ⟨⟨a0, a1, a2, a3, a4, a5, a6, a7, a8⟩, b0, b1, b2, b3, b4, b5, b6, b7, b8⟩ := HB.out _ hqc)
          | (go_simp; go_at_call 50; (with_reducible refine Calls.mono (HV'.out _ ?hq) ?_); (case hq => (repeat (first | with_reducible exact hqc | with_reducible exact Quiet0.refl _ | with_reducible refine Quiet0.trans ?_ (Quiet0.alloc _ _) | with_reducible refine Quiet0.trans ?_ (Quiet0.drew _) | fail))); rintro e wx ⟨r1, s1, f1, r2, s2, f2, rfl, hk2, hqx⟩; (try (refine with_tm hk1 ?hq3 hqx ?_; (case hq3 => (repeat (first | with_reducible exact Quiet0.refl _ | with_reducible refine Quiet0.trans ?_ (Quiet0.alloc _ _) | with_reducible refine Quiet0.trans ?_ (Quiet0.drew _) | fail))); intro hk1)); unfold tmv; (refine with_q (w0 := W0) ?hq2 hqx ?_); (case hq2 => (repeat (first | with_reducible exact hqc | with_reducible exact Quiet0.refl _ | with_reducible refine Quiet0.trans ?_ (Quiet0.alloc _ _) | with_reducible refine Quiet0.trans ?_ (Quiet0.drew _) | fail))); intro hqc; obtain ⟨⟨a0, a1, a2, a3, a4, a5, a6, a7, a8⟩, b0, b1, b2, b3, b4, b5, b6, b7, b8⟩ := HB.out _ hqc)
          | (go_simp; (go_at_call 49; (with_reducible refine Calls.mono (HE.out _ _ _ _ _ _ _ _ _ _ _ _ _ (hk1.stay ?hq3) (hk2.stay ?hq4)) ?_)); (case hq3 => (repeat (first | with_reducible exact Quiet0.refl _ | with_reducible refine Quiet0.trans ?_ (Quiet0.alloc _ _) | with_reducible refine Quiet0.trans ?_ (Quiet0.drew _) | fail))); (case hq4 => (repeat (first | with_reducible exact Quiet0.refl _ | with_reducible refine Quiet0.trans ?_ (Quiet0.alloc _ _) | with_reducible refine Quiet0.trans ?_ (Quiet0.drew _) | fail))); rintro e wx ⟨rfl, hqx⟩; (refine with_q (w0 := W0) ?hq2 hqx ?_); (case hq2 => (repeat (first | with_reducible exact hqc | with_reducible exact Quiet0.refl _ | with_reducible refine Quiet0.trans ?_ (Quiet0.alloc _ _) | with_reducible refine Quiet0.trans ?_ (Quiet0.drew _) | fail))); intro hqc)
          | fail)
      all_goals
        have HQC : Hid (Quiet0 W0 _) := hqc
        clear hqc hqx hk1 hk2
        go_wp2_with fail
        go_ret
        exact ⟨by rw [HF.out]; rfl, HQ0.out.trans HQC.out⟩
end Sc
end Go.Proofs.YtnfodiedalhlhaaDoor
end
section
namespace Go.Proofs.YtnfodiedalhlhaaDoor
open Go.RowKit Go.Shelf
namespace Sc
theorem alkB_ref (h : Nd) (ps : To) (h' : Nd) (ps' : To) : alkB h ps h' ps' = (RT h ps && RT h' ps' && refA1 [] [] h ps h' ps') := by
  unfold alkB
  cases hr : RT h ps
  · rfl
  cases hr' : RT h' ps'
  · rfl
  have hk := bare_alike (.cons h ps .nil) (.cons h' ps' .nil) 0 ByteArray.empty 0 ByteArray.empty 0 [] [] (right_okF _ hr) (right_okF _ hr')
  have he : envOf 0 ByteArray.empty 0 [] = [] := rfl
  rw [bare_cons, bare_cons, refAR_cons, he] at hk
  have e1 : stripH (if h.k = 1 then brO h [] else h) = bareN h ps := by unfold bareN barH wk1; split <;> rfl
  have e2 : (if h.k = 1 then stripF ps else bareR h.k h.nm 0 [] ps) = bareT h ps := by unfold bareT barP wk1; split <;> rfl
  have e3 : stripH (if h'.k = 1 then brO h' [] else h') = bareN h' ps' := by unfold bareN barH wk1; split <;> rfl
  have e4 : (if h'.k = 1 then stripF ps' else bareR h'.k h'.nm 0 [] ps') = bareT h' ps' := by unfold bareT barP wk1; split <;> rfl
  rw [e1, e2, e3, e4, alike_cons] at hk
  have e5 : ∀ b : Bool, (b && (bareR 0 ByteArray.empty (0 + 1) [] To.nil).alike (headB true) (bareR 0 ByteArray.empty (0 + 1) [] To.nil)) = b := fun b => Bool.and_true b
  have e6 : ∀ b : Bool, (b && refAR 0 ByteArray.empty 0 ByteArray.empty (0 + 1) [] [] To.nil To.nil) = b := fun b => Bool.and_true b
  rw [e5, e6] at hk
  rw [hk]
end Sc
end Go.Proofs.YtnfodiedalhlhaaDoor
end
section
namespace Go.Proofs.YtnfodiedalhlhaaDoor
open Go.RowKit Go.Shelf
namespace Sc
theorem sound_nm {h : Nd} {m : Nat} {s : ByteArray} (hs : soundB h m = true) (hn : s = h.nm ∨ (kName h.k = true ∧ okN s = true)) : soundB { h with nm := s } m = true := by
  rcases hn with rfl | ⟨k, o⟩
  · exact hs
  · unfold soundB at *
    simp only [Bool.and_eq_true] at *
    obtain ⟨⟨⟨⟨⟨⟨⟨a, b⟩, c⟩, d⟩, e⟩, f⟩, g⟩, i⟩ := hs
    refine ⟨⟨⟨⟨⟨⟨⟨a, b⟩, ?_⟩, d⟩, e⟩, f⟩, g⟩, i⟩
    unfold namedB
    rw [if_pos k]; exact o
theorem sound_name {h : Nd} {m : Nat} (hs : soundB h m = true) (hk : kName h.k = true) : okN h.nm = true := by
  unfold soundB at hs
  simp only [Bool.and_eq_true] at hs
  have hn : namedB h = true := hs.1.1.1.1.1.2
  unfold namedB at hn
  rw [if_pos hk] at hn
  exact hn
theorem bind_name {k : Int} (h : bindK k = true) : kName k = true := by unfold bindK at h; unfold kName; simp at h ⊢; omega
theorem newNm_ok {h : Nd} {m : Nat} (_ : soundB h m = true) (l : List ByteArray) : newNm okN h l = h.nm ∨ (kName h.k = true ∧ okN (newNm okN h l) = true) := by
  unfold newNm
  split
  · exact .inl rfl
  · split
    · rename_i a _ hc
      simp only [Bool.and_eq_true] at hc
      exact .inr ⟨bind_name hc.1, hc.2⟩
    · exact .inl rfl
theorem newNm_bind {h : Nd} {m : Nat} (hs : soundB h m = true) (l : List ByteArray) (hb : bindK h.k = true) : okN (newNm okN h l) = true := by
  rcases newNm_ok hs l with h' | h'
  · rw [h']; exact sound_name hs (bind_name hb)
  · exact h'.2
theorem binds_bind {k : Int} {i : Nat} (h : bindsB k i = true) : bindK k = true := by
  unfold bindsB at h; unfold bindK; simp at h ⊢; omega
theorem varNm_ok {h : Nd} {m : Nat} (_ : soundB h m = true) (hk : h.k = 1) {x y : List ByteArray} (hxy : x.length = y.length) (hy : ∀ s ∈ y, okN s = true) : varNm x y h.nm = h.nm ∨ (kName h.k = true ∧ okN (varNm x y h.nm) = true) := by
  unfold varNm
  split
  · rename_i h0
    have hl := (ix_ge x h.nm).2
    refine .inr ⟨by rw [hk]; rfl, ?_⟩
    rw [List.getD_eq_getElem?_getD, List.getElem?_eq_getElem (by omega)]
    exact hy _ (List.getElem_mem _)
  · exact .inl rfl
theorem callR_right : ∀ (f : To) (bk : Int) (nm nm2 : ByteArray) (i : Nat) (x y l : List ByteArray), x.length = y.length → (∀ s ∈ y, okN s = true) → (bindK bk = true → okN nm2 = true) → allS f = true → allS (callR okN bk nm nm2 i x y l f).1 = true
  | .nil, _, _, _, _, _, _, _, _, _, _, h => h
  | .cons h ps r, bk, nm, nm2, i, x, y, l, hxy, hy, hn, hs => by
    rw [allS_cons, Bool.and_eq_true, Bool.and_eq_true] at hs
    obtain ⟨⟨h1, h2⟩, h3⟩ := hs
    have hxy' : (envOf bk nm i x).length = (envOf bk nm2 i y).length := by unfold envOf; split <;> simp [hxy]
    have hy' : ∀ s ∈ envOf bk nm2 i y, okN s = true := by
      unfold envOf; split
      · rename_i hb
        intro s hs
        rcases List.mem_cons.1 hs with rfl | h
        · exact hn (binds_bind hb)
        · exact hy s h
      · exact hy
    rw [callR_cons, allS_cons, Bool.and_eq_true, Bool.and_eq_true]
    refine ⟨?_, callR_right r _ _ _ _ _ _ _ hxy hy hn h3⟩
    unfold call1
    by_cases hk : h.k = 1
    · simp only [if_pos hk]
      exact ⟨sound_nm h1 (varNm_ok h1 hk hxy' hy'), h2⟩
    · simp only [if_neg hk]
      rw [callR_length]
      exact ⟨sound_nm h1 (newNm_ok h1 l), callR_right ps _ _ _ _ _ _ _ hxy' hy' (newNm_bind h1 l) h2⟩
theorem call_right {h : Nd} {ps : To} (l : List ByteArray) (hr : RT h ps = true) : RT (call1 okN [] [] l h ps).1 (call1 okN [] [] l h ps).2.1 = true :=
  callR_right (.cons h ps .nil) 0 ByteArray.empty ByteArray.empty 0 [] [] l rfl (fun s hs => by cases hs) (fun h => by cases h) hr
def renN (h : Nd) (ps : To) (l : List ByteArray) : Nd × To := if refA1 [] [] (call1 okN [] [] l h ps).1 (call1 okN [] [] l h ps).2.1 h ps then ((call1 okN [] [] l h ps).1, (call1 okN [] [] l h ps).2.1) else (h, ps)
theorem ren_alike (h : Nd) (ps : To) (l : List ByteArray) : refA1 [] [] (renN h ps l).1 (renN h ps l).2 h ps = true := by
  unfold renN; split
  · assumption
  · exact refA1_refl [] h ps
theorem ren_right {h : Nd} {ps : To} (l : List ByteArray) (hr : RT h ps = true) : RT (renN h ps l).1 (renN h ps l).2 = true := by
  unfold renN; split
  · exact call_right l hr
  · exact hr
theorem ren_free (h : Nd) (ps : To) (l : List ByteArray) : free1 [] (renN h ps l).1 (renN h ps l).2 = [] ↔ free1 [] h ps = [] := by
  have k := alike_free (.cons (renN h ps l).1 (renN h ps l).2 .nil) (.cons h ps .nil) 0 ByteArray.empty 0 ByteArray.empty 0 [] [] (by
    rw [refAR_cons]
    exact (Bool.and_true _).trans (ren_alike h ps l))
  rw [freeL_cons, freeL_cons] at k
  have e : ∀ (a : List Nd), a ++ freeL 0 ByteArray.empty (0 + 1) [] To.nil = a := fun a => List.append_nil a
  rw [e, e] at k
  exact k
theorem ren_rsv {h : Nd} {ps : To} (l : List ByteArray) (hr : RT h ps = true) : (rsvP (renN h ps l).1 (renN h ps l).2).2.2 = (rsvP h ps).2.2 := by
  have hf := ren_free h ps l
  unfold rsvP
  rw [if_pos (ren_right l hr), if_pos hr]
  cases h1 : free1 [] (renN h ps l).1 (renN h ps l).2 with
  | nil => rw [hf.1 h1]
  | cons a r =>
    cases h2 : free1 [] h ps with
    | nil => rw [hf.2 h2] at h1; cases h1
    | cons b r' => rfl
end Sc
namespace Cn
end Cn
end Go.Proofs.YtnfodiedalhlhaaDoor
end
section
namespace Go.Proofs.YtnfodiedalhlhaaDoor
open Go.RowKit Go.Shelf
namespace Sc
theorem callR_small {G : ByteArray → Prop} (ok : ByteArray → Bool) (hz : G ByteArray.empty) : ∀ (f : To) (bk : Int) (nm nm2 : ByteArray) (i : Nat) (x y l : List ByteArray), (∀ s ∈ y, G s) → (∀ s ∈ l, G s) → G nm2 → allT (fun h => G h.nm) f → allT (fun h => G h.nm) (callR ok bk nm nm2 i x y l f).1
  | .nil, _, _, _, _, _, _, _, _, _, _, _ => trivial
  | .cons h ps r, bk, nm, nm2, i, x, y, l, hy, hl, hn, ⟨h1, h2, h3⟩ => by
    have hy' : ∀ s ∈ envOf bk nm2 i y, G s := by
      unfold envOf; split
      · intro s hs; rcases List.mem_cons.1 hs with rfl | h
        · exact hn
        · exact hy s h
      · exact hy
    have hnew : G (newNm ok h l) := by
      unfold newNm; split
      · exact h1
      · split
        · exact hl _ (by simp)
        · exact h1
    rw [callR_cons]
    refine ⟨?_, ?_, callR_small ok hz r _ _ _ _ _ _ _ hy (fun s hs => hl s ((call1_rest ok _ _ l h ps).2 s hs)) hn h3⟩
    · unfold call1; split
      · show G (varNm _ _ _)
        unfold varNm; split
        · rw [List.getD_eq_getElem?_getD]
          cases hg : (envOf bk nm2 i y)[(ix (envOf bk nm i x) h.nm).toNat]? with
          | none => exact hz
          | some s => exact hy' s (List.mem_of_getElem? hg)
        · exact h1
      · exact hnew
    · unfold call1; split
      · exact h2
      · exact callR_small ok hz ps _ _ _ _ _ _ _ hy' (fun s hs => hl s (restNm_mem hs)) hnew h2
theorem cn_and {G H : Nd → Prop} : ∀ f : To, allT G f → allT H f → allT (fun h => G h ∧ H h) f
  | .nil, _, _ => trivial
  | .cons _ ps r, e, e' => ⟨⟨e.1, e'.1⟩, cn_and ps e.2.1 e'.2.1, cn_and r e.2.2 e'.2.2⟩
theorem ren_good {h : Nd} {ps : To} {l : List ByteArray} (hg : allT GoodH (.cons h ps .nil)) (hl : ∀ s ∈ l, s.size ≤ 1000) : allT GoodH (.cons (renN h ps l).1 (renN h ps l).2 .nil) := by
  have hc : allT GoodH (.cons (call1 okN [] [] l h ps).1 (call1 okN [] [] l h ps).2.1 .nil) := by
    have h1 := callR_small (G := fun s => s.size ≤ 100000) okN (Nat.zero_le _) (.cons h ps .nil) 0 ByteArray.empty ByteArray.empty 0 [] [] l (fun s hs => by cases hs) (fun s hs => by have := hl s hs; omega) (Nat.zero_le _) (allT_mono (fun h hh => hh.1) _ hg)
    have h2 := callR_all (G := fun h => h.tp.size ≤ 100000 ∧ wfI h.tn ∧ wfF h.tp) okN (fun h s hh => hh) (.cons h ps .nil) 0 ByteArray.empty ByteArray.empty 0 [] [] l (allT_mono (fun h hh => hh.2) _ hg)
    have h3 := cn_and _ h1 h2
    rw [callR_cons] at h3
    exact ⟨h3.1, h3.2.1, trivial⟩
  unfold renN
  split
  · exact hc
  · exact hg
theorem ren_size (h : Nd) (ps : To) (l : List ByteArray) : (renN h ps l).2.size = ps.size := by
  unfold renN
  split
  · unfold call1; split
    · rfl
    · exact callR_size okN ps _ _ _ _ _ _ _
  · rfl
end Sc
namespace Cn
end Cn
end Go.Proofs.YtnfodiedalhlhaaDoor
end
section
namespace Go.Proofs.YtnfodiedalhlhaaDoor
open Go.RowKit Go.Shelf
namespace Sc
def renS (h : Nd) (ps : To) (l : List ByteArray) : Nd × To := if RT h ps then renN h ps l else (h, ps)
theorem call_good {h : Nd} {ps : To} {l : List ByteArray} (hg : allT GoodH (.cons h ps .nil)) (hl : ∀ s ∈ l, s.size ≤ 1000) : allT GoodH (.cons (call1 okN [] [] l h ps).1 (call1 okN [] [] l h ps).2.1 .nil) := by
  have h1 := callR_small (G := fun s => s.size ≤ 100000) okN (Nat.zero_le _) (.cons h ps .nil) 0 ByteArray.empty ByteArray.empty 0 [] [] l (fun s hs => by cases hs) (fun s hs => by have := hl s hs; omega) (Nat.zero_le _) (allT_mono (fun h hh => hh.1) _ hg)
  have h2 := callR_all (G := fun h => h.tp.size ≤ 100000 ∧ wfI h.tn ∧ wfF h.tp) okN (fun h s hh => hh) (.cons h ps .nil) 0 ByteArray.empty ByteArray.empty 0 [] [] l (allT_mono (fun h hh => hh.2) _ hg)
  have h3 := cn_and _ h1 h2
  rw [callR_cons] at h3
  exact ⟨h3.1, h3.2.1, trivial⟩
theorem call_size (h : Nd) (ps : To) (l : List ByteArray) : (call1 okN [] [] l h ps).2.1.size = ps.size := by
  unfold call1; split
  · rfl
  · exact callR_size okN ps _ _ _ _ _ _ _
theorem strT_own {w : World} {B : Nat} {o : Option Addr} {c : Nat} {l : List ByteArray} (h : w.ownsRow 0 9 1 (.slice o l.length c) l.length (l.map Value.string)) (hb : ∀ g, (Value.slice o l.length c).ownBlock = some g → g = B) : StrT (fun k => k = B) w o l := by
  rcases h.2 with ⟨_, h2⟩ | ⟨g, cap, cur, he, _⟩
  · have e : l = [] := List.eq_nil_of_length_eq_zero h2
    subst e
    exact StrT.nil _ _ _
  · injection he with h1 h2 h3
    subst h1
    intro j s hs
    refine ⟨g, 0, rfl, hb g rfl, ?_⟩
    have := h.cells (g := g) rfl j (.string s) (by rw [List.getElem?_map, hs]; rfl)
    simpa [Addr.add_lit] using this
def RunQ (n1 m nb : Nat) (g : Nd) (gs : To) (q1 : Option Addr) (l1 e1 : Nat) (q2 : Option Addr) (l2 e2 : Nat) (W : World) (x : Ending) (w3 : World) : Prop :=
  x = .returned (tmv g q1 l1 e1 q2 l2 e2) ∧ (SlcIn (fun k => n1 ≤ k ∧ k < m) w3 q1 l1 g.tp ∧ TSlc (fun k => n1 ≤ k ∧ k < m) w3 q2 l2 gs) ∧ Fr (fun k => (n1 ≤ k ∧ k < m) ∨ k = nb) W w3
theorem ren_run (h : Nd) (ps : To) (hz : ps.size ≤ 100000) (l : List ByteArray) (hll : l.length ≤ 1000) (hls : ∀ s ∈ l, s.size ≤ 1000) {w0 w1 W : World} {n1 nb fb : Nat} {T L : Nat → Prop} {q1 : Option Addr} {l1 e1 : Nat} {q2 : Option Addr} {l2 e2 : Nat} (h0 : Lx.Spaces w0) (hq0 : Quiet0 w0 W) (hn0 : w0.heap.size ≤ nb) (hnb : nb < n1) (hfb : fb < n1) (hne : nb ≠ fb) (hL : ∀ k, L k → k < nb)
    (hk1 : SlcIn T w1 q1 l1 h.tp) (hk2 : TO T w1 (fun k => n1 ≤ k ∧ k < w1.heap.size ∧ ¬ T k) q2 l2 ps) (hT : ∀ k, T k → n1 ≤ k ∧ k < w1.heap.size) (hrb : RBox W fb nb) (hnx : NBox L W nb l) (hq : Quiet0 w1 W) :
    Calls Tryd.prog 52 #[tmv h q1 l1 e1 q2 l2 e2, .slice none 0 0, .slice none 0 0, .pointer (some ⟨nb, 0, none⟩), .pointer (some ⟨fb, 0, none⟩)] W (RunQ n1 w1.heap.size nb (call1 okN [] [] l h ps).1 (call1 okN [] [] l h ps).2.1 q1 l1 e1 q2 l2 e2 W) := by
  have hz1 := hq.size
  have hlt : nb < W.heap.size := by obtain ⟨_, _, h, _⟩ := hnx; exact lt_of_block h
  refine (rn_any h ps W T (fun k => n1 ≤ k ∧ k < w1.heap.size ∧ ¬ T k) L (fun _ => False) (fun _ => False) nb fb [] [] l q1 l1 e1 q2 l2 e2 none 0 0 none 0
    ⟨fun k hk => by omega, fun hk => by omega, fun hk => by omega, hne, fun k hk => ⟨by have := hT k hk; omega, fun h => h.2.2 hk, by have := hT k hk; omega⟩, fun k hk => ⟨by have := hL k hk; omega, fun h => by have := hL k hk; omega, by have := hL k hk; omega⟩, fun _ hk => hk.elim, fun _ hk => hk.elim,
      fun V hV => Spaces.fr_of h0 (hq0.fr.trans hV) (fun k hk h => h.elim (fun h => by omega) (fun h => by omega))⟩
    hrb hnx hll hls (NmIn.nil _ _ _) (Nat.le_refl _) (NmIn.nil _ _ _) (Nat.le_refl _) (hk1.stay hq) (hk2.stay hq) (by omega)).mono ?_
  rintro x w3 ⟨rfl, hto, _, hf⟩
  obtain ⟨s, hs⟩ := call1_head okN [] [] l h ps
  refine ⟨rfl, ⟨?_, hto.tslc (fun k _ hk => hT k hk) (fun k hk => ⟨hk.1, hk.2.1⟩)⟩, hf.mono (fun k _ h => h.imp (fun h => ⟨h.1, h.2.1⟩) id)⟩
  rw [hs]
  exact (hk1.stay hq).fr hf (fun k _ hk => ⟨hT k hk, fun h => h.elim (fun h => h.2.2 hk) (fun e => by have := hT k hk; omega)⟩)
theorem ren_new {n1 m nb : Nat} {W w3 : World} {cs : Array Value} {t : TypeId} (hf : Fr (fun k => (n1 ≤ k ∧ k < m) ∨ k = nb) (W.alloc (.cells cs t)) w3) (hm : m ≤ W.heap.size) (hn : nb < W.heap.size) : w3.heap[W.heap.size]? = some (.cells cs t (0, 0)) :=
  blk_fr hf (fun h => h.elim (fun h => by omega) (fun h => by omega)) (heap_alloc_new W _)
theorem ren_old {n1 m nb b : Nat} {W w3 : World} {o : Obj} (hf : Fr (fun k => (n1 ≤ k ∧ k < m) ∨ k = nb) W w3) (hb : b < n1) (hn : b ≠ nb) (h : W.heap[b]? = some o) : w3.heap[b]? = some o :=
  blk_fr hf (fun h => h.elim (fun h => by omega) (fun h => hn h)) h
def RnM (w W : World) (g : Nd) (gs : To) (l1 l2 : Nat) (v : Value) (wx : World) : Prop :=
  ∃ (b : Nat) (q1 : Option Addr) (e1 : Nat) (q2 : Option Addr) (e2 : Nat), v = .pointer (some ⟨b, 0, none⟩) ∧ wx.heap[b]? = some (.cells (cells9 g q1 l1 e1 q2 l2 e2) 30 (0, 0)) ∧ W.heap.size ≤ b ∧ SlcIn (fun k => w.heap.size + 2 ≤ k) wx q1 l1 g.tp ∧ TSlc (fun k => w.heap.size + 2 ≤ k) wx q2 l2 gs ∧ Fr (fun k => w.heap.size + 2 ≤ k) W wx
theorem RnM.drew {w W : World} {g : Nd} {gs : To} {l1 l2 : Nat} {v : Value} {wx : World} (h : RnM w W g gs l1 l2 v wx) : RnM w W g gs l1 l2 v wx.drew := by
  obtain ⟨b, q1, e1, q2, e2, h1, h2, h3, h4, h5, h6⟩ := h
  exact ⟨b, q1, e1, q2, e2, h1, blk_after (Quiet0.drew _) h2, h3, h4.stay (Quiet0.drew _), h5.stay (Quiet0.drew _), h6.trans (Fr.drew _ _)⟩
theorem rnm_new {w W w3 : World} {n1 m nb : Nat} {g : Nd} {gs : To} {q1 : Option Addr} {l1 e1 : Nat} {q2 : Option Addr} {l2 e2 : Nat} (hf : Fr (fun k => (n1 ≤ k ∧ k < m) ∨ k = nb) W w3) (hn : w.heap.size + 2 ≤ n1) (hb : w.heap.size + 2 ≤ nb) (hk : SlcIn (fun k => n1 ≤ k ∧ k < m) w3 q1 l1 g.tp ∧ TSlc (fun k => n1 ≤ k ∧ k < m) w3 q2 l2 gs) :
    RnM w W g gs l1 l2 (.pointer (some ⟨w3.heap.size, 0, none⟩)) (w3.alloc (.cells (cells9 g q1 l1 e1 q2 l2 e2) 30)) :=
  ⟨_, q1, e1, q2, e2, rfl, heap_alloc_new w3 _, Fr.size hf, (hk.1.mono (fun k _ h => by omega)).stay (Quiet0.alloc _ _), (hk.2.mono (fun k _ h => by omega)).stay (Quiet0.alloc _ _), (hf.mono (fun k _ h => h.elim (fun h => by omega) (fun h => by omega))).trans (Fr.alloc _ _ _)⟩
theorem rnm_old {w W w3 : World} {n1 m nb b : Nat} {g : Nd} {gs : To} {q1 : Option Addr} {l1 e1 : Nat} {q2 : Option Addr} {l2 e2 : Nat} (hf : Fr (fun k => (n1 ≤ k ∧ k < m) ∨ k = nb) W w3) (hn : w.heap.size + 2 ≤ n1) (hb : w.heap.size + 2 ≤ nb) (hk : SlcIn (fun k => n1 ≤ k ∧ k < m) w3 q1 l1 g.tp ∧ TSlc (fun k => n1 ≤ k ∧ k < m) w3 q2 l2 gs) (hz : w3.heap[b]? = some (.cells zero9 30 (0, 0))) (hbW : W.heap.size ≤ b) (hwW : w.heap.size + 2 ≤ W.heap.size) (hbk : b < n1 ∨ m ≤ b) :
    RnM w W g gs l1 l2 (.pointer (some ⟨b, 0, none⟩)) (put9 w3 b (.int .i64 g.k) (.string g.nm) (.int .i64 g.n) (.int .i64 g.tk) (.int .i64 g.tn) (.slice q1 l1 e1) (.slice q2 l2 e2) (.int .i64 g.fr) (.int .i64 g.en)) := by
  have hff := put9_fr w3 b (.int .i64 g.k) (.string g.nm) (.int .i64 g.n) (.int .i64 g.tk) (.int .i64 g.tn) (.slice q1 l1 e1) (.slice q2 l2 e2) (.int .i64 g.fr) (.int .i64 g.en)
  refine ⟨b, q1, e1, q2, e2, rfl, put9_block hz, hbW, hk.1.fr hff (fun k _ h => ⟨by omega, fun e => by omega⟩), hk.2.fr hff (fun k _ h => ⟨by omega, fun e => by omega⟩), (hf.mono (fun k _ h => h.elim (fun h => by omega) (fun h => by omega))).trans (hff.mono (fun k _ h => by omega))⟩
theorem ren_fin {w W0 w3 : World} {B l1 e1 l2 e2 : Nat} {g : Nd} {gs : To} {q1 q2 : Option Addr} (hB : w.heap.size = B) (hz : W0.heap.size = B + 2) (hq : Quiet0 w W0) (hf : Fr (fun k => B + 2 ≤ k) W0 w3) (h1 : SlcIn (fun k => B + 2 ≤ k) w3 q1 l1 g.tp) (h2 : TSlc (fun k => B + 2 ≤ k) w3 q2 l2 gs) :
    TmQ w g gs (.returned (.agg #[.int .i64 g.k, .string g.nm, .int .i64 g.n, .int .i64 g.tk, .int .i64 g.tn, .slice q1 l1 e1, .slice q2 l2 e2, .int .i64 g.fr, .int .i64 g.en])) (put9 w3 (B + 1) (.int .i64 g.k) (.string g.nm) (.int .i64 g.n) (.int .i64 g.tk) (.int .i64 g.tn) (.slice q1 l1 e1) (.slice q2 l2 e2) (.int .i64 g.fr) (.int .i64 g.en)) := by
  have hff := put9_fr w3 (B + 1) (.int .i64 g.k) (.string g.nm) (.int .i64 g.n) (.int .i64 g.tk) (.int .i64 g.tn) (.slice q1 l1 e1) (.slice q2 l2 e2) (.int .i64 g.fr) (.int .i64 g.en)
  exact ⟨q1, l1, e1, q2, l2, e2, rfl, h1.fr hff (fun k _ hk => ⟨by omega, fun e => by omega⟩), h2.fr hff (fun k _ hk => ⟨by omega, fun e => by omega⟩), (hq.trans' hf (fun k hk h => by omega)).trans' hff (fun k hk h => by omega)⟩
end Sc
end Go.Proofs.YtnfodiedalhlhaaDoor
end
