/-
  Texts laid together (CnEqs, CnUsesF, ScTmRow, ScRCall0, CnRen, ScBound, TeApply, TeNth, TeRoom, Law, TyOpen, TeOpen): laws and walks, with their conditions in their statements.
-/
import Derived.Deep.RegionWith
import Derived.ProofKit
import Derived.OpenShut
import Derived.Deep.Slices
import Derived.Test.YtnfodiedalhlhaaDoorRows
import Derived.Test.YtnfodiedalhlhaaDoorNA9
import Derived.Test.YtnfodiedalhlhaaDoorNA10
import Derived.Test.YtnfodiedalhlhaaDoorNA12
section
namespace Go.Proofs.YtnfodiedalhlhaaDoor
open Go.RowKit Go.Shelf
namespace Cn
theorem ownE_any : OwnT 57 ownE := by
  intro w h o1 l1 c1 o2 l2 c2
  have HB := cells9_new w h o1 l1 c1 o2 l2 c2 30
  have HQ := Lib.hid (Quiet0.alloc w (.cells (cells9 h o1 l1 c1 o2 l2 c2) 30))
  obtain ⟨W, hW⟩ : ∃ W, W = w.alloc (.cells (cells9 h o1 l1 c1 o2 l2 c2) 30) := ⟨_, rfl⟩
  rw [← hW] at HB HQ
  obtain ⟨a0, _⟩ := HB
  unfold tmv
  by_cases h8 : h.k = 8
  · have k8 : (h.k == 8) = true := by simp [h8]
    have HV : Hid (ownE h.k = 3) := by show _ = _; unfold ownE; rw [if_pos h8]
    rw [HV.out]
    clear h8
    go_enter Tryd.func57, Tryd.ntmps57
    go_upto_region 1 with fail
    rw [← hW]
    clear hW
    go_wp2_with fail
    go_ret
    exact ⟨rfl, HQ.out⟩
  · have k8 : (h.k == 8) = false := by simp [h8]
    by_cases h10 : h.k = 10
    · have k10 : (h.k == 10) = true := by simp [h10]
      have HV : Hid (ownE h.k = 2) := by show _ = _; unfold ownE; rw [if_neg h8, if_pos h10]
      rw [HV.out]
      clear h8 h10
      go_enter Tryd.func57, Tryd.ntmps57
      go_upto_region 1 with fail
      rw [← hW]
      clear hW
      go_wp2_with fail
      go_ret
      exact ⟨rfl, HQ.out⟩
    · have k10 : (h.k == 10) = false := by simp [h10]
      have HV : Hid (ownE h.k = 1) := by show _ = _; unfold ownE; rw [if_neg h8, if_neg h10]
      rw [HV.out]
      clear h8 h10
      go_enter Tryd.func57, Tryd.ntmps57
      go_upto_region 1 with fail
      rw [← hW]
      clear hW
      go_wp2_with fail
      go_ret
      exact ⟨rfl, HQ.out⟩
theorem ownV_any : OwnT 60 ownV := by
  intro w h o1 l1 c1 o2 l2 c2
  have HB := cells9_new w h o1 l1 c1 o2 l2 c2 30
  have HQ := Lib.hid (Quiet0.alloc w (.cells (cells9 h o1 l1 c1 o2 l2 c2) 30))
  obtain ⟨W, hW⟩ : ∃ W, W = w.alloc (.cells (cells9 h o1 l1 c1 o2 l2 c2) 30) := ⟨_, rfl⟩
  rw [← hW] at HB HQ
  obtain ⟨a0, _⟩ := HB
  unfold tmv
  by_cases h8 : h.k = 4
  · have k8 : (h.k == 4) = true := by simp [h8]
    have HV : Hid (ownV h.k = 2) := by show _ = _; unfold ownV; rw [if_pos h8]
    rw [HV.out]
    clear h8
    go_enter Tryd.func60, Tryd.ntmps60
    go_upto_region 1 with fail
    rw [← hW]
    clear hW
    go_wp2_with fail
    go_ret
    exact ⟨rfl, HQ.out⟩
  · have k8 : (h.k == 4) = false := by simp [h8]
    have HV : Hid (ownV h.k = 1) := by show _ = _; unfold ownV; rw [if_neg h8]
    rw [HV.out]
    clear h8
    go_enter Tryd.func60, Tryd.ntmps60
    go_upto_region 1 with fail
    rw [← hW]
    clear hW
    go_wp2_with fail
    go_ret
    exact ⟨rfl, HQ.out⟩
theorem okL_of : ∀ f : To, allS f = true → okL f
  | .nil, _ => trivial
  | .cons h ps r, e => by
    rw [allS_cons, Bool.and_eq_true, Bool.and_eq_true] at e
    refine ⟨?_, okL_of ps e.1.2, okL_of r e.2⟩
    have hs := e.1.1
    unfold soundB at hs
    simp only [Bool.and_eq_true, decide_eq_true_eq] at hs
    have hl := hs.1.2
    refine ⟨fun h4 => ?_, fun h6 => ?_, fun h7 => ?_⟩
    · rw [h4] at hl; have : kLeast 4 = 1 := rfl; omega
    · rw [h6] at hl; have : kLeast 6 = 2 := rfl; omega
    · rw [h7] at hl; have : kLeast 7 = 2 := rfl; omega
def clsd (own : Int → Int) (rc : Int) (h : Nd) (ps : To) : Int × Int :=
  if (Sc.rsvP h ps).2.2 = 0 then (cnt own rc h ps [], 0) else (0, (Sc.rsvP h ps).2.2)
set_option maxRecDepth 100000 in
set_option maxHeartbeats 4000000 in
theorem closed_any (F : Nat) (own : Int → Int) (rc : Int) (eg : ∀ args w, (callFunc F args).run Tryd.prog w = .ok (.enter F args) w) (ho : OwnT F own) (hin : ∀ k, InT (own k)) (hrc : InT rc) (h : Nd) (ps : To) (w : World) (R : Nat → Prop) (o1 : Option Addr) (l1 c1 : Nat) (o2 : Option Addr) (l2 c2 : Nat)
    (hs1 : SlcIn R w o1 l1 h.tp) (hs : TSlc R w o2 l2 ps) (hz : ps.size ≤ 100000) (hg : allT GoodH (.cons h ps .nil)) (ht : Lx.Spaces w) :
    Calls Tryd.prog 58 #[ctr F rc, tmv h o1 l1 c1 o2 l2 c2] w fun e w' => e = .returned (.tuple #[.int .i64 (clsd own rc h ps).1, .int .i64 (clsd own rc h ps).2]) ∧ Quiet0 w w' := by
  obtain ⟨W0, hW0⟩ : ∃ W0, W0 = (w.alloc (.cells #[.func (.func F) #[] #[], .int .i64 rc] 79)).alloc (.cells (cells9 h o1 l1 c1 o2 l2 c2) 30) := ⟨_, rfl⟩
  have HQ0 : Hid (Quiet0 w W0) := by rw [hW0]; exact (Quiet0.alloc _ _).trans (Quiet0.alloc _ _)
  have HB0 : Hid (W0.heap[w.heap.size]? = some (.cells #[.func (.func F) #[] #[], .int .i64 rc] 79 (0, 0))) := by
    show _ = _; rw [hW0, Below.heap_alloc _ _ _ (by simp)]; exact heap_alloc_new w _
  have HB1 : Hid (W0.heap[w.heap.size + 1]? = some (.cells (cells9 h o1 l1 c1 o2 l2 c2) 30 (0, 0))) := by
    show _ = _; rw [hW0]
    have := heap_alloc_new (w.alloc (.cells #[.func (.func F) #[] #[], .int .i64 rc] 79)) (.cells (cells9 h o1 l1 c1 o2 l2 c2) 30)
    simpa using this
  have HCB : Hid (∀ W, Quiet0 W0 W → W.cell? ⟨w.heap.size, 0, none⟩ = some (.func (.func F) #[] #[]) ∧ W.cell? ⟨w.heap.size, 1, none⟩ = some (.int .i64 rc) ∧ Cells9 W (w.heap.size + 1) 0 h o1 l1 c1 o2 l2 c2) := fun W hq => by
    have hb := blk_after hq HB0.out
    exact ⟨by rw [cell_of_row _ _ _ _ _ (0, 0) hb]; rfl, by rw [cell_of_row _ _ _ _ _ (0, 0) hb]; rfl, cells9_block (blk_after hq HB1.out)⟩
  have HRS := Lib.hid (Sc.resolve_any h ps W0 R o1 l1 c1 o2 l2 c2 (hs1.stay HQ0.out) (hs.stay HQ0.out) hz hg (ht.stay HQ0.out))
  have HCN : Hid (Sc.RT h ps = true → ∀ W, Quiet0 W0 W → Calls Tryd.prog 92 #[ctr F rc, tmv h o1 l1 c1 o2 l2 c2, .slice none 0 0] W fun x w' => x = .returned (.int .i64 (cnt own rc h ps [])) ∧ Quiet0 W w') := fun hr W hq => by
    have hk := okL_of (.cons h ps .nil) hr
    exact count_any F own rc eg ho hin hrc h ps W R (fun _ => True) o1 l1 c1 o2 l2 c2 none 0 0 [] (hs.stay (HQ0.out.trans hq)) (BnIn.nil _ _ _) (Nat.le_refl _) (by omega) (fun x hx => by cases hx) hk.1 hk.2.1
  have HRT : Hid ((Sc.rsvP h ps).2.2 = 0 → Sc.RT h ps = true) := fun hh => by
    unfold Sc.rsvP at hh
    split at hh
    · next hr => exact hr
    · exact absurd hh (by decide)
  obtain ⟨res, hres⟩ : ∃ res, clsd own rc h ps = res := ⟨_, rfl⟩
  have HRES := Lib.hid hres
  rw [hres]
  clear hs1 hs hg ht ho hin hrc hres
  unfold tmv at HCN ⊢
  unfold tmv at HRS
  go_enter Tryd.func58, Tryd.ntmps58
  go_upto_region 1 with fail
  rw [← hW0]
  clear hW0
  generalize hBB : w.heap.size = B at *
  have HBE := Lib.hid hBB
  clear hBB
  obtain ⟨b0, b1, a0, a1, a2, a3, a4, a5, a6, a7, a8⟩ := HCB.out W0 (Quiet0.refl _)
  go_wp2_with fail
  refine HRS.out.mono ?_; rintro x w1 ⟨g, gs, q1, m1, d1, q2, m2, d2, p, er, rfl, hrv, hg1, hg2, hq1⟩
  unfold tmv
  have HER : Hid ((Sc.rsvP h ps).2.2 = er) := by show _ = _; rw [hrv]
  have HQ2 : Hid (Quiet0 W0 ((w1.alloc (.cells (cells9 g q1 m1 d1 q2 m2 d2) 30)).alloc (.cells #[.int .i64 p.1, .int .i64 p.2] 28))) := hq1.trans ((Quiet0.alloc _ _).trans (Quiet0.alloc _ _))
  clear hrv hg1 hg2 hq1 b0 b1 a0 a1 a2 a3 a4 a5 a6 a7 a8
  go_upto_region 2 with fail
  change Code.wp _ _ _ _ ((w1.alloc (.cells (cells9 g q1 m1 d1 q2 m2 d2) 30)).alloc (.cells #[.int .i64 p.1, .int .i64 p.2] 28))
  generalize (w1.alloc (.cells (cells9 g q1 m1 d1 q2 m2 d2) 30)).alloc (.cells #[.int .i64 p.1, .int .i64 p.2] 28) = W2 at *
  by_cases he : er = 0
  · have he2 : (er != 0) = false := by simp [he]
    have HFE : Hid (res = (cnt own rc h ps [], 0)) := by show _ = _; rw [← HRES.out]; unfold clsd; rw [if_pos (by rw [HER.out]; exact he)]
    have HC := Lib.hid (HCN.out (HRT.out (by rw [HER.out]; exact he)) W2 HQ2.out)
    obtain ⟨b0, b1, a0, a1, a2, a3, a4, a5, a6, a7, a8⟩ := HCB.out W2 HQ2.out
    clear he
    generalize cnt own rc h ps [] = cv at *
    go_wp2_with fail
    refine HC.out.mono ?_; rintro x w3 ⟨rfl, hq3⟩
    have HQ3 := Lib.hid hq3
    clear hq3
    go_wp2_with fail
    refine bodyPost_ret (by first | (simp [results, Tryd.results58, go_sem]; done) | (simp [results, Tryd.results58, go_sem]; rfl)) rfl ?_
    exact ⟨by rw [HFE.out], HQ0.out.trans (HQ2.out.trans HQ3.out)⟩
  · have he2 : (er != 0) = true := by simp [he]
    have HFE : Hid (res = (0, er)) := by show _ = _; rw [← HRES.out]; unfold clsd; rw [if_neg (by rw [HER.out]; exact he), HER.out]
    clear he
    go_wp2_with fail
    refine bodyPost_ret (by first | (simp [results, Tryd.results58, go_sem]; done) | (simp [results, Tryd.results58, go_sem]; rfl)) rfl ?_
    exact ⟨by rw [HFE.out], HQ0.out.trans HQ2.out⟩
def eqsN (h : Nd) (ps : To) : Int × Int := clsd ownE 1 h ps
def varsN (h : Nd) (ps : To) : Int × Int := clsd ownV 1 h ps
theorem in1 : InT 1 := ⟨by decide, by decide⟩
set_option maxHeartbeats 1000000 in
theorem eqs_any (h : Nd) (ps : To) (w : World) (R : Nat → Prop) (o1 : Option Addr) (l1 c1 : Nat) (o2 : Option Addr) (l2 c2 : Nat) (hs1 : SlcIn R w o1 l1 h.tp) (hs : TSlc R w o2 l2 ps) (hz : ps.size ≤ 100000) (hg : allT GoodH (.cons h ps .nil)) (ht : Lx.Spaces w) :
    Calls Tryd.prog 29 #[tmv h o1 l1 c1 o2 l2 c2] w fun e w' => e = .returned (.tuple #[.int .i64 (eqsN h ps).1, .int .i64 (eqsN h ps).2]) ∧ Quiet0 w w' := by
  have HB := cells9_new w h o1 l1 c1 o2 l2 c2 30
  have hq := Quiet0.alloc w (.cells (cells9 h o1 l1 c1 o2 l2 c2) 30)
  obtain ⟨W, hW⟩ : ∃ W, W = w.alloc (.cells (cells9 h o1 l1 c1 o2 l2 c2) 30) := ⟨_, rfl⟩
  rw [← hW] at HB hq
  have HQ := Lib.hid hq
  have HC := Lib.hid (closed_any 57 ownE 1 (enters_of Tryd.func57 (by kernel_rfl) rfl) ownE_any ownE_in in1 h ps W R o1 l1 c1 o2 l2 c2 (hs1.stay hq) (hs.stay hq) hz hg (ht.stay hq))
  obtain ⟨a0, a1, a2, a3, a4, a5, a6, a7, a8⟩ := HB
  change Hid (Calls _ _ _ _ fun e w' => e = .returned (.tuple #[.int .i64 (eqsN h ps).1, .int .i64 (eqsN h ps).2]) ∧ Quiet0 W w') at HC
  generalize eqsN h ps = res at *
  clear hs1 hs hg ht hq
  unfold tmv at HC ⊢
  go_enter Tryd.func29, Tryd.ntmps29
  go_upto_region 1 with fail
  rw [← hW]
  clear hW
  go_wp2_with fail
  refine HC.out.mono ?_; rintro x w3 ⟨rfl, hq3⟩
  have HQ3 := Lib.hid hq3
  clear hq3
  go_wp2_with fail
  refine bodyPost_ret (by first | (simp [results, Tryd.results29, go_sem]; done) | (simp [results, Tryd.results29, go_sem]; rfl)) rfl ?_
  exact ⟨rfl, HQ.out.trans HQ3.out⟩
set_option maxHeartbeats 1000000 in
theorem vars_any (h : Nd) (ps : To) (w : World) (R : Nat → Prop) (o1 : Option Addr) (l1 c1 : Nat) (o2 : Option Addr) (l2 c2 : Nat) (hs1 : SlcIn R w o1 l1 h.tp) (hs : TSlc R w o2 l2 ps) (hz : ps.size ≤ 100000) (hg : allT GoodH (.cons h ps .nil)) (ht : Lx.Spaces w) :
    Calls Tryd.prog 33 #[tmv h o1 l1 c1 o2 l2 c2] w fun e w' => e = .returned (.tuple #[.int .i64 (varsN h ps).1, .int .i64 (varsN h ps).2]) ∧ Quiet0 w w' := by
  have HB := cells9_new w h o1 l1 c1 o2 l2 c2 30
  have hq := Quiet0.alloc w (.cells (cells9 h o1 l1 c1 o2 l2 c2) 30)
  obtain ⟨W, hW⟩ : ∃ W, W = w.alloc (.cells (cells9 h o1 l1 c1 o2 l2 c2) 30) := ⟨_, rfl⟩
  rw [← hW] at HB hq
  have HQ := Lib.hid hq
  have HC := Lib.hid (closed_any 60 ownV 1 (enters_of Tryd.func60 (by kernel_rfl) rfl) ownV_any ownV_in in1 h ps W R o1 l1 c1 o2 l2 c2 (hs1.stay hq) (hs.stay hq) hz hg (ht.stay hq))
  obtain ⟨a0, a1, a2, a3, a4, a5, a6, a7, a8⟩ := HB
  change Hid (Calls _ _ _ _ fun e w' => e = .returned (.tuple #[.int .i64 (varsN h ps).1, .int .i64 (varsN h ps).2]) ∧ Quiet0 W w') at HC
  generalize varsN h ps = res at *
  clear hs1 hs hg ht hq
  unfold tmv at HC ⊢
  go_enter Tryd.func33, Tryd.ntmps33
  go_upto_region 1 with fail
  rw [← hW]
  clear hW
  go_wp2_with fail
  refine HC.out.mono ?_; rintro x w3 ⟨rfl, hq3⟩
  have HQ3 := Lib.hid hq3
  clear hq3
  go_wp2_with fail
  refine bodyPost_ret (by first | (simp [results, Tryd.results33, go_sem]; done) | (simp [results, Tryd.results33, go_sem]; rfl)) rfl ?_
  exact ⟨rfl, HQ.out.trans HQ3.out⟩
end Cn
end Go.Proofs.YtnfodiedalhlhaaDoor
end
section
namespace Go.Proofs.YtnfodiedalhlhaaDoor
open Go.RowKit Go.Shelf
namespace Cn
def usesN (h : Nd) (ps : To) : List Int := if Sc.RT h ps then usesU h ps [] [] else []
def UsP (w : World) (L : List Int) (x : Ending) (w' : World) : Prop := ∃ oo oc, x = .returned (.slice oo L.length oc) ∧ w'.ownsRow w.heap.size 3 1 (.slice oo L.length oc) L.length (intsV L) ∧ Quiet0 w w'
set_option maxRecDepth 100000 in
set_option maxHeartbeats 8000000 in
theorem usesC_any (h : Nd) (ps : To) (w : World) (R : Nat → Prop) (o1 : Option Addr) (l1 c1 : Nat) (o2 : Option Addr) (l2 c2 : Nat)
    (hs1 : SlcIn R w o1 l1 h.tp) (hs : TSlc R w o2 l2 ps) (hz : ps.size ≤ 100000) (hg : allT GoodH (.cons h ps .nil)) (ht : Lx.Spaces w) :
    Calls Tryd.prog 35 #[tmv h o1 l1 c1 o2 l2 c2] w (UsP w (usesN h ps)) := by
  obtain ⟨W0, hW0⟩ : ∃ W0, W0 = w.alloc (.cells (cells9 h o1 l1 c1 o2 l2 c2) 30) := ⟨_, rfl⟩
  have hq0 : Quiet0 w W0 := by rw [hW0]; exact Quiet0.alloc _ _
  have HQ0 := Lib.hid hq0
  have HB0 : Hid (W0.heap[w.heap.size]? = some (.cells (cells9 h o1 l1 c1 o2 l2 c2) 30 (0, 0))) := by show _ = _; rw [hW0]; exact heap_alloc_new w _
  have HCB : Hid (∀ W, Quiet0 W0 W → (W.cell? ⟨w.heap.size, 0, none⟩ = some (.int .i64 h.k) ∧ W.cell? ⟨w.heap.size, 1, none⟩ = some (.string h.nm) ∧ W.cell? ⟨w.heap.size, 2, none⟩ = some (.int .i64 h.n) ∧ W.cell? ⟨w.heap.size, 3, none⟩ = some (.int .i64 h.tk) ∧ W.cell? ⟨w.heap.size, 4, none⟩ = some (.int .i64 h.tn) ∧ W.cell? ⟨w.heap.size, 5, none⟩ = some (.slice o1 l1 c1) ∧ W.cell? ⟨w.heap.size, 6, none⟩ = some (.slice o2 l2 c2) ∧ W.cell? ⟨w.heap.size, 7, none⟩ = some (.int .i64 h.fr) ∧ W.cell? ⟨w.heap.size, 8, none⟩ = some (.int .i64 h.en))) := fun W hq => cells9_block (blk_after hq HB0.out)
  have HR : Hid (Calls Tryd.prog 38 #[tmv h o1 l1 c1 o2 l2 c2] W0 fun e w' => e = .returned (.bool (Sc.RT h ps)) ∧ Quiet0 W0 w') := Lib.hid (rightTm_any h ps W0 R o1 l1 c1 o2 l2 c2 (hs1.stay hq0) (hs.stay hq0) hz hg (ht.stay hq0))
  have HS := Lib.hid hs
  have HZ := Lib.hid hz
  clear hq0 hs1 hs hz hg ht
  unfold tmv at HR ⊢
  go_enter Tryd.func35, Tryd.ntmps35
  go_upto_region 1 with fail
  rw [← hW0]
  clear hW0
  obtain ⟨a0, a1, a2, a3, a4, a5, a6, a7, a8⟩ := HCB.out W0 (Quiet0.refl _)
  go_wp2_with fail
  refine HR.out.mono ?_; rintro x w1 ⟨rfl, hq1⟩
  have HQ1 := Lib.hid hq1
  clear hq1 a0 a1 a2 a3 a4 a5 a6 a7 a8
  cases hr : Sc.RT h ps
  case false =>
    have HE : Hid (usesN h ps = []) := by show _ = _; unfold usesN; rw [hr]; rfl
    clear hr
    go_wp2_with fail
    go_ret
    refine ⟨none, 0, by rw [HE.out]; rfl, by rw [HE.out]; exact World.ownsRow_nil _ _ _ _, HQ0.out.trans HQ1.out⟩
  case true =>
    have HE : Hid (usesN h ps = usesU h ps [] []) := by show _ = _; unfold usesN; rw [hr]; rfl
    clear hr
    go_upto_region 6 with fail
    obtain ⟨W2, hW2⟩ : ∃ W2, W2 = (w1.alloc (.cells #[.slice none 0 0] 55)).alloc (.cells #[.func (.func 61) #[] #[.pointer (some ⟨w1.heap.size, 0, none⟩), .pointer (some ⟨w1.heap.size + 1, 0, none⟩)]] 83) := ⟨_, rfl⟩
    have hq2 : Quiet0 w1 W2 := by rw [hW2]; exact (Quiet0.alloc _ _).trans (Quiet0.alloc _ _)
    have hb1 : W2.heap[w1.heap.size]? = some (.cells #[.slice none 0 0] 55 (0, 0)) := by
      rw [hW2, Below.heap_alloc _ _ _ (by simp)]; exact heap_alloc_new w1 _
    have hb2 : W2.heap[w1.heap.size + 1]? = some (.cells #[.func (.func 61) #[] #[.pointer (some ⟨w1.heap.size, 0, none⟩), .pointer (some ⟨w1.heap.size + 1, 0, none⟩)]] 83 (0, 0)) := by
      rw [hW2]
      have := heap_alloc_new (w1.alloc (.cells #[.slice none 0 0] 55)) (.cells #[.func (.func 61) #[] #[.pointer (some ⟨w1.heap.size, 0, none⟩), .pointer (some ⟨w1.heap.size + 1, 0, none⟩)]] 83)
      simpa using this
    have hz1 := HQ0.out.size
    have hz2 := HQ1.out.size
    have hz3 : W2.heap.size = w1.heap.size + 2 := by rw [hW2]; simp
    have hq02 : Quiet0 w W2 := HQ0.out.trans (HQ1.out.trans hq2)
    have HU : Hid (UsW w1.heap.size (w1.heap.size + 1) [] none 0 W2) := ⟨hb1, hb2, World.ownsRow_nil _ _ _ _, (fun h => by cases h), (fun h => by cases h), by omega⟩
    have HC := Lib.hid (uses_any h ps W2 (fun k => R k ∧ k < w.heap.size) (fun _ => False) w1.heap.size (w1.heap.size + 1) none 0 o1 l1 c1 o2 l2 c2 none 0 0 [] [] 0
      ((HS.out.fr (Fr.refl (fun _ => False) w) (T := fun k => R k ∧ k < w.heap.size) (fun k hk hr => ⟨⟨hr, hk⟩, fun h => h⟩)).stay hq02) (BnIn.nil _ _ _) (Nat.le_refl _) (by have := HZ.out; omega) (fun x hx => by cases hx) (fun x hx => by cases hx) (by have := HZ.out; omega) (by have := HZ.out; show 0 + ps.size + 1 ≤ _; omega) HU.out
      (fun k hk => ⟨by omega, by omega, fun h => by cases h⟩) (fun k hk => hk.elim))
    unfold tmv at HC
    have HQ02 := Lib.hid hq02
    have HZ3 := Lib.hid hz3
    change Code.wp _ _ _ _ ((w1.alloc (.cells #[.slice none 0 0] 55)).alloc (.cells #[.func (.func 61) #[] #[.pointer (some ⟨w1.heap.size, 0, none⟩), .pointer (some ⟨w1.heap.size + 1, 0, none⟩)]] 83))
    rw [← hW2]
    have co := cell_of_one hb2
    obtain ⟨a0, a1, a2, a3, a4, a5, a6, a7, a8⟩ := HCB.out W2 (HQ1.out.trans hq2)
    clear hW2 hq2 hb1 hb2 hq02 hz3
    generalize w1.heap.size = ob at *
    go_wp2_with fail
    refine HC.out.mono ?_; rintro x w3 ⟨⟨v, rfl⟩, oo, oc, hu, hf, hn⟩
    have co2 := cell_of_one hu.o
    have HFIN : Hid (UsP w (usesN h ps) (.returned (.slice oo (usesU h ps [] []).length oc)) w3) := by
      refine ⟨oo, oc, by rw [HE.out], ?_, ?_⟩
      · rw [HE.out]
        refine ownsRow_base hu.row (fun k hk => ?_)
        rcases hn k hk with h | h
        · cases h
        · have := HZ3.out; omega
      · exact HQ02.out.trans' hf (fun k hk h => by
          rcases h with h | h
          · omega
          · cases h)
    clear hu hf hn co a0 a1 a2 a3 a4 a5 a6 a7 a8
    go_wp2_with fail
    go_ret
    exact HFIN.out
end Cn
end Go.Proofs.YtnfodiedalhlhaaDoor
end
section
namespace Go.Proofs.YtnfodiedalhlhaaDoor
open Go.RowKit
namespace Sc
structure TmRowT (w : World) (T : Nat → Prop) (v : Value) (f : To) (xs : List Value) : Prop where
  own : w.ownsRow 0 30 9 v f.length xs
  low : ∀ k, v.ownBlock = some k → T k
  cells : RowT (fun k => T k ∧ v.ownBlock ≠ some k) w xs f
theorem TmRowT.nil (w : World) (T : Nat → Prop) : TmRowT w T (.slice none 0 0) .nil [] := ⟨World.ownsRow_nil _ _ _ _, fun k hk => (by cases hk), rfl⟩
theorem TmRowT.fr {w w' : World} {T : Nat → Prop} {v : Value} {f : To} {xs : List Value} {S : Nat → Prop} (h : TmRowT w T v f xs) (hf : Fr S w w') (hS : ∀ k, T k → ¬ S k) : TmRowT w' T v f xs :=
  ⟨ownsRow_fr h.own hf (fun k hk hs => hS k (h.low k hk) hs), h.low, RowT.fr hf (fun k _ hk => ⟨hk, hS k hk.1⟩) f xs h.cells⟩
theorem TmRowT.stay {w w' : World} {T : Nat → Prop} {v : Value} {f : To} {xs : List Value} (h : TmRowT w T v f xs) (hf : Quiet0 w w') : TmRowT w' T v f xs := h.fr hf (fun _ _ h => h)
theorem TmRowT.lt {w : World} {T : Nat → Prop} {v : Value} {f : To} {xs : List Value} (h : TmRowT w T v f xs) : ∀ k, v.ownBlock = some k → k < w.heap.size := fun k hk => (h.own.lt k hk).2
theorem TmRowT.snoc {W w1 : World} {T : Nat → Prop} {v : Value} {f : To} {xs : List Value} {h : Nd} {ps : To} {o1 : Option Addr} {l1 c1 : Nat} {o2 : Option Addr} {l2 c2 g c : Nat} (hr : TmRowT W T v f xs)
    (hs : SlcIn (fun k => T k ∧ v.ownBlock ≠ some k) W o1 l1 h.tp) (ht : TSlc (fun k => T k ∧ v.ownBlock ≠ some k) W o2 l2 ps)
    (ho : w1.ownsRow 0 30 9 (.slice (some ⟨g, 0, none⟩) (f.length + 1) c) (f.length + 1) (xs ++ (cells9 h o1 l1 c1 o2 l2 c2).toList)) (hf : Fr (fun k => v.ownBlock = some k) W w1) (hg : v.ownBlock = some g ∨ W.heap.size ≤ g) (hT : ∀ k, W.heap.size ≤ k → T k) :
    TmRowT w1 T (.slice (some ⟨g, 0, none⟩) (f.length + 1) c) (f.app (.cons h ps .nil)) (xs ++ (cells9 h o1 l1 c1 o2 l2 c2).toList) := by
  refine ⟨by rw [To.app_length]; exact ho, ?_, ?_⟩
  · intro k hk
    simp [Value.ownBlock] at hk
    subst hk
    rcases hg with h | h
    · exact hr.low g h
    · exact hT _ h
  · have hk : ∀ k, k < W.heap.size → (T k ∧ v.ownBlock ≠ some k) → ((T k ∧ (Value.slice (some ⟨g, 0, none⟩) (f.length + 1) c).ownBlock ≠ some k) ∧ ¬ v.ownBlock = some k) := by
      rintro k hk ⟨h1, h2⟩
      refine ⟨⟨h1, fun h => ?_⟩, h2⟩
      simp [Value.ownBlock] at h
      subst h
      rcases hg with h | h
      · exact h2 h
      · omega
    exact RowT.snoc (hs.fr hf hk) (ht.fr hf hk) f xs (RowT.fr hf hk f xs hr.cells)
theorem TmRowT.slc {w : World} {T : Nat → Prop} {o : Option Addr} {len cap : Nat} {f : To} {xs : List Value} (h : TmRowT w T (.slice o len cap) f xs) (hl : len = f.length) (hm : len ≤ maxLen) : TSlc T w o len f := by
  refine ⟨hl, hm, fun h0 => ?_⟩
  rcases h.own.2 with ⟨_, h2⟩ | ⟨g, cap', cur, he, _⟩
  · omega
  · injection he with h1 h2 h3
    subst h1
    refine ⟨g, 0, rfl, RowT.at (h.low g rfl) f xs 0 (RowT.fr (Fr.refl (fun _ => False) w) (fun k _ hk => ⟨hk.1, fun h => h⟩) f xs h.cells) ?_⟩
    intro j u hj
    have := h.own.cells (g := g) rfl j u hj
    simpa [Addr.add_lit] using this
end Sc
end Go.Proofs.YtnfodiedalhlhaaDoor
end
section
namespace Go.Proofs.YtnfodiedalhlhaaDoor
open Go.RowKit Go.Shelf
namespace Sc
def okN (s : ByteArray) : Bool := Lx.nameB s.data.toList
def StrT (T : Nat → Prop) (w : World) (o : Option Addr) (l : List ByteArray) : Prop := ∀ j s, l[j]? = some s → ∃ b off, o = some ⟨b, off, none⟩ ∧ T b ∧ w.cell? ⟨b, off + j, none⟩ = some (.string s)
theorem StrT.nil (T : Nat → Prop) (w : World) (o : Option Addr) : StrT T w o [] := fun j s h => by simp at h
theorem StrT.fr {T T' S : Nat → Prop} {w w' : World} {o : Option Addr} {l : List ByteArray} (h : StrT T w o l) (hf : Fr S w w') (hT : ∀ k, k < w.heap.size → T k → T' k ∧ ¬ S k) : StrT T' w' o l := by
  intro j s hs
  obtain ⟨b, off, h0, h1, h2⟩ := h j s hs
  have hb := World.block_lt_of_cell? w _ h2
  exact ⟨b, off, h0, (hT b hb h1).1, (hf.cellb hb (hT b hb h1).2).trans h2⟩
theorem StrT.stay {T : Nat → Prop} {w w' : World} {o : Option Addr} {l : List ByteArray} (h : StrT T w o l) (hq : Quiet0 w w') : StrT T w' o l := h.fr hq (fun _ _ ht => ⟨ht, fun h => h⟩)
theorem StrT.head {T : Nat → Prop} {w : World} {o : Option Addr} {s : ByteArray} {l : List ByteArray} (h : StrT T w o (s :: l)) : ∃ b off, o = some ⟨b, off, none⟩ ∧ T b ∧ w.cell? ⟨b, off, none⟩ = some (.string s) := by
  obtain ⟨b, off, h0, h1, h2⟩ := h 0 s rfl
  exact ⟨b, off, h0, h1, h2⟩
theorem StrT.tail {T : Nat → Prop} {w : World} {b off : Nat} {s : ByteArray} {l : List ByteArray} (h : StrT T w (some ⟨b, off, none⟩) (s :: l)) : StrT T w (some ⟨b, off + 1, none⟩) l := by
  intro j t ht
  obtain ⟨b', off', h0, h1, h2⟩ := h (j + 1) t (by simpa using ht)
  injection h0 with h0; injection h0 with h3 h4
  subst h3 h4
  exact ⟨b, off + 1, rfl, h1, by rw [show off + 1 + j = off + (j + 1) by omega]; exact h2⟩
theorem nm_at {T : Nat → Prop} {w : World} {o : Option Addr} {n : Nat} {e : List ByteArray} (h : NmIn T w o n e) (k : Nat) (hk : k < n) : ∃ b, o = some ⟨b, 0, none⟩ ∧ w.cell? ⟨b, n - 1 - k, none⟩ = some (.string (e.getD k ByteArray.empty)) := by
  obtain ⟨b, h0, _, h2⟩ := h.2.2 (by omega)
  refine ⟨b, h0, h2 (n - 1 - k) _ ?_⟩
  have hn := h.1
  rw [List.getElem?_reverse (by omega), List.getD_eq_getElem?_getD, show e.length - 1 - (n - 1 - k) = k by omega]
  rw [List.getElem?_eq_getElem (by omega)]; rfl
def RcQ (ok : ByteArray → Bool) (R L : Nat → Prop) (w : World) (x y l : List ByteArray) (h : Nd) (ps : To) (o1 : Option Addr) (l1 c1 l2 : Nat) (z : Ending) (w' : World) : Prop :=
  ∃ (o2 : Option Addr) (c2 : Nat) (ro : Option Addr) (rc : Nat), z = .returned (.tuple #[tmv (call1 ok x y l h ps).1 o1 l1 c1 o2 l2 c2, .slice ro (call1 ok x y l h ps).2.2.length rc]) ∧ TSlc (fun k => R k ∨ w.heap.size ≤ k) w' o2 l2 (call1 ok x y l h ps).2.1 ∧
    StrT L w' ro (call1 ok x y l h ps).2.2 ∧ (call1 ok x y l h ps).2.2.length ≤ rc ∧ Quiet0 w w'
theorem restNm_len (h : Nd) (l : List ByteArray) : (restNm h l).length ≤ l.length := by unfold restNm; split <;> simp
theorem restNm_mem {h : Nd} {l : List ByteArray} {s : ByteArray} (hs : s ∈ restNm h l) : s ∈ l := by
  unfold restNm at hs; split at hs
  · exact List.mem_of_mem_tail hs
  · exact hs
theorem callR_rest (ok : ByteArray → Bool) : ∀ (f : To) (bk : Int) (nm nm2 : ByteArray) (i : Nat) (x y l : List ByteArray), ((callR ok bk nm nm2 i x y l f).2.length ≤ l.length) ∧ ∀ s ∈ (callR ok bk nm nm2 i x y l f).2, s ∈ l
  | .nil, _, _, _, _, _, _, _ => ⟨Nat.le_refl _, fun _ h => h⟩
  | .cons h ps r, bk, nm, nm2, i, x, y, l => by
    rw [callR_cons]
    have h1 := callR_rest ok r bk nm nm2 (i + 1) x y (call1 ok (envOf bk nm i x) (envOf bk nm2 i y) l h ps).2.2
    have h2 : (call1 ok (envOf bk nm i x) (envOf bk nm2 i y) l h ps).2.2.length ≤ l.length ∧ ∀ s ∈ (call1 ok (envOf bk nm i x) (envOf bk nm2 i y) l h ps).2.2, s ∈ l := by
      unfold call1
      split
      · exact ⟨Nat.le_refl _, fun _ h => h⟩
      · have := callR_rest ok ps h.k h.nm (newNm ok h l) 0 (envOf bk nm i x) (envOf bk nm2 i y) (restNm h l)
        exact ⟨Nat.le_trans this.1 (restNm_len h l), fun s hs => restNm_mem (this.2 s hs)⟩
    exact ⟨Nat.le_trans h1.1 h2.1, fun s hs => h2.2 s (h1.2 s hs)⟩
theorem call1_rest (ok : ByteArray → Bool) (x y l : List ByteArray) (h : Nd) (ps : To) : ((call1 ok x y l h ps).2.2.length ≤ l.length) ∧ ∀ s ∈ (call1 ok x y l h ps).2.2, s ∈ l := by
  unfold call1
  split
  · exact ⟨Nat.le_refl _, fun _ h => h⟩
  · have := callR_rest ok ps h.k h.nm (newNm ok h l) 0 x y (restNm h l)
    exact ⟨Nat.le_trans this.1 (restNm_len h l), fun s hs => restNm_mem (this.2 s hs)⟩
theorem env_len (k : Int) (nm nm2 : ByteArray) (i : Nat) {x y : List ByteArray} (h : x.length = y.length) : (envOf k nm i x).length = (envOf k nm2 i y).length := by unfold envOf; split <;> simp [h]
end Sc
end Go.Proofs.YtnfodiedalhlhaaDoor
end
section
namespace Go.Proofs.YtnfodiedalhlhaaDoor
open Go.RowKit Go.Shelf
namespace Sc
theorem sound_nm {h : Nd} {m : Nat} {s : ByteArray} (hs : soundB h m = true) (hn : s = h.nm ∨ (kName h.k = true ∧ okN s = true)) : soundB { h with nm := s } m = true := by
  rcases hn with rfl | ⟨k, o⟩
  · exact hs
  · unfold soundB at *
    simp only [Bool.and_eq_true] at *
    obtain ⟨⟨⟨⟨⟨⟨⟨a, b⟩, c⟩, d⟩, e⟩, f⟩, g⟩, i⟩ := hs
    refine ⟨⟨⟨⟨⟨⟨⟨a, b⟩, ?_⟩, d⟩, e⟩, f⟩, g⟩, i⟩
    unfold namedB
    rw [if_pos k]; exact o
theorem sound_name {h : Nd} {m : Nat} (hs : soundB h m = true) (hk : kName h.k = true) : okN h.nm = true := by
  unfold soundB at hs
  simp only [Bool.and_eq_true] at hs
  have hn : namedB h = true := hs.1.1.1.1.1.2
  unfold namedB at hn
  rw [if_pos hk] at hn
  exact hn
theorem bind_name {k : Int} (h : bindK k = true) : kName k = true := by unfold bindK at h; unfold kName; simp at h ⊢; omega
theorem newNm_ok {h : Nd} {m : Nat} (_ : soundB h m = true) (l : List ByteArray) : newNm okN h l = h.nm ∨ (kName h.k = true ∧ okN (newNm okN h l) = true) := by
  unfold newNm
  split
  · exact .inl rfl
  · split
    · rename_i a _ hc
      simp only [Bool.and_eq_true] at hc
      exact .inr ⟨bind_name hc.1, hc.2⟩
    · exact .inl rfl
theorem newNm_bind {h : Nd} {m : Nat} (hs : soundB h m = true) (l : List ByteArray) (hb : bindK h.k = true) : okN (newNm okN h l) = true := by
  rcases newNm_ok hs l with h' | h'
  · rw [h']; exact sound_name hs (bind_name hb)
  · exact h'.2
theorem binds_bind {k : Int} {i : Nat} (h : bindsB k i = true) : bindK k = true := by
  unfold bindsB at h; unfold bindK; simp at h ⊢; omega
theorem varNm_ok {h : Nd} {m : Nat} (_ : soundB h m = true) (hk : h.k = 1) {x y : List ByteArray} (hxy : x.length = y.length) (hy : ∀ s ∈ y, okN s = true) : varNm x y h.nm = h.nm ∨ (kName h.k = true ∧ okN (varNm x y h.nm) = true) := by
  unfold varNm
  split
  · rename_i h0
    have hl := (ix_ge x h.nm).2
    refine .inr ⟨by rw [hk]; rfl, ?_⟩
    rw [List.getD_eq_getElem?_getD, List.getElem?_eq_getElem (by omega)]
    exact hy _ (List.getElem_mem _)
  · exact .inl rfl
theorem callR_right : ∀ (f : To) (bk : Int) (nm nm2 : ByteArray) (i : Nat) (x y l : List ByteArray), x.length = y.length → (∀ s ∈ y, okN s = true) → (bindK bk = true → okN nm2 = true) → allS f = true → allS (callR okN bk nm nm2 i x y l f).1 = true
  | .nil, _, _, _, _, _, _, _, _, _, _, h => h
  | .cons h ps r, bk, nm, nm2, i, x, y, l, hxy, hy, hn, hs => by
    rw [allS_cons, Bool.and_eq_true, Bool.and_eq_true] at hs
    obtain ⟨⟨h1, h2⟩, h3⟩ := hs
    have hxy' : (envOf bk nm i x).length = (envOf bk nm2 i y).length := by unfold envOf; split <;> simp [hxy]
    have hy' : ∀ s ∈ envOf bk nm2 i y, okN s = true := by
      unfold envOf; split
      · rename_i hb
        intro s hs
        rcases List.mem_cons.1 hs with rfl | h
        · exact hn (binds_bind hb)
        · exact hy s h
      · exact hy
    rw [callR_cons, allS_cons, Bool.and_eq_true, Bool.and_eq_true]
    refine ⟨?_, callR_right r _ _ _ _ _ _ _ hxy hy hn h3⟩
    unfold call1
    by_cases hk : h.k = 1
    · simp only [if_pos hk]
      exact ⟨sound_nm h1 (varNm_ok h1 hk hxy' hy'), h2⟩
    · simp only [if_neg hk]
      rw [callR_length]
      exact ⟨sound_nm h1 (newNm_ok h1 l), callR_right ps _ _ _ _ _ _ _ hxy' hy' (newNm_bind h1 l) h2⟩
theorem call_right {h : Nd} {ps : To} (l : List ByteArray) (hr : RT h ps = true) : RT (call1 okN [] [] l h ps).1 (call1 okN [] [] l h ps).2.1 = true :=
  callR_right (.cons h ps .nil) 0 ByteArray.empty ByteArray.empty 0 [] [] l rfl (fun s hs => by cases hs) (fun h => by cases h) hr
def renN (h : Nd) (ps : To) (l : List ByteArray) : Nd × To := if refA1 [] [] (call1 okN [] [] l h ps).1 (call1 okN [] [] l h ps).2.1 h ps then ((call1 okN [] [] l h ps).1, (call1 okN [] [] l h ps).2.1) else (h, ps)
theorem ren_alike (h : Nd) (ps : To) (l : List ByteArray) : refA1 [] [] (renN h ps l).1 (renN h ps l).2 h ps = true := by
  unfold renN; split
  · assumption
  · exact refA1_refl [] h ps
theorem ren_right {h : Nd} {ps : To} (l : List ByteArray) (hr : RT h ps = true) : RT (renN h ps l).1 (renN h ps l).2 = true := by
  unfold renN; split
  · exact call_right l hr
  · exact hr
theorem ren_free (h : Nd) (ps : To) (l : List ByteArray) : free1 [] (renN h ps l).1 (renN h ps l).2 = [] ↔ free1 [] h ps = [] := by
  have k := alike_free (.cons (renN h ps l).1 (renN h ps l).2 .nil) (.cons h ps .nil) 0 ByteArray.empty 0 ByteArray.empty 0 [] [] (by
    rw [refAR_cons]
    exact (Bool.and_true _).trans (ren_alike h ps l))
  rw [freeL_cons, freeL_cons] at k
  have e : ∀ (a : List Nd), a ++ freeL 0 ByteArray.empty (0 + 1) [] To.nil = a := fun a => List.append_nil a
  rw [e, e] at k
  exact k
theorem ren_rsv {h : Nd} {ps : To} (l : List ByteArray) (hr : RT h ps = true) : (rsvP (renN h ps l).1 (renN h ps l).2).2.2 = (rsvP h ps).2.2 := by
  have hf := ren_free h ps l
  unfold rsvP
  rw [if_pos (ren_right l hr), if_pos hr]
  cases h1 : free1 [] (renN h ps l).1 (renN h ps l).2 with
  | nil => rw [hf.1 h1]
  | cons a r =>
    cases h2 : free1 [] h ps with
    | nil => rw [hf.2 h2] at h1; cases h1
    | cons b r' => rfl
end Sc
namespace Cn
theorem ren_clsd (own : Int → Int) (rc : Int) {h : Nd} {ps : To} (l : List ByteArray) (hr : Sc.RT h ps = true) : clsd own rc (Sc.renN h ps l).1 (Sc.renN h ps l).2 = clsd own rc h ps := by
  unfold clsd
  rw [Sc.ren_rsv l hr, alike_cnt own rc (Sc.ren_alike h ps l)]
theorem ren_uses {h : Nd} {ps : To} (l : List ByteArray) (hr : Sc.RT h ps = true) : usesN (Sc.renN h ps l).1 (Sc.renN h ps l).2 = usesN h ps := by
  unfold usesN
  rw [if_pos (Sc.ren_right l hr), if_pos hr, alike_uses (Sc.ren_alike h ps l)]
end Cn
end Go.Proofs.YtnfodiedalhlhaaDoor
end
section
namespace Go.Proofs.YtnfodiedalhlhaaDoor
open Go.RowKit Go.Shelf
attribute [local go_sem] Oper.semAt_some
namespace Sc
def bdx (xs : List (Nd × To)) : List ByteArray := (xs.filter (fun t => bindK t.1.k)).map (fun t => t.1.nm)
def BnI (B ob : Nat) (w : World) (xs : List (Nd × To)) (i : Nat) (D : Nat → Prop) (W : World) : Prop :=
  ∃ v, (∀ k, D k ↔ (k = ob ∨ v.ownBlock = some k)) ∧ W.heap[ob]? = some (.cells #[v] 40 (0, 0)) ∧ StrRow W B v (bdx (xs.take i)) ∧ Quiet0 w W
theorem StrRow.fr {w w' : World} {B : Nat} {v : Value} {l : List ByteArray} {S : Nat → Prop} (h : StrRow w B v l) (hf : Fr S w w') (hS : ∀ k, v.ownBlock = some k → ¬ S k) : StrRow w' B v l := ⟨ownsRow_fr h.own hf hS, h.low⟩
theorem BnI.fr {B ob : Nat} {w : World} {xs : List (Nd × To)} {i : Nat} {D S : Nat → Prop} {W W' : World} (h : BnI B ob w xs i D W) (hf : Fr S W W') (h1 : ∀ k, D k → ¬ S k) (h2 : ∀ k, k < w.heap.size → ¬ S k) : BnI B ob w xs i D W' := by
  obtain ⟨v, hd, hb, hr, hq⟩ := h
  exact ⟨v, hd, blk_fr hf (h1 _ ((hd _).2 (.inl rfl))) hb, StrRow.fr hr hf (fun k hk => h1 _ ((hd _).2 (.inr hk))), hq.trans' hf (fun k hk hs => h2 k hk hs)⟩
end Sc
end Go.Proofs.YtnfodiedalhlhaaDoor
end
section
namespace Go.Proofs.YtnfodiedalhlhaaDoor
open Go.RowKit Go.Shelf
abbrev appNd : Nd := ⟨5, ⟨#[]⟩, 0, 0, 0, .nil, 0, 0⟩
abbrev cells18 (g : Nd) (a1 : Option Addr) (n1 k1 : Nat) (a2 : Option Addr) (n2 k2 : Nat) (hd : Nd) (u1 : Option Addr) (v1 t1 : Nat) (u2 : Option Addr) (v2 t2 : Nat) : Array Value :=
  #[.int .i64 g.k, .string g.nm, .int .i64 g.n, .int .i64 g.tk, .int .i64 g.tn, .slice a1 n1 k1, .slice a2 n2 k2, .int .i64 g.fr, .int .i64 g.en, .int .i64 hd.k, .string hd.nm, .int .i64 hd.n, .int .i64 hd.tk, .int .i64 hd.tn, .slice u1 v1 t1, .slice u2 v2 t2, .int .i64 hd.fr, .int .i64 hd.en]
set_option maxHeartbeats 2000000 in
theorem slc9two {R : Nat → Prop} {W : World} {b : Nat} {g hd : Nd} {a1 : Option Addr} {n1 k1 : Nat} {a2 : Option Addr} {n2 k2 : Nat} {u1 : Option Addr} {v1 t1 : Nat} {u2 : Option Addr} {v2 t2 : Nat} {gs qs : To}
    (hb : W.heap[b]? = some (.cells (cells18 g a1 n1 k1 a2 n2 k2 hd u1 v1 t1 u2 v2 t2) 30 (0, 0))) (hR : R b)
    (h1 : SlcIn R W a1 n1 g.tp) (h2 : TSlc R W a2 n2 gs) (h3 : SlcIn R W u1 v1 hd.tp) (h4 : TSlc R W u2 v2 qs) : TSlc R W (some ⟨b, 0, none⟩) 2 (.cons g gs (.cons hd qs .nil)) := by
  refine ⟨rfl, by decide, fun _ => ⟨b, 0, rfl, hR, ⟨a1, n1, k1, a2, n2, k2, ⟨?_, ?_, ?_, ?_, ?_, ?_, ?_, ?_, ?_⟩, h1, h2.1, h2.2.1, h2.2.2⟩,
    hR, ⟨u1, v1, t1, u2, v2, t2, ⟨?_, ?_, ?_, ?_, ?_, ?_, ?_, ?_, ?_⟩, h3, h4.1, h4.2.1, h4.2.2⟩, trivial⟩⟩
  all_goals (rw [cell_of_row _ _ _ _ _ (0, 0) hb]; rfl)
theorem put9_size (w : World) (B : Nat) (a0 a1 a2 a3 a4 a5 a6 a7 a8 : Value) : (put9 w B a0 a1 a2 a3 a4 a5 a6 a7 a8).heap.size = w.heap.size := by
  unfold put9; simp [World.setCell]
end Go.Proofs.YtnfodiedalhlhaaDoor
end
section
namespace Go.Proofs.YtnfodiedalhlhaaDoor
open Go.RowKit Go.Shelf
attribute [local go_sem] Oper.semAt_some
def NtI (k : Nat) (w : World) (i : Nat) (D : Nat → Prop) (W : World) : Prop :=
  (∀ j, D j ↔ (j = w.heap.size + 2 ∨ j = w.heap.size + 3)) ∧ W.heap[w.heap.size + 1]? = some (.cells #[.int .i64 (k : Int)] 3 (0, 0)) ∧ W.heap[w.heap.size + 2]? = some (.cells zero9 30 (0, 0)) ∧ W.heap[w.heap.size + 3]? = some (.cells #[.bool false] 4 (0, 0)) ∧ Quiet0 w W ∧ i ≤ k
theorem NtI.fr {k : Nat} {w : World} {i : Nat} {D S : Nat → Prop} {W W' : World} (h : NtI k w i D W) (hf : Fr S W W') (h1 : ¬ S (w.heap.size + 1)) (h2 : ¬ S (w.heap.size + 2)) (h3 : ¬ S (w.heap.size + 3)) (h4 : ∀ k, k < w.heap.size → ¬ S k) : NtI k w i D W' :=
  ⟨h.1, blk_fr hf h1 h.2.1, blk_fr hf h2 h.2.2.1, blk_fr hf h3 h.2.2.2.1, Fr.trans' h.2.2.2.2.1 hf (fun k hk hs => h4 k hk hs), h.2.2.2.2.2⟩
end Go.Proofs.YtnfodiedalhlhaaDoor
end
section
namespace Go.Proofs.YtnfodiedalhlhaaDoor
open Go.RowKit
def bigH (h : Nd) : Bool := decide (60 < h.nm.size) || greatF h.tp
namespace To
def room : Nat → Int → To → Int
  | _, m, nil => m
  | d, m, cons h ps r => if m < 0 then m else
      match d with
      | 0 => room 0 (-1) r
      | d + 1 => room (d + 1) (if bigH h then -1 else room d (m - 1) ps) r
theorem room_neg : ∀ (f : To) (d : Nat) (m : Int), m < 0 → room d m f = m
  | nil, _, _, _ => by unfold room; rfl
  | cons h ps r, d, m, e => by unfold room; rw [if_pos e]
theorem room_le : ∀ (f : To) (d : Nat) (m : Int), 0 ≤ m → room d m f ≤ m ∧ -1 ≤ room d m f
  | nil, _, _, _ => by unfold room; omega
  | cons h ps r, d, m, e => by
    unfold room
    rw [if_neg (by omega)]
    cases d with
    | zero => simp only; rw [room_neg r 0 (-1) (by omega)]; omega
    | succ d =>
      simp only
      cases hb : bigH h
      · simp only [Bool.false_eq_true, if_false]
        by_cases hm : 0 ≤ m - 1
        · have h1 := room_le ps d (m - 1) hm
          by_cases h0 : 0 ≤ room d (m - 1) ps
          · have h2 := room_le r (d + 1) _ h0; omega
          · rw [room_neg r _ _ (by omega)]; omega
        · rw [room_neg ps _ _ (by omega), room_neg r _ _ (by omega)]; omega
      · simp only [if_true]
        rw [room_neg r _ _ (by omega)]; omega
theorem room_all : ∀ (f : To) (d : Nat) (m : Int), 0 ≤ room d m f → room d m f = m - f.size ∧ 0 ≤ m ∧ f.depth ≤ d ∧ allT (fun h => bigH h = false) f
  | nil, _, m, h => by unfold room at h ⊢; simp [size, depth, allT]; exact h
  | cons h ps r, d, m, e => by
    unfold room at e ⊢
    by_cases hm : m < 0
    · rw [if_pos hm] at e; omega
    · rw [if_neg hm] at e ⊢
      cases d with
      | zero => simp only at e; rw [room_neg r 0 (-1) (by omega)] at e; omega
      | succ d =>
        simp only at e ⊢
        obtain ⟨h1, h2, h3, h4⟩ := room_all r (d + 1) _ e
        cases hb : bigH h
        · rw [hb] at h1 h2 e
          simp only [Bool.false_eq_true, if_false] at h1 h2 e ⊢
          obtain ⟨g1, g2, g3, g4⟩ := room_all ps d (m - 1) h2
          rw [h1, g1]
          refine ⟨by simp only [size]; omega, by omega, by simp only [depth]; omega, hb, g4, h4⟩
        · rw [hb] at h2; simp at h2
end To
def roomOne (d : Nat) (m : Int) (h : Nd) (ps : To) : Int := if d = 0 then -1 else if bigH h then -1 else To.room (d - 1) (m - 1) ps
theorem room_cons (d : Nat) (m : Int) (h : Nd) (ps r : To) (hm : 0 ≤ m) : To.room d m (.cons h ps r) = To.room d (roomOne d m h ps) r := by
  conv => lhs; unfold To.room
  rw [if_neg (by omega)]
  unfold roomOne
  cases d with
  | zero => rfl
  | succ d => rfl
theorem roomOne_le (d : Nat) (m : Int) (h : Nd) (ps : To) (hm : 0 ≤ m) : -1 ≤ roomOne d m h ps ∧ roomOne d m h ps ≤ m := by
  unfold roomOne
  split
  · omega
  · split
    · omega
    · by_cases h1 : 0 ≤ m - 1
      · have := To.room_le ps (d - 1) (m - 1) h1; omega
      · rw [To.room_neg _ _ _ (by omega)]; omega
def LRoomT (h : Nd) (ps : To) : Prop := ∀ (w : World) (R : Nat → Prop) (o1 : Option Addr) (l1 c1 : Nat) (o2 : Option Addr) (l2 c2 : Nat) (d : Nat) (m : Int) (di : Int), di = d → SlcIn R w o1 l1 h.tp → TSlc R w o2 l2 ps → h.nm.size ≤ 9223372036854775807 → allT (fun h => h.nm.size ≤ 9223372036854775807) ps → 0 ≤ m → m ≤ 100000 → d ≤ 100000 →
  Calls Tryd.prog 42 #[tmv h o1 l1 c1 o2 l2 c2, .int .i64 m, .int .i64 di] w fun e w' => e = .returned (.int .i64 (roomOne d m h ps)) ∧ Quiet0 w w'
set_option maxHeartbeats 2000000 in
theorem roomT_any (h : Nd) (ps : To) : LRoomT h ps := by
  refine To.ind' (T := LRoomT) ?_ h ps
  intro h ps ih w R o1 l1 c1 o2 l2 c2 d m di ed hs1 hs hnm hnms hm0 hm1 hd1
  subst ed
  have HG := Lib.hid (fun (W : World) (hq : Quiet0 w W) => great_any h.tk h.tn h.tp W o1 l1 c1 (hs1.slc.stay hq))
  have HS := Lib.hid hs
  have IH := Lib.hid ih
  have HL := Lib.hid hs.1
  have HNM := Lib.hid hnms
  have hmx := hs.2.1
  unfold maxLen at hmx
  unfold tyv at HG
  clear hs ih hnms
  by_cases hd0 : d = 0
  · subst hd0
    unfold tmv roomOne
    go_enter Tryd.func42, Tryd.ntmps42
    go_wp2_with fail
    go_ret
    exact ⟨rfl, Quiet0.alloc _ _⟩
  · obtain ⟨D, hD⟩ : ∃ D, D = d - 1 := ⟨_, rfl⟩
    have hd0' : ((d : Int) == 0) = false := by simp; omega
    have hdD : d = D + 1 := by omega
    by_cases h60 : 60 < h.nm.size
    · have h60' : (60 : Int) < (h.nm.size : Int) := by omega
      have HF : Hid (roomOne d m h ps = -1) := by show _ = _; unfold roomOne bigH; rw [if_neg hd0]; simp [h60]
      rw [HF.out]
      clear hd0 hD
      unfold tmv
      go_enter Tryd.func42, Tryd.ntmps42
      go_wp2_with fail
      go_ret
      exact ⟨rfl, Quiet0.alloc _ _⟩
    · have h60' : ¬ (60 : Int) < (h.nm.size : Int) := by omega
      cases hg : greatF h.tp
      · obtain ⟨res, hres⟩ : ∃ res, res = To.room D (m - 1) ps := ⟨_, rfl⟩
        have HRES := Lib.hid hres
        have HF : Hid (roomOne d m h ps = res) := by show _ = _; unfold roomOne bigH; rw [if_neg hd0, hres, hg, ← hD]; simp [h60]
        rw [HF.out]
        rw [hg] at HG
        have HDD := Lib.hid hdD
        have hD1 : D ≤ 100000 := by omega
        have hd1' : 1 ≤ d := by omega
        clear hres hd0 hD hdD hg h60
        obtain ⟨W0, hW0⟩ : ∃ W0, W0 = w.alloc (.cells (cells9 h o1 l1 c1 o2 l2 c2) 30) := ⟨_, rfl⟩
        have HB : Hid (∀ W, Quiet0 W0 W → W.cell? ⟨w.heap.size, 6, none⟩ = some (.slice o2 l2 c2)) := by
          intro W hq; rw [hW0] at hq; exact (box9 w h o1 l1 c1 o2 l2 c2 _ W hq).2.2.2.2.2.2.1
        have HQ0 : Hid (Quiet0 w W0) := by rw [hW0]; exact Quiet0.alloc _ _
        unfold tmv
        go_enter Tryd.func42, Tryd.ntmps42
        go_wp2_with fail
        change Calls _ _ _ (w.alloc (.cells (cells9 h o1 l1 c1 o2 l2 c2) 30)) _
        rw [← hW0]
        refine (HG.out _ HQ0.out).mono ?_; rintro e w1 ⟨rfl, hq1⟩
        have HQ1 := Lib.hid hq1
        clear hW0 hq1
        go_wp2_with fail
        generalize w.heap.size = nb at *
        go_loopw [1, 7] (fun s t wr => ∃ (i : Nat) (x : Int), t = .int .i64 i ∧ s = .int .i64 x ∧ i ≤ l2 ∧ -1 ≤ x ∧ x ≤ 100000 ∧ res = To.room D x (ps.drop i) ∧ Quiet0 W0 wr) (fun _ t _ => l2 - (intOf t).toNat)
        case atStart => exact ⟨0, m - 1, rfl, rfl, Nat.zero_le _, by omega, by omega, by rw [To.drop_zero]; exact HRES.out, HQ1.out⟩
        case round =>
          obtain ⟨i, x, rfl, rfl, hi, hx0, hx1, hr, hq⟩ := hrel
          have HR := Lib.hid hr
          have HQ := Lib.hid hq
          have g2 := HB.out wr hq
          clear hr hq
          by_cases hlt : i < l2
          · have hlt' : (i : Int) < l2 := by omega
            by_cases hx : 0 ≤ x
            · obtain ⟨b, off, hd, qs, p1, m1, d1, p2, m2, d2, rfl, hdr, hg, hRb, ⟨e0, e1, e2, e3, e4, e5, e6, e7, e8⟩, hsl, ht1⟩ := (HS.out.stay (HQ0.out.trans HQ.out)).nth hlt
              have hna := allT_get ps i hd qs HNM.out hg
              have HC := Lib.hid (IH.out i hd qs hg wr R p1 m1 d1 p2 m2 d2 D x ((d : Int) - 1) (by have := HDD.out; omega) hsl ht1 hna.1 hna.2 hx hx1 hD1)
              obtain ⟨y, hy⟩ : ∃ y, y = roomOne D x hd qs := ⟨_, rfl⟩
              have hyb : -1 ≤ y ∧ y ≤ 100000 := by have := roomOne_le D x hd qs hx; omega
              have HY : Hid (res = To.room D y (ps.drop (i + 1))) := by
                show _ = _
                rw [HR.out, hdr, hy, room_cons _ _ _ _ _ hx]
              rw [← hy] at HC
              unfold tmv at HC
              clear hdr hg hsl ht1 hy hRb hna
              go_wp2_with fail
              refine HC.out.mono ?_; rintro e w1 ⟨rfl, hq1⟩
              have HQ1 := Lib.hid (HQ.out.trans hq1)
              clear hq1
              go_wp2_with fail
              go_roundw
              case rel => exact ⟨i + 1, y, by go_num, rfl, by omega, hyb.1, hyb.2, HY.out, HQ1.out⟩
              case measure => simp [intOf]; omega
            · have hx' : x < 0 := by omega
              have HY : Hid (res = x) := by show _ = _; rw [HR.out]; exact To.room_neg _ _ _ hx'
              go_wp2_with fail
              go_ret
              exact ⟨by rw [HY.out]; rfl, HQ0.out.trans HQ.out⟩
          · have hlt' : ¬ (i : Int) < l2 := by omega
            have HY : Hid (res = x) := by
              show _ = _
              rw [HR.out, To.drop_end ps i (by have := HL.out; omega)]
              unfold To.room; rfl
            go_wp2_with fail
            go_ret
            exact ⟨by rw [HY.out]; rfl, HQ0.out.trans HQ.out⟩
      · have HF : Hid (roomOne d m h ps = -1) := by show _ = _; unfold roomOne bigH; rw [if_neg hd0, hg]; simp
        rw [HF.out]
        rw [hg] at HG
        clear hd0 hD hg h60
        unfold tmv
        go_enter Tryd.func42, Tryd.ntmps42
        go_wp2_with fail
        refine (HG.out _ (Quiet0.alloc _ _)).mono ?_; rintro e w1 ⟨rfl, hq1⟩
        go_wp2_with fail
        go_ret
        exact ⟨rfl, (Quiet0.alloc _ _).trans hq1⟩
def greatTm (h : Nd) (ps : To) : Bool := decide (roomOne 60 200 h ps < 0)
theorem greatTm_no {h : Nd} {ps : To} (e : greatTm h ps = false) : bigH h = false ∧ allT (fun h => bigH h = false) ps ∧ ps.size + 1 ≤ 200 ∧ ps.depth + 1 ≤ 60 := by
  unfold greatTm at e
  have h0 : 0 ≤ roomOne 60 200 h ps := by simpa using e
  unfold roomOne at h0
  rw [if_neg (by omega)] at h0
  cases hb : bigH h
  · rw [hb] at h0
    simp only [Bool.false_eq_true, if_false] at h0
    obtain ⟨h1, h2, h3, h4⟩ := To.room_all ps _ _ h0
    exact ⟨rfl, h4, by omega, by omega⟩
  · rw [hb] at h0; simp at h0
theorem bigH_no {h : Nd} (e : bigH h = false) : h.nm.size ≤ 60 ∧ h.tp.size + 1 ≤ 300 := by
  unfold bigH at e
  rw [Bool.or_eq_false_iff] at e
  exact ⟨by simpa using e.1, great_size e.2⟩
set_option maxHeartbeats 1000000 in
theorem greatTm_any (h : Nd) (ps : To) (w : World) (R : Nat → Prop) (o1 : Option Addr) (l1 c1 : Nat) (o2 : Option Addr) (l2 c2 : Nat) (hs1 : SlcIn R w o1 l1 h.tp) (hs : TSlc R w o2 l2 ps) (hnm : h.nm.size ≤ 9223372036854775807) (hnms : allT (fun h => h.nm.size ≤ 9223372036854775807) ps) :
    Calls Tryd.prog 15 #[tmv h o1 l1 c1 o2 l2 c2] w fun e w' => e = .returned (.bool (greatTm h ps)) ∧ Quiet0 w w' := by
  have HC := Lib.hid (fun (W : World) (hq : Quiet0 w W) => roomT_any h ps W R o1 l1 c1 o2 l2 c2 60 200 60 rfl (hs1.stay hq) (hs.stay hq) hnm hnms (by omega) (by omega) (by omega))
  unfold greatTm
  generalize roomOne 60 200 h ps = r at *
  clear hs1 hs hnm hnms
  unfold tmv at *
  go_enter Tryd.func15, Tryd.ntmps15
  go_wp2_with fail
  refine (HC.out _ (Quiet0.alloc _ _)).mono ?_; rintro e w1 ⟨rfl, hq⟩
  go_wp2_with fail
  go_ret
  exact ⟨rfl, (Quiet0.alloc _ _).trans hq⟩
end Go.Proofs.YtnfodiedalhlhaaDoor
end
section
namespace Go.Proofs.YtnfodiedalhlhaaDoor
open Go.ChangeShapes Go.WideShapes Go.ChangeAt Go.RowKit
theorem own : ownKnob Tryd.prog.godebug = none := by kernel_rfl
def typesRead (P : Program) (ts : List TypeId) : Bool := ts.all fun t => P.readableRec t && decide (t < P.types.size)
theorem below_trodAll {H : Type} {enc : TypeId × Value → H} {P : Program} (hl : laidOutB P = true) {W W' : World} (hb : Below W.heap.size W W') :
    ∀ (ts : List TypeId) (vs : List Value) (ds : List (DataW H)) (ps : List MemPlace), typesRead P ts = true → DataW.TrodAll enc P W 0 (fun _ => true) true ts vs ds ps → (∀ x ∈ ps, x.block < W.heap.size) →
      DataW.TrodAll enc P W' 0 (fun b => decide (b < W.heap.size)) true ts vs ds ps
  | [], vs, ds, ps, _, h, _ => by
    obtain ⟨rfl, rfl, rfl⟩ := trodAll_nil h
    exact trodAll_mk0
  | t :: ts, vs, ds, ps, hr, h, hlt => by
    obtain ⟨v, vs', d, ds', p, q, rfl, rfl, rfl, h1, h2⟩ := trodAll_cons h
    simp only [typesRead, List.all_cons, Bool.and_eq_true, decide_eq_true_eq] at hr
    exact trodAll_cons_mk (Below.trod hl hr.1.1 hr.1.2 h1 hb (fun x hx => hlt x (List.mem_append_left _ hx)))
      (below_trodAll hl hb ts vs' ds' q hr.2 h2 (fun x hx => hlt x (List.mem_append_right _ hx)))
theorem law_post {H : Type} {enc : TypeId × Value → H} {f : Func} {s : ChangeSpec} {W W' : World} {args : Array Value} {ds gs : List (DataW H)} {before : List MemPlace}
    (hW : DataW.Whole enc Tryd.prog f.params.toList s.vars false W args.toList ds gs before) (hv : s.vars = []) (hs : (s.fn H (ds ++ gs)).results = [.lit (.bool true)]) (hs2 : (s.fn H (ds ++ gs)).args = ds) (hs3 : (s.fn H (ds ++ gs)).vars = [])
    (hres : f.resultTypes = #[4]) (hread : typesRead Tryd.prog f.params.toList = true) (hb : Below W.heap.size W W') :
    s.post enc Tryd.prog f false true false false W args (.bool true) W' := by
  have hlt := hW.lt
  have hW' := hW
  obtain ⟨p, q, hA, hV, rfl, hfz, hnd⟩ := hW
  refine ⟨ds, gs, _, [], p, [], hW', ?_, ?_, ?_, hb.frame _, fun h => by cases h⟩
  · rw [hs, hres]; exact trodAll_cons_mk (shut_bool Tryd.underlying4 _) trodAll_mk0
  · rw [hs2]; exact below_trodAll (by kernel_rfl) hb _ _ _ _ hread hA (fun x hx => by have := hlt x (List.mem_append_left _ hx); simpa using this)
  · rw [hs3, hv]; exact rfl
end Go.Proofs.YtnfodiedalhlhaaDoor
end
section
namespace Go.Proofs.YtnfodiedalhlhaaDoor
open Go.ChangeShapes Go.WideShapes Go.ChangeAt Go.RowKit
theorem spot_none {w : World} {a : Addr} {v : Value} (h : w.cell? (a.add 0) = some v) : ∃ b off, a = ⟨b, off, none⟩ := by
  obtain ⟨b, off, s⟩ := a
  cases s with
  | none => exact ⟨b, off, rfl⟩
  | some s =>
    unfold World.cell? Addr.add at h
    simp only [if_true] at h
    split at h <;> simp_all
section
variable {H : Type} {enc : TypeId × Value → H} {P : Program} {w : World} {base : Nat} {spare : Nat → Bool} {held : Bool}
theorem at_of_cells {b off len : Nat} (one : ∀ i, i < len → ∃ k n o l c ps, w.cell? ⟨b, off + i * 3, none⟩ = some (.int .i64 k) ∧ w.cell? ⟨b, off + i * 3 + 1, none⟩ = some (.int .i64 n) ∧ w.cell? ⟨b, off + i * 3 + 2, none⟩ = some (.slice o l c) ∧ Slc w o l ps ∧ wfI n ∧ wfF ps) :
    ∀ m s, s + m = len → ∃ f : Fo, f.length = m ∧ At w b (off + s * 3) f ∧ wfF f
  | 0, s, _ => ⟨.nil, rfl, trivial, trivial⟩
  | m + 1, s, h => by
    obtain ⟨k, n, o, l, c, ps, h1, h2, h3, hs, hw, hwp⟩ := one s (by omega)
    obtain ⟨r, hr, ha, hwr⟩ := at_of_cells one m (s + 1) (by omega)
    refine ⟨.cons k n ps r, by simp [Fo.length, hr], ⟨h1, h2, ⟨o, l, c, h3, hs.1, hs.2.1, hs.2.2⟩, ?_⟩, hw, hwp, hwr⟩
    rw [show off + s * 3 + 3 = off + (s + 1) * 3 from by omega]
    exact ha
theorem open_parts {te : TypeId} {f0 f1 f2 : Field} (he : P.underlying te = some (.struct #[f0, f1, f2])) (ce : P.cellsOf te = 3)
    (o0 : f0.offset = 0) (o1 : f1.offset = 1) (o2 : f2.offset = 2) (c0 : P.cellsOf f0.type = 1) (c1 : P.cellsOf f1.type = 1) (c2 : P.cellsOf f2.type = 1) (k0 : P.underlying f0.type = some (.int .i64)) (k1 : P.underlying f1.type = some (.int .i64)) (k2 : P.underlying f2.type = some (.slice te)) :
    ∀ (fuel : Nat) (ts : TypeId) (cs : List Value) (x : DataW H × List MemPlace), P.underlying ts = some (.slice te) → DataW.trod enc P w base spare held fuel ts cs = some x → ∃ o len cap f, cs = [.slice o len cap] ∧ Slc w o len f ∧ wfF f := by
  intro fuel
  induction fuel using Nat.strongRecOn with
  | _ fuel ih =>
  intro ts cs x hts h
  rcases DataW.trod_slice hts h with ⟨rfl, _⟩ | ⟨a, len, cap, elems, rest, n, hfu, rfl, _, _, hl, hm, hlen, hel, _⟩
  · exact ⟨_, _, _, .nil, rfl, Slc.nil _ _, trivial⟩
  · have one : ∀ i, i < len → ∃ k n o l c ps, w.cell? (a.add (i * 3)) = some (.int .i64 k) ∧ w.cell? (a.add (i * 3 + 1)) = some (.int .i64 n) ∧ w.cell? (a.add (i * 3 + 2)) = some (.slice o l c) ∧ Slc w o l ps ∧ wfI n ∧ wfF ps := by
      intro i hi
      have h1 := hel i hi
      rw [List.getElem?_eq_getElem (by omega)] at h1
      obtain ⟨cs', h2, h3⟩ := Option.bind_eq_some_iff.1 h1
      rw [ce] at h2
      obtain ⟨_, hcl, hcell⟩ := World.cells?_some h2
      obtain ⟨xs, n', hn', _, _, hxl, hfx⟩ := DataW.trod_struct he h3
      match cs', hcl with
      | [u0, u1, u2], _ =>
        have hxl3 : xs.length = 3 := by simpa using hxl
        have s0 := hfx 0 f0 rfl
        have s1 := hfx 1 f1 rfl
        have s2 := hfx 2 f2 rfl
        rw [c0, o0, show xs[0]? = some (xs[0]'(by omega)) from by simp [hxl3]] at s0
        rw [c1, o1, show xs[1]? = some (xs[1]'(by omega)) from by simp [hxl3]] at s1
        rw [c2, o2, show xs[2]? = some (xs[2]'(by omega)) from by simp [hxl3]] at s2
        obtain ⟨z0, hz0, _, hw0⟩ := DataW.trod_int k0 s0
        obtain ⟨z1, hz1, _, hw1⟩ := DataW.trod_int k1 s1
        obtain ⟨o, l, c, ps, hz2, hps, hwp⟩ := ih n' (by omega) f2.type _ _ k2 s2
        simp at hz0 hz1 hz2
        have e1 := hcell 1 (by omega)
        have e2 := hcell 2 (by omega)
        simp [Deep.add_add] at e1 e2
        refine ⟨z0, z1, o, l, c, ps, ?_, ?_, ?_, hps, hw1, hwp⟩
        · have : (a.add (i * 3)).add 0 = a.add (i * 3) := by rw [Deep.add_add]; rfl
          rw [← this, hcell 0 (by omega)]; simp [hz0]
        · rw [e1, hz1]
        · rw [e2, hz2]
    by_cases h0 : len = 0
    · subst h0
      exact ⟨_, _, _, .nil, rfl, Slc.nil _ _, trivial⟩
    · obtain ⟨k, n, o, l, c, ps, h1, _⟩ := one 0 (by omega)
      rw [Nat.zero_mul] at h1
      obtain ⟨b, off, rfl⟩ := spot_none h1
      obtain ⟨f, hf, hA, hwf⟩ := at_of_cells (b := b) (off := off) (len := len) (w := w) (fun i hi => by
        obtain ⟨k, n, o, l, c, ps, h1, h2, h3, h4⟩ := one i hi
        exact ⟨k, n, o, l, c, ps, by simpa [Addr.add_lit] using h1, by simpa [Addr.add_lit, Nat.add_assoc] using h2, by simpa [Addr.add_lit, Nat.add_assoc] using h3, h4⟩) len 0 (by omega)
      rw [Nat.zero_mul, Nat.add_zero] at hA
      exact ⟨_, _, _, f, rfl, ⟨hf.symm, by omega, fun _ => ⟨b, off, rfl, hA⟩⟩, hwf⟩
theorem open_agg {te : TypeId} {f0 f1 f2 : Field} (he : P.underlying te = some (.struct #[f0, f1, f2])) (ce : P.cellsOf te = 3)
    (o0 : f0.offset = 0) (o1 : f1.offset = 1) (o2 : f2.offset = 2) (c0 : P.cellsOf f0.type = 1) (c1 : P.cellsOf f1.type = 1) (c2 : P.cellsOf f2.type = 1) (k0 : P.underlying f0.type = some (.int .i64)) (k1 : P.underlying f1.type = some (.int .i64)) (k2 : P.underlying f2.type = some (.slice te))
    {fuel : Nat} {cs : List Value} {x : DataW H × List MemPlace} (h : DataW.trod enc P w base spare held fuel te cs = some x) : ∃ k n o len cap f, cs = [.int .i64 k, .int .i64 n, .slice o len cap] ∧ Slc w o len f ∧ wfI n ∧ wfF f := by
  obtain ⟨xs, n', hn', _, hcl, hxl, hfx⟩ := DataW.trod_struct he h
  rw [ce] at hcl
  match cs, hcl with
  | [u0, u1, u2], _ =>
    have hxl3 : xs.length = 3 := by simpa using hxl
    have s0 := hfx 0 f0 rfl
    have s1 := hfx 1 f1 rfl
    have s2 := hfx 2 f2 rfl
    rw [c0, o0, show xs[0]? = some (xs[0]'(by omega)) from by simp [hxl3]] at s0
    rw [c1, o1, show xs[1]? = some (xs[1]'(by omega)) from by simp [hxl3]] at s1
    rw [c2, o2, show xs[2]? = some (xs[2]'(by omega)) from by simp [hxl3]] at s2
    obtain ⟨z0, hz0, _, hw0⟩ := DataW.trod_int k0 s0
    obtain ⟨z1, hz1, _, hw1⟩ := DataW.trod_int k1 s1
    obtain ⟨o, l, c, ps, hz2, hps, hwp⟩ := open_parts he ce o0 o1 o2 c0 c1 c2 k0 k1 k2 n' f2.type _ _ k2 s2
    simp at hz0 hz1 hz2
    exact ⟨z0, z1, o, l, c, ps, by rw [hz0, hz1, hz2], hps, hw1, hwp⟩
end
section
variable {H : Type} {enc : TypeId × Value → H} {w : World} {base : Nat} {spare : Nat → Bool} {held : Bool}
end
end Go.Proofs.YtnfodiedalhlhaaDoor
end
section
namespace Go.Proofs.YtnfodiedalhlhaaDoor
open Go.ChangeShapes Go.WideShapes Go.ChangeAt Go.RowKit
theorem At.atIn {w : World} : ∀ (f : Fo) (b off : Nat), At w b off f → AtIn (fun k => k < w.heap.size) w b off f
  | .nil, _, _, _ => trivial
  | .cons k n ps r, b, off, h => by
    obtain ⟨h1, h2, ⟨o, l, c, h3, h4, h5, h6⟩, h7⟩ := h
    refine ⟨World.block_lt_of_cell? w _ h1, h1, h2, ⟨o, l, c, h3, h4, h5, fun hl => ?_⟩, At.atIn r b (off + 3) h7⟩
    obtain ⟨b', off', ho, ha⟩ := h6 hl
    exact ⟨b', off', ho, At.atIn ps b' off' ha⟩
theorem Slc.slcIn {w : World} {o : Option Addr} {len : Nat} {f : Fo} (h : Slc w o len f) : SlcIn (fun k => k < w.heap.size) w o len f := by
  refine ⟨h.1, h.2.1, fun hl => ?_⟩
  obtain ⟨b, off, ho, ha⟩ := h.2.2 hl
  exact ⟨b, off, ho, ha.atIn⟩
def OkO (h : Nd) : Prop := h.nm.size ≤ maxLen ∧ wfI h.tn ∧ wfF h.tp ∧ wfI h.n
section
variable {H : Type} {enc : TypeId × Value → H} {P : Program} {w : World} {base : Nat} {spare : Nat → Bool} {held : Bool}
abbrev Low (w : World) : Nat → Prop := fun k => k < w.heap.size
theorem tin_of_cells {b off len : Nat} (hb : Low w b) (one : ∀ i, i < len → ∃ hd ps o1 l1 c1 o2 l2 c2, Cells9 w b (off + i * 9) hd o1 l1 c1 o2 l2 c2 ∧ SlcIn (Low w) w o1 l1 hd.tp ∧ TSlc (Low w) w o2 l2 ps ∧ OkO hd ∧ allT OkO ps) :
    ∀ m s, s + m = len → ∃ f : To, f.length = m ∧ TIn (Low w) w b (off + s * 9) f ∧ allT OkO f
  | 0, s, _ => ⟨.nil, rfl, trivial, trivial⟩
  | m + 1, s, h => by
    obtain ⟨hd, ps, o1, l1, c1, o2, l2, c2, hc, hs1, hs2, hw, hwp⟩ := one s (by omega)
    obtain ⟨r, hr, ha, hwr⟩ := tin_of_cells hb one m (s + 1) (by omega)
    refine ⟨.cons hd ps r, by simp [To.length, hr], ⟨hb, ⟨o1, l1, c1, o2, l2, c2, hc, hs1, hs2.1, hs2.2.1, hs2.2.2⟩, ?_⟩, hw, hwp, hwr⟩
    rw [show off + s * 9 + 9 = off + (s + 1) * 9 from by omega]
    exact ha
theorem open_t9 {te : TypeId} {f0 f1 f2 f3 f4 f5 g0 g1 q0 q1 q2 : Field} (he : P.underlying te = some (.struct #[f0, f1, f2, f3, f4, f5])) (ce : P.cellsOf te = 9)
    (o0 : f0.offset = 0) (o1 : f1.offset = 1) (o2 : f2.offset = 2) (o3 : f3.offset = 3) (o4 : f4.offset = 6) (o5 : f5.offset = 7)
    (c0 : P.cellsOf f0.type = 1) (c1 : P.cellsOf f1.type = 1) (c2 : P.cellsOf f2.type = 1) (c3 : P.cellsOf f3.type = 3) (c4 : P.cellsOf f4.type = 1) (c5 : P.cellsOf f5.type = 2)
    (k0 : P.underlying f0.type = some (.int .i64)) (k1 : P.underlying f1.type = some .string) (k2 : P.underlying f2.type = some (.int .i64))
    (k5 : P.underlying f5.type = some (.struct #[g0, g1])) (p0 : g0.offset = 0) (p1 : g1.offset = 1) (d0 : P.cellsOf g0.type = 1) (d1 : P.cellsOf g1.type = 1) (m0 : P.underlying g0.type = some (.int .i64)) (m1 : P.underlying g1.type = some (.int .i64))
    (k3 : P.underlying f3.type = some (.struct #[q0, q1, q2])) (v0 : q0.offset = 0) (v1 : q1.offset = 1) (v2 : q2.offset = 2) (x0 : P.cellsOf q0.type = 1) (x1 : P.cellsOf q1.type = 1) (x2 : P.cellsOf q2.type = 1) (y0 : P.underlying q0.type = some (.int .i64)) (y1 : P.underlying q1.type = some (.int .i64)) (y2 : P.underlying q2.type = some (.slice f3.type))
    {n : Nat} (ih : ∀ m, m < n → ∀ cs x, DataW.trod enc P w base spare held m f4.type cs = some x → ∃ o len cap f, cs = [.slice o len cap] ∧ TSlc (Low w) w o len f ∧ allT OkO f)
    {cs : List Value} {x : DataW H × List MemPlace} (h : DataW.trod enc P w base spare held n te cs = some x) :
    ∃ hd ps o1 l1 c1 o2 l2 c2, cs = (cells9 hd o1 l1 c1 o2 l2 c2).toList ∧ SlcIn (Low w) w o1 l1 hd.tp ∧ TSlc (Low w) w o2 l2 ps ∧ OkO hd ∧ allT OkO ps := by
  obtain ⟨xs, n', hn', _, hcl, hxl, hfx⟩ := DataW.trod_struct he h
  rw [ce] at hcl
  match cs, hcl with
  | [u0, u1, u2, u3, u4, u5, u6, u7, u8], _ =>
    have hxl6 : xs.length = 6 := by simpa using hxl
    have s0 := hfx 0 f0 rfl
    have s1 := hfx 1 f1 rfl
    have s2 := hfx 2 f2 rfl
    have s3 := hfx 3 f3 rfl
    have s4 := hfx 4 f4 rfl
    have s5 := hfx 5 f5 rfl
    rw [c0, o0, show xs[0]? = some (xs[0]'(by omega)) from by simp [hxl6]] at s0
    rw [c1, o1, show xs[1]? = some (xs[1]'(by omega)) from by simp [hxl6]] at s1
    rw [c2, o2, show xs[2]? = some (xs[2]'(by omega)) from by simp [hxl6]] at s2
    rw [c3, o3, show xs[3]? = some (xs[3]'(by omega)) from by simp [hxl6]] at s3
    rw [c4, o4, show xs[4]? = some (xs[4]'(by omega)) from by simp [hxl6]] at s4
    rw [c5, o5, show xs[5]? = some (xs[5]'(by omega)) from by simp [hxl6]] at s5
    obtain ⟨z0, hz0, _, hw0⟩ := DataW.trod_int k0 s0
    obtain ⟨z1, hz1, _, hw1⟩ := DataW.trod_string k1 s1
    obtain ⟨z2, hz2, _, hw2⟩ := DataW.trod_int k2 s2
    obtain ⟨tk, tn, tO, tl, tc, tf, hz3, hts, hwt, hwf⟩ := open_agg k3 c3 v0 v1 v2 x0 x1 x2 y0 y1 y2 s3
    obtain ⟨o, l, c, ps, hz4, hps, hwp⟩ := ih n' (by omega) _ _ s4
    obtain ⟨ys, n2, hn2, _, hyc, hyl, hgy⟩ := DataW.trod_struct k5 s5
    have hyl2 : ys.length = 2 := by simpa using hyl
    have t0 := hgy 0 g0 rfl
    have t1 := hgy 1 g1 rfl
    rw [d0, p0, show ys[0]? = some (ys[0]'(by omega)) from by simp [hyl2]] at t0
    rw [d1, p1, show ys[1]? = some (ys[1]'(by omega)) from by simp [hyl2]] at t1
    obtain ⟨z7, hz7, _, _⟩ := DataW.trod_int m0 t0
    obtain ⟨z8, hz8, _, _⟩ := DataW.trod_int m1 t1
    simp at hz0 hz1 hz2 hz3 hz4 hz7 hz8
    obtain ⟨hz3, hz3', hz3''⟩ := hz3
    refine ⟨⟨z0, z1, z2, tk, tn, tf, z7, z8⟩, ps, tO, tl, tc, o, l, c, ?_, hts.slcIn, hps, ⟨hw1, hwt, hwf, hw2⟩, hwp⟩
    subst hz0 hz1 hz2 hz3 hz3' hz3'' hz4 hz7 hz8
    rfl
theorem open_tparts {te : TypeId} {f0 f1 f2 f3 f4 f5 g0 g1 q0 q1 q2 : Field} (he : P.underlying te = some (.struct #[f0, f1, f2, f3, f4, f5])) (ce : P.cellsOf te = 9)
    (o0 : f0.offset = 0) (o1 : f1.offset = 1) (o2 : f2.offset = 2) (o3 : f3.offset = 3) (o4 : f4.offset = 6) (o5 : f5.offset = 7)
    (c0 : P.cellsOf f0.type = 1) (c1 : P.cellsOf f1.type = 1) (c2 : P.cellsOf f2.type = 1) (c3 : P.cellsOf f3.type = 3) (c4 : P.cellsOf f4.type = 1) (c5 : P.cellsOf f5.type = 2)
    (k0 : P.underlying f0.type = some (.int .i64)) (k1 : P.underlying f1.type = some .string) (k2 : P.underlying f2.type = some (.int .i64)) (k4 : P.underlying f4.type = some (.slice te))
    (k5 : P.underlying f5.type = some (.struct #[g0, g1])) (p0 : g0.offset = 0) (p1 : g1.offset = 1) (d0 : P.cellsOf g0.type = 1) (d1 : P.cellsOf g1.type = 1) (m0 : P.underlying g0.type = some (.int .i64)) (m1 : P.underlying g1.type = some (.int .i64))
    (k3 : P.underlying f3.type = some (.struct #[q0, q1, q2])) (v0 : q0.offset = 0) (v1 : q1.offset = 1) (v2 : q2.offset = 2) (x0 : P.cellsOf q0.type = 1) (x1 : P.cellsOf q1.type = 1) (x2 : P.cellsOf q2.type = 1) (y0 : P.underlying q0.type = some (.int .i64)) (y1 : P.underlying q1.type = some (.int .i64)) (y2 : P.underlying q2.type = some (.slice f3.type)) :
    ∀ (fuel : Nat) (cs : List Value) (x : DataW H × List MemPlace), DataW.trod enc P w base spare held fuel f4.type cs = some x → ∃ o len cap f, cs = [.slice o len cap] ∧ TSlc (Low w) w o len f ∧ allT OkO f := by
  intro fuel
  induction fuel using Nat.strongRecOn with
  | _ fuel ih =>
  intro cs x h
  rcases DataW.trod_slice k4 h with ⟨rfl, _⟩ | ⟨a, len, cap, elems, rest, n, hfu, rfl, _, _, hl, hm, hlen, hel, _⟩
  · exact ⟨_, _, _, .nil, rfl, TSlc.nil _ _ _, trivial⟩
  · have one : ∀ i, i < len → ∃ hd ps o1 l1 c1 o2 l2 c2, (∀ j, j < 9 → w.cell? (a.add (i * 9 + j)) = (cells9 hd o1 l1 c1 o2 l2 c2).toList[j]?) ∧ SlcIn (Low w) w o1 l1 hd.tp ∧ TSlc (Low w) w o2 l2 ps ∧ OkO hd ∧ allT OkO ps := by
      intro i hi
      have h1 := hel i hi
      rw [List.getElem?_eq_getElem (by omega)] at h1
      obtain ⟨cs', h2, h3⟩ := Option.bind_eq_some_iff.1 h1
      rw [ce] at h2
      obtain ⟨_, hcl, hcell⟩ := World.cells?_some h2
      obtain ⟨hd, ps, r1, l1, e1, r2, l2, e2, rfl, hs1, hs2, hw, hwp⟩ := open_t9 he ce o0 o1 o2 o3 o4 o5 c0 c1 c2 c3 c4 c5 k0 k1 k2 k5 p0 p1 d0 d1 m0 m1 k3 v0 v1 v2 x0 x1 x2 y0 y1 y2 (fun m hm cs x => ih m (by omega) cs x) h3
      refine ⟨hd, ps, r1, l1, e1, r2, l2, e2, ?_, hs1, hs2, hw, hwp⟩
      intro j hj
      rw [← Deep.add_add]
      exact hcell j hj
    by_cases h0 : len = 0
    · subst h0
      exact ⟨_, _, _, .nil, rfl, TSlc.nil _ _ _, trivial⟩
    · obtain ⟨hd, ps, r1, l1, e1, r2, l2, e2, h1, _⟩ := one 0 (by omega)
      have h1' := h1 0 (by omega)
      rw [Nat.zero_mul] at h1'
      obtain ⟨b, off, rfl⟩ := spot_none (v := .int .i64 hd.k) h1'
      have hb : Low w b := World.block_lt_of_cell? w (⟨b, off + 0, none⟩ : Addr) (show w.cell? ⟨b, off + 0, none⟩ = some (.int .i64 hd.k) from h1')
      obtain ⟨f, hf, hA, hwf⟩ := tin_of_cells (b := b) (off := off) (len := len) (w := w) hb (fun i hi => by
        obtain ⟨hd, ps, r1, l1, e1, r2, l2, e2, h1, h4⟩ := one i hi
        refine ⟨hd, ps, r1, l1, e1, r2, l2, e2, ?_, h4⟩
        have g := fun j hj => h1 j hj
        simp only [Addr.add_lit] at g
        exact ⟨g 0 (by omega), g 1 (by omega), g 2 (by omega), g 3 (by omega), g 4 (by omega), g 5 (by omega), g 6 (by omega), g 7 (by omega), g 8 (by omega)⟩) len 0 (by omega)
      rw [Nat.zero_mul, Nat.add_zero] at hA
      exact ⟨_, _, _, f, rfl, ⟨hf.symm, by omega, fun _ => ⟨b, off, rfl, hA⟩⟩, hwf⟩
end
section
variable {H : Type} {enc : TypeId × Value → H} {w : World} {base : Nat} {spare : Nat → Bool} {held : Bool}
theorem open_term {v : Value} {d : DataW H} {p : List MemPlace} (hv : ∃ cs, v = .agg cs ∧ cs.size = Tryd.prog.cellsOf 30) (h : DataW.Trod enc Tryd.prog w base spare held 30 v d p) : ∃ hd ps o1 l1 c1 o2 l2 c2, v = tmv hd o1 l1 c1 o2 l2 c2 ∧ SlcIn (Low w) w o1 l1 hd.tp ∧ TSlc (Low w) w o2 l2 ps ∧ OkO hd ∧ allT OkO ps := by
  obtain ⟨cs, rfl, _⟩ := hv
  obtain ⟨fuel, hf⟩ := h
  obtain ⟨hd, ps, o1, l1, c1, o2, l2, c2, he, h1, h2, h3, h4⟩ := open_t9 Tryd.underlying30 (by kernel_rfl) rfl rfl rfl rfl rfl rfl (by kernel_rfl) (by kernel_rfl) (by kernel_rfl) (by kernel_rfl) (by kernel_rfl) (by kernel_rfl) Tryd.underlying3 Tryd.underlying9 Tryd.underlying3 Tryd.underlying28 rfl rfl (by kernel_rfl) (by kernel_rfl) Tryd.underlying3 Tryd.underlying3 Tryd.underlying25 rfl rfl rfl (by kernel_rfl) (by kernel_rfl) (by kernel_rfl) Tryd.underlying3 Tryd.underlying3 Tryd.underlying23
    (fun m _ cs x hh => open_tparts Tryd.underlying30 (by kernel_rfl) rfl rfl rfl rfl rfl rfl (by kernel_rfl) (by kernel_rfl) (by kernel_rfl) (by kernel_rfl) (by kernel_rfl) (by kernel_rfl) Tryd.underlying3 Tryd.underlying9 Tryd.underlying3 Tryd.underlying26 Tryd.underlying28 rfl rfl (by kernel_rfl) (by kernel_rfl) Tryd.underlying3 Tryd.underlying3 Tryd.underlying25 rfl rfl rfl (by kernel_rfl) (by kernel_rfl) (by kernel_rfl) Tryd.underlying3 Tryd.underlying3 Tryd.underlying23 m cs x hh) hf
  refine ⟨hd, ps, o1, l1, c1, o2, l2, c2, ?_, h1, h2, h3, h4⟩
  unfold tmv
  congr 1
  apply Array.toList_inj.1
  simpa [Value.cells] using he
end
end Go.Proofs.YtnfodiedalhlhaaDoor
end
