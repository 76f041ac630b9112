/-
  Does a substitution solve equations: the program and the reference. Conditions: the binds and the equations lie in memory as told; their numbers are in range; they are small.
-/
import Derived.Test.YtggidhgifaekbaaDoorSuApply
import Derived.Test.YtggidhgifaekbaaDoorSuRefApply
import Derived.Test.YtggidhgifaekbaaDoorSuEq
import Derived.Test.YtggidhgifaekbaaDoorTySame2
import Derived.Test.YtggidhgifaekbaaDoorTySize
import Derived.Test.YtggidhgifaekbaaDoorTyAwake
import Derived.Test.YtggidhgifaekbaaDoorTyPrintLaw
namespace Go.Proofs.YtggidhgifaekbaaDoor
open Go.RowKit Go.Maps

theorem with_st {w W w3 : World} {o : Option Addr} {len : Nat} {f : Fo} {G : Prop} (h : Slc w o len f) (hq : Quiet0 w W) (hqx : Quiet0 W w3) (k : Slc w3 o len f → G) : G := k (h.stay (hq.trans hqx))
def eqP (l : List Bd) (t : Eqn) : Bool := sameT (sK l t.1.1 t.1.2.1) (sN l t.1.1 t.1.2.1) (sP l t.1.1 t.1.2.1 t.1.2.2) (sK l t.2.1.1 t.2.1.2.1) (sN l t.2.1.1 t.2.1.2.1) (sP l t.2.1.1 t.2.1.2.1 t.2.1.2.2)
/-- the program's apply on a type that lies in memory -/
theorem apply_of (l : List Bd) (hl : ∀ t ∈ l, t.2.2.2.size ≤ 1000000) (k n : Int) (ps : Fo) (hz : ps.size ≤ 1000000) (hn : wfI n) (hw : wfF ps) (k' n' : Int) (ps' : Fo) (e1 : sK l k n = k') (e2 : sN l k n = n') (e3 : sP l k n ps = ps')
    (W : World) (o : Option Addr) (len cap b m : Nat) (q : Int → Option Value) (hm : MapT W b m q) (ht : TabAt W q (findB l)) (hs : Slc W o len ps) :
    Calls Tryd.prog 88 #[.map (some b), .agg #[.int .i64 k, .int .i64 n, .slice o len cap]] W fun e w' => ∃ o' len' cap', e = .returned (.agg #[.int .i64 k', .int .i64 n', .slice o' len' cap']) ∧ Slc w' o' len' ps' ∧ Quiet0 W w' := by
  subst e1 e2 e3
  refine (apply_any l hl k n ps W o len cap b m q hm ht hs hz hn hw).mono ?_
  rintro e w' ⟨o', len', cap', rfl, h1, h2⟩
  exact ⟨o', len', cap', rfl, h1.slc, h2⟩
theorem eg_solves : ∀ args w, (callFunc 87 args).run Tryd.prog w = .ok (.enter 87 args) w := enters_of Tryd.func87 (by kernel_rfl) rfl
set_option maxHeartbeats 4000000 in
set_option maxRecDepth 100000 in
theorem solves1_any (l : List Bd) (hl : ∀ t ∈ l, t.2.2.2.size ≤ 1000000) (w0 : World) (cs b m : Nat) (q : Int → Option Value) (h1 : Box1 w0 cs (.map (some b)) 94) (h2 : MapT w0 b m q) (h3 : TabAt w0 q (findB l)) (es : List Eqn)
    (hes : ∀ t ∈ es, (t.1.2.2.size ≤ 1000000 ∧ wfI t.1.2.1 ∧ wfF t.1.2.2) ∧ t.2.1.2.2.size ≤ 1000000 ∧ wfI t.2.1.2.1 ∧ wfF t.2.1.2.2) : PredEq 87 #[.pointer (some ⟨cs, 0, none⟩)] w0 es (fun t => !eqP l t) := by
  intro t ht W o1 l1 c1 o2 l2 c2 hq hs1 hs2
  obtain ⟨⟨z1, n1, f1⟩, z2, n2, f2⟩ := hes t ht
  have HA1 := Lib.hid (fun (W' : World) (h : Quiet0 W W') => apply_of l hl t.1.1 t.1.2.1 t.1.2.2 z1 n1 f1 _ _ _ rfl rfl rfl W' o1 l1 c1 b m q (h2.stay (hq.trans h)) (h3.stay (hq.trans h)) (hs1.stay h))
  have HA2 := Lib.hid (fun (W' : World) (h : Quiet0 W W') => apply_of l hl t.2.1.1 t.2.1.2.1 t.2.1.2.2 z2 n2 f2 _ _ _ rfl rfl rfl W' o2 l2 c2 b m q (h2.stay (hq.trans h)) (h3.stay (hq.trans h)) (hs2.stay h))
  show Calls _ _ _ W fun e W' => e = .returned (.bool (!eqP l t)) ∧ Quiet0 W W'
  unfold eqP eqv
  generalize sK l t.1.1 t.1.2.1 = k1 at *
  generalize sN l t.1.1 t.1.2.1 = n1' at *
  generalize sP l t.1.1 t.1.2.1 t.1.2.2 = p1 at *
  generalize sK l t.2.1.1 t.2.1.2.1 = k2 at *
  generalize sN l t.2.1.1 t.2.1.2.1 = n2' at *
  generalize sP l t.2.1.1 t.2.1.2.1 t.2.1.2.2 = p2 at *
  have HSM := Lib.hid (fun (W' : World) oa la ca ob lb cb (ha : Slc W' oa la p1) (hb : Slc W' ob lb p2) => same_any k1 n1' p1 k2 n2' p2 W' oa la ca ob lb cb ha hb)
  unfold tyv at HSM
  generalize sameT k1 n1' p1 k2 n2' p2 = sm at *
  generalize t.1.1 = ka at *
  generalize t.1.2.1 = na at *
  generalize t.2.1.1 = kb at *
  generalize t.2.1.2.1 = nb at *
  generalize t.2.2.1 = sa at *
  generalize t.2.2.2 = sb at *
  have HC := Lib.hid (fun (W' : World) (h : Quiet0 W W') => cell_of_one ((h1.fr hq (fun h => h)).fr h (fun h => h)))
  clear hs1 hs2 h1 h2 h3 hes ht z1 n1 f1 z2 n2 f2
  go_enter Tryd.func87, Tryd.ntmps87
  generalize hB : W.heap.size = B at *
  go_wp2_with fail
  obtain ⟨W0, hW0⟩ : ∃ W0, W0 = W.alloc (.cells #[.int .i64 ka, .int .i64 na, .slice o1 l1 c1, .int .i64 kb, .int .i64 nb, .slice o2 l2 c2, .int .i64 sa, .int .i64 sb] 93) := ⟨_, rfl⟩
  have HB : W0.heap[B]? = some (.cells #[.int .i64 ka, .int .i64 na, .slice o1 l1 c1, .int .i64 kb, .int .i64 nb, .slice o2 l2 c2, .int .i64 sa, .int .i64 sb] 93 (0, 0)) := by rw [hW0, ← hB]; exact heap_alloc_new _ _
  have HQ0 : Hid (Quiet0 W W0) := by rw [hW0]; exact Quiet0.alloc _ _
  have HBC : Hid (∀ w', Quiet0 W0 w' → w'.cell? ⟨cs, 0, none⟩ = some (.map (some b)) ∧ (w'.cell? ⟨B, 0, none⟩ = some (.int .i64 ka) ∧ w'.cell? ⟨B, 1, none⟩ = some (.int .i64 na) ∧ w'.cell? ⟨B, 2, none⟩ = some (.slice o1 l1 c1)) ∧ w'.cell? ⟨B, 3, none⟩ = some (.int .i64 kb) ∧ w'.cell? ⟨B, 4, none⟩ = some (.int .i64 nb) ∧ w'.cell? ⟨B, 5, none⟩ = some (.slice o2 l2 c2)) := by
    intro w' h
    have hb := blk_after h HB
    refine ⟨HC.out w' (HQ0.out.trans h), ⟨?_, ?_, ?_⟩, ?_, ?_, ?_⟩ <;> (rw [cell_of_row _ _ _ _ _ (0, 0) hb]; rfl)
  rw [← hW0]
  have hqc := Quiet0.refl W0
  obtain ⟨a0, ⟨a1, a2, a3⟩, a4, a5, a6⟩ := HBC.out W0 hqc
  clear hW0 HB hq hB
  go_region_held3 (fun w' => w'.cell? ⟨cs, 0, none⟩ = some (.map (some b)) ∧ (w'.cell? ⟨B, 0, none⟩ = some (.int .i64 ka) ∧ w'.cell? ⟨B, 1, none⟩ = some (.int .i64 na) ∧ w'.cell? ⟨B, 2, none⟩ = some (.slice o1 l1 c1)) ∧ w'.cell? ⟨B, 3, none⟩ = some (.int .i64 kb) ∧ w'.cell? ⟨B, 4, none⟩ = some (.int .i64 nb) ∧ w'.cell? ⟨B, 5, none⟩ = some (.slice o2 l2 c2))
    (((refine HBC.out _ ?_); (repeat (first | with_reducible exact hqc | with_reducible exact Quiet0.refl _ | with_reducible refine Quiet0.trans ?_ (Quiet0.alloc _ _) | with_reducible refine Quiet0.trans ?_ (Quiet0.drew _) | fail))))
    (first
      | (go_at_call 88; (with_reducible refine Calls.mono (HA1.out _ (HQ0.out.trans ?hq)) ?_); (case hq => (repeat (first | with_reducible exact hqc | with_reducible exact Quiet0.refl _ | with_reducible refine Quiet0.trans ?_ (Quiet0.alloc _ _) | with_reducible refine Quiet0.trans ?_ (Quiet0.drew _) | fail))); rintro e wx ⟨oa, la, ca, rfl, hsa, hqx⟩; (try (refine with_st hsb ?hq3 hqx ?_; (case hq3 => (repeat (first | with_reducible exact Quiet0.refl _ | with_reducible refine Quiet0.trans ?_ (Quiet0.alloc _ _) | with_reducible refine Quiet0.trans ?_ (Quiet0.drew _) | fail))); intro hsb)); (refine with_q (w0 := W0) ?hq2 hqx ?_); (case hq2 => (repeat (first | with_reducible exact hqc | with_reducible exact Quiet0.refl _ | with_reducible refine Quiet0.trans ?_ (Quiet0.alloc _ _) | with_reducible refine Quiet0.trans ?_ (Quiet0.drew _) | fail))); intro hqc)
      | (go_at_call 88; (with_reducible refine Calls.mono (HA2.out _ (HQ0.out.trans ?hq)) ?_); (case hq => (repeat (first | with_reducible exact hqc | with_reducible exact Quiet0.refl _ | with_reducible refine Quiet0.trans ?_ (Quiet0.alloc _ _) | with_reducible refine Quiet0.trans ?_ (Quiet0.drew _) | fail))); rintro e wx ⟨ob, lb, cb, rfl, hsb, hqx⟩; (try (refine with_st hsa ?hq3 hqx ?_; (case hq3 => (repeat (first | with_reducible exact Quiet0.refl _ | with_reducible refine Quiet0.trans ?_ (Quiet0.alloc _ _) | with_reducible refine Quiet0.trans ?_ (Quiet0.drew _) | fail))); intro hsa)); (refine with_q (w0 := W0) ?hq2 hqx ?_); (case hq2 => (repeat (first | with_reducible exact hqc | with_reducible exact Quiet0.refl _ | with_reducible refine Quiet0.trans ?_ (Quiet0.alloc _ _) | with_reducible refine Quiet0.trans ?_ (Quiet0.drew _) | fail))); intro hqc)
      | (go_at_call 52; (with_reducible refine Calls.mono (HSM.out _ _ _ _ _ _ _ (hsa.stay ?h1) (hsb.stay ?h2)) ?_); ((case h1 => (repeat (first | with_reducible exact Quiet0.refl _ | with_reducible refine Quiet0.trans ?_ (Quiet0.alloc _ _) | with_reducible refine Quiet0.trans ?_ (Quiet0.drew _) | fail))); (case h2 => (repeat (first | with_reducible exact Quiet0.refl _ | with_reducible refine Quiet0.trans ?_ (Quiet0.alloc _ _) | with_reducible refine Quiet0.trans ?_ (Quiet0.drew _) | fail)))); rintro e wx ⟨rfl, hqx⟩; (refine with_q (w0 := W0) ?hq2 hqx ?_); (case hq2 => (repeat (first | with_reducible exact hqc | with_reducible exact Quiet0.refl _ | with_reducible refine Quiet0.trans ?_ (Quiet0.alloc _ _) | with_reducible refine Quiet0.trans ?_ (Quiet0.drew _) | fail))); intro hqc)
      | fail)
  all_goals
    go_wp2_with fail
    go_ret
    exact ⟨rfl, HQ0.out.trans hqc⟩
set_option maxHeartbeats 4000000 in
set_option maxRecDepth 100000 in
theorem solves_any (l : List Bd) (es : List Eqn) (w : World) (o : Option Addr) (cap : Nat) (oe : Option Addr) (cape : Nat) (hs : BindsAt w o l) (he : EqsAt w oe es) (hw : ∀ t ∈ l, wfI t.1) (hz : l.length ≤ 100000) (hze : es.length ≤ 100000) (hl : ∀ t ∈ l, t.2.2.2.size ≤ 1000000)
    (hes : ∀ t ∈ es, (t.1.2.2.size ≤ 1000000 ∧ wfI t.1.2.1 ∧ wfF t.1.2.2) ∧ t.2.1.2.2.size ≤ 1000000 ∧ wfI t.2.1.2.1 ∧ wfF t.2.1.2.2) :
    Calls Tryd.prog 41 #[.slice o l.length cap, .slice oe es.length cape] w fun e w' => e = .returned (.bool (es.all (eqP l))) ∧ Quiet0 w w' := by
  have HT := Lib.hid (table_any l w o cap hs hw hz)
  have HE := Lib.hid he
  have HL := Lib.hid hl
  have HES := Lib.hid hes
  have HR : Hid (es.all (eqP l) = !(es.any (fun t => !eqP l t))) := by show _ = _; rw [List.not_any_eq_all_not]; simp
  rw [HR.out]
  obtain ⟨r, hr⟩ : ∃ r, r = es.any (fun t => !eqP l t) := ⟨_, rfl⟩
  have HRR := Lib.hid hr
  rw [← hr]
  clear hs he hw hl hes hr HR
  go_enter Tryd.func41, Tryd.ntmps41
  go_wp2_with fail
  refine HT.out.mono ?_; rintro e w1 ⟨b, m, q, rfl, hb, hm, ht, hq⟩
  have HCF := Lib.hid (containsEq_any 87 #[.pointer (some ⟨w1.heap.size, 0, none⟩)] (fun t => !eqP l t) eg_solves es oe cape (w1.alloc (.cells #[.map (some b)] 94)) (HE.out.stay (hq.trans (Quiet0.alloc _ _)))
    (solves1_any l HL.out (w1.alloc (.cells #[.map (some b)] 94)) w1.heap.size b m q (Box1.new w1 _ _) (hm.stay (Quiet0.alloc _ _)) (ht.stay (Quiet0.alloc _ _)) es HES.out) (by omega))
  rw [← HRR.out] at HCF
  have HQ1 := Lib.hid hq
  clear hb hm ht hq
  go_wp2_with fail
  refine HCF.out.mono ?_; rintro e w2 ⟨rfl, hq2⟩
  go_wp2_with fail
  go_ret
  exact ⟨rfl, (HQ1.out.trans (Quiet0.alloc _ _)).trans hq2⟩
end Go.Proofs.YtggidhgifaekbaaDoor
