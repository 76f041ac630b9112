/-
  Texts laid together (SuRulesLaw, SuAlikeLaw): what each one proves, and its conditions, stands at its head.
-/
import Derived.BigQuiet
import Derived.Deep.RegionWith
import Derived.Test.YtggidhgifaekbaaDoorMB1
import Derived.Test.YtggidhgifaekbaaDoorMB2
import Derived.Test.YtggidhgifaekbaaDoorMB3
import Derived.Test.YtggidhgifaekbaaDoorMB4
import Derived.Test.YtggidhgifaekbaaDoorMB5
import Derived.Test.YtggidhgifaekbaaDoorMB6
import Derived.Test.YtggidhgifaekbaaDoorMB7
import Derived.Test.YtggidhgifaekbaaDoorMB8
import Derived.Test.YtggidhgifaekbaaDoorMB9
import Derived.Test.YtggidhgifaekbaaDoorMB10
import Derived.Test.YtggidhgifaekbaaDoorMB11
/-
  The law SubstRules: it returns true. Conditions: the rows lie in memory; their numbers are in range; the table of powers of ten holds what its initialiser lays.
-/
namespace Go.Proofs.YtggidhgifaekbaaDoor
open Go.RowKit Go.Maps

set_option maxHeartbeats 8000000 in
set_option maxRecDepth 100000 in
theorem substRules_all (la lb : List Bd) (k n : Int) (ps : Fo) (w : World) (oa : Option Addr) (capa : Nat) (ob : Option Addr) (capb : Nat) (ot : Option Addr) (lent capt : Nat) (hsa : BindsAt w oa la) (hsb : BindsAt w ob lb) (hst : Slc w ot lent ps) (hwa : ∀ t ∈ la, wfI t.1 ∧ wfI t.2.2.1 ∧ wfF t.2.2.2) (hwb : ∀ t ∈ lb, wfI t.1 ∧ wfI t.2.2.1 ∧ wfF t.2.2.2) (hn : wfI n) (hwf : wfF ps)
    (hza : la.length ≤ 9223372036854775807) (hzb : lb.length ≤ 9223372036854775807) (ht : Pow10 w) :
    Calls Tryd.prog 11 #[.slice oa la.length capa, .slice ob lb.length capb, tyv k n ot lent capt] w fun e w' => e = .returned (.bool true) ∧ Quiet0 w w' := by
  have HA := Lib.hid (fun (W : World) (hq : Quiet0 w W) => awake10_any W (ht.stay hq))
  have HG := Lib.hid (fun (W : World) (hq : Quiet0 w W) => lgreat_any la W oa capa (hsa.stay hq) hza)
  have HG2 := Lib.hid (fun (W : World) (hq : Quiet0 w W) => lgreat_any lb W ob capb (hsb.stay hq) hzb)
  have HG3 : Hid (∀ W, Quiet0 w W → Calls Tryd.prog 14 #[.agg #[.int .i64 k, .int .i64 n, .slice ot lent capt]] W fun e w' => e = .returned (.bool (greatF ps)) ∧ Quiet0 W w') := fun W hq => great_any k n ps W ot lent capt (hst.stay hq)
  have HSZ : Hid (greatF ps = false → ∀ W, Quiet0 w W → Calls Tryd.prog 46 #[.agg #[.int .i64 k, .int .i64 n, .slice ot lent capt]] W fun e w' => e = .returned (.int .i64 ((ps.size + 1 : Nat) : Int)) ∧ Quiet0 W w') := fun hg W hq => refSize_any k n ps W ot lent capt (hst.stay hq) (by have := great_size hg; omega)
  obtain ⟨W0, hW0⟩ : ∃ W0, W0 = w.alloc (.cells #[.int .i64 k, .int .i64 n, .slice ot lent capt] 24) := ⟨_, rfl⟩
  have HQ0 : Hid (Quiet0 w W0) := by rw [hW0]; exact Quiet0.alloc _ _
  have HBX : Hid (∀ W, Quiet0 W0 W → W.cell? ⟨w.heap.size, 0, none⟩ = some (.int .i64 k) ∧ W.cell? ⟨w.heap.size, 1, none⟩ = some (.int .i64 n) ∧ W.cell? ⟨w.heap.size, 2, none⟩ = some (.slice ot lent capt)) := by
    intro W h; rw [hW0] at h; exact box_cells w k n ot lent capt _ W h
  -- what comes of the type by the first; of that by the second
  obtain ⟨k1, hk1⟩ : ∃ k1, sK la k n = k1 := ⟨_, rfl⟩
  obtain ⟨n1, hn1⟩ : ∃ n1, sN la k n = n1 := ⟨_, rfl⟩
  obtain ⟨p1, hp1⟩ : ∃ p1, sP la k n ps = p1 := ⟨_, rfl⟩
  obtain ⟨k2, hk2⟩ : ∃ k2, sK lb k1 n1 = k2 := ⟨_, rfl⟩
  obtain ⟨n2, hn2⟩ : ∃ n2, sN lb k1 n1 = n2 := ⟨_, rfl⟩
  obtain ⟨p2, hp2⟩ : ∃ p2, sP lb k1 n1 p1 = p2 := ⟨_, rfl⟩
  have HALL : Hid (gr10 la = false → gr10 lb = false → ps.size ≤ 59 →
      (∀ W, Quiet0 w W → Calls Tryd.prog 57 #[.slice oa la.length capa, .agg #[.int .i64 k, .int .i64 n, .slice ot lent capt]] W fun e w' => ∃ o' len' cap', e = .returned (.agg #[.int .i64 k1, .int .i64 n1, .slice o' len' cap']) ∧ Slc w' o' len' p1 ∧ Quiet0 W w') ∧
      (∀ W, Quiet0 w W → Calls Tryd.prog 56 #[.slice oa la.length capa, .slice ob lb.length capb] W fun e w' => ∃ a c, e = .returned (.slice a (thenB la lb).length c) ∧ BindsAt w' a (thenB la lb) ∧ Quiet0 W w') ∧
      (∀ W a c, Quiet0 w W → BindsAt W a (thenB la lb) → Calls Tryd.prog 57 #[.slice a (thenB la lb).length c, .agg #[.int .i64 k, .int .i64 n, .slice ot lent capt]] W fun e w' => ∃ o' len' cap', e = .returned (.agg #[.int .i64 k2, .int .i64 n2, .slice o' len' cap']) ∧ Slc w' o' len' p2 ∧ Quiet0 W w') ∧
      (∀ W o l c, Quiet0 w W → Slc W o l p1 → Calls Tryd.prog 57 #[.slice ob lb.length capb, .agg #[.int .i64 k1, .int .i64 n1, .slice o l c]] W fun e w' => ∃ o' len' cap', e = .returned (.agg #[.int .i64 k2, .int .i64 n2, .slice o' len' cap']) ∧ Slc w' o' len' p2 ∧ Quiet0 W w') ∧
      (∀ W o1 l1 c1 o2 l2 c2, Slc W o1 l1 p2 → Slc W o2 l2 p2 → Calls Tryd.prog 19 #[.agg #[.int .i64 k2, .int .i64 n2, .slice o1 l1 c1], .agg #[.int .i64 k2, .int .i64 n2, .slice o2 l2 c2]] W fun e w' => e = .returned (.bool true) ∧ Quiet0 W w') ∧
      (∀ W, Quiet0 w W → Calls Tryd.prog 58 #[.slice oa la.length capa] W fun e w' => e = .returned (.bool (solvedB la)) ∧ Quiet0 W w') ∧
      (solvedB la = true → ∀ W o l c, Quiet0 w W → Slc W o l p1 → Calls Tryd.prog 57 #[.slice oa la.length capa, .agg #[.int .i64 k1, .int .i64 n1, .slice o l c]] W fun e w' => ∃ o' len' cap', e = .returned (.agg #[.int .i64 k1, .int .i64 n1, .slice o' len' cap']) ∧ Slc w' o' len' p1 ∧ Quiet0 W w') ∧
      (∀ W o1 l1 c1 o2 l2 c2, Slc W o1 l1 p1 → Slc W o2 l2 p1 → Calls Tryd.prog 19 #[.agg #[.int .i64 k1, .int .i64 n1, .slice o1 l1 c1], .agg #[.int .i64 k1, .int .i64 n1, .slice o2 l2 c2]] W fun e w' => e = .returned (.bool true) ∧ Quiet0 W w')) := by
    intro h1 h2 h3
    obtain ⟨a1, a2⟩ := gr10_few h1
    obtain ⟨b1, b2⟩ := gr10_few h2
    have z1 : p1.size ≤ 3600 := by
      have h := sP_size la 59 a2 k n ps
      rw [hp1] at h
      have h4 : (ps.size + 1) * (59 + 1) ≤ 60 * 60 := Nat.mul_le_mul (by omega) (by omega)
      omega
    obtain ⟨e1, e2, e3⟩ := head_then la lb k n ps
    rw [hk1, hn1, hk2] at e1
    rw [hk1, hn1, hn2] at e2
    rw [hk1, hn1, hp1, hp2] at e3
    have htz := then_size (m := 59) (n := 59) a2 b2
    have htl := then_len la lb
    have htw : ∀ t ∈ thenB la lb, wfI t.1 := then_mem (fun t ht => (hwa t ht).1) (fun t ht => (hwb t ht).1)
    have hws : wfI n1 ∧ wfF p1 := by
      have h := wf_subst la (fun t ht => (hwa t ht).2) k n ps hn hwf
      rw [hn1, hp1] at h
      exact h
    refine ⟨fun W hq => ?_, fun W hq => ?_, fun W a c hq hB => ?_, fun W o l c hq hs => ?_, fun W o1 l1 c1 o2 l2 c2 hx hy => ?_, fun W hq => ?_, fun hsv W o l c hq hs => ?_, fun W o1 l1 c1 o2 l2 c2 hx hy => ?_⟩
    · refine (applyT_any la k n ps W oa capa ot lent capt (hsa.stay hq) (hst.stay hq) (fun t h => (hwa t h).1) (by omega) (fun t h => by have := a2 t h; omega) (by omega) hn hwf k1 n1 p1 hk1 hn1 hp1).mono ?_
      rintro e w' ⟨o', l', c', rfl, g1, g2⟩
      exact ⟨o', l', c', rfl, g1.slc, g2⟩
    · exact suThen_any la lb W oa capa ob capb (hsa.stay hq) (hsb.stay hq) (by omega) (by omega) (fun t h => ⟨by have := a2 t h; omega, hwa t h⟩) (fun t h => ⟨by have := b2 t h; omega, (hwb t h).1⟩)
    · refine (applyT_any (thenB la lb) k n ps W a c ot lent capt hB (hst.stay hq) htw (by omega) (fun t h => by have := htz t h; omega) (by omega) hn hwf k2 n2 p2 e1 e2 e3).mono ?_
      rintro e w' ⟨o', l', c', rfl, g1, g2⟩
      exact ⟨o', l', c', rfl, g1.slc, g2⟩
    · refine (applyT_any lb k1 n1 p1 W ob capb o l c (hsb.stay hq) hs (fun t h => (hwb t h).1) (by omega) (fun t h => by have := b2 t h; omega) (by omega) hws.1 hws.2 k2 n2 p2 hk2 hn2 hp2).mono ?_
      rintro e w' ⟨o', l', c', rfl, g1, g2⟩
      exact ⟨o', l', c', rfl, g1.slc, g2⟩
    · have h := refSame_any k2 n2 p2 k2 n2 p2 W o1 l1 c1 o2 l2 c2 hx hy
      rw [show sameT k2 n2 p2 k2 n2 p2 = true from by simp [sameT, Fo.same_refl]] at h
      exact h
    · exact suSolved_any la W oa capa (hsa.stay hq) (fun t h => (hwa t h).1) (by omega) (fun t h => ⟨by have := a2 t h; omega, (hwa t h).2⟩)
    · obtain ⟨f1, f2, f3⟩ := head_solved hsv k n ps
      rw [hk1, hn1] at f1 f2
      rw [hk1, hn1, hp1] at f3
      refine (applyT_any la k1 n1 p1 W oa capa o l c (hsa.stay hq) hs (fun t h => (hwa t h).1) (by omega) (fun t h => by have := a2 t h; omega) (by omega) hws.1 hws.2 k1 n1 p1 f1 f2 f3).mono ?_
      rintro e w' ⟨o', l', c', rfl, g1, g2⟩
      exact ⟨o', l', c', rfl, g1.slc, g2⟩
    · have h := refSame_any k1 n1 p1 k1 n1 p1 W o1 l1 c1 o2 l2 c2 hx hy
      rw [show sameT k1 n1 p1 k1 n1 p1 = true from by simp [sameT, Fo.same_refl]] at h
      exact h
  generalize thenB la lb = TT at *
  generalize solvedB la = sb at *
  generalize gr10 la = ga at *
  generalize gr10 lb = gb at *
  generalize greatF ps = gt at *
  generalize hpz : ps.size = pz at *
  clear hsa hsb hst hwa hwb hn hwf ht hk1 hn1 hp1 hk2 hn2 hp2 hpz
  unfold tyv
  go_enter Tryd.func11, Tryd.ntmps11
  generalize hB : w.heap.size = B at *
  go_upto_region 1 with fail
  rw [← hW0]
  clear hW0 hB
  obtain ⟨a0, a1, a2⟩ := HBX.out W0 (Quiet0.refl _)
  go_wp2_with fail
  refine (HG.out _ HQ0.out).mono ?_; rintro e w1 ⟨rfl, hq1⟩
  have HQ1 := Lib.hid hq1
  obtain ⟨b0, b1, b2⟩ := HBX.out w1 hq1
  clear hq1 a0 a1 a2
  cases ga
  case true =>
    go_wp2_with fail
    refine (HA.out _ (HQ0.out.trans HQ1.out)).mono ?_; rintro e w3 ⟨rfl, hq3⟩
    go_wp2_with fail
    go_ret
    exact ⟨rfl, (HQ0.out.trans HQ1.out).trans hq3⟩
  go_wp2_with fail
  refine (HG2.out _ (HQ0.out.trans HQ1.out)).mono ?_; rintro e w2 ⟨rfl, hq2⟩
  have HQ2 := Lib.hid (HQ1.out.trans hq2)
  obtain ⟨a0, a1, a2⟩ := HBX.out w2 HQ2.out
  clear hq2 b0 b1 b2
  cases gb
  case true =>
    go_wp2_with fail
    refine (HA.out _ (HQ0.out.trans HQ2.out)).mono ?_; rintro e w3 ⟨rfl, hq3⟩
    go_wp2_with fail
    go_ret
    exact ⟨rfl, (HQ0.out.trans HQ2.out).trans hq3⟩
  go_wp2_with fail
  refine (HG3.out _ (HQ0.out.trans HQ2.out)).mono ?_; rintro e w3 ⟨rfl, hq3⟩
  have HQ3 := Lib.hid (HQ2.out.trans hq3)
  obtain ⟨b0, b1, b2⟩ := HBX.out w3 HQ3.out
  clear hq3 a0 a1 a2
  cases gt
  case true =>
    go_wp2_with fail
    refine (HA.out _ (HQ0.out.trans HQ3.out)).mono ?_; rintro e w4 ⟨rfl, hq4⟩
    go_wp2_with fail
    go_ret
    exact ⟨rfl, (HQ0.out.trans HQ3.out).trans hq4⟩
  have HSZ2 := Lib.hid (HSZ.out (by first | rfl | trivial))
  go_wp2_with fail
  refine (HSZ2.out _ (HQ0.out.trans HQ3.out)).mono ?_; rintro e w4 ⟨rfl, hq4⟩
  have HQ4 := Lib.hid (HQ3.out.trans hq4)
  obtain ⟨a0, a1, a2⟩ := HBX.out w4 HQ4.out
  clear hq4 b0 b1 b2 HSZ HSZ2
  by_cases h60 : pz ≤ 59
  case neg =>
    have h60' : (60 : Int) < ((pz + 1 : Nat) : Int) := by omega
    generalize ((pz + 1 : Nat) : Int) = zz at *
    go_wp2_with fail
    refine (HA.out _ (HQ0.out.trans HQ4.out)).mono ?_; rintro e w5 ⟨rfl, hq5⟩
    go_wp2_with fail
    go_ret
    exact ⟨rfl, (HQ0.out.trans HQ4.out).trans hq5⟩
  have h60' : ¬ (60 : Int) < ((pz + 1 : Nat) : Int) := by omega
  have HAL := Lib.hid (HALL.out (by first | rfl | trivial) (by first | rfl | trivial) h60)
  have H1 := Lib.hid HAL.out.1
  have H2 := Lib.hid HAL.out.2.1
  have H3 := Lib.hid HAL.out.2.2.1
  have H4 := Lib.hid HAL.out.2.2.2.1
  have H5 := Lib.hid HAL.out.2.2.2.2.1
  have H6 := Lib.hid HAL.out.2.2.2.2.2.1
  have H7 := Lib.hid HAL.out.2.2.2.2.2.2.1
  have H8 := Lib.hid HAL.out.2.2.2.2.2.2.2
  clear HAL HALL
  generalize ((pz + 1 : Nat) : Int) = zz at *
  go_wp2_with fail
  refine (H1.out _ (HQ0.out.trans HQ4.out)).mono ?_; rintro e w5 ⟨ow, lw, cw, rfl, hsw, hq5⟩
  have HQ5 := Lib.hid (HQ4.out.trans hq5)
  have HSW := Lib.hid hsw
  clear hq5 hsw a0 a1 a2
  obtain ⟨W6, hW6⟩ : ∃ W6, W6 = w5.alloc (.cells #[.int .i64 k1, .int .i64 n1, .slice ow lw cw] 24) := ⟨_, rfl⟩
  obtain ⟨BW, hBW⟩ : ∃ BW, BW = w5.heap.size := ⟨_, rfl⟩
  have HQ6 : Hid (Quiet0 W0 W6) := by rw [hW6]; exact HQ5.out.trans (Quiet0.alloc _ _)
  have HBW : Hid (W6.heap[BW]? = some (.cells #[.int .i64 k1, .int .i64 n1, .slice ow lw cw] 24 (0, 0))) := by rw [hW6, hBW]; exact heap_alloc_new _ _
  have HSW6 : Hid (∀ W, Quiet0 W6 W → Slc W ow lw p1) := fun W h => by
    have h6 : Slc W6 ow lw p1 := by rw [hW6]; exact HSW.out.stay (Quiet0.alloc _ _)
    exact h6.stay h
  have HBC : Hid (∀ w', Quiet0 W6 w' → (w'.cell? ⟨B, 0, none⟩ = some (.int .i64 k) ∧ w'.cell? ⟨B, 1, none⟩ = some (.int .i64 n) ∧ w'.cell? ⟨B, 2, none⟩ = some (.slice ot lent capt)) ∧ w'.cell? ⟨BW, 0, none⟩ = some (.int .i64 k1) ∧ w'.cell? ⟨BW, 1, none⟩ = some (.int .i64 n1) ∧ w'.cell? ⟨BW, 2, none⟩ = some (.slice ow lw cw)) := by
    intro w' h
    obtain ⟨z0, z1, z2, _⟩ := box_cells3 (box_after HBW.out h)
    exact ⟨HBX.out w' (HQ6.out.trans h), z0, z1, z2⟩
  have HQ06 := Lib.hid (HQ0.out.trans HQ6.out)
  go_upto_region 4 with fail
  change Code.wp _ _ _ _ (w5.alloc (.cells #[.int .i64 k1, .int .i64 n1, .slice ow lw cw] 24))
  rw [← hW6, ← hBW]
  clear hW6 hBW
  have hqc := Quiet0.refl W6
  obtain ⟨⟨a0, a1, a2⟩, z0, z1, z2⟩ := HBC.out W6 hqc
  go_region_held3 (fun w' => (w'.cell? ⟨B, 0, none⟩ = some (.int .i64 k) ∧ w'.cell? ⟨B, 1, none⟩ = some (.int .i64 n) ∧ w'.cell? ⟨B, 2, none⟩ = some (.slice ot lent capt)) ∧ w'.cell? ⟨BW, 0, none⟩ = some (.int .i64 k1) ∧ w'.cell? ⟨BW, 1, none⟩ = some (.int .i64 n1) ∧ w'.cell? ⟨BW, 2, none⟩ = some (.slice ow lw cw))
    (((refine HBC.out _ ?_); (repeat (first | with_reducible exact hqc | with_reducible exact Quiet0.refl _ | with_reducible refine Quiet0.trans ?_ (Quiet0.alloc _ _) | with_reducible refine Quiet0.trans ?_ (Quiet0.drew _) | fail))))
    (first
      | (go_at_call 56; (with_reducible refine Calls.mono (H2.out _ (HQ06.out.trans ?hq)) ?_); (case hq => (repeat (first | with_reducible exact hqc | with_reducible exact Quiet0.refl _ | with_reducible refine Quiet0.trans ?_ (Quiet0.alloc _ _) | with_reducible refine Quiet0.trans ?_ (Quiet0.drew _) | fail))); rintro e wx ⟨ta, tc, rfl, hta, hqx⟩; (try (refine with_st hsb ?hq3 hqx ?_; (case hq3 => (repeat (first | with_reducible exact Quiet0.refl _ | with_reducible refine Quiet0.trans ?_ (Quiet0.alloc _ _) | with_reducible refine Quiet0.trans ?_ (Quiet0.drew _) | fail))); intro hsb)); (refine with_q (w0 := W6) ?hq2 hqx ?_); (case hq2 => (repeat (first | with_reducible exact hqc | with_reducible exact Quiet0.refl _ | with_reducible refine Quiet0.trans ?_ (Quiet0.alloc _ _) | with_reducible refine Quiet0.trans ?_ (Quiet0.drew _) | fail))); intro hqc)
      | (go_at_call 57; (with_reducible refine Calls.mono (H3.out _ _ _ (HQ06.out.trans ?hq) (hta.stay ?h1)) ?_); (case hq => (repeat (first | with_reducible exact hqc | with_reducible exact Quiet0.refl _ | with_reducible refine Quiet0.trans ?_ (Quiet0.alloc _ _) | with_reducible refine Quiet0.trans ?_ (Quiet0.drew _) | fail))); ((case h1 => (repeat (first | with_reducible exact Quiet0.refl _ | with_reducible refine Quiet0.trans ?_ (Quiet0.alloc _ _) | with_reducible refine Quiet0.trans ?_ (Quiet0.drew _) | fail)))); rintro e wx ⟨oa', la', ca', rfl, hsa, hqx⟩; (try (refine with_st hsb ?hq3 hqx ?_; (case hq3 => (repeat (first | with_reducible exact Quiet0.refl _ | with_reducible refine Quiet0.trans ?_ (Quiet0.alloc _ _) | with_reducible refine Quiet0.trans ?_ (Quiet0.drew _) | fail))); intro hsb)); (refine with_q (w0 := W6) ?hq2 hqx ?_); (case hq2 => (repeat (first | with_reducible exact hqc | with_reducible exact Quiet0.refl _ | with_reducible refine Quiet0.trans ?_ (Quiet0.alloc _ _) | with_reducible refine Quiet0.trans ?_ (Quiet0.drew _) | fail))); intro hqc)
      | (go_at_call 57; (with_reducible refine Calls.mono (H4.out _ _ _ _ (HQ06.out.trans ?hq) (HSW6.out _ ?h1)) ?_); (case hq => (repeat (first | with_reducible exact hqc | with_reducible exact Quiet0.refl _ | with_reducible refine Quiet0.trans ?_ (Quiet0.alloc _ _) | with_reducible refine Quiet0.trans ?_ (Quiet0.drew _) | fail))); ((case h1 => (repeat (first | with_reducible exact hqc | with_reducible exact Quiet0.refl _ | with_reducible refine Quiet0.trans ?_ (Quiet0.alloc _ _) | with_reducible refine Quiet0.trans ?_ (Quiet0.drew _) | fail)))); rintro e wx ⟨ob', lb', cb', rfl, hsb, hqx⟩; (try (refine with_st hsa ?hq3 hqx ?_; (case hq3 => (repeat (first | with_reducible exact Quiet0.refl _ | with_reducible refine Quiet0.trans ?_ (Quiet0.alloc _ _) | with_reducible refine Quiet0.trans ?_ (Quiet0.drew _) | fail))); intro hsa)); (refine with_q (w0 := W6) ?hq2 hqx ?_); (case hq2 => (repeat (first | with_reducible exact hqc | with_reducible exact Quiet0.refl _ | with_reducible refine Quiet0.trans ?_ (Quiet0.alloc _ _) | with_reducible refine Quiet0.trans ?_ (Quiet0.drew _) | fail))); intro hqc)
      | (go_at_call 19; (with_reducible refine Calls.mono (H5.out _ _ _ _ _ _ _ (hsa.stay ?h1) (hsb.stay ?h2)) ?_); ((case h1 => (repeat (first | with_reducible exact Quiet0.refl _ | with_reducible refine Quiet0.trans ?_ (Quiet0.alloc _ _) | with_reducible refine Quiet0.trans ?_ (Quiet0.drew _) | fail))); (case h2 => (repeat (first | with_reducible exact Quiet0.refl _ | with_reducible refine Quiet0.trans ?_ (Quiet0.alloc _ _) | with_reducible refine Quiet0.trans ?_ (Quiet0.drew _) | fail)))); rintro e wx ⟨rfl, hqx⟩; (refine with_q (w0 := W6) ?hq2 hqx ?_); (case hq2 => (repeat (first | with_reducible exact hqc | with_reducible exact Quiet0.refl _ | with_reducible refine Quiet0.trans ?_ (Quiet0.alloc _ _) | with_reducible refine Quiet0.trans ?_ (Quiet0.drew _) | fail))); intro hqc)
      | fail)
  all_goals
    have HQX := Lib.hid hqc
    clear a0 a1 a2 z0 z1 z2 hsa hsb hta hqc
    cases sb
    · go_wp2_with fail
      have hqc := HQX.out
      first
      | (go_region_with (first
          | (go_at_call 58; (with_reducible refine Calls.mono (H6.out _ (HQ06.out.trans ?hq)) ?_); (case hq => (repeat (first | with_reducible exact hqc | with_reducible exact Quiet0.refl _ | with_reducible refine Quiet0.trans ?_ (Quiet0.alloc _ _) | with_reducible refine Quiet0.trans ?_ (Quiet0.drew _) | fail))); rintro e wx ⟨rfl, hqx⟩; (refine with_q (w0 := W6) ?hq2 hqx ?_); (case hq2 => (repeat (first | with_reducible exact hqc | with_reducible exact Quiet0.refl _ | with_reducible refine Quiet0.trans ?_ (Quiet0.alloc _ _) | with_reducible refine Quiet0.trans ?_ (Quiet0.drew _) | fail))); intro hqc)
          | (go_at_call 40; (with_reducible refine Calls.mono (HA.out _ (HQ06.out.trans ?hq)) ?_); (case hq => (repeat (first | with_reducible exact hqc | with_reducible exact Quiet0.refl _ | with_reducible refine Quiet0.trans ?_ (Quiet0.alloc _ _) | with_reducible refine Quiet0.trans ?_ (Quiet0.drew _) | fail))); rintro e wx ⟨rfl, hqx⟩; (refine with_q (w0 := W6) ?hq2 hqx ?_); (case hq2 => (repeat (first | with_reducible exact hqc | with_reducible exact Quiet0.refl _ | with_reducible refine Quiet0.trans ?_ (Quiet0.alloc _ _) | with_reducible refine Quiet0.trans ?_ (Quiet0.drew _) | fail))); intro hqc)
          | fail))
      | fail
      all_goals
        go_wp2_with fail
        go_ret
        exact ⟨rfl, HQ06.out.trans (by (repeat (first | with_reducible exact hqc | with_reducible exact Quiet0.refl _ | with_reducible refine Quiet0.trans ?_ (Quiet0.alloc _ _) | with_reducible refine Quiet0.trans ?_ (Quiet0.drew _) | fail)))⟩
    · have H7' := Lib.hid (H7.out rfl)
      go_wp2_with fail
      have hqc := HQX.out
      obtain ⟨⟨a0, a1, a2⟩, z0, z1, z2⟩ := HBC.out _ hqc
      go_region_held3 (fun w' => (w'.cell? ⟨B, 0, none⟩ = some (.int .i64 k) ∧ w'.cell? ⟨B, 1, none⟩ = some (.int .i64 n) ∧ w'.cell? ⟨B, 2, none⟩ = some (.slice ot lent capt)) ∧ w'.cell? ⟨BW, 0, none⟩ = some (.int .i64 k1) ∧ w'.cell? ⟨BW, 1, none⟩ = some (.int .i64 n1) ∧ w'.cell? ⟨BW, 2, none⟩ = some (.slice ow lw cw))
        (((refine HBC.out _ ?_); (repeat (first | with_reducible exact hqc | with_reducible exact Quiet0.refl _ | with_reducible refine Quiet0.trans ?_ (Quiet0.alloc _ _) | with_reducible refine Quiet0.trans ?_ (Quiet0.drew _) | fail))))
        (first
          | (go_at_call 58; (with_reducible refine Calls.mono (H6.out _ (HQ06.out.trans ?hq)) ?_); (case hq => (repeat (first | with_reducible exact hqc | with_reducible exact Quiet0.refl _ | with_reducible refine Quiet0.trans ?_ (Quiet0.alloc _ _) | with_reducible refine Quiet0.trans ?_ (Quiet0.drew _) | fail))); rintro e wx ⟨rfl, hqx⟩; (refine with_q (w0 := W6) ?hq2 hqx ?_); (case hq2 => (repeat (first | with_reducible exact hqc | with_reducible exact Quiet0.refl _ | with_reducible refine Quiet0.trans ?_ (Quiet0.alloc _ _) | with_reducible refine Quiet0.trans ?_ (Quiet0.drew _) | fail))); intro hqc)
          | (go_at_call 57; (with_reducible refine Calls.mono (H7'.out _ _ _ _ (HQ06.out.trans ?hq) (HSW6.out _ ?h1)) ?_); (case hq => (repeat (first | with_reducible exact hqc | with_reducible exact Quiet0.refl _ | with_reducible refine Quiet0.trans ?_ (Quiet0.alloc _ _) | with_reducible refine Quiet0.trans ?_ (Quiet0.drew _) | fail))); ((case h1 => (repeat (first | with_reducible exact hqc | with_reducible exact Quiet0.refl _ | with_reducible refine Quiet0.trans ?_ (Quiet0.alloc _ _) | with_reducible refine Quiet0.trans ?_ (Quiet0.drew _) | fail)))); rintro e wx ⟨oa', la', ca', rfl, hsa, hqx⟩; (refine with_q (w0 := W6) ?hq2 hqx ?_); (case hq2 => (repeat (first | with_reducible exact hqc | with_reducible exact Quiet0.refl _ | with_reducible refine Quiet0.trans ?_ (Quiet0.alloc _ _) | with_reducible refine Quiet0.trans ?_ (Quiet0.drew _) | fail))); intro hqc)
          | (go_at_call 19; (with_reducible refine Calls.mono (H8.out _ _ _ _ _ _ _ (hsa.stay ?h1) (HSW6.out _ ?hq)) ?_); (case hq => (repeat (first | with_reducible exact hqc | with_reducible exact Quiet0.refl _ | with_reducible refine Quiet0.trans ?_ (Quiet0.alloc _ _) | with_reducible refine Quiet0.trans ?_ (Quiet0.drew _) | fail))); ((case h1 => (repeat (first | with_reducible exact Quiet0.refl _ | with_reducible refine Quiet0.trans ?_ (Quiet0.alloc _ _) | with_reducible refine Quiet0.trans ?_ (Quiet0.drew _) | fail)))); rintro e wx ⟨rfl, hqx⟩; (refine with_q (w0 := W6) ?hq2 hqx ?_); (case hq2 => (repeat (first | with_reducible exact hqc | with_reducible exact Quiet0.refl _ | with_reducible refine Quiet0.trans ?_ (Quiet0.alloc _ _) | with_reducible refine Quiet0.trans ?_ (Quiet0.drew _) | fail))); intro hqc)
          | (go_at_call 40; (with_reducible refine Calls.mono (HA.out _ (HQ06.out.trans ?hq)) ?_); (case hq => (repeat (first | with_reducible exact hqc | with_reducible exact Quiet0.refl _ | with_reducible refine Quiet0.trans ?_ (Quiet0.alloc _ _) | with_reducible refine Quiet0.trans ?_ (Quiet0.drew _) | fail))); rintro e wx ⟨rfl, hqx⟩; (refine with_q (w0 := W6) ?hq2 hqx ?_); (case hq2 => (repeat (first | with_reducible exact hqc | with_reducible exact Quiet0.refl _ | with_reducible refine Quiet0.trans ?_ (Quiet0.alloc _ _) | with_reducible refine Quiet0.trans ?_ (Quiet0.drew _) | fail))); intro hqc)
          | fail)
      all_goals
        go_wp2_with fail
        go_ret
        exact ⟨rfl, HQ06.out.trans hqc⟩
end Go.Proofs.YtggidhgifaekbaaDoor
/-
  The law SubstAlike: it returns true. Conditions: the rows lie in memory; their numbers are in range; the table of powers of ten holds what its initialiser lays.
-/
namespace Go.Proofs.YtggidhgifaekbaaDoor
open Go.RowKit Go.Maps

theorem with_bs {w W w3 : World} {o : Option Addr} {l : List Bd} {G : Prop} (h : BindsAt w o l) (hq : Quiet0 w W) (hqx : Quiet0 W w3) (k : BindsAt w3 o l → G) : G := k (h.stay (hq.trans hqx))
theorem wf_then {a b : List Bd} (ha : ∀ t ∈ a, wfI t.1 ∧ wfI t.2.2.1 ∧ wfF t.2.2.2) (hb : ∀ t ∈ b, wfI t.1 ∧ wfI t.2.2.1 ∧ wfF t.2.2.2) : ∀ t ∈ thenB a b, wfI t.1 ∧ wfI t.2.2.1 ∧ wfF t.2.2.2 :=
  then_mem (fun t ht => ⟨(ha t ht).1, wf_subst b (fun u hu => (hb u hu).2) t.2.1 t.2.2.1 t.2.2.2 (ha t ht).2.1 (ha t ht).2.2⟩) hb
theorem like_assoc (a b c : List Bd) (v : Int) : likeP (thenB (thenB a b) c) (thenB a (thenB b c)) v = true := by
  have h : substF (thenB (thenB a b) c) (.cons 1 v .nil .nil) = substF (thenB a (thenB b c)) (.cons 1 v .nil .nil) := by
    rw [subst_then, subst_then, subst_then, subst_then]
  rw [substF_cons, substF_cons] at h
  injection h with h1 h2 h3
  unfold likeP
  rw [h1, h2, h3]
  simp [sameT, Fo.same_refl]
set_option maxHeartbeats 8000000 in
set_option maxRecDepth 100000 in
theorem substAlike_all (l0 l1 l2 : List Bd) (vars : List Int) (w : World) (o0 : Option Addr) (c0 : Nat) (o1 : Option Addr) (c1 : Nat) (o2 : Option Addr) (c2 : Nat) (ov : Option Addr) (capv : Nat)
    (hs0 : BindsAt w o0 l0) (hs1 : BindsAt w o1 l1) (hs2 : BindsAt w o2 l2) (hv : IntsAt w ov vars)
    (hw0 : ∀ t ∈ l0, wfI t.1 ∧ wfI t.2.2.1 ∧ wfF t.2.2.2) (hw1 : ∀ t ∈ l1, wfI t.1 ∧ wfI t.2.2.1 ∧ wfF t.2.2.2) (hw2 : ∀ t ∈ l2, wfI t.1 ∧ wfI t.2.2.1 ∧ wfF t.2.2.2) (hwv : ∀ v ∈ vars, wfI v)
    (hz0 : l0.length ≤ 9223372036854775807) (hz1 : l1.length ≤ 9223372036854775807) (hz2 : l2.length ≤ 9223372036854775807) (hzv : vars.length ≤ 9223372036854775807) (ht : Pow10 w) :
    Calls Tryd.prog 10 #[.agg #[.slice o0 l0.length c0, .slice o1 l1.length c1, .slice o2 l2.length c2], .slice ov vars.length capv] w fun e w' => e = .returned (.bool true) ∧ Quiet0 w w' := by
  have HA := Lib.hid (fun (W : World) (hq : Quiet0 w W) => awake10_any W (ht.stay hq))
  have HG0 := Lib.hid (fun (W : World) (hq : Quiet0 w W) => lgreat_any l0 W o0 c0 (hs0.stay hq) hz0)
  have HG1 := Lib.hid (fun (W : World) (hq : Quiet0 w W) => lgreat_any l1 W o1 c1 (hs1.stay hq) hz1)
  have HG2 := Lib.hid (fun (W : World) (hq : Quiet0 w W) => lgreat_any l2 W o2 c2 (hs2.stay hq) hz2)
  obtain ⟨W0, hW0⟩ : ∃ W0, W0 = w.alloc (.cells #[.slice o0 l0.length c0, .slice o1 l1.length c1, .slice o2 l2.length c2] 61) := ⟨_, rfl⟩
  have HQ0 : Hid (Quiet0 w W0) := by rw [hW0]; exact Quiet0.alloc _ _
  have HB0 : Hid (W0.heap[w.heap.size]? = some (.cells #[.slice o0 l0.length c0, .slice o1 l1.length c1, .slice o2 l2.length c2] 61 (0, 0))) := by rw [hW0]; exact heap_alloc_new _ _
  have HBX : Hid (∀ W, Quiet0 W0 W → W.cell? ⟨w.heap.size, 0, none⟩ = some (.slice o0 l0.length c0) ∧ W.cell? ⟨w.heap.size, 1, none⟩ = some (.slice o1 l1.length c1) ∧ W.cell? ⟨w.heap.size, 2, none⟩ = some (.slice o2 l2.length c2)) := by
    intro W h
    obtain ⟨z0, z1, z2, _⟩ := box_cells3 (box_after HB0.out h)
    exact ⟨z0, z1, z2⟩
  have HALL : Hid (gr10 l0 = false → gr10 l1 = false → gr10 l2 = false → vars.length ≤ 20 →
      (∀ W, Quiet0 w W → Calls Tryd.prog 56 #[.slice o0 l0.length c0, .slice o1 l1.length c1] W fun e w' => ∃ a c, e = .returned (.slice a (thenB l0 l1).length c) ∧ BindsAt w' a (thenB l0 l1) ∧ Quiet0 W w') ∧
      (∀ W o c, Quiet0 w W → BindsAt W o (thenB l0 l1) → Calls Tryd.prog 56 #[.slice o (thenB l0 l1).length c, .slice o2 l2.length c2] W fun e w' => ∃ a c, e = .returned (.slice a (thenB (thenB l0 l1) l2).length c) ∧ BindsAt w' a (thenB (thenB l0 l1) l2) ∧ Quiet0 W w') ∧
      (∀ W, Quiet0 w W → Calls Tryd.prog 56 #[.slice o1 l1.length c1, .slice o2 l2.length c2] W fun e w' => ∃ a c, e = .returned (.slice a (thenB l1 l2).length c) ∧ BindsAt w' a (thenB l1 l2) ∧ Quiet0 W w') ∧
      (∀ W o c, Quiet0 w W → BindsAt W o (thenB l1 l2) → Calls Tryd.prog 56 #[.slice o0 l0.length c0, .slice o (thenB l1 l2).length c] W fun e w' => ∃ a c, e = .returned (.slice a (thenB l0 (thenB l1 l2)).length c) ∧ BindsAt w' a (thenB l0 (thenB l1 l2)) ∧ Quiet0 W w') ∧
      (∀ W oa ca ob cb, Quiet0 w W → BindsAt W oa (thenB (thenB l0 l1) l2) → BindsAt W ob (thenB l0 (thenB l1 l2)) → Calls Tryd.prog 55 #[.slice oa (thenB (thenB l0 l1) l2).length ca, .slice ob (thenB l0 (thenB l1 l2)).length cb, .slice ov vars.length capv] W fun e w' => e = .returned (.bool true) ∧ Quiet0 W w')) := by
    intro h0 h1 h2 h3
    obtain ⟨a0, b0⟩ := gr10_few h0
    obtain ⟨a1, b1⟩ := gr10_few h1
    obtain ⟨a2, b2⟩ := gr10_few h2
    have n01 := then_len l0 l1
    have n12 := then_len l1 l2
    have n012 := then_len (thenB l0 l1) l2
    have n021 := then_len l0 (thenB l1 l2)
    have z01 := then_size (m := 59) (n := 59) b0 b1
    have z12 := then_size (m := 59) (n := 59) b1 b2
    have z012 := then_size (m := 3600) (n := 59) z01 b2
    have z021 := then_size (m := 59) (n := 3600) b0 z12
    have w01 := wf_then hw0 hw1
    have w12 := wf_then hw1 hw2
    have w012 := wf_then w01 hw2
    have w021 := wf_then hw0 w12
    refine ⟨fun W hq => ?_, fun W o c hq hb => ?_, fun W hq => ?_, fun W o c hq hb => ?_, fun W oa ca ob cb hq ha hb => ?_⟩
    · exact suThen_any l0 l1 W o0 c0 o1 c1 (hs0.stay hq) (hs1.stay hq) (by omega) (by omega) (fun t h => ⟨by have := b0 t h; omega, hw0 t h⟩) (fun t h => ⟨by have := b1 t h; omega, (hw1 t h).1⟩)
    · exact suThen_any (thenB l0 l1) l2 W o c o2 c2 hb (hs2.stay hq) (by omega) (by omega) (fun t h => ⟨by have := z01 t h; omega, w01 t h⟩) (fun t h => ⟨by have := b2 t h; omega, (hw2 t h).1⟩)
    · exact suThen_any l1 l2 W o1 c1 o2 c2 (hs1.stay hq) (hs2.stay hq) (by omega) (by omega) (fun t h => ⟨by have := b1 t h; omega, hw1 t h⟩) (fun t h => ⟨by have := b2 t h; omega, (hw2 t h).1⟩)
    · exact suThen_any l0 (thenB l1 l2) W o0 c0 o c (hs0.stay hq) hb (by omega) (by omega) (fun t h => ⟨by have := b0 t h; omega, hw0 t h⟩) (fun t h => ⟨by have := z12 t h; omega, (w12 t h).1⟩)
    · have h := suAlike_any (thenB (thenB l0 l1) l2) (thenB l0 (thenB l1 l2)) vars W oa ca ob cb ov capv ha hb (hv.stay hq) (by omega) (by omega) (by omega) (fun t h => ⟨by have := z012 t h; omega, (w012 t h).1⟩) (fun t h => ⟨by have := z021 t h; omega, (w021 t h).1⟩) hwv
      rw [show vars.all (likeP (thenB (thenB l0 l1) l2) (thenB l0 (thenB l1 l2))) = true from List.all_eq_true.2 (fun v _ => like_assoc l0 l1 l2 v)] at h
      exact h
  generalize thenB (thenB l0 l1) l2 = TA at *
  generalize thenB l0 (thenB l1 l2) = TB at *
  generalize thenB l0 l1 = TC at *
  generalize thenB l1 l2 = TD at *
  generalize gr10 l0 = g0 at *
  generalize gr10 l1 = g1 at *
  generalize gr10 l2 = g2 at *
  clear hs0 hs1 hs2 hv hw0 hw1 hw2 hwv ht
  have hl0 : (0 : Int) ≤ 0 := by omega
  go_enter Tryd.func10, Tryd.ntmps10
  generalize hB : w.heap.size = B at *
  go_upto_region 1 with fail
  rw [← hW0]
  clear hW0 hB
  obtain ⟨a0, a1, a2⟩ := HBX.out W0 (Quiet0.refl _)
  go_wp2_with fail
  refine (HG0.out _ HQ0.out).mono ?_; rintro e w1 ⟨rfl, hq1⟩
  have HQ1 := Lib.hid hq1
  obtain ⟨b0, b1, b2⟩ := HBX.out w1 hq1
  clear hq1 a0 a1 a2
  cases g0
  case true =>
    go_wp2_with fail
    refine (HA.out _ (HQ0.out.trans HQ1.out)).mono ?_; rintro e w3 ⟨rfl, hq3⟩
    go_wp2_with fail
    go_ret
    exact ⟨rfl, (HQ0.out.trans HQ1.out).trans hq3⟩
  go_wp2_with fail
  refine (HG1.out _ (HQ0.out.trans HQ1.out)).mono ?_; rintro e w2 ⟨rfl, hq2⟩
  have HQ2 := Lib.hid (HQ1.out.trans hq2)
  obtain ⟨a0, a1, a2⟩ := HBX.out w2 HQ2.out
  clear hq2 b0 b1 b2
  cases g1
  case true =>
    go_wp2_with fail
    refine (HA.out _ (HQ0.out.trans HQ2.out)).mono ?_; rintro e w3 ⟨rfl, hq3⟩
    go_wp2_with fail
    go_ret
    exact ⟨rfl, (HQ0.out.trans HQ2.out).trans hq3⟩
  go_wp2_with fail
  refine (HG2.out _ (HQ0.out.trans HQ2.out)).mono ?_; rintro e w3 ⟨rfl, hq3⟩
  have HQ3 := Lib.hid (HQ2.out.trans hq3)
  obtain ⟨b0, b1, b2⟩ := HBX.out w3 HQ3.out
  clear hq3 a0 a1 a2
  cases g2
  case true =>
    go_wp2_with fail
    refine (HA.out _ (HQ0.out.trans HQ3.out)).mono ?_; rintro e w4 ⟨rfl, hq4⟩
    go_wp2_with fail
    go_ret
    exact ⟨rfl, (HQ0.out.trans HQ3.out).trans hq4⟩
  by_cases hvz : vars.length ≤ 20
  case neg =>
    have hvz' : (20 : Int) < vars.length := by omega
    go_wp2_with fail
    refine (HA.out _ (HQ0.out.trans HQ3.out)).mono ?_; rintro e w5 ⟨rfl, hq5⟩
    go_wp2_with fail
    go_ret
    exact ⟨rfl, (HQ0.out.trans HQ3.out).trans hq5⟩
  have hvz' : ¬ (20 : Int) < vars.length := by omega
  have HAL := Lib.hid (HALL.out (by first | rfl | trivial) (by first | rfl | trivial) (by first | rfl | trivial) hvz)
  have H1 := Lib.hid HAL.out.1
  have H2 := Lib.hid HAL.out.2.1
  have H3 := Lib.hid HAL.out.2.2.1
  have H4 := Lib.hid HAL.out.2.2.2.1
  have H5 := Lib.hid HAL.out.2.2.2.2
  clear HAL HALL
  have HBC : Hid (∀ W, Quiet0 w3 W → W.cell? ⟨B, 0, none⟩ = some (.slice o0 l0.length c0) ∧ W.cell? ⟨B, 1, none⟩ = some (.slice o1 l1.length c1) ∧ W.cell? ⟨B, 2, none⟩ = some (.slice o2 l2.length c2)) := fun W h => HBX.out W (HQ3.out.trans h)
  have HQ03 := Lib.hid (HQ0.out.trans HQ3.out)
  have hqc := Quiet0.refl w3
  generalize l0.length = n0 at *
  generalize l1.length = n1 at *
  generalize l2.length = n2 at *
  generalize TA.length = na at *
  generalize TB.length = nb at *
  generalize TC.length = nc at *
  generalize TD.length = nd at *
  go_wp2_with fail
  go_region_held3 (fun w' => w'.cell? ⟨B, 0, none⟩ = some (.slice o0 n0 c0) ∧ w'.cell? ⟨B, 1, none⟩ = some (.slice o1 n1 c1) ∧ w'.cell? ⟨B, 2, none⟩ = some (.slice o2 n2 c2))
    (((refine HBC.out _ ?_); (repeat (first | with_reducible exact hqc | with_reducible exact Quiet0.refl _ | with_reducible refine Quiet0.trans ?_ (Quiet0.alloc _ _) | with_reducible refine Quiet0.trans ?_ (Quiet0.drew _) | fail))))
    (first
      | (go_at_call 56; (with_reducible refine Calls.mono (H1.out _ (HQ03.out.trans ?hq)) ?_); (case hq => (repeat (first | with_reducible exact hqc | with_reducible exact Quiet0.refl _ | with_reducible refine Quiet0.trans ?_ (Quiet0.alloc _ _) | with_reducible refine Quiet0.trans ?_ (Quiet0.drew _) | fail))); rintro e wx ⟨tc, cc, rfl, htc, hqx⟩; ((try (refine with_bs htd ?hq3 hqx ?_; (case hq3 => (repeat (first | with_reducible exact Quiet0.refl _ | with_reducible refine Quiet0.trans ?_ (Quiet0.alloc _ _) | with_reducible refine Quiet0.trans ?_ (Quiet0.drew _) | fail))); intro htd)); (try (refine with_bs htb ?hq3 hqx ?_; (case hq3 => (repeat (first | with_reducible exact Quiet0.refl _ | with_reducible refine Quiet0.trans ?_ (Quiet0.alloc _ _) | with_reducible refine Quiet0.trans ?_ (Quiet0.drew _) | fail))); intro htb))); (refine with_q (w0 := w3) ?hq2 hqx ?_); (case hq2 => (repeat (first | with_reducible exact hqc | with_reducible exact Quiet0.refl _ | with_reducible refine Quiet0.trans ?_ (Quiet0.alloc _ _) | with_reducible refine Quiet0.trans ?_ (Quiet0.drew _) | fail))); intro hqc)
      | (go_at_call 56; (with_reducible refine Calls.mono (H3.out _ (HQ03.out.trans ?hq)) ?_); (case hq => (repeat (first | with_reducible exact hqc | with_reducible exact Quiet0.refl _ | with_reducible refine Quiet0.trans ?_ (Quiet0.alloc _ _) | with_reducible refine Quiet0.trans ?_ (Quiet0.drew _) | fail))); rintro e wx ⟨td, cd, rfl, htd, hqx⟩; ((try (refine with_bs htc ?hq3 hqx ?_; (case hq3 => (repeat (first | with_reducible exact Quiet0.refl _ | with_reducible refine Quiet0.trans ?_ (Quiet0.alloc _ _) | with_reducible refine Quiet0.trans ?_ (Quiet0.drew _) | fail))); intro htc)); (try (refine with_bs hta ?hq3 hqx ?_; (case hq3 => (repeat (first | with_reducible exact Quiet0.refl _ | with_reducible refine Quiet0.trans ?_ (Quiet0.alloc _ _) | with_reducible refine Quiet0.trans ?_ (Quiet0.drew _) | fail))); intro hta))); (refine with_q (w0 := w3) ?hq2 hqx ?_); (case hq2 => (repeat (first | with_reducible exact hqc | with_reducible exact Quiet0.refl _ | with_reducible refine Quiet0.trans ?_ (Quiet0.alloc _ _) | with_reducible refine Quiet0.trans ?_ (Quiet0.drew _) | fail))); intro hqc)
      | (go_at_call 56; (with_reducible refine Calls.mono (H2.out _ _ _ (HQ03.out.trans ?hq) (htc.stay ?h1)) ?_); (case hq => (repeat (first | with_reducible exact hqc | with_reducible exact Quiet0.refl _ | with_reducible refine Quiet0.trans ?_ (Quiet0.alloc _ _) | with_reducible refine Quiet0.trans ?_ (Quiet0.drew _) | fail))); ((case h1 => (repeat (first | with_reducible exact Quiet0.refl _ | with_reducible refine Quiet0.trans ?_ (Quiet0.alloc _ _) | with_reducible refine Quiet0.trans ?_ (Quiet0.drew _) | fail)))); rintro e wx ⟨ta, ca, rfl, hta, hqx⟩; ((try (refine with_bs htd ?hq3 hqx ?_; (case hq3 => (repeat (first | with_reducible exact Quiet0.refl _ | with_reducible refine Quiet0.trans ?_ (Quiet0.alloc _ _) | with_reducible refine Quiet0.trans ?_ (Quiet0.drew _) | fail))); intro htd)); (try (refine with_bs htb ?hq3 hqx ?_; (case hq3 => (repeat (first | with_reducible exact Quiet0.refl _ | with_reducible refine Quiet0.trans ?_ (Quiet0.alloc _ _) | with_reducible refine Quiet0.trans ?_ (Quiet0.drew _) | fail))); intro htb))); (refine with_q (w0 := w3) ?hq2 hqx ?_); (case hq2 => (repeat (first | with_reducible exact hqc | with_reducible exact Quiet0.refl _ | with_reducible refine Quiet0.trans ?_ (Quiet0.alloc _ _) | with_reducible refine Quiet0.trans ?_ (Quiet0.drew _) | fail))); intro hqc)
      | (go_at_call 56; (with_reducible refine Calls.mono (H4.out _ _ _ (HQ03.out.trans ?hq) (htd.stay ?h1)) ?_); (case hq => (repeat (first | with_reducible exact hqc | with_reducible exact Quiet0.refl _ | with_reducible refine Quiet0.trans ?_ (Quiet0.alloc _ _) | with_reducible refine Quiet0.trans ?_ (Quiet0.drew _) | fail))); ((case h1 => (repeat (first | with_reducible exact Quiet0.refl _ | with_reducible refine Quiet0.trans ?_ (Quiet0.alloc _ _) | with_reducible refine Quiet0.trans ?_ (Quiet0.drew _) | fail)))); rintro e wx ⟨tb, cb, rfl, htb, hqx⟩; ((try (refine with_bs htc ?hq3 hqx ?_; (case hq3 => (repeat (first | with_reducible exact Quiet0.refl _ | with_reducible refine Quiet0.trans ?_ (Quiet0.alloc _ _) | with_reducible refine Quiet0.trans ?_ (Quiet0.drew _) | fail))); intro htc)); (try (refine with_bs hta ?hq3 hqx ?_; (case hq3 => (repeat (first | with_reducible exact Quiet0.refl _ | with_reducible refine Quiet0.trans ?_ (Quiet0.alloc _ _) | with_reducible refine Quiet0.trans ?_ (Quiet0.drew _) | fail))); intro hta))); (refine with_q (w0 := w3) ?hq2 hqx ?_); (case hq2 => (repeat (first | with_reducible exact hqc | with_reducible exact Quiet0.refl _ | with_reducible refine Quiet0.trans ?_ (Quiet0.alloc _ _) | with_reducible refine Quiet0.trans ?_ (Quiet0.drew _) | fail))); intro hqc)
      | (go_at_call 55; (with_reducible refine Calls.mono (H5.out _ _ _ _ _ (HQ03.out.trans ?hq) (hta.stay ?h1) (htb.stay ?h2)) ?_); (case hq => (repeat (first | with_reducible exact hqc | with_reducible exact Quiet0.refl _ | with_reducible refine Quiet0.trans ?_ (Quiet0.alloc _ _) | with_reducible refine Quiet0.trans ?_ (Quiet0.drew _) | fail))); ((case h1 => (repeat (first | with_reducible exact Quiet0.refl _ | with_reducible refine Quiet0.trans ?_ (Quiet0.alloc _ _) | with_reducible refine Quiet0.trans ?_ (Quiet0.drew _) | fail))); (case h2 => (repeat (first | with_reducible exact Quiet0.refl _ | with_reducible refine Quiet0.trans ?_ (Quiet0.alloc _ _) | with_reducible refine Quiet0.trans ?_ (Quiet0.drew _) | fail)))); rintro e wx ⟨rfl, hqx⟩; (refine with_q (w0 := w3) ?hq2 hqx ?_); (case hq2 => (repeat (first | with_reducible exact hqc | with_reducible exact Quiet0.refl _ | with_reducible refine Quiet0.trans ?_ (Quiet0.alloc _ _) | with_reducible refine Quiet0.trans ?_ (Quiet0.drew _) | fail))); intro hqc)
      | (go_at_call 40; (with_reducible refine Calls.mono (HA.out _ (HQ03.out.trans ?hq)) ?_); (case hq => (repeat (first | with_reducible exact hqc | with_reducible exact Quiet0.refl _ | with_reducible refine Quiet0.trans ?_ (Quiet0.alloc _ _) | with_reducible refine Quiet0.trans ?_ (Quiet0.drew _) | fail))); rintro e wx ⟨rfl, hqx⟩; (refine with_q (w0 := w3) ?hq2 hqx ?_); (case hq2 => (repeat (first | with_reducible exact hqc | with_reducible exact Quiet0.refl _ | with_reducible refine Quiet0.trans ?_ (Quiet0.alloc _ _) | with_reducible refine Quiet0.trans ?_ (Quiet0.drew _) | fail))); intro hqc)
      | fail)
  all_goals
    go_wp2_with fail
    go_ret
    exact ⟨rfl, HQ03.out.trans hqc⟩
end Go.Proofs.YtggidhgifaekbaaDoor
