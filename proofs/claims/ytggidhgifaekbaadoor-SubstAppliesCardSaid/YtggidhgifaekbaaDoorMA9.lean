/-
  Texts laid together (SuAppliesLaw, Law, TyOpen, SuOpen, TyLaid, SuAppliesProof): what each one proves, and its conditions, stands at its head.
-/
import Derived.ProofKit
import Derived.OpenShut
import Derived.Deep.Slices
import Derived.LaidMore
import Derived.Stop.Joined
import Derived.LaidLaws
import Derived.Lib.LaidTab
import Derived.Stop.LaidErr
import Derived.SevenTiedAt
import Derived.Test.YtggidhgifaekbaaDoorCards
import Derived.Test.YtggidhgifaekbaaDoorRows
import Derived.Test.YtggidhgifaekbaaDoorTie
import Derived.Test.YtggidhgifaekbaaDoorMA1
import Derived.Test.YtggidhgifaekbaaDoorMA2
import Derived.Test.YtggidhgifaekbaaDoorMA3
import Derived.Test.YtggidhgifaekbaaDoorMA4
import Derived.Test.YtggidhgifaekbaaDoorMA5
import Derived.Test.YtggidhgifaekbaaDoorMA6
import Derived.Test.YtggidhgifaekbaaDoorMA7
import Derived.Test.YtggidhgifaekbaaDoorMA8
/-
  The law SubstApplies: it returns true. Conditions: the rows lie in memory; their numbers are in range; the table of powers of ten holds what its initialiser lays.
-/
namespace Go.Proofs.YtggidhgifaekbaaDoor
open Go.RowKit Go.Maps

set_option maxHeartbeats 4000000 in
set_option maxRecDepth 100000 in
theorem substApplies_all (l : List Bd) (k n : Int) (ps : Fo) (w : World) (o : Option Addr) (cap : Nat) (ot : Option Addr) (lent capt : Nat) (hs : BindsAt w o l) (hst : Slc w ot lent ps) (hw : ∀ t ∈ l, wfI t.1 ∧ wfI t.2.2.1 ∧ wfF t.2.2.2) (hn : wfI n) (hwf : wfF ps)
    (hz : l.length ≤ 9223372036854775807) (ht : Pow10 w) :
    Calls Tryd.prog 12 #[.slice o l.length cap, tyv k n ot lent capt] w fun e w' => e = .returned (.bool true) ∧ Quiet0 w w' := by
  have HA := Lib.hid (fun (W : World) (hq : Quiet0 w W) => awake10_any W (ht.stay hq))
  have HG := Lib.hid (fun (W : World) (hq : Quiet0 w W) => great10_any l W o cap (hs.stay hq) hz)
  have HG2 : Hid (∀ W, Quiet0 w W → Calls Tryd.prog 14 #[.agg #[.int .i64 k, .int .i64 n, .slice ot lent capt]] W fun e w' => e = .returned (.bool (greatF ps)) ∧ Quiet0 W w') := fun W hq => great_any k n ps W ot lent capt (hst.stay hq)
  obtain ⟨W0, hW0⟩ : ∃ W0, W0 = w.alloc (.cells #[.int .i64 k, .int .i64 n, .slice ot lent capt] 24) := ⟨_, rfl⟩
  have HQ0 : Hid (Quiet0 w W0) := by rw [hW0]; exact Quiet0.alloc _ _
  have HBT : Hid (W0.heap[w.heap.size]? = some (.cells #[.int .i64 k, .int .i64 n, .slice ot lent capt] 24 (0, 0))) := by rw [hW0]; exact heap_alloc_new _ _
  have HBX : Hid (∀ W, Quiet0 W0 W → W.cell? ⟨w.heap.size, 0, none⟩ = some (.int .i64 k) ∧ W.cell? ⟨w.heap.size, 1, none⟩ = some (.int .i64 n) ∧ W.cell? ⟨w.heap.size, 2, none⟩ = some (.slice ot lent capt)) := by
    intro W h; rw [hW0] at h; exact box_cells w k n ot lent capt _ W h
  obtain ⟨k', hk'⟩ : ∃ k', sK l k n = k' := ⟨_, rfl⟩
  obtain ⟨n', hn'⟩ : ∃ n', sN l k n = n' := ⟨_, rfl⟩
  obtain ⟨p', hp'⟩ : ∃ p', sP l k n ps = p' := ⟨_, rfl⟩
  have HALL : Hid (Few10 l → ps.size ≤ 299 →
      (∀ W, Quiet0 w W → Calls Tryd.prog 59 #[.slice o l.length cap, .agg #[.int .i64 k, .int .i64 n, .slice ot lent capt]] W fun e w' => ∃ o' len' cap', e = .returned (.agg #[.int .i64 k', .int .i64 n', .slice o' len' cap']) ∧ Slc w' o' len' p' ∧ Quiet0 W w') ∧
      (∀ W, Quiet0 w W → Calls Tryd.prog 57 #[.slice o l.length cap, .agg #[.int .i64 k, .int .i64 n, .slice ot lent capt]] W fun e w' => ∃ o' len' cap', e = .returned (.agg #[.int .i64 k', .int .i64 n', .slice o' len' cap']) ∧ Slc w' o' len' p' ∧ Quiet0 W w') ∧
      (∀ W, Quiet0 w W → Calls Tryd.prog 60 #[.slice o l.length cap] W fun e w' => e = .returned (.bool (rightB l)) ∧ Quiet0 W w') ∧
      (∀ W, Quiet0 w W → Calls Tryd.prog 61 #[.slice o l.length cap] W fun e w' => e = .returned (.bool (rightB l)) ∧ Quiet0 W w') ∧
      (∀ W, Quiet0 w W → Calls Tryd.prog 58 #[.slice o l.length cap] W fun e w' => e = .returned (.bool (solvedB l)) ∧ Quiet0 W w') ∧
      (∀ W, Quiet0 w W → Calls Tryd.prog 62 #[.slice o l.length cap] W fun e w' => e = .returned (.bool (solvedB l)) ∧ Quiet0 W w') ∧
      (∀ W, Quiet0 w W → Calls Tryd.prog 63 #[.slice o l.length cap, .agg #[.int .i64 k, .int .i64 n, .slice ot lent capt]] W fun e w' => e = .returned (.int .i64 ((p'.size + 1 : Nat) : Int)) ∧ Quiet0 W w') ∧
      (∀ W oo ll cc, Slc W oo ll p' → Calls Tryd.prog 46 #[.agg #[.int .i64 k', .int .i64 n', .slice oo ll cc]] W fun e w' => e = .returned (.int .i64 ((p'.size + 1 : Nat) : Int)) ∧ Quiet0 W w') ∧
      (∀ W oa la ca ob lb cb, Slc W oa la p' → Slc W ob lb p' → Calls Tryd.prog 19 #[.agg #[.int .i64 k', .int .i64 n', .slice oa la ca], .agg #[.int .i64 k', .int .i64 n', .slice ob lb cb]] W fun e w' => e = .returned (.bool true) ∧ Quiet0 W w')) := by
    rintro ⟨h1, h2⟩ h3
    have hpz : p'.size ≤ 100000 := by
      have h := sP_size l 300 h2 k n ps
      rw [hp'] at h
      have h4 : (ps.size + 1) * (300 + 1) ≤ 300 * 301 := Nat.mul_le_mul (by omega) (by omega)
      omega
    refine ⟨fun W hq => ?_, fun W hq => ?_, fun W hq => ?_, fun W hq => ?_, fun W hq => ?_, fun W hq => ?_, fun W hq => ?_, fun W oo ll cc h => ?_, fun W oa la ca ob lb cb ha hb => ?_⟩
    · exact refApply_of w o cap l hs (by omega) k n ps (by omega) k' n' p' hk' hn' hp' W hq ot lent capt (hst.stay hq)
    · refine (applyT_any l k n ps W o cap ot lent capt (hs.stay hq) (hst.stay hq) (fun t h => (hw t h).1) (by omega) (fun t h => by have := h2 t h; omega) (by omega) hn hwf k' n' p' hk' hn' hp').mono ?_
      rintro e w' ⟨o', l', c', rfl, g1, g2⟩
      exact ⟨o', l', c', rfl, g1.slc, g2⟩
    · exact suRight_any l W o cap (hs.stay hq) (fun t h => (hw t h).1) (by omega)
    · exact suRefRight_any l W o cap (hs.stay hq) (by omega)
    · exact suSolved_any l W o cap (hs.stay hq) (fun t h => (hw t h).1) (by omega) (fun t h => ⟨by have := h2 t h; omega, (hw t h).2⟩)
    · exact suRefSolved_any l W o cap (hs.stay hq) (by omega) (fun t h => by have := h2 t h; omega)
    · rw [← hp']
      exact suSize_any l k n ps W o cap ot lent capt (hs.stay hq) (hst.stay hq) (fun t h => (hw t h).1) (by omega) (fun t h => by have := h2 t h; omega) (by rw [hp']; omega) hn hwf
    · exact refSize_any k' n' p' W oo ll cc h (by omega)
    · have h := refSame_any k' n' p' k' n' p' W oa la ca ob lb cb ha hb
      rw [show sameT k' n' p' k' n' p' = true from by simp [sameT, Fo.same_refl]] at h
      exact h
  generalize rightB l = rb at *
  generalize solvedB l = sb at *
  generalize ((p'.size + 1 : Nat) : Int) = zz at *
  have HGZ : Hid (greatF ps = false → ps.size ≤ 299) := fun h => by have := great_size h; omega
  generalize greatF ps = gg at *
  clear hs hst hw hn hwf hz ht hk' hn' hp'
  unfold tyv
  go_enter Tryd.func12, Tryd.ntmps12
  generalize hB : w.heap.size = B at *
  go_upto_region 1 with fail
  rw [← hW0]
  clear hW0 hB
  obtain ⟨a0, a1, a2⟩ := HBX.out W0 (Quiet0.refl _)
  go_wp2_with fail
  refine (HG.out _ HQ0.out).mono ?_; rintro e w1 ⟨g, rfl, hg, hq1⟩
  have HQ1 := Lib.hid hq1
  have HF := Lib.hid hg
  obtain ⟨b0, b1, b2⟩ := HBX.out w1 hq1
  clear hq1 hg a0 a1 a2
  cases g
  · have HF0 := Lib.hid (HF.out rfl)
    go_wp2_with fail
    refine (HG2.out _ (HQ0.out.trans HQ1.out)).mono ?_; rintro e w2 ⟨rfl, hq2⟩
    have HQ2 := Lib.hid (HQ1.out.trans hq2)
    obtain ⟨a0, a1, a2⟩ := HBX.out w2 HQ2.out
    clear hq2 b0 b1 b2
    cases gg
    · have HAL := Lib.hid (HALL.out HF0.out (HGZ.out rfl))
      have H1 := Lib.hid HAL.out.1
      have H2 := Lib.hid HAL.out.2.1
      have H3 := Lib.hid HAL.out.2.2.1
      have H4 := Lib.hid HAL.out.2.2.2.1
      have H5 := Lib.hid HAL.out.2.2.2.2.1
      have H6 := Lib.hid HAL.out.2.2.2.2.2.1
      have H7 := Lib.hid HAL.out.2.2.2.2.2.2.1
      have H8 := Lib.hid HAL.out.2.2.2.2.2.2.2.1
      have H9 := Lib.hid HAL.out.2.2.2.2.2.2.2.2
      clear HAL HALL
      go_wp2_with fail
      refine (H1.out _ (HQ0.out.trans HQ2.out)).mono ?_; rintro e w3 ⟨ow, lw, cw, rfl, hsw, hq3⟩
      have HQ3 := Lib.hid (HQ2.out.trans hq3)
      have HSW := Lib.hid hsw
      clear hq3 hsw a0 a1 a2
      obtain ⟨W5, hW5⟩ : ∃ W5, W5 = w3.alloc (.cells #[.int .i64 k', .int .i64 n', .slice ow lw cw] 24) := ⟨_, rfl⟩
      obtain ⟨BW, hBW⟩ : ∃ BW, BW = w3.heap.size := ⟨_, rfl⟩
      have HQ5 : Hid (Quiet0 W0 W5) := by rw [hW5]; exact HQ3.out.trans (Quiet0.alloc _ _)
      have HBW : Hid (W5.heap[BW]? = some (.cells #[.int .i64 k', .int .i64 n', .slice ow lw cw] 24 (0, 0))) := by rw [hW5, hBW]; exact heap_alloc_new _ _
      have HSW5 : Hid (Slc W5 ow lw p') := by rw [hW5]; exact HSW.out.stay (Quiet0.alloc _ _)
      have HSWS : Hid (∀ W, Quiet0 W5 W → Slc W ow lw p') := fun W h => HSW5.out.stay h
      have HBC : Hid (∀ w', Quiet0 W5 w' → (w'.cell? ⟨B, 0, none⟩ = some (.int .i64 k) ∧ w'.cell? ⟨B, 1, none⟩ = some (.int .i64 n) ∧ w'.cell? ⟨B, 2, none⟩ = some (.slice ot lent capt)) ∧ w'.cell? ⟨BW, 0, none⟩ = some (.int .i64 k') ∧ w'.cell? ⟨BW, 1, none⟩ = some (.int .i64 n') ∧ w'.cell? ⟨BW, 2, none⟩ = some (.slice ow lw cw)) := by
        intro w' h
        obtain ⟨z0, z1, z2, _⟩ := box_cells3 (box_after HBW.out h)
        exact ⟨HBX.out w' (HQ5.out.trans h), z0, z1, z2⟩
      go_upto_region 4 with fail
      change Code.wp _ _ _ _ (w3.alloc (.cells #[.int .i64 k', .int .i64 n', .slice ow lw cw] 24))
      rw [← hW5, ← hBW]
      clear hW5 hBW
      have hqc := Quiet0.refl W5
      obtain ⟨⟨a0, a1, a2⟩, z0, z1, z2⟩ := HBC.out W5 hqc
      have HQ05 := Lib.hid (HQ0.out.trans HQ5.out)
      go_region_held3 (fun w' => (w'.cell? ⟨B, 0, none⟩ = some (.int .i64 k) ∧ w'.cell? ⟨B, 1, none⟩ = some (.int .i64 n) ∧ w'.cell? ⟨B, 2, none⟩ = some (.slice ot lent capt)) ∧ w'.cell? ⟨BW, 0, none⟩ = some (.int .i64 k') ∧ w'.cell? ⟨BW, 1, none⟩ = some (.int .i64 n') ∧ w'.cell? ⟨BW, 2, none⟩ = some (.slice ow lw cw))
        (((refine HBC.out _ ?_); (repeat (first | with_reducible exact hqc | with_reducible exact Quiet0.refl _ | with_reducible refine Quiet0.trans ?_ (Quiet0.alloc _ _) | with_reducible refine Quiet0.trans ?_ (Quiet0.drew _) | fail))))
        (first
          | (go_at_call 57; (with_reducible refine Calls.mono (H2.out _ (HQ05.out.trans ?hq)) ?_); (case hq => (repeat (first | with_reducible exact hqc | with_reducible exact Quiet0.refl _ | with_reducible refine Quiet0.trans ?_ (Quiet0.alloc _ _) | with_reducible refine Quiet0.trans ?_ (Quiet0.drew _) | fail))); rintro e wx ⟨oa, la, ca, rfl, hsa, hqx⟩; (refine with_q (w0 := W5) ?hq2 hqx ?_); (case hq2 => (repeat (first | with_reducible exact hqc | with_reducible exact Quiet0.refl _ | with_reducible refine Quiet0.trans ?_ (Quiet0.alloc _ _) | with_reducible refine Quiet0.trans ?_ (Quiet0.drew _) | fail))); intro hqc)
          | (go_at_call 19; (with_reducible refine Calls.mono (H9.out _ _ _ _ _ _ _ (hsa.stay ?h1) (HSWS.out _ ?hq)) ?_); (case hq => (repeat (first | with_reducible exact hqc | with_reducible exact Quiet0.refl _ | with_reducible refine Quiet0.trans ?_ (Quiet0.alloc _ _) | with_reducible refine Quiet0.trans ?_ (Quiet0.drew _) | fail))); ((case h1 => (repeat (first | with_reducible exact Quiet0.refl _ | with_reducible refine Quiet0.trans ?_ (Quiet0.alloc _ _) | with_reducible refine Quiet0.trans ?_ (Quiet0.drew _) | fail)))); rintro e wx ⟨rfl, hqx⟩; (refine with_q (w0 := W5) ?hq2 hqx ?_); (case hq2 => (repeat (first | with_reducible exact hqc | with_reducible exact Quiet0.refl _ | with_reducible refine Quiet0.trans ?_ (Quiet0.alloc _ _) | with_reducible refine Quiet0.trans ?_ (Quiet0.drew _) | fail))); intro hqc)
          | (go_at_call 60; (with_reducible refine Calls.mono (H3.out _ (HQ05.out.trans ?hq)) ?_); (case hq => (repeat (first | with_reducible exact hqc | with_reducible exact Quiet0.refl _ | with_reducible refine Quiet0.trans ?_ (Quiet0.alloc _ _) | with_reducible refine Quiet0.trans ?_ (Quiet0.drew _) | fail))); rintro e wx ⟨rfl, hqx⟩; (refine with_q (w0 := W5) ?hq2 hqx ?_); (case hq2 => (repeat (first | with_reducible exact hqc | with_reducible exact Quiet0.refl _ | with_reducible refine Quiet0.trans ?_ (Quiet0.alloc _ _) | with_reducible refine Quiet0.trans ?_ (Quiet0.drew _) | fail))); intro hqc)
          | (go_at_call 61; (with_reducible refine Calls.mono (H4.out _ (HQ05.out.trans ?hq)) ?_); (case hq => (repeat (first | with_reducible exact hqc | with_reducible exact Quiet0.refl _ | with_reducible refine Quiet0.trans ?_ (Quiet0.alloc _ _) | with_reducible refine Quiet0.trans ?_ (Quiet0.drew _) | fail))); rintro e wx ⟨rfl, hqx⟩; (refine with_q (w0 := W5) ?hq2 hqx ?_); (case hq2 => (repeat (first | with_reducible exact hqc | with_reducible exact Quiet0.refl _ | with_reducible refine Quiet0.trans ?_ (Quiet0.alloc _ _) | with_reducible refine Quiet0.trans ?_ (Quiet0.drew _) | fail))); intro hqc)
          | (go_at_call 58; (with_reducible refine Calls.mono (H5.out _ (HQ05.out.trans ?hq)) ?_); (case hq => (repeat (first | with_reducible exact hqc | with_reducible exact Quiet0.refl _ | with_reducible refine Quiet0.trans ?_ (Quiet0.alloc _ _) | with_reducible refine Quiet0.trans ?_ (Quiet0.drew _) | fail))); rintro e wx ⟨rfl, hqx⟩; (refine with_q (w0 := W5) ?hq2 hqx ?_); (case hq2 => (repeat (first | with_reducible exact hqc | with_reducible exact Quiet0.refl _ | with_reducible refine Quiet0.trans ?_ (Quiet0.alloc _ _) | with_reducible refine Quiet0.trans ?_ (Quiet0.drew _) | fail))); intro hqc)
          | (go_at_call 62; (with_reducible refine Calls.mono (H6.out _ (HQ05.out.trans ?hq)) ?_); (case hq => (repeat (first | with_reducible exact hqc | with_reducible exact Quiet0.refl _ | with_reducible refine Quiet0.trans ?_ (Quiet0.alloc _ _) | with_reducible refine Quiet0.trans ?_ (Quiet0.drew _) | fail))); rintro e wx ⟨rfl, hqx⟩; (refine with_q (w0 := W5) ?hq2 hqx ?_); (case hq2 => (repeat (first | with_reducible exact hqc | with_reducible exact Quiet0.refl _ | with_reducible refine Quiet0.trans ?_ (Quiet0.alloc _ _) | with_reducible refine Quiet0.trans ?_ (Quiet0.drew _) | fail))); intro hqc)
          | (go_at_call 63; (with_reducible refine Calls.mono (H7.out _ (HQ05.out.trans ?hq)) ?_); (case hq => (repeat (first | with_reducible exact hqc | with_reducible exact Quiet0.refl _ | with_reducible refine Quiet0.trans ?_ (Quiet0.alloc _ _) | with_reducible refine Quiet0.trans ?_ (Quiet0.drew _) | fail))); rintro e wx ⟨rfl, hqx⟩; (refine with_q (w0 := W5) ?hq2 hqx ?_); (case hq2 => (repeat (first | with_reducible exact hqc | with_reducible exact Quiet0.refl _ | with_reducible refine Quiet0.trans ?_ (Quiet0.alloc _ _) | with_reducible refine Quiet0.trans ?_ (Quiet0.drew _) | fail))); intro hqc)
          | (go_at_call 46; (with_reducible refine Calls.mono (H8.out _ _ _ _ (HSWS.out _ ?hq)) ?_); (case hq => (repeat (first | with_reducible exact hqc | with_reducible exact Quiet0.refl _ | with_reducible refine Quiet0.trans ?_ (Quiet0.alloc _ _) | with_reducible refine Quiet0.trans ?_ (Quiet0.drew _) | fail))); rintro e wx ⟨rfl, hqx⟩; (refine with_q (w0 := W5) ?hq2 hqx ?_); (case hq2 => (repeat (first | with_reducible exact hqc | with_reducible exact Quiet0.refl _ | with_reducible refine Quiet0.trans ?_ (Quiet0.alloc _ _) | with_reducible refine Quiet0.trans ?_ (Quiet0.drew _) | fail))); intro hqc)
          | (go_at_call 40; (with_reducible refine Calls.mono (HA.out _ (HQ05.out.trans ?hq)) ?_); (case hq => (repeat (first | with_reducible exact hqc | with_reducible exact Quiet0.refl _ | with_reducible refine Quiet0.trans ?_ (Quiet0.alloc _ _) | with_reducible refine Quiet0.trans ?_ (Quiet0.drew _) | fail))); rintro e wx ⟨rfl, hqx⟩; (refine with_q (w0 := W5) ?hq2 hqx ?_); (case hq2 => (repeat (first | with_reducible exact hqc | with_reducible exact Quiet0.refl _ | with_reducible refine Quiet0.trans ?_ (Quiet0.alloc _ _) | with_reducible refine Quiet0.trans ?_ (Quiet0.drew _) | fail))); intro hqc)
          | fail)
      all_goals
        go_wp2_with fail
        go_ret
        exact ⟨rfl, HQ05.out.trans hqc⟩
    · go_wp2_with fail
      refine (HA.out _ (HQ0.out.trans HQ2.out)).mono ?_; rintro e w3 ⟨rfl, hq3⟩
      go_wp2_with fail
      go_ret
      exact ⟨rfl, (HQ0.out.trans HQ2.out).trans hq3⟩
  · go_wp2_with fail
    refine (HA.out _ (HQ0.out.trans HQ1.out)).mono ?_; rintro e w3 ⟨rfl, hq3⟩
    go_wp2_with fail
    go_ret
    exact ⟨rfl, (HQ0.out.trans HQ1.out).trans hq3⟩
end Go.Proofs.YtggidhgifaekbaaDoor
/-
  What closes a law's row: it returned true, and of what was there nothing has turned. No condition.
-/
namespace Go.Proofs.YtggidhgifaekbaaDoor
open Go.ChangeShapes Go.WideShapes Go.ChangeAt Go.RowKit

theorem own : ownKnob Tryd.prog.godebug = none := by kernel_rfl

def typesRead (P : Program) (ts : List TypeId) : Bool := ts.all fun t => P.readableRec t && decide (t < P.types.size)

theorem below_trodAll {H : Type} {enc : TypeId × Value → H} {P : Program} (hl : laidOutB P = true) {W W' : World} (hb : Below W.heap.size W W') :
    ∀ (ts : List TypeId) (vs : List Value) (ds : List (DataW H)) (ps : List MemPlace), typesRead P ts = true → DataW.TrodAll enc P W 0 (fun _ => true) true ts vs ds ps → (∀ x ∈ ps, x.block < W.heap.size) →
      DataW.TrodAll enc P W' 0 (fun b => decide (b < W.heap.size)) true ts vs ds ps
  | [], vs, ds, ps, _, h, _ => by
    obtain ⟨rfl, rfl, rfl⟩ := trodAll_nil h
    exact trodAll_mk0
  | t :: ts, vs, ds, ps, hr, h, hlt => by
    obtain ⟨v, vs', d, ds', p, q, rfl, rfl, rfl, h1, h2⟩ := trodAll_cons h
    simp only [typesRead, List.all_cons, Bool.and_eq_true, decide_eq_true_eq] at hr
    exact trodAll_cons_mk (Below.trod hl hr.1.1 hr.1.2 h1 hb (fun x hx => hlt x (List.mem_append_left _ hx)))
      (below_trodAll hl hb ts vs' ds' q hr.2 h2 (fun x hx => hlt x (List.mem_append_right _ hx)))

theorem law_post {H : Type} {enc : TypeId × Value → H} {f : Func} {s : ChangeSpec} {W W' : World} {args : Array Value} {ds gs : List (DataW H)} {before : List MemPlace}
    (hW : DataW.Whole enc Tryd.prog f.params.toList s.vars false W args.toList ds gs before) (hv : s.vars = []) (hs : (s.fn H (ds ++ gs)).results = [.lit (.bool true)]) (hs2 : (s.fn H (ds ++ gs)).args = ds) (hs3 : (s.fn H (ds ++ gs)).vars = [])
    (hres : f.resultTypes = #[4]) (hread : typesRead Tryd.prog f.params.toList = true) (hb : Below W.heap.size W W') :
    s.post enc Tryd.prog f false true false false W args (.bool true) W' := by
  have hlt := hW.lt
  have hW' := hW
  obtain ⟨p, q, hA, hV, rfl, hfz, hnd⟩ := hW
  refine ⟨ds, gs, _, [], p, [], hW', ?_, ?_, ?_, hb.frame _, fun h => by cases h⟩
  · rw [hs, hres]; exact trodAll_cons_mk (shut_bool Tryd.underlying4 _) trodAll_mk0
  · rw [hs2]; exact below_trodAll (by kernel_rfl) hb _ _ _ _ hread hA (fun x hx => by have := hlt x (List.mem_append_left _ hx); simpa using this)
  · rw [hs3, hv]; exact rfl
end Go.Proofs.YtggidhgifaekbaaDoor
/-
  Types that came in as arguments: rows of types, however deep. No condition.
-/
namespace Go.Proofs.YtggidhgifaekbaaDoor
open Go.ChangeShapes Go.WideShapes Go.ChangeAt Go.RowKit

theorem spot_none {w : World} {a : Addr} {v : Value} (h : w.cell? (a.add 0) = some v) : ∃ b off, a = ⟨b, off, none⟩ := by
  obtain ⟨b, off, s⟩ := a
  cases s with
  | none => exact ⟨b, off, rfl⟩
  | some s =>
    unfold World.cell? Addr.add at h
    simp only [if_true] at h
    split at h <;> simp_all
section
variable {H : Type} {enc : TypeId × Value → H} {P : Program} {w : World} {base : Nat} {spare : Nat → Bool} {held : Bool}
theorem at_of_cells {b off len : Nat} (one : ∀ i, i < len → ∃ k n o l c ps, w.cell? ⟨b, off + i * 3, none⟩ = some (.int .i64 k) ∧ w.cell? ⟨b, off + i * 3 + 1, none⟩ = some (.int .i64 n) ∧ w.cell? ⟨b, off + i * 3 + 2, none⟩ = some (.slice o l c) ∧ Slc w o l ps ∧ wfI n ∧ wfF ps) :
    ∀ m s, s + m = len → ∃ f : Fo, f.length = m ∧ At w b (off + s * 3) f ∧ wfF f
  | 0, s, _ => ⟨.nil, rfl, trivial, trivial⟩
  | m + 1, s, h => by
    obtain ⟨k, n, o, l, c, ps, h1, h2, h3, hs, hw, hwp⟩ := one s (by omega)
    obtain ⟨r, hr, ha, hwr⟩ := at_of_cells one m (s + 1) (by omega)
    refine ⟨.cons k n ps r, by simp [Fo.length, hr], ⟨h1, h2, ⟨o, l, c, h3, hs.1, hs.2.1, hs.2.2⟩, ?_⟩, hw, hwp, hwr⟩
    rw [show off + s * 3 + 3 = off + (s + 1) * 3 from by omega]
    exact ha
theorem open_parts {te : TypeId} {f0 f1 f2 : Field} (he : P.underlying te = some (.struct #[f0, f1, f2])) (ce : P.cellsOf te = 3)
    (o0 : f0.offset = 0) (o1 : f1.offset = 1) (o2 : f2.offset = 2) (c0 : P.cellsOf f0.type = 1) (c1 : P.cellsOf f1.type = 1) (c2 : P.cellsOf f2.type = 1) (k0 : P.underlying f0.type = some (.int .i64)) (k1 : P.underlying f1.type = some (.int .i64)) (k2 : P.underlying f2.type = some (.slice te)) :
    ∀ (fuel : Nat) (ts : TypeId) (cs : List Value) (x : DataW H × List MemPlace), P.underlying ts = some (.slice te) → DataW.trod enc P w base spare held fuel ts cs = some x → ∃ o len cap f, cs = [.slice o len cap] ∧ Slc w o len f ∧ wfF f := by
  intro fuel
  induction fuel using Nat.strongRecOn with
  | _ fuel ih =>
  intro ts cs x hts h
  rcases DataW.trod_slice hts h with ⟨rfl, _⟩ | ⟨a, len, cap, elems, rest, n, hfu, rfl, _, _, hl, hm, hlen, hel, _⟩
  · exact ⟨_, _, _, .nil, rfl, Slc.nil _ _, trivial⟩
  · have one : ∀ i, i < len → ∃ k n o l c ps, w.cell? (a.add (i * 3)) = some (.int .i64 k) ∧ w.cell? (a.add (i * 3 + 1)) = some (.int .i64 n) ∧ w.cell? (a.add (i * 3 + 2)) = some (.slice o l c) ∧ Slc w o l ps ∧ wfI n ∧ wfF ps := by
      intro i hi
      have h1 := hel i hi
      rw [List.getElem?_eq_getElem (by omega)] at h1
      obtain ⟨cs', h2, h3⟩ := Option.bind_eq_some_iff.1 h1
      rw [ce] at h2
      obtain ⟨_, hcl, hcell⟩ := World.cells?_some h2
      obtain ⟨xs, n', hn', _, _, hxl, hfx⟩ := DataW.trod_struct he h3
      match cs', hcl with
      | [u0, u1, u2], _ =>
        have hxl3 : xs.length = 3 := by simpa using hxl
        have s0 := hfx 0 f0 rfl
        have s1 := hfx 1 f1 rfl
        have s2 := hfx 2 f2 rfl
        rw [c0, o0, show xs[0]? = some (xs[0]'(by omega)) from by simp [hxl3]] at s0
        rw [c1, o1, show xs[1]? = some (xs[1]'(by omega)) from by simp [hxl3]] at s1
        rw [c2, o2, show xs[2]? = some (xs[2]'(by omega)) from by simp [hxl3]] at s2
        obtain ⟨z0, hz0, _, hw0⟩ := DataW.trod_int k0 s0
        obtain ⟨z1, hz1, _, hw1⟩ := DataW.trod_int k1 s1
        obtain ⟨o, l, c, ps, hz2, hps, hwp⟩ := ih n' (by omega) f2.type _ _ k2 s2
        simp at hz0 hz1 hz2
        have e1 := hcell 1 (by omega)
        have e2 := hcell 2 (by omega)
        simp [Deep.add_add] at e1 e2
        refine ⟨z0, z1, o, l, c, ps, ?_, ?_, ?_, hps, hw1, hwp⟩
        · have : (a.add (i * 3)).add 0 = a.add (i * 3) := by rw [Deep.add_add]; rfl
          rw [← this, hcell 0 (by omega)]; simp [hz0]
        · rw [e1, hz1]
        · rw [e2, hz2]
    by_cases h0 : len = 0
    · subst h0
      exact ⟨_, _, _, .nil, rfl, Slc.nil _ _, trivial⟩
    · obtain ⟨k, n, o, l, c, ps, h1, _⟩ := one 0 (by omega)
      rw [Nat.zero_mul] at h1
      obtain ⟨b, off, rfl⟩ := spot_none h1
      obtain ⟨f, hf, hA, hwf⟩ := at_of_cells (b := b) (off := off) (len := len) (w := w) (fun i hi => by
        obtain ⟨k, n, o, l, c, ps, h1, h2, h3, h4⟩ := one i hi
        exact ⟨k, n, o, l, c, ps, by simpa [Addr.add_lit] using h1, by simpa [Addr.add_lit, Nat.add_assoc] using h2, by simpa [Addr.add_lit, Nat.add_assoc] using h3, h4⟩) len 0 (by omega)
      rw [Nat.zero_mul, Nat.add_zero] at hA
      exact ⟨_, _, _, f, rfl, ⟨hf.symm, by omega, fun _ => ⟨b, off, rfl, hA⟩⟩, hwf⟩
theorem open_agg {te : TypeId} {f0 f1 f2 : Field} (he : P.underlying te = some (.struct #[f0, f1, f2])) (ce : P.cellsOf te = 3)
    (o0 : f0.offset = 0) (o1 : f1.offset = 1) (o2 : f2.offset = 2) (c0 : P.cellsOf f0.type = 1) (c1 : P.cellsOf f1.type = 1) (c2 : P.cellsOf f2.type = 1) (k0 : P.underlying f0.type = some (.int .i64)) (k1 : P.underlying f1.type = some (.int .i64)) (k2 : P.underlying f2.type = some (.slice te))
    {fuel : Nat} {cs : List Value} {x : DataW H × List MemPlace} (h : DataW.trod enc P w base spare held fuel te cs = some x) : ∃ k n o len cap f, cs = [.int .i64 k, .int .i64 n, .slice o len cap] ∧ Slc w o len f ∧ wfI n ∧ wfF f := by
  obtain ⟨xs, n', hn', _, hcl, hxl, hfx⟩ := DataW.trod_struct he h
  rw [ce] at hcl
  match cs, hcl with
  | [u0, u1, u2], _ =>
    have hxl3 : xs.length = 3 := by simpa using hxl
    have s0 := hfx 0 f0 rfl
    have s1 := hfx 1 f1 rfl
    have s2 := hfx 2 f2 rfl
    rw [c0, o0, show xs[0]? = some (xs[0]'(by omega)) from by simp [hxl3]] at s0
    rw [c1, o1, show xs[1]? = some (xs[1]'(by omega)) from by simp [hxl3]] at s1
    rw [c2, o2, show xs[2]? = some (xs[2]'(by omega)) from by simp [hxl3]] at s2
    obtain ⟨z0, hz0, _, hw0⟩ := DataW.trod_int k0 s0
    obtain ⟨z1, hz1, _, hw1⟩ := DataW.trod_int k1 s1
    obtain ⟨o, l, c, ps, hz2, hps, hwp⟩ := open_parts he ce o0 o1 o2 c0 c1 c2 k0 k1 k2 n' f2.type _ _ k2 s2
    simp at hz0 hz1 hz2
    exact ⟨z0, z1, o, l, c, ps, by rw [hz0, hz1, hz2], hps, hw1, hwp⟩
end
section
variable {H : Type} {enc : TypeId × Value → H} {w : World} {base : Nat} {spare : Nat → Bool} {held : Bool}
/-- an argument that is a row of types -/
theorem open_types {ts : TypeId} {v : Value} {d : DataW H} {p : List MemPlace} (ht : Tryd.prog.underlying ts = some (.slice 24)) (hv : ∃ a len cap, v = .slice a len cap) (h : DataW.Trod enc Tryd.prog w base spare held ts v d p) : ∃ o n c f, v = .slice o n c ∧ Slc w o n f ∧ wfF f ∧ n ≤ c := by
  obtain ⟨a0, l0, cc0, rfl⟩ := hv
  obtain ⟨fuel, hf⟩ := h
  have hlc : l0 ≤ cc0 := by
    rcases DataW.trod_slice ht hf with ⟨he, _⟩ | ⟨a, len, cap, _, _, _, _, he, _, _, hl, _⟩
    · simp [Value.cells] at he; omega
    · simp [Value.cells] at he; omega
  obtain ⟨o, n, c, f, he, hs, hw⟩ := open_parts Tryd.underlying24 (by kernel_rfl) rfl rfl rfl (by kernel_rfl) (by kernel_rfl) (by kernel_rfl) Tryd.underlying3 Tryd.underlying3 Tryd.underlying22 fuel ts _ _ ht hf
  simp [Value.cells] at he
  obtain ⟨rfl, rfl, rfl⟩ := he
  exact ⟨_, _, _, f, rfl, hs, hw, hlc⟩
/-- an argument that is a type -/
theorem open_type {v : Value} {d : DataW H} {p : List MemPlace} (hv : ∃ cs, v = .agg cs ∧ cs.size = Tryd.prog.cellsOf 24) (h : DataW.Trod enc Tryd.prog w base spare held 24 v d p) : ∃ k n o len cap f, v = tyv k n o len cap ∧ Slc w o len f ∧ wfI n ∧ wfF f := by
  obtain ⟨cs, rfl, _⟩ := hv
  obtain ⟨fuel, hf⟩ := h
  obtain ⟨k, n, o, len, cap, f, he, hs, hw, hwf⟩ := open_agg Tryd.underlying24 (by kernel_rfl) rfl rfl rfl (by kernel_rfl) (by kernel_rfl) (by kernel_rfl) Tryd.underlying3 Tryd.underlying3 Tryd.underlying22 hf
  refine ⟨k, n, o, len, cap, f, ?_, hs, hw, hwf⟩
  unfold tyv
  congr 1
  apply Array.toList_inj.1
  simpa [Value.cells] using he
end
end Go.Proofs.YtggidhgifaekbaaDoor
/-
  Rows of binds and of equations that came in as arguments. No condition.
-/
namespace Go.Proofs.YtggidhgifaekbaaDoor
open Go.ChangeShapes Go.WideShapes Go.ChangeAt Go.RowKit

theorem list_of {α : Type} {P : Nat → α → Prop} : ∀ len : Nat, (∀ i, i < len → ∃ t, P i t) → ∃ l : List α, l.length = len ∧ ∀ i t, l[i]? = some t → P i t
  | 0, _ => ⟨[], rfl, fun i t h => by simp at h⟩
  | len + 1, h => by
    obtain ⟨l, hl, hp⟩ := list_of len (fun i hi => h i (by omega))
    obtain ⟨t, ht⟩ := h len (by omega)
    refine ⟨l ++ [t], by simp [hl], fun i u hu => ?_⟩
    by_cases hi : i < len
    · rw [List.getElem?_append_left (by omega)] at hu
      exact hp i u hu
    · have h2 : i < (l ++ [t]).length := (List.getElem?_eq_some_iff.1 hu).1
      have h3 : i = len := by simp [hl] at h2; omega
      subst h3
      rw [List.getElem?_append_right (by omega)] at hu
      simp [hl] at hu
      subst hu
      exact ht
section
variable {H : Type} {enc : TypeId × Value → H} {P : Program} {w : World} {base : Nat} {spare : Nat → Bool} {held : Bool}
theorem fields2 {te : TypeId} {f0 f1 : Field} {n0 n1 : Nat} (he : P.underlying te = some (.struct #[f0, f1])) (ce : P.cellsOf te = n0 + n1) (o0 : f0.offset = 0) (o1 : f1.offset = n0) (c0 : P.cellsOf f0.type = n0) (c1 : P.cellsOf f1.type = n1)
    {fuel : Nat} {cs : List Value} {x : DataW H × List MemPlace} (h : DataW.trod enc P w base spare held fuel te cs = some x) : ∃ (cs0 cs1 : List Value) (x0 x1 : DataW H × List MemPlace) (n : Nat), cs = cs0 ++ cs1 ∧ DataW.trod enc P w base spare held n f0.type cs0 = some x0 ∧ DataW.trod enc P w base spare held n f1.type cs1 = some x1 := by
  obtain ⟨xs, n', hn', _, hcl, hxl, hfx⟩ := DataW.trod_struct he h
  rw [ce] at hcl
  have hxl2 : xs.length = 2 := by simpa using hxl
  have s0 := hfx 0 f0 rfl
  have s1 := hfx 1 f1 rfl
  rw [c0, o0, show xs[0]? = some (xs[0]'(by omega)) from by simp [hxl2]] at s0
  rw [c1, o1, show xs[1]? = some (xs[1]'(by omega)) from by simp [hxl2]] at s1
  rw [List.drop_zero] at s0
  rw [List.take_of_length_le (by simp; omega)] at s1
  exact ⟨_, _, _, _, n', (List.take_append_drop n0 cs).symm, s0, s1⟩
theorem fields3 {te : TypeId} {f0 f1 f2 : Field} {n0 n1 n2 : Nat} (he : P.underlying te = some (.struct #[f0, f1, f2])) (ce : P.cellsOf te = n0 + n1 + n2) (o0 : f0.offset = 0) (o1 : f1.offset = n0) (o2 : f2.offset = n0 + n1) (c0 : P.cellsOf f0.type = n0) (c1 : P.cellsOf f1.type = n1) (c2 : P.cellsOf f2.type = n2)
    {fuel : Nat} {cs : List Value} {x : DataW H × List MemPlace} (h : DataW.trod enc P w base spare held fuel te cs = some x) : ∃ (cs0 cs1 cs2 : List Value) (x0 x1 x2 : DataW H × List MemPlace) (n : Nat), cs = cs0 ++ (cs1 ++ cs2) ∧ DataW.trod enc P w base spare held n f0.type cs0 = some x0 ∧ DataW.trod enc P w base spare held n f1.type cs1 = some x1 ∧ DataW.trod enc P w base spare held n f2.type cs2 = some x2 := by
  obtain ⟨xs, n', hn', _, hcl, hxl, hfx⟩ := DataW.trod_struct he h
  rw [ce] at hcl
  have hxl2 : xs.length = 3 := by simpa using hxl
  have s0 := hfx 0 f0 rfl
  have s1 := hfx 1 f1 rfl
  have s2 := hfx 2 f2 rfl
  rw [c0, o0, show xs[0]? = some (xs[0]'(by omega)) from by simp [hxl2]] at s0
  rw [c1, o1, show xs[1]? = some (xs[1]'(by omega)) from by simp [hxl2]] at s1
  rw [c2, o2, show xs[2]? = some (xs[2]'(by omega)) from by simp [hxl2]] at s2
  rw [List.drop_zero] at s0
  rw [List.take_of_length_le (by simp; omega)] at s2
  refine ⟨_, _, _, _, _, _, n', ?_, s0, s1, s2⟩
  rw [← List.drop_drop, List.take_append_drop, List.take_append_drop]
end
section
variable {H : Type} {enc : TypeId × Value → H} {w : World} {base : Nat} {spare : Nat → Bool} {held : Bool}
theorem open_typ {fuel : Nat} {cs : List Value} {x : DataW H × List MemPlace} (h : DataW.trod enc Tryd.prog w base spare held fuel 24 cs = some x) : ∃ k n o len cap f, cs = [.int .i64 k, .int .i64 n, .slice o len cap] ∧ Slc w o len f ∧ wfI n ∧ wfF f :=
  open_agg Tryd.underlying24 (by kernel_rfl) rfl rfl rfl (by kernel_rfl) (by kernel_rfl) (by kernel_rfl) Tryd.underlying3 Tryd.underlying3 Tryd.underlying22 h
theorem open_span {fuel : Nat} {cs : List Value} {x : DataW H × List MemPlace} (h : DataW.trod enc Tryd.prog w base spare held fuel 33 cs = some x) : ∃ k n, cs = [.int .i64 k, .int .i64 n] ∧ wfI k ∧ wfI n := by
  obtain ⟨cs0, cs1, x0, x1, n', rfl, s0, s1⟩ := fields2 (n0 := 1) (n1 := 1) Tryd.underlying33 (by kernel_rfl) rfl rfl (by kernel_rfl) (by kernel_rfl) h
  obtain ⟨z0, rfl, _, hw0⟩ := DataW.trod_int Tryd.underlying3 s0
  obtain ⟨z1, rfl, _, hw1⟩ := DataW.trod_int Tryd.underlying3 s1
  exact ⟨z0, z1, rfl, hw0, hw1⟩
theorem open_bind {fuel : Nat} {cs : List Value} {x : DataW H × List MemPlace} (h : DataW.trod enc Tryd.prog w base spare held fuel 91 cs = some x) : ∃ v k n o len cap f, cs = [.int .i64 v, .int .i64 k, .int .i64 n, .slice o len cap] ∧ Slc w o len f ∧ wfI v ∧ wfI n ∧ wfF f := by
  obtain ⟨cs0, cs1, x0, x1, n', rfl, s0, s1⟩ := fields2 (n0 := 1) (n1 := 3) Tryd.underlying91 (by kernel_rfl) rfl rfl (by kernel_rfl) (by kernel_rfl) h
  obtain ⟨z0, rfl, _, hw0⟩ := DataW.trod_int Tryd.underlying3 s0
  obtain ⟨k, n, o, len, cap, f, rfl, hs, hw1, hwf⟩ := open_typ s1
  exact ⟨z0, k, n, o, len, cap, f, rfl, hs, hw0, hw1, hwf⟩
theorem open_eq {fuel : Nat} {cs : List Value} {x : DataW H × List MemPlace} (h : DataW.trod enc Tryd.prog w base spare held fuel 93 cs = some x) : ∃ k1 n1 o1 l1 c1 p1 k2 n2 o2 l2 c2 p2 a b,
    cs = [.int .i64 k1, .int .i64 n1, .slice o1 l1 c1, .int .i64 k2, .int .i64 n2, .slice o2 l2 c2, .int .i64 a, .int .i64 b] ∧ (Slc w o1 l1 p1 ∧ wfI n1 ∧ wfF p1) ∧ (Slc w o2 l2 p2 ∧ wfI n2 ∧ wfF p2) ∧ wfI a ∧ wfI b := by
  obtain ⟨cs0, cs1, cs2, x0, x1, x2, n', rfl, s0, s1, s2⟩ := fields3 (n0 := 3) (n1 := 3) (n2 := 2) Tryd.underlying93 (by kernel_rfl) rfl rfl rfl (by kernel_rfl) (by kernel_rfl) (by kernel_rfl) h
  obtain ⟨k1, n1, o1, l1, c1, p1, rfl, hs1, hw1, hwf1⟩ := open_typ s0
  obtain ⟨k2, n2, o2, l2, c2, p2, rfl, hs2, hw2, hwf2⟩ := open_typ s1
  obtain ⟨a, b, rfl, ha, hb⟩ := open_span s2
  exact ⟨k1, n1, o1, l1, c1, p1, k2, n2, o2, l2, c2, p2, a, b, rfl, ⟨hs1, hw1, hwf1⟩, ⟨hs2, hw2, hwf2⟩, ha, hb⟩
/-- an argument that is a row of binds -/
theorem open_binds {ts : TypeId} {v : Value} {d : DataW H} {p : List MemPlace} (ht : Tryd.prog.underlying ts = some (.slice 91)) (hv : ∃ a len cap, v = .slice a len cap) (h : DataW.Trod enc Tryd.prog w base spare held ts v d p) :
    ∃ o c l, v = .slice o (List.length l) c ∧ BindsAt w o l ∧ (∀ t ∈ l, wfI t.1 ∧ wfI t.2.2.1 ∧ wfF t.2.2.2) ∧ l.length ≤ 9223372036854775807 ∧ l.length ≤ c := by
  obtain ⟨a0, l0, cc0, rfl⟩ := hv
  obtain ⟨fuel, hf⟩ := h
  rcases DataW.trod_slice ht hf with ⟨he, _⟩ | ⟨a, len, cap, elems, rest, n, hfu, he, _, _, hl, hm, hlen, hel, _⟩
  · simp [Value.cells] at he
    obtain ⟨rfl, rfl, rfl⟩ := he
    exact ⟨none, 0, [], rfl, fun i t h => by simp at h, fun t h => by simp at h, by simp, by simp⟩
  · simp [Value.cells] at he
    obtain ⟨rfl, rfl, rfl⟩ := he
    have hmx : l0 ≤ 9223372036854775807 := by unfold maxLen at *; omega
    have one : ∀ i, i < l0 → ∃ t : Bd, (∃ o len cap, w.cell? (a.add (i * 4)) = some (.int .i64 t.1) ∧ w.cell? (a.add (i * 4 + 1)) = some (.int .i64 t.2.1) ∧ w.cell? (a.add (i * 4 + 2)) = some (.int .i64 t.2.2.1) ∧ w.cell? (a.add (i * 4 + 3)) = some (.slice o len cap) ∧ Slc w o len t.2.2.2) ∧ wfI t.1 ∧ wfI t.2.2.1 ∧ wfF t.2.2.2 := by
      intro i hi
      have h1 := hel i hi
      rw [List.getElem?_eq_getElem (by omega)] at h1
      obtain ⟨cs', h2, h3⟩ := Option.bind_eq_some_iff.1 h1
      rw [show Tryd.prog.cellsOf 91 = 4 from by kernel_rfl] at h2
      obtain ⟨_, hcl, hcell⟩ := World.cells?_some h2
      obtain ⟨v, k, n, o, len, cap, f, rfl, hs, hw1, hw2, hwf⟩ := open_bind h3
      have e0 := hcell 0 (by omega)
      have e1 := hcell 1 (by omega)
      have e2 := hcell 2 (by omega)
      have e3 := hcell 3 (by omega)
      simp [Deep.add_add] at e0 e1 e2 e3
      exact ⟨(v, k, n, f), ⟨o, len, cap, e0, e1, e2, e3, hs⟩, hw1, hw2, hwf⟩
    obtain ⟨l, hll, hp⟩ := list_of l0 one
    subst hll
    refine ⟨some a, _, l, rfl, fun i t ht => ?_, fun t ht => ?_, hmx, hl⟩
    · obtain ⟨⟨o, len, cap, e0, e1, e2, e3, hs⟩, _⟩ := hp i t ht
      obtain ⟨t0, ht0⟩ : ∃ t0, l[0]? = some t0 := ⟨_, List.getElem?_eq_getElem (by have := (List.getElem?_eq_some_iff.1 ht).1; omega)⟩
      obtain ⟨⟨_, _, _, f0, _⟩, _⟩ := hp 0 t0 ht0
      rw [Nat.zero_mul] at f0
      obtain ⟨b, off, rfl⟩ := spot_none f0
      exact ⟨b, off, o, len, cap, rfl, by simpa [Addr.add_lit] using e0, by simpa [Addr.add_lit, Nat.add_assoc] using e1, by simpa [Addr.add_lit, Nat.add_assoc] using e2, by simpa [Addr.add_lit, Nat.add_assoc] using e3, hs⟩
    · obtain ⟨i, hi⟩ := List.getElem?_of_mem ht
      exact (hp i t hi).2
/-- an argument that is a row of equations -/
theorem open_eqs {ts : TypeId} {v : Value} {d : DataW H} {p : List MemPlace} (ht : Tryd.prog.underlying ts = some (.slice 93)) (hv : ∃ a len cap, v = .slice a len cap) (h : DataW.Trod enc Tryd.prog w base spare held ts v d p) :
    ∃ o c l, v = .slice o (List.length l) c ∧ EqsAt w o l ∧ (∀ t ∈ l, (wfI t.1.2.1 ∧ wfF t.1.2.2) ∧ wfI t.2.1.2.1 ∧ wfF t.2.1.2.2) ∧ l.length ≤ 9223372036854775807 ∧ l.length ≤ c := by
  obtain ⟨a0, l0, cc0, rfl⟩ := hv
  obtain ⟨fuel, hf⟩ := h
  rcases DataW.trod_slice ht hf with ⟨he, _⟩ | ⟨a, len, cap, elems, rest, n, hfu, he, _, _, hl, hm, hlen, hel, _⟩
  · simp [Value.cells] at he
    obtain ⟨rfl, rfl, rfl⟩ := he
    exact ⟨none, 0, [], rfl, fun i t h => by simp at h, fun t h => by simp at h, by simp, by simp⟩
  · simp [Value.cells] at he
    obtain ⟨rfl, rfl, rfl⟩ := he
    have hmx : l0 ≤ 9223372036854775807 := by unfold maxLen at *; omega
    have one : ∀ i, i < l0 → ∃ t : Eqn, (∃ o1 l1 c1 o2 l2 c2, w.cell? (a.add (i * 8)) = some (.int .i64 t.1.1) ∧ w.cell? (a.add (i * 8 + 1)) = some (.int .i64 t.1.2.1) ∧ w.cell? (a.add (i * 8 + 2)) = some (.slice o1 l1 c1) ∧
        w.cell? (a.add (i * 8 + 3)) = some (.int .i64 t.2.1.1) ∧ w.cell? (a.add (i * 8 + 4)) = some (.int .i64 t.2.1.2.1) ∧ w.cell? (a.add (i * 8 + 5)) = some (.slice o2 l2 c2) ∧
        w.cell? (a.add (i * 8 + 6)) = some (.int .i64 t.2.2.1) ∧ w.cell? (a.add (i * 8 + 7)) = some (.int .i64 t.2.2.2) ∧ Slc w o1 l1 t.1.2.2 ∧ Slc w o2 l2 t.2.1.2.2) ∧ (wfI t.1.2.1 ∧ wfF t.1.2.2) ∧ wfI t.2.1.2.1 ∧ wfF t.2.1.2.2 := by
      intro i hi
      have h1 := hel i hi
      rw [List.getElem?_eq_getElem (by omega)] at h1
      obtain ⟨cs', h2, h3⟩ := Option.bind_eq_some_iff.1 h1
      rw [show Tryd.prog.cellsOf 93 = 8 from by kernel_rfl] at h2
      obtain ⟨_, hcl, hcell⟩ := World.cells?_some h2
      obtain ⟨k1, n1, o1, l1, c1, p1, k2, n2, o2, l2, c2, p2, sa, sb, rfl, ⟨hs1, hw1, hwf1⟩, ⟨hs2, hw2, hwf2⟩, _, _⟩ := open_eq h3
      have e0 := hcell 0 (by omega)
      have e1 := hcell 1 (by omega)
      have e2 := hcell 2 (by omega)
      have e3 := hcell 3 (by omega)
      have e4 := hcell 4 (by omega)
      have e5 := hcell 5 (by omega)
      have e6 := hcell 6 (by omega)
      have e7 := hcell 7 (by omega)
      simp [Deep.add_add] at e0 e1 e2 e3 e4 e5 e6 e7
      exact ⟨((k1, n1, p1), (k2, n2, p2), sa, sb), ⟨o1, l1, c1, o2, l2, c2, e0, e1, e2, e3, e4, e5, e6, e7, hs1, hs2⟩, ⟨hw1, hwf1⟩, hw2, hwf2⟩
    obtain ⟨l, hll, hp⟩ := list_of l0 one
    subst hll
    refine ⟨some a, _, l, rfl, fun i t ht => ?_, fun t ht => ?_, hmx, hl⟩
    · obtain ⟨⟨o1, l1, c1, o2, l2, c2, e0, e1, e2, e3, e4, e5, e6, e7, hs1, hs2⟩, _⟩ := hp i t ht
      obtain ⟨t0, ht0⟩ : ∃ t0, l[0]? = some t0 := ⟨_, List.getElem?_eq_getElem (by have := (List.getElem?_eq_some_iff.1 ht).1; omega)⟩
      obtain ⟨⟨_, _, _, _, _, _, f0, _⟩, _⟩ := hp 0 t0 ht0
      rw [Nat.zero_mul] at f0
      obtain ⟨b, off, rfl⟩ := spot_none f0
      exact ⟨b, off, o1, l1, c1, o2, l2, c2, rfl, by simpa [Addr.add_lit] using e0, by simpa [Addr.add_lit, Nat.add_assoc] using e1, by simpa [Addr.add_lit, Nat.add_assoc] using e2, by simpa [Addr.add_lit, Nat.add_assoc] using e3, by simpa [Addr.add_lit, Nat.add_assoc] using e4, by simpa [Addr.add_lit, Nat.add_assoc] using e5, by simpa [Addr.add_lit, Nat.add_assoc] using e6, by simpa [Addr.add_lit, Nat.add_assoc] using e7, hs1, hs2⟩
    · obtain ⟨i, hi⟩ := List.getElem?_of_mem ht
      exact (hp i t hi).2
end
end Go.Proofs.YtggidhgifaekbaaDoor
/-
  What the rows' condition on listed variables gives: the table of powers of ten holds what its initialiser lays; a world that meets it (the door's own). No condition.
-/
namespace Go.Proofs.YtggidhgifaekbaaDoor
open Go.ChangeShapes Go.WideShapes Go.ChangeAt Go.RowKit

def doorSteps : Nat := 48
def laidL : List (String × DataW Unit) := [("math/bits.deBruijn32tab", Rows.laid_math_bits_deBruijn32tab), ("math/bits.deBruijn64tab", Rows.laid_math_bits_deBruijn64tab), ("internal/strconv.uint64pow10", Rows.laid_internal_strconv_uint64pow10)]
set_option maxRecDepth 100000 in
theorem pow10_data : (Rows.laid_internal_strconv_uint64pow10 : DataW Unit) = Lib.tabData .u64 Lib.pow10Tab := by rfl
set_option maxRecDepth 100000 in
theorem door_met (os : Os) (args : Array Value) : laidMetH Tryd.prog laidL ((World.doorLaid Tryd.prog doorSteps os).forCall (fun _ _ => 0) ⟨#[], args, []⟩).memory :=
  laidMetH_of_parts3 (fuel := 8) (laidMet_of_run' 8 (by kernel_rfl) (by kernel_rfl)) (by kernel_rfl) (by kernel_rfl)
set_option maxRecDepth 100000 in
theorem pow10_of_laid {W : World} (h : laidMetH Tryd.prog laidL W) : Pow10 W := by
  rw [MakeChecks.laidMetH_plain _ _ _ (by kernel_rfl)] at h
  have h2 := laidMet.tail (laidMet.tail h)
  rw [pow10_data] at h2
  exact Lib.tabIs_of_head (g := 3) (n := 20) (by kernel_rfl) (by kernel_rfl) (t := 160) (e := 148) Tryd.underlying160 Tryd.underlying148 (by kernel_rfl) (by kernel_rfl) h2
end Go.Proofs.YtggidhgifaekbaaDoor
/-
  SubstApplies: for every argument the call returns true, and nothing of what was there turns: the row, and its tied card. Condition: the listed variables hold what the row lists (the card ties that to the program's text).
-/
namespace Go.Proofs.YtggidhgifaekbaaDoor
open Go.ChangeShapes Go.WideShapes Go.ChangeAt Go.RowKit

set_option maxRecDepth 100000 in
theorem substApplies_lifted (os : Os) (started : os.Started) (H : Type) (enc : TypeId × Value → H) :
    ReturnsInHanded {} Tryd.checked os 12 .any (fun w args => (Rows.substAppliesSpec.pre enc Tryd.prog Tryd.f12 [] false w args ∧ laidMetH Tryd.prog laidL w) ∧ sizedMet enc Tryd.prog Tryd.f12 (OpenSpec.ofChange Rows.substAppliesSpec) false w args)
      (Rows.substAppliesSpec.post enc Tryd.prog Tryd.f12 false true false false) := by
  refine returnsInHanded_of_change_and (C := Tryd.checked) (X := fun w _ => laidMetH Tryd.prog laidL w) (fun _ _ _ hh h => h.of_heap hh) own started (by kernel_rfl) Tryd.func12
    (ChangeSpec.witness_shaped (enc := enc) (C := Tryd.checked) (os := os) (X := fun w _ => laidMetH Tryd.prog laidL w) false (World.doorLaid Tryd.prog doorSteps os) #[.slice none 0 0, .agg #[.int .i64 0, .int .i64 0, .slice none 0 0]] 8 rfl (World.shaped_of_RefB (by kernel_rfl) (by kernel_rfl)) (by kernel_rfl) (by kernel_rfl) (by kernel_rfl) (door_met os _)) ?_
  intro W base args ds gs before hval0 hW _ _ hL _
  have hval : ∀ (j : Nat) t v, Tryd.f12.params[j]? = some t → args[j]? = some v → Value.okWide Tryd.prog W .any base t v := hval0
  have hW' := hW
  obtain ⟨p, q, hA0, hV, rfl, hfz, hnd⟩ := hW
  have hA : DataW.TrodAll enc Tryd.prog W 0 (fun _ => true) true Tryd.f12.params.toList args.toList ds p := hA0
  rw [Tryd.params12] at hA hval
  have hS := pow10_of_laid hL
  obtain ⟨v0, vs0, d0, ds0, p0, q0, hargs, rfl, rfl, h0, r0⟩ := trodAll_cons hA
  obtain ⟨v1, vs1, d1, ds1, p1, q1, rfl, rfl, rfl, h1, r1⟩ := trodAll_cons r0
  obtain ⟨rfl, rfl, rfl⟩ := trodAll_nil r1
  obtain rfl : args = #[v0, v1] := by cases args; simp_all
  obtain ⟨rfl, rfl⟩ := trodVars_none hV
  obtain ⟨o0, c0, l, rfl, hs0, hw0, hz0, hc0⟩ := open_binds Tryd.underlying49 (okWide_slice Tryd.underlying49 (hval 0 49 v0 rfl rfl)) h0
  obtain ⟨k, n, o, len, cap, f, rfl, hs, hwn, hwf⟩ := open_type (okWide_struct Tryd.underlying24 (hval 1 24 v1 rfl rfl)) h1
  refine (substApplies_all l k n f W o0 c0 o len cap hs0 hs hw0 hwn hwf hz0 hS).mono fun e W' ⟨he, hg⟩ => ?_
  subst he
  exact ⟨_, rfl, law_post hW' rfl rfl rfl rfl rfl (by kernel_rfl) (Fr.below hg (Nat.le_refl _) (fun _ h => h.elim))⟩

theorem substApplies_holds : Rows.SubstAppliesSaid :=
  OpenClaim.holds_of_wide 12 Tryd.f12 rfl rfl rfl rfl rfl rfl rfl ⟨rfl, rfl, rfl, rfl, rfl⟩ rfl rfl rfl rfl rfl (by kernel_rfl) Tryd.func12 (by kernel_rfl)
    (of_decide_eq_true (by kernel_rfl)) (by unfold Func.isWrapper; first | (rw [if_pos (by decide +kernel)]; kernel_rfl) | (rw [if_neg (by decide +kernel)]; exact ⟨rfl, rfl⟩))
    (fun os started H enc _ => substApplies_lifted os started H enc)
theorem substApplies_card : Rows.SubstAppliesCardSaid :=
  Claim7.holds_tied_plain_at .later [] [.data, .data, .data] true Rows.substAppliesCard.stood.harness Rows.substAppliesCard.stood.looks
    substApplies_holds (fun _ h => by cases h) (by kernel_rfl) (fun _ h => by cases h) substApplies_row_tie rfl ⟨rfl, rfl⟩ (by kernel_rfl) rfl
    (fun f fn hf hfn => by
      obtain rfl : f = 12 := Option.some.inj ((show Tryd.prog.funcNamed Rows.substAppliesRow.func = some 12 by kernel_rfl).symm.trans hf) |>.symm
      obtain rfl : fn = Tryd.f12 := (Option.some.inj (Tryd.func12.symm.trans hfn)).symm
      exact ⟨by kernel_rfl, fun j t ht => by
        rw [Tryd.params12] at ht
        have hm : t ∈ [49, 24] := by simpa using Array.mem_of_getElem? ht
        have hall : ([49, 24].all fun u => !Tryd.prog.wantsStandIn u) = true := by kernel_rfl
        exact (show Tryd.prog.wantsStandIn t = false by simpa using List.all_eq_true.1 hall t hm)⟩)
    (by kernel_rfl)
end Go.Proofs.YtggidhgifaekbaaDoor
