/-
  The program's Apply; the document's example of chapter 10. Conditions: what is in memory is as told.
-/
import Derived.Test.YtggidhgifaekbaaDoorSuSolves
namespace Go.Proofs.YtggidhgifaekbaaDoor
open Go.RowKit Go.Maps

theorem Quiet0.fr {S : Nat → Prop} {w w' : World} (h : Quiet0 w w') : Fr S w w' := h.mono (fun _ _ h => h.elim)
theorem with_frq {S : Nat → Prop} {w0 W w3 : World} {G : Prop} (h : Fr S w0 W) (hq : Quiet0 W w3) (k : Fr S w0 w3 → G) : G := k (h.trans hq.fr)
set_option maxHeartbeats 4000000 in
set_option maxRecDepth 100000 in
theorem applyT_any (l : List Bd) (k n : Int) (ps : Fo) (w : World) (o : Option Addr) (cap : Nat) (ot : Option Addr) (lent capt : Nat) (hs : BindsAt w o l) (hst : Slc w ot lent ps) (hw : ∀ t ∈ l, wfI t.1) (hz : l.length ≤ 100000) (hl : ∀ t ∈ l, t.2.2.2.size ≤ 1000000)
    (hsz : ps.size ≤ 1000000) (hn : wfI n) (hwf : wfF ps) (k' n' : Int) (ps' : Fo) (e1 : sK l k n = k') (e2 : sN l k n = n') (e3 : sP l k n ps = ps') :
    Calls Tryd.prog 57 #[.slice o l.length cap, .agg #[.int .i64 k, .int .i64 n, .slice ot lent capt]] w fun e w' => ∃ o' len' cap', e = .returned (.agg #[.int .i64 k', .int .i64 n', .slice o' len' cap']) ∧ SlcIn (fun b => w.heap.size ≤ b) w' o' len' ps' ∧ Quiet0 w w' := by
  have HT := Lib.hid (fun (W : World) (hq : Quiet0 w W) => table_any l W o cap (hs.stay hq) hw hz)
  have HA : Hid (∀ W b m q, Quiet0 w W → MapT W b m q → TabAt W q (findB l) → Calls Tryd.prog 88 #[.map (some b), .agg #[.int .i64 k, .int .i64 n, .slice ot lent capt]] W fun e w' => ∃ o' len' cap', e = .returned (.agg #[.int .i64 k', .int .i64 n', .slice o' len' cap']) ∧ SlcIn (fun b => W.heap.size ≤ b) w' o' len' ps' ∧ Quiet0 W w') := by
    intro W b m q hq hm ht
    subst e1 e2 e3
    refine (apply_any l hl k n ps W ot lent capt b m q hm ht (hst.stay hq) hsz hn hwf).mono ?_
    rintro e w' ⟨o', len', cap', rfl, h1, h2⟩
    exact ⟨o', len', cap', rfl, h1, h2⟩
  clear hs hst hw hl hn hwf e1 e2 e3
  obtain ⟨W1, hW1⟩ : ∃ W1, W1 = (w.alloc (.cells #[.int .i64 k, .int .i64 n, .slice ot lent capt] 24)).alloc (.cells #[.int .i64 0, .int .i64 0, .slice none 0 0] 24) := ⟨_, rfl⟩
  have HQ1 : Hid (Quiet0 w W1) := by rw [hW1]; exact (Quiet0.alloc _ _).trans (Quiet0.alloc _ _)
  have HB0 : Hid (W1.heap[w.heap.size]? = some (.cells #[.int .i64 k, .int .i64 n, .slice ot lent capt] 24 (0, 0))) := by rw [hW1]; exact box_after (heap_alloc_new w _) (Quiet0.alloc _ _)
  have HB1 : Hid (W1.heap[w.heap.size + 1]? = some (.cells #[.int .i64 0, .int .i64 0, .slice none 0 0] 24 (0, 0))) := by
    rw [hW1, show w.heap.size + 1 = (w.alloc (.cells #[.int .i64 k, .int .i64 n, .slice ot lent capt] 24)).heap.size from by simp]; exact heap_alloc_new _ _
  go_enter Tryd.func57, Tryd.ntmps57
  go_upto_region 1 with fail
  rw [← hW1]
  clear hW1
  generalize hB : w.heap.size = B at *
  have HBE := Lib.hid hB
  clear hB
  have hqc := Quiet0.refl W1
  have HBC : Hid (∀ w', Fr (fun j => B < j) W1 w' → w'.cell? ⟨B, 0, none⟩ = some (.int .i64 k) ∧ w'.cell? ⟨B, 1, none⟩ = some (.int .i64 n) ∧ w'.cell? ⟨B, 2, none⟩ = some (.slice ot lent capt)) := by
    intro w' h
    have hb : w'.heap[B]? = some (.cells #[.int .i64 k, .int .i64 n, .slice ot lent capt] 24 (0, 0)) := by rw [h.block B (lt_of_block HB0.out) (fun h => by omega)]; exact HB0.out
    obtain ⟨a0, a1, a2, _⟩ := box_cells3 hb
    exact ⟨a0, a1, a2⟩
  obtain ⟨a0, a1, a2⟩ := HBC.out W1 (Fr.refl _ _)
  go_region_held3 (fun w' => w'.cell? ⟨B, 0, none⟩ = some (.int .i64 k) ∧ w'.cell? ⟨B, 1, none⟩ = some (.int .i64 n) ∧ w'.cell? ⟨B, 2, none⟩ = some (.slice ot lent capt))
    (((refine HBC.out _ ?_); (repeat (first | with_reducible exact HFR | with_reducible exact Quiet0.fr hqc | with_reducible exact Fr.refl _ _ | with_reducible refine Fr.trans ?_ (Fr.alloc _ _ _) | with_reducible refine Fr.trans ?_ (Fr.drew _ _) | ((with_reducible refine Fr.trans ?_ (Fr.setCell _ _ _ _ ?hsd)); (case hsd => (simp <;> omega))) | fail))))
    (first
      | (go_at_call 85; (with_reducible refine Calls.mono (HT.out _ (HQ1.out.trans ?hq)) ?_); (case hq => (repeat (first | with_reducible exact hqc | with_reducible exact Quiet0.refl _ | with_reducible refine Quiet0.trans ?_ (Quiet0.alloc _ _) | with_reducible refine Quiet0.trans ?_ (Quiet0.drew _) | fail))); rintro e wx ⟨b, m, q, rfl, hb, hm, ht, hqx⟩; (refine with_q (w0 := W1) ?hq2 hqx ?_); (case hq2 => (repeat (first | with_reducible exact hqc | with_reducible exact Quiet0.refl _ | with_reducible refine Quiet0.trans ?_ (Quiet0.alloc _ _) | with_reducible refine Quiet0.trans ?_ (Quiet0.drew _) | fail))); intro hqc)
      | (go_at_call 88; (with_reducible refine Calls.mono (HA.out _ _ _ _ (HQ1.out.trans ?hq) hm ht) ?_); (case hq => (repeat (first | with_reducible exact hqc | with_reducible exact Quiet0.refl _ | with_reducible refine Quiet0.trans ?_ (Quiet0.alloc _ _) | with_reducible refine Quiet0.trans ?_ (Quiet0.drew _) | fail))); rintro e wx ⟨oa, la, ca, rfl, hsa, hqx⟩; ((have HZ9 := Lib.hid hqc.size); (refine box_use (box_after HB1.out (hqc.trans hqx)) ?_; intro f0 f1 f2 y0 y1 y2 hzz)); (refine with_q (w0 := W1) ?hq2 hqx ?_); (case hq2 => (repeat (first | with_reducible exact hqc | with_reducible exact Quiet0.refl _ | with_reducible refine Quiet0.trans ?_ (Quiet0.alloc _ _) | with_reducible refine Quiet0.trans ?_ (Quiet0.drew _) | fail))); intro hqc)
      | fail)
  go_wp2_with fail
  have hf := put3_fr wx (B + 1) (.int .i64 k') (.int .i64 n') (.slice oa la ca)
  obtain ⟨g0, g1, g2⟩ := put3_cells (a := .int .i64 k') (b := .int .i64 n') (c := .slice oa la ca) hzz
  change bodyPost _ _ _ _ _ (put3 wx (B + 1) (.int .i64 k') (.int .i64 n') (.slice oa la ca))
  have hq1 := HQ1.out.size
  have hz1 := hqx.size
  have hz9 := HZ9.out
  have hz2 := hqc.size
  have hz3 : w.heap.size = B := HBE.out
  have hlb1 := lt_of_block HB1.out
  have HSA := Lib.hid hsa
  have HQC := Lib.hid hqc
  clear hsa hm ht hb
  generalize put3 wx (B + 1) (.int .i64 k') (.int .i64 n') (.slice oa la ca) = wf at *
  refine bodyPost_ret (by simp [results, Tryd.results57, go_sem, g0, g1, g2]; rfl) rfl ?_
  refine ⟨oa, la, ca, rfl, HSA.out.fr hf ?_, ?_⟩
  · intro j hj1 hj
    have hj' : _ ≤ j := hj
    exact ⟨by show w.heap.size ≤ j; omega, fun h => by have h' : j = B + 1 := h; omega⟩
  · exact Fr.trans' (HQ1.out.trans HQC.out) hf (fun i hi h => by have h' : i = B + 1 := h; omega)
set_option maxHeartbeats 4000000 in
set_option maxRecDepth 100000 in
theorem awake10_any (w : World) (ht : Pow10 w) : Calls Tryd.prog 40 #[] w fun e w' => e = .returned (.bool true) ∧ Quiet0 w w' := by
  have HT := Lib.hid ht
  have HV := Lib.hid (fun n => var_any n)
  clear ht
  obtain ⟨PA, hPA⟩ : ∃ PA : Fo, PA = .cons 1 0 .nil (.cons 1 1 .nil .nil) := ⟨_, rfl⟩
  obtain ⟨PR, hPR⟩ : ∃ PR : Fo, PR = .cons 2 0 .nil (.cons 1 1 .nil .nil) := ⟨_, rfl⟩
  have HA1 : Hid (∀ W b, W.heap[b]? = some (.cells #[.int .i64 1, .int .i64 0, .slice none 0 0, .int .i64 1, .int .i64 1, .slice none 0 0] 24 (0, 0)) → Calls Tryd.prog 20 #[.slice (some ⟨b, 0, none⟩) 2 2] W fun e w' => ∃ o' cap', e = .returned (.agg #[.int .i64 4, .int .i64 0, .slice o' 2 cap']) ∧ Slc w' o' 2 PA ∧ Quiet0 W w') := by
    intro W b hb; rw [hPA]
    refine (arrow2 W b 1 0 none 0 0 .nil 1 1 none 0 0 .nil hb (Slc.nil _ _) (Slc.nil _ _) (by simp [Fo.size])).mono ?_
    rintro e w' ⟨o', c', rfl, hs, hq⟩
    exact ⟨o', c', rfl, hs.slc, hq⟩
  have HAP : Hid (∀ W b o c, W.heap[b]? = some (.cells #[.int .i64 0, .int .i64 2, .int .i64 0, .slice none 0 0] 91 (0, 0)) → Slc W o 2 PA → Calls Tryd.prog 57 #[.slice (some ⟨b, 0, none⟩) 1 1, .agg #[.int .i64 4, .int .i64 0, .slice o 2 c]] W fun e w' => ∃ o' cap', e = .returned (.agg #[.int .i64 4, .int .i64 0, .slice o' 2 cap']) ∧ Slc w' o' 2 PR ∧ Quiet0 W w') := by
    intro W b o c hb hs
    have hbd : BindsAt W (some ⟨b, 0, none⟩) [(0, 2, 0, .nil)] := by
      intro i t ht
      match i, ht with
      | 0, ht =>
        simp at ht
        subst ht
        exact ⟨b, 0, none, 0, 0, rfl, by rw [cell_of_row _ _ _ _ _ (0, 0) hb]; rfl, by rw [cell_of_row _ _ _ _ _ (0, 0) hb]; rfl, by rw [cell_of_row _ _ _ _ _ (0, 0) hb]; rfl, by rw [cell_of_row _ _ _ _ _ (0, 0) hb]; rfl, Slc.nil _ _⟩
      | i + 1, ht => simp at ht
    have h := applyT_any [(0, 2, 0, .nil)] 4 0 PA W (some ⟨b, 0, none⟩) 1 o 2 c hbd hs (by intro t ht; simp at ht; subst ht; exact wfI_of (by omega) (by omega)) (by simp) (by intro t ht; simp at ht; subst ht; simp [Fo.size])
      (by rw [hPA]; simp [Fo.size]) (wfI_of (by omega) (by omega)) (by rw [hPA]; exact ⟨wfI_of (by omega) (by omega), trivial, wfI_of (by omega) (by omega), trivial, trivial⟩) 4 0 PR rfl rfl (by rw [hPA, hPR]; rfl)
    refine h.mono ?_
    rintro e w' ⟨o', l', c', rfl, h1, h2⟩
    have hl : l' = 2 := by have := h1.1; rw [hPR] at this; exact this
    subst hl
    exact ⟨o', c', rfl, h1.slc, h2⟩
  have HP : Hid (∀ W o cap, Slc W o 2 PR → Pow10 W → Calls Tryd.prog 17 #[.agg #[.int .i64 4, .int .i64 0, .slice o 2 cap]] W fun e w' => e = .returned (.string ⟨#[105, 110, 116, 32, 45, 62, 32, 39, 98]⟩) ∧ Quiet0 W w') := by
    intro W o cap hs hp
    have h := print_any 4 0 PR W o 2 cap hs (by rw [hPR]; simp [Fo.size]) hp
    have e : tb (printT 4 0 PR) = ⟨#[105, 110, 116, 32, 45, 62, 32, 39, 98]⟩ := by rw [hPR]; rfl
    rw [e] at h; exact h
  clear hPA hPR
  unfold tyv at *
  go_enter Tryd.func40, Tryd.ntmps40
  go_wp2_with fail
  generalize hB : w.heap.size = B at *
  obtain ⟨W0, hW0⟩ : ∃ W0, W0 = w.alloc (.cells #[.int .i64 0, .int .i64 2, .int .i64 0, .slice none 0 0] 91) := ⟨_, rfl⟩
  have HB : Hid (W0.heap[B]? = some (.cells #[.int .i64 0, .int .i64 2, .int .i64 0, .slice none 0 0] 91 (0, 0))) := by rw [hW0, ← hB]; exact heap_alloc_new _ _
  have HQ0 : Hid (Quiet0 w W0) := by rw [hW0]; exact Quiet0.alloc _ _
  rw [← hW0]
  clear hW0 hB
  refine (HV.out 0 _).mono ?_; rintro e w1 ⟨rfl, hq1⟩
  have HQ1 := Lib.hid hq1
  clear hq1
  go_wp2_with fail
  refine (HV.out 1 _).mono ?_; rintro e w2 ⟨rfl, hq2⟩
  have HQ2 := Lib.hid (HQ1.out.trans hq2)
  clear hq2
  go_wp2_with fail
  refine (HA1.out _ _ (heap_alloc_new _ _)).mono ?_; rintro e w3 ⟨oa, ca, rfl, hsa, hq3⟩
  have HQ3 := Lib.hid ((HQ2.out.trans (Quiet0.alloc _ _)).trans hq3)
  have HSA := Lib.hid hsa
  clear hq3 hsa
  go_wp2_with fail
  refine (HAP.out _ _ _ _ (blk_after HQ3.out HB.out) HSA.out).mono ?_; rintro e w4 ⟨or, cr, rfl, hsr, hq4⟩
  have HQ4 := Lib.hid (HQ3.out.trans hq4)
  have HSR := Lib.hid hsr
  clear hq4 hsr
  go_wp2_with fail
  refine (HP.out _ _ _ (HSR.out.stay (Quiet0.alloc _ _)) (HT.out.stay ((HQ0.out.trans HQ4.out).trans (Quiet0.alloc _ _)))).mono ?_; rintro e w5 ⟨rfl, hq5⟩
  go_wp2_with fail
  go_ret
  exact ⟨rfl, ((HQ0.out.trans HQ4.out).trans (Quiet0.alloc _ _)).trans hq5⟩
end Go.Proofs.YtggidhgifaekbaaDoor
