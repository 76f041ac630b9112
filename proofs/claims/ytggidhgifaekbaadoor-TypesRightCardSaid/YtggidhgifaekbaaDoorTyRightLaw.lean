/-
  The law TypesRight: it returns true. Conditions: the types lie in memory; their numbers are in range; the table of powers of ten holds what its initialiser lays.
-/
import Derived.Test.YtggidhgifaekbaaDoorTyInts
import Derived.Test.YtggidhgifaekbaaDoorTySame2
import Derived.Test.YtggidhgifaekbaaDoorTyPrintLaw
namespace Go.Proofs.YtggidhgifaekbaaDoor
open Go.RowKit Go.Maps

theorem slc1 {W : World} {b : Nat} {k n : Int} {o : Option Addr} {len cap : Nat} {ps : Fo} (hb : W.heap[b]? = some (.cells #[.int .i64 k, .int .i64 n, .slice o len cap] 24 (0, 0))) (h1 : Slc W o len ps) : Slc W (some ⟨b, 0, none⟩) 1 (.cons k n ps .nil) :=
  ⟨rfl, by decide, fun _ => ⟨_, 0, rfl, by rw [cell_of_row _ _ _ _ _ (0, 0) hb]; rfl, by rw [cell_of_row _ _ _ _ _ (0, 0) hb]; rfl, ⟨o, len, cap, by rw [cell_of_row _ _ _ _ _ (0, 0) hb]; rfl, h1.1, h1.2.1, h1.2.2⟩, trivial⟩⟩
set_option maxHeartbeats 4000000 in
set_option maxRecDepth 100000 in
theorem typesRight_all (k n k2 n2 v : Int) (ps ps2 : Fo) (w : World) (o : Option Addr) (len cap : Nat) (o2 : Option Addr) (len2 cap2 : Nat) (hs : Slc w o len ps) (hs2 : Slc w o2 len2 ps2) (hn : wfI n) (hw : wfF ps) (hn2 : wfI n2) (hw2 : wfF ps2) (ht : Pow10 w) :
    Calls Tryd.prog 9 #[tyv k n o len cap, tyv k2 n2 o2 len2 cap2, .int .i64 v] w fun e w' => e = .returned (.bool true) ∧ Quiet0 w w' := by
  have HA : Hid (∀ W, Quiet0 w W → Calls Tryd.prog 15 #[] W fun e w' => e = .returned (.bool true) ∧ Quiet0 W w') := fun W hq => awake_any W (ht.stay hq)
  have HG : Hid (∀ W, Quiet0 w W → Calls Tryd.prog 14 #[.agg #[.int .i64 k, .int .i64 n, .slice o len cap]] W fun e w' => e = .returned (.bool (greatF ps)) ∧ Quiet0 W w') := fun W hq => great_any k n ps W o len cap (hs.stay hq)
  have HG2 : Hid (∀ W, Quiet0 w W → Calls Tryd.prog 14 #[.agg #[.int .i64 k2, .int .i64 n2, .slice o2 len2 cap2]] W fun e w' => e = .returned (.bool (greatF ps2)) ∧ Quiet0 W w') := fun W hq => great_any k2 n2 ps2 W o2 len2 cap2 (hs2.stay hq)
  obtain ⟨W0, hW0⟩ : ∃ W0, W0 = (w.alloc (.cells #[.int .i64 k, .int .i64 n, .slice o len cap] 24)).alloc (.cells #[.int .i64 k2, .int .i64 n2, .slice o2 len2 cap2] 24) := ⟨_, rfl⟩
  have HQ0 : Hid (Quiet0 w W0) := by rw [hW0]; exact (Quiet0.alloc _ _).trans (Quiet0.alloc _ _)
  have HBX : Hid (∀ W, Quiet0 W0 W → (W.cell? ⟨w.heap.size, 0, none⟩ = some (.int .i64 k) ∧ W.cell? ⟨w.heap.size, 1, none⟩ = some (.int .i64 n) ∧ W.cell? ⟨w.heap.size, 2, none⟩ = some (.slice o len cap)) ∧ W.cell? ⟨w.heap.size + 1, 0, none⟩ = some (.int .i64 k2) ∧ W.cell? ⟨w.heap.size + 1, 1, none⟩ = some (.int .i64 n2) ∧ W.cell? ⟨w.heap.size + 1, 2, none⟩ = some (.slice o2 len2 cap2)) := by
    intro W hq; rw [hW0] at hq; exact box_cells2 w k n o len cap k2 n2 o2 len2 cap2 _ W hq
  cases hg : greatF ps
  · cases hg2 : greatF ps2
    · have hsz : ps.size ≤ 1000 := by have := great_size hg; omega
      have hsz2 : ps2.size ≤ 1000 := by have := great_size hg2; omega
      rw [hg] at HG
      rw [hg2] at HG2
      obtain ⟨L1, hL1⟩ : ∃ L1, L1 = Fo.vars [] (.cons k n ps .nil) := ⟨_, rfl⟩
      have hll : L1.length ≤ 2000 := by rw [hL1]; have := vars_len (.cons k n ps .nil) []; simp only [Fo.size, List.length_nil] at this; omega
      obtain ⟨L2, hL2⟩ : ∃ L2, L2 = Fo.vars L1 (.cons k2 n2 ps2 .nil) := ⟨_, rfl⟩
      have hll2 : L2.length ≤ 4000 := by rw [hL2]; have := vars_len (.cons k2 n2 ps2 .nil) L1; simp only [Fo.size] at this; omega
      have HRV : Hid (∀ W, Quiet0 w W → Calls Tryd.prog 43 #[.agg #[.int .i64 k, .int .i64 n, .slice o len cap], .slice none 0 0] W fun e w' => ∃ a c, e = .returned (.slice a L1.length c) ∧ IntsAt w' a L1 ∧ Quiet0 W w') := by
        intro W hq
        refine (refVars_any k n ps W o len cap (.slice none 0 0) [] (hs.stay hq) ⟨none, 0, rfl, fun i x h => by simp at h⟩ (by simp; omega)).mono ?_
        rintro e w' ⟨vo, rfl, ⟨a, c, rfl, h1⟩, h2⟩
        rw [← hL1] at h1
        rw [← hL1]
        exact ⟨a, c, rfl, h1, h2⟩
      have HR1 : Hid (∀ W, Quiet0 w W → Calls Tryd.prog 44 #[.agg #[.int .i64 k, .int .i64 n, .slice o len cap]] W fun e w' => e = .returned (.bool (rightT k n ps)) ∧ Quiet0 W w') := fun W hq => right_any k n ps W o len cap (hs.stay hq)
      have HR2 : Hid (∀ W, Quiet0 w W → Calls Tryd.prog 16 #[.agg #[.int .i64 k, .int .i64 n, .slice o len cap]] W fun e w' => e = .returned (.bool (rightT k n ps)) ∧ Quiet0 W w') := fun W hq => refRight_any k n ps W o len cap (hs.stay hq)
      have HZ1 : Hid (∀ W, Quiet0 w W → Calls Tryd.prog 45 #[.agg #[.int .i64 k, .int .i64 n, .slice o len cap]] W fun e w' => e = .returned (.int .i64 ((ps.size + 1 : Nat) : Int)) ∧ Quiet0 W w') := fun W hq => size_any k n ps W o len cap (hs.stay hq) (by omega)
      have HZ2 : Hid (∀ W, Quiet0 w W → Calls Tryd.prog 46 #[.agg #[.int .i64 k, .int .i64 n, .slice o len cap]] W fun e w' => e = .returned (.int .i64 ((ps.size + 1 : Nat) : Int)) ∧ Quiet0 W w') := fun W hq => refSize_any k n ps W o len cap (hs.stay hq) (by omega)
      have HD1 : Hid (∀ W, Quiet0 w W → Calls Tryd.prog 47 #[.agg #[.int .i64 k, .int .i64 n, .slice o len cap]] W fun e w' => e = .returned (.int .i64 ((ps.depth + 1 : Nat) : Int)) ∧ Quiet0 W w') := fun W hq => depth_any k n ps W o len cap (hs.stay hq) (by omega)
      have HD2 : Hid (∀ W, Quiet0 w W → Calls Tryd.prog 48 #[.agg #[.int .i64 k, .int .i64 n, .slice o len cap]] W fun e w' => e = .returned (.int .i64 ((ps.depth + 1 : Nat) : Int)) ∧ Quiet0 W w') := fun W hq => refDepth_any k n ps W o len cap (hs.stay hq) (by omega)
      have HV1 : Hid (∀ W b m, Quiet0 w W → m = 1 → W.heap[b]? = some (.cells #[.int .i64 k, .int .i64 n, .slice o len cap] 24 (0, 0)) → Calls Tryd.prog 36 #[.slice (some ⟨b, 0, none⟩) m m] W fun e w' => ∃ a c, e = .returned (.slice a L1.length c) ∧ IntsAt w' a L1 ∧ Quiet0 W w') := by
        intro W b m hq hm hb
        subst hm
        refine (vars_any (.cons k n ps .nil) _ _ 1 1 (slc1 hb (hs.stay hq)) ⟨hn, hw, trivial⟩ (by simp only [Fo.size]; omega)).mono ?_
        rintro e w' ⟨vo, rfl, hr, h2⟩
        obtain ⟨a, c, rfl, h1⟩ := ownsInts_v hr.1
        rw [← hL1] at h1
        rw [← hL1]
        exact ⟨a, c, rfl, h1, h2⟩
      have HV2 : Hid (∀ W b m, Quiet0 w W → m = 2 → W.heap[b]? = some (.cells #[.int .i64 k, .int .i64 n, .slice o len cap, .int .i64 k2, .int .i64 n2, .slice o2 len2 cap2] 24 (0, 0)) → Calls Tryd.prog 36 #[.slice (some ⟨b, 0, none⟩) m m] W fun e w' => ∃ a c, e = .returned (.slice a L2.length c) ∧ IntsAt w' a L2 ∧ Quiet0 W w') := by
        intro W b m hq hm hb
        subst hm
        refine (vars_any (.cons k n ps (.cons k2 n2 ps2 .nil)) _ _ 2 2 (slc2 hb (hs.stay hq) (hs2.stay hq)) ⟨hn, hw, hn2, hw2, trivial⟩ (by simp only [Fo.size]; omega)).mono ?_
        rintro e w' ⟨vo, rfl, hr, h2⟩
        obtain ⟨a, c, rfl, h1⟩ := ownsInts_v hr.1
        have e2 : Fo.vars [] (.cons k n ps (.cons k2 n2 ps2 .nil)) = L2 := by rw [hL2, hL1]; rfl
        rw [e2] at h1
        rw [e2]
        exact ⟨a, c, rfl, h1, h2⟩
      have HRV2 : Hid (∀ W a c, Quiet0 w W → IntsAt W a L1 → Calls Tryd.prog 43 #[.agg #[.int .i64 k2, .int .i64 n2, .slice o2 len2 cap2], .slice a L1.length c] W fun e w' => ∃ a c, e = .returned (.slice a L2.length c) ∧ IntsAt w' a L2 ∧ Quiet0 W w') := by
        intro W a c hq h
        refine (refVars_any k2 n2 ps2 W o2 len2 cap2 (.slice a L1.length c) L1 (hs2.stay hq) ⟨a, c, rfl, h⟩ (by omega)).mono ?_
        rintro e w' ⟨vo, rfl, ⟨a, c, rfl, h1⟩, h2⟩
        rw [← hL2] at h1
        rw [← hL2]
        exact ⟨a, c, rfl, h1, h2⟩
      have HI : Hid (∀ W L a c b d, (L : List Int).length ≤ 10000 → IntsAt W a L → IntsAt W b L → Calls Tryd.prog 49 #[.slice a L.length c, .slice b L.length d] W fun e w' => e = .returned (.bool true) ∧ Quiet0 W w') := by
        intro W L a c b d hz h1 h2
        have h := ints_any a c b d L L W h1 h2 (by omega)
        rw [show (L == L) = true from by simp] at h
        exact h
      obtain ⟨hb, hhb⟩ : ∃ hb, hb = inB L1 v := ⟨_, rfl⟩
      have HH : Hid (∀ W, Quiet0 w W → Calls Tryd.prog 50 #[.agg #[.int .i64 k, .int .i64 n, .slice o len cap], .int .i64 v] W fun e w' => e = .returned (.bool hb) ∧ Quiet0 W w') := by
        intro W hq
        have h := has_any k n v ps W o len cap (hs.stay hq) (by omega)
        rw [hasT_vars, ← hL1, ← hhb] at h
        exact h
      have HIN : Hid (∀ W a c, IntsAt W a L1 → Calls Tryd.prog 51 #[.slice a L1.length c, .int .i64 v] W fun e w' => e = .returned (.bool hb) ∧ Quiet0 W w') := by
        intro W a c h1
        rw [hhb]
        refine (refIn_any a L1.length c L1 v W h1 rfl (by omega)).mono ?_
        rintro e w' ⟨rfl, rfl⟩
        exact ⟨rfl, Quiet0.refl _⟩
      have HS1 : Hid (∀ W, Quiet0 w W → Calls Tryd.prog 52 #[.agg #[.int .i64 k, .int .i64 n, .slice o len cap], .agg #[.int .i64 k2, .int .i64 n2, .slice o2 len2 cap2]] W fun e w' => e = .returned (.bool (sameT k n ps k2 n2 ps2)) ∧ Quiet0 W w') := fun W hq => same_any k n ps k2 n2 ps2 W o len cap o2 len2 cap2 (hs.stay hq) (hs2.stay hq)
      have HS2 : Hid (∀ W, Quiet0 w W → Calls Tryd.prog 19 #[.agg #[.int .i64 k, .int .i64 n, .slice o len cap], .agg #[.int .i64 k2, .int .i64 n2, .slice o2 len2 cap2]] W fun e w' => e = .returned (.bool (sameT k n ps k2 n2 ps2)) ∧ Quiet0 W w') := fun W hq => refSame_any k n ps k2 n2 ps2 W o len cap o2 len2 cap2 (hs.stay hq) (hs2.stay hq)
      have hst : sameT k n ps k n ps = true := by simp [sameT, Fo.same_refl]
      have HS3 : Hid (∀ W, Quiet0 w W → Calls Tryd.prog 52 #[.agg #[.int .i64 k, .int .i64 n, .slice o len cap], .agg #[.int .i64 k, .int .i64 n, .slice o len cap]] W fun e w' => e = .returned (.bool true) ∧ Quiet0 W w') := by
        intro W hq
        have h := same_any k n ps k n ps W o len cap o len cap (hs.stay hq) (hs.stay hq)
        rw [hst] at h
        exact h
      have HCP : Hid (∀ W, Quiet0 w W → Calls Tryd.prog 53 #[.agg #[.int .i64 k, .int .i64 n, .slice o len cap]] W fun e w' => ∃ o' cap', e = .returned (.agg #[.int .i64 k, .int .i64 n, .slice o' len cap']) ∧ Slc w' o' len ps ∧ Quiet0 W w') := by
        intro W hq
        refine (copy_any k n ps W o len cap (hs.stay hq) (by omega)).mono ?_
        rintro e w' ⟨o', c', rfl, h1, h2⟩
        exact ⟨o', c', rfl, h1.slc, h2⟩
      have HS4 : Hid (∀ W o' cap', Quiet0 w W → Slc W o' len ps → Calls Tryd.prog 19 #[.agg #[.int .i64 k, .int .i64 n, .slice o' len cap'], .agg #[.int .i64 k, .int .i64 n, .slice o len cap]] W fun e w' => e = .returned (.bool true) ∧ Quiet0 W w') := by
        intro W o' cap' hq h1
        have h := refSame_any k n ps k n ps W o' len cap' o len cap h1 (hs.stay hq)
        rw [hst] at h
        exact h
      have HA' := HA
      generalize rightT k n ps = r at *
      generalize sameT k n ps k2 n2 ps2 = sm at *
      generalize ((ps.size + 1 : Nat) : Int) = zz at *
      generalize ((ps.depth + 1 : Nat) : Int) = dd at *
      clear hs hs2 ht hn hw hn2 hw2 hst hL1 hL2 hhb hg hg2
      unfold tyv
      go_enter Tryd.func9, Tryd.ntmps9
      generalize hB : w.heap.size = B at *
      go_upto_region 1 with fail
      rw [← hW0]
      clear hW0
      obtain ⟨⟨p0, p1, p2⟩, q0, q1, q2⟩ := HBX.out W0 (Quiet0.refl _)
      go_wp2_with fail
      refine (HG.out _ HQ0.out).mono ?_; rintro e x1 ⟨rfl, hq1⟩
      have HX1 := Lib.hid (hq1)
      clear p0 p1 p2 q0 q1 q2 hq1
      obtain ⟨⟨p0, p1, p2⟩, q0, q1, q2⟩ := HBX.out x1 HX1.out
      go_wp2_with fail
      refine (HG2.out _ (HQ0.out.trans HX1.out)).mono ?_; rintro e x2 ⟨rfl, hq2⟩
      have HX2 := Lib.hid (HX1.out.trans hq2)
      clear p0 p1 p2 q0 q1 q2 hq2
      obtain ⟨⟨p0, p1, p2⟩, q0, q1, q2⟩ := HBX.out x2 HX2.out
      go_wp2_with fail
      refine (HRV.out _ (HQ0.out.trans HX2.out)).mono ?_; rintro e x3 ⟨va, vc, rfl, hi1, hq3⟩
      have HX3 := Lib.hid (HX2.out.trans hq3)
      have HI1 := Lib.hid hi1
      clear hi1
      clear p0 p1 p2 q0 q1 q2 hq3
      obtain ⟨⟨p0, p1, p2⟩, q0, q1, q2⟩ := HBX.out x3 HX3.out
      go_upto_region 4 with fail
      have HQ3 := Lib.hid (HQ0.out.trans HX3.out)
      have HBC : Hid (∀ w', Quiet0 x3 w' → (w'.cell? ⟨B, 0, none⟩ = some (.int .i64 k) ∧ w'.cell? ⟨B, 1, none⟩ = some (.int .i64 n) ∧ w'.cell? ⟨B, 2, none⟩ = some (.slice o len cap)) ∧ w'.cell? ⟨B + 1, 0, none⟩ = some (.int .i64 k2) ∧ w'.cell? ⟨B + 1, 1, none⟩ = some (.int .i64 n2) ∧ w'.cell? ⟨B + 1, 2, none⟩ = some (.slice o2 len2 cap2)) := fun W hq => HBX.out W (HX3.out.trans hq)
      have hqc := Quiet0.refl x3
      have hll' : L1.length ≤ 10000 := by omega
      have hll2' : L2.length ≤ 10000 := by omega
      simp only [List.append_eq, List.cons_append, List.nil_append]
      go_region_held3 (fun w' => (w'.cell? ⟨B, 0, none⟩ = some (.int .i64 k) ∧ w'.cell? ⟨B, 1, none⟩ = some (.int .i64 n) ∧ w'.cell? ⟨B, 2, none⟩ = some (.slice o len cap)) ∧ w'.cell? ⟨B + 1, 0, none⟩ = some (.int .i64 k2) ∧ w'.cell? ⟨B + 1, 1, none⟩ = some (.int .i64 n2) ∧ w'.cell? ⟨B + 1, 2, none⟩ = some (.slice o2 len2 cap2))
        (((refine HBC.out _ ?_); (repeat (first | with_reducible exact hqc | with_reducible exact Quiet0.refl _ | with_reducible refine Quiet0.trans ?_ (Quiet0.alloc _ _) | with_reducible refine Quiet0.trans ?_ (Quiet0.drew _) | fail))))
        (first
          | (go_at_call 44; (with_reducible refine Calls.mono (HR1.out _ (Quiet0.trans HQ3.out ?hq)) ?_); (case hq => (repeat (first | with_reducible exact hqc | with_reducible exact Quiet0.refl _ | with_reducible refine Quiet0.trans ?_ (Quiet0.alloc _ _) | with_reducible refine Quiet0.trans ?_ (Quiet0.drew _) | fail))); rintro e wx ⟨rfl, hqx⟩; (refine with_q (w0 := x3) ?hq2 hqx ?_); (case hq2 => (repeat (first | with_reducible exact hqc | with_reducible exact Quiet0.refl _ | with_reducible refine Quiet0.trans ?_ (Quiet0.alloc _ _) | with_reducible refine Quiet0.trans ?_ (Quiet0.drew _) | fail))); intro hqc)
          | (go_at_call 16; (with_reducible refine Calls.mono (HR2.out _ (Quiet0.trans HQ3.out ?hq)) ?_); (case hq => (repeat (first | with_reducible exact hqc | with_reducible exact Quiet0.refl _ | with_reducible refine Quiet0.trans ?_ (Quiet0.alloc _ _) | with_reducible refine Quiet0.trans ?_ (Quiet0.drew _) | fail))); rintro e wx ⟨rfl, hqx⟩; (refine with_q (w0 := x3) ?hq2 hqx ?_); (case hq2 => (repeat (first | with_reducible exact hqc | with_reducible exact Quiet0.refl _ | with_reducible refine Quiet0.trans ?_ (Quiet0.alloc _ _) | with_reducible refine Quiet0.trans ?_ (Quiet0.drew _) | fail))); intro hqc)
          | (go_at_call 45; (with_reducible refine Calls.mono (HZ1.out _ (Quiet0.trans HQ3.out ?hq)) ?_); (case hq => (repeat (first | with_reducible exact hqc | with_reducible exact Quiet0.refl _ | with_reducible refine Quiet0.trans ?_ (Quiet0.alloc _ _) | with_reducible refine Quiet0.trans ?_ (Quiet0.drew _) | fail))); rintro e wx ⟨rfl, hqx⟩; (refine with_q (w0 := x3) ?hq2 hqx ?_); (case hq2 => (repeat (first | with_reducible exact hqc | with_reducible exact Quiet0.refl _ | with_reducible refine Quiet0.trans ?_ (Quiet0.alloc _ _) | with_reducible refine Quiet0.trans ?_ (Quiet0.drew _) | fail))); intro hqc)
          | (go_at_call 46; (with_reducible refine Calls.mono (HZ2.out _ (Quiet0.trans HQ3.out ?hq)) ?_); (case hq => (repeat (first | with_reducible exact hqc | with_reducible exact Quiet0.refl _ | with_reducible refine Quiet0.trans ?_ (Quiet0.alloc _ _) | with_reducible refine Quiet0.trans ?_ (Quiet0.drew _) | fail))); rintro e wx ⟨rfl, hqx⟩; (refine with_q (w0 := x3) ?hq2 hqx ?_); (case hq2 => (repeat (first | with_reducible exact hqc | with_reducible exact Quiet0.refl _ | with_reducible refine Quiet0.trans ?_ (Quiet0.alloc _ _) | with_reducible refine Quiet0.trans ?_ (Quiet0.drew _) | fail))); intro hqc)
          | (go_at_call 47; (with_reducible refine Calls.mono (HD1.out _ (Quiet0.trans HQ3.out ?hq)) ?_); (case hq => (repeat (first | with_reducible exact hqc | with_reducible exact Quiet0.refl _ | with_reducible refine Quiet0.trans ?_ (Quiet0.alloc _ _) | with_reducible refine Quiet0.trans ?_ (Quiet0.drew _) | fail))); rintro e wx ⟨rfl, hqx⟩; (refine with_q (w0 := x3) ?hq2 hqx ?_); (case hq2 => (repeat (first | with_reducible exact hqc | with_reducible exact Quiet0.refl _ | with_reducible refine Quiet0.trans ?_ (Quiet0.alloc _ _) | with_reducible refine Quiet0.trans ?_ (Quiet0.drew _) | fail))); intro hqc)
          | (go_at_call 48; (with_reducible refine Calls.mono (HD2.out _ (Quiet0.trans HQ3.out ?hq)) ?_); (case hq => (repeat (first | with_reducible exact hqc | with_reducible exact Quiet0.refl _ | with_reducible refine Quiet0.trans ?_ (Quiet0.alloc _ _) | with_reducible refine Quiet0.trans ?_ (Quiet0.drew _) | fail))); rintro e wx ⟨rfl, hqx⟩; (refine with_q (w0 := x3) ?hq2 hqx ?_); (case hq2 => (repeat (first | with_reducible exact hqc | with_reducible exact Quiet0.refl _ | with_reducible refine Quiet0.trans ?_ (Quiet0.alloc _ _) | with_reducible refine Quiet0.trans ?_ (Quiet0.drew _) | fail))); intro hqc)
          | (go_at_call 50; (with_reducible refine Calls.mono (HH.out _ (Quiet0.trans HQ3.out ?hq)) ?_); (case hq => (repeat (first | with_reducible exact hqc | with_reducible exact Quiet0.refl _ | with_reducible refine Quiet0.trans ?_ (Quiet0.alloc _ _) | with_reducible refine Quiet0.trans ?_ (Quiet0.drew _) | fail))); rintro e wx ⟨rfl, hqx⟩; (refine with_q (w0 := x3) ?hq2 hqx ?_); (case hq2 => (repeat (first | with_reducible exact hqc | with_reducible exact Quiet0.refl _ | with_reducible refine Quiet0.trans ?_ (Quiet0.alloc _ _) | with_reducible refine Quiet0.trans ?_ (Quiet0.drew _) | fail))); intro hqc)
          | (go_at_call 52; (with_reducible refine Calls.mono (HS1.out _ (Quiet0.trans HQ3.out ?hq)) ?_); (case hq => (repeat (first | with_reducible exact hqc | with_reducible exact Quiet0.refl _ | with_reducible refine Quiet0.trans ?_ (Quiet0.alloc _ _) | with_reducible refine Quiet0.trans ?_ (Quiet0.drew _) | fail))); rintro e wx ⟨rfl, hqx⟩; (refine with_q (w0 := x3) ?hq2 hqx ?_); (case hq2 => (repeat (first | with_reducible exact hqc | with_reducible exact Quiet0.refl _ | with_reducible refine Quiet0.trans ?_ (Quiet0.alloc _ _) | with_reducible refine Quiet0.trans ?_ (Quiet0.drew _) | fail))); intro hqc)
          | (go_at_call 52; (with_reducible refine Calls.mono (HS3.out _ (Quiet0.trans HQ3.out ?hq)) ?_); (case hq => (repeat (first | with_reducible exact hqc | with_reducible exact Quiet0.refl _ | with_reducible refine Quiet0.trans ?_ (Quiet0.alloc _ _) | with_reducible refine Quiet0.trans ?_ (Quiet0.drew _) | fail))); rintro e wx ⟨rfl, hqx⟩; (refine with_q (w0 := x3) ?hq2 hqx ?_); (case hq2 => (repeat (first | with_reducible exact hqc | with_reducible exact Quiet0.refl _ | with_reducible refine Quiet0.trans ?_ (Quiet0.alloc _ _) | with_reducible refine Quiet0.trans ?_ (Quiet0.drew _) | fail))); intro hqc)
          | (go_at_call 15; (with_reducible refine Calls.mono (HA.out _ (Quiet0.trans HQ3.out ?hq)) ?_); (case hq => (repeat (first | with_reducible exact hqc | with_reducible exact Quiet0.refl _ | with_reducible refine Quiet0.trans ?_ (Quiet0.alloc _ _) | with_reducible refine Quiet0.trans ?_ (Quiet0.drew _) | fail))); rintro e wx ⟨rfl, hqx⟩; (refine with_q (w0 := x3) ?hq2 hqx ?_); (case hq2 => (repeat (first | with_reducible exact hqc | with_reducible exact Quiet0.refl _ | with_reducible refine Quiet0.trans ?_ (Quiet0.alloc _ _) | with_reducible refine Quiet0.trans ?_ (Quiet0.drew _) | fail))); intro hqc)
          | (go_at_call 19; (with_reducible refine Calls.mono (HS4.out _ o5 c5 (Quiet0.trans HQ3.out ?hq) ?hsl) ?_); (case hq => (repeat (first | with_reducible exact hqc | with_reducible exact Quiet0.refl _ | with_reducible refine Quiet0.trans ?_ (Quiet0.alloc _ _) | with_reducible refine Quiet0.trans ?_ (Quiet0.drew _) | fail))); (case hsl => (first | with_reducible exact hs5 | with_reducible exact hs5.stay (Quiet0.drew _) | fail)); rintro e wx ⟨rfl, hqx⟩; (refine with_q (w0 := x3) ?hq2 hqx ?_); (case hq2 => (repeat (first | with_reducible exact hqc | with_reducible exact Quiet0.refl _ | with_reducible refine Quiet0.trans ?_ (Quiet0.alloc _ _) | with_reducible refine Quiet0.trans ?_ (Quiet0.drew _) | fail))); intro hqc)
          | (go_at_call 19; (with_reducible refine Calls.mono (HS2.out _ (Quiet0.trans HQ3.out ?hq)) ?_); (case hq => (repeat (first | with_reducible exact hqc | with_reducible exact Quiet0.refl _ | with_reducible refine Quiet0.trans ?_ (Quiet0.alloc _ _) | with_reducible refine Quiet0.trans ?_ (Quiet0.drew _) | fail))); rintro e wx ⟨rfl, hqx⟩; (refine with_q (w0 := x3) ?hq2 hqx ?_); (case hq2 => (repeat (first | with_reducible exact hqc | with_reducible exact Quiet0.refl _ | with_reducible refine Quiet0.trans ?_ (Quiet0.alloc _ _) | with_reducible refine Quiet0.trans ?_ (Quiet0.drew _) | fail))); intro hqc)
          | (go_at_call 53; (with_reducible refine Calls.mono (HCP.out _ (Quiet0.trans HQ3.out ?hq)) ?_); (case hq => (repeat (first | with_reducible exact hqc | with_reducible exact Quiet0.refl _ | with_reducible refine Quiet0.trans ?_ (Quiet0.alloc _ _) | with_reducible refine Quiet0.trans ?_ (Quiet0.drew _) | fail))); rintro e wx ⟨o5, c5, rfl, hs5, hqx⟩; (refine with_q (w0 := x3) ?hq2 hqx ?_); (case hq2 => (repeat (first | with_reducible exact hqc | with_reducible exact Quiet0.refl _ | with_reducible refine Quiet0.trans ?_ (Quiet0.alloc _ _) | with_reducible refine Quiet0.trans ?_ (Quiet0.drew _) | fail))); intro hqc)
          | (go_at_call 36; (with_reducible refine Calls.mono (HV1.out _ _ _ (Quiet0.trans HQ3.out ?hq) ?hm ?hb) ?_); (case hq => (repeat (first | with_reducible exact hqc | with_reducible exact Quiet0.refl _ | with_reducible refine Quiet0.trans ?_ (Quiet0.alloc _ _) | with_reducible refine Quiet0.trans ?_ (Quiet0.drew _) | fail))); (case hm => rfl); (case hb => (repeat (first | ((with_reducible refine blk_new _ _ _ _ ?hbe); (case hbe => (simp; done))) | with_reducible refine blk_after (Quiet0.alloc _ _) ?_ | with_reducible refine blk_drew ?_ | fail))); rintro e wx ⟨vb, vd, rfl, hi2, hqx⟩; (refine with_q (w0 := x3) ?hq2 hqx ?_); (case hq2 => (repeat (first | with_reducible exact hqc | with_reducible exact Quiet0.refl _ | with_reducible refine Quiet0.trans ?_ (Quiet0.alloc _ _) | with_reducible refine Quiet0.trans ?_ (Quiet0.drew _) | fail))); intro hqc)
          | (go_at_call 36; (with_reducible refine Calls.mono (HV2.out _ _ _ (Quiet0.trans HQ3.out ?hq) ?hm ?hb) ?_); (case hq => (repeat (first | with_reducible exact hqc | with_reducible exact Quiet0.refl _ | with_reducible refine Quiet0.trans ?_ (Quiet0.alloc _ _) | with_reducible refine Quiet0.trans ?_ (Quiet0.drew _) | fail))); (case hm => rfl); (case hb => (repeat (first | ((with_reducible refine blk_new _ _ _ _ ?hbe); (case hbe => (simp; done))) | with_reducible refine blk_after (Quiet0.alloc _ _) ?_ | with_reducible refine blk_drew ?_ | fail))); rintro e wx ⟨ve, vf, rfl, hi3, hqx⟩; (refine with_q (w0 := x3) ?hq2 hqx ?_); (case hq2 => (repeat (first | with_reducible exact hqc | with_reducible exact Quiet0.refl _ | with_reducible refine Quiet0.trans ?_ (Quiet0.alloc _ _) | with_reducible refine Quiet0.trans ?_ (Quiet0.drew _) | fail))); intro hqc)
          | (go_at_call 49; (with_reducible refine Calls.mono (HI.out _ L1 _ _ _ _ hll' hi2 (HI1.out.stay ?hq)) ?_); (case hq => (repeat (first | with_reducible exact hqc | with_reducible exact Quiet0.refl _ | with_reducible refine Quiet0.trans ?_ (Quiet0.alloc _ _) | with_reducible refine Quiet0.trans ?_ (Quiet0.drew _) | fail))); rintro e wx ⟨rfl, hqx⟩; (refine with_q (w0 := x3) ?hq2 hqx ?_); (case hq2 => (repeat (first | with_reducible exact hqc | with_reducible exact Quiet0.refl _ | with_reducible refine Quiet0.trans ?_ (Quiet0.alloc _ _) | with_reducible refine Quiet0.trans ?_ (Quiet0.drew _) | fail))); intro hqc)
          | (go_at_call 49; (with_reducible refine Calls.mono (HI.out _ L2 _ _ _ _ hll2' hi3' (hi4.stay ?hq)) ?_); (case hq => exact Quiet0.refl _); rintro e wx ⟨rfl, hqx⟩; (refine with_q (w0 := x3) ?hq2 hqx ?_); (case hq2 => (repeat (first | with_reducible exact hqc | with_reducible exact Quiet0.refl _ | with_reducible refine Quiet0.trans ?_ (Quiet0.alloc _ _) | with_reducible refine Quiet0.trans ?_ (Quiet0.drew _) | fail))); intro hqc)
          | (go_at_call 51; (with_reducible refine Calls.mono (HIN.out _ _ _ (HI1.out.stay ?hq)) ?_); (case hq => (repeat (first | with_reducible exact hqc | with_reducible exact Quiet0.refl _ | with_reducible refine Quiet0.trans ?_ (Quiet0.alloc _ _) | with_reducible refine Quiet0.trans ?_ (Quiet0.drew _) | fail))); rintro e wx ⟨rfl, hqx⟩; (refine with_q (w0 := x3) ?hq2 hqx ?_); (case hq2 => (repeat (first | with_reducible exact hqc | with_reducible exact Quiet0.refl _ | with_reducible refine Quiet0.trans ?_ (Quiet0.alloc _ _) | with_reducible refine Quiet0.trans ?_ (Quiet0.drew _) | fail))); intro hqc)
          | (go_at_call 43; (with_reducible refine Calls.mono (HRV2.out _ _ _ (Quiet0.trans HQ3.out ?hq) (HI1.out.stay ?hqb)) ?_); (case hq => (repeat (first | with_reducible exact hqc | with_reducible exact Quiet0.refl _ | with_reducible refine Quiet0.trans ?_ (Quiet0.alloc _ _) | with_reducible refine Quiet0.trans ?_ (Quiet0.drew _) | fail))); (case hqb => (repeat (first | with_reducible exact hqc | with_reducible exact Quiet0.refl _ | with_reducible refine Quiet0.trans ?_ (Quiet0.alloc _ _) | with_reducible refine Quiet0.trans ?_ (Quiet0.drew _) | fail))); rintro e wx ⟨vg, vh, rfl, hi4, hqx⟩; have hi3' := hi3.stay hqx; (refine with_q (w0 := x3) ?hq2 hqx ?_); (case hq2 => (repeat (first | with_reducible exact hqc | with_reducible exact Quiet0.refl _ | with_reducible refine Quiet0.trans ?_ (Quiet0.alloc _ _) | with_reducible refine Quiet0.trans ?_ (Quiet0.drew _) | fail))); intro hqc)
          | fail)
      all_goals
        go_wp2_with fail
        go_ret
        exact ⟨rfl, HQ3.out.trans hqc⟩
    · rw [hg] at HG
      rw [hg2] at HG2
      clear hs ht hs2
      unfold tyv
      go_enter Tryd.func9, Tryd.ntmps9
      generalize hB : w.heap.size = B at *
      go_upto_region 1 with fail
      rw [← hW0]
      clear hW0
      obtain ⟨⟨p0, p1, p2⟩, q0, q1, q2⟩ := HBX.out W0 (Quiet0.refl _)
      go_wp2_with fail
      refine (HG.out _ HQ0.out).mono ?_; rintro e w1 ⟨rfl, hq1⟩
      have HQ1 := Lib.hid hq1
      clear p0 p1 p2 q0 q1 q2
      obtain ⟨⟨p0, p1, p2⟩, q0, q1, q2⟩ := HBX.out w1 hq1
      clear hq1
      go_wp2_with fail
      refine (HG2.out _ (HQ0.out.trans HQ1.out)).mono ?_; rintro e w2 ⟨rfl, hq2⟩
      have HQ2 := Lib.hid (HQ1.out.trans hq2)
      clear p0 p1 p2 q0 q1 q2 hq2
      go_wp2_with fail
      refine (HA.out _ (HQ0.out.trans HQ2.out)).mono ?_; rintro e w3 ⟨rfl, hq3⟩
      go_wp2_with fail
      go_ret
      exact ⟨rfl, (HQ0.out.trans HQ2.out).trans hq3⟩
  · rw [hg] at HG
    clear hs ht hs2
    unfold tyv
    go_enter Tryd.func9, Tryd.ntmps9
    generalize hB : w.heap.size = B at *
    go_upto_region 1 with fail
    rw [← hW0]
    clear hW0
    obtain ⟨⟨p0, p1, p2⟩, q0, q1, q2⟩ := HBX.out W0 (Quiet0.refl _)
    go_wp2_with fail
    refine (HG.out _ HQ0.out).mono ?_; rintro e w1 ⟨rfl, hq1⟩
    have HQ1 := Lib.hid hq1
    clear p0 p1 p2 q0 q1 q2 hq1
    go_wp2_with fail
    refine (HA.out _ (HQ0.out.trans HQ1.out)).mono ?_; rintro e w2 ⟨rfl, hq2⟩
    go_wp2_with fail
    go_ret
    exact ⟨rfl, (HQ0.out.trans HQ1.out).trans hq2⟩
end Go.Proofs.YtggidhgifaekbaaDoor
