/-
  The law TypesPrint: it returns true. Conditions: the type lies in memory; the table of powers of ten holds what its initialiser lays.
-/
import Derived.Test.YtggidhgifaekbaaDoorTyAwake
import Derived.Test.YtggidhgifaekbaaDoorTyRefText2
namespace Go.Proofs.YtggidhgifaekbaaDoor
open Go.RowKit

theorem with_q {w0 W w3 : World} {G : Prop} (h : Quiet0 w0 W) (hq : Quiet0 W w3) (k : Quiet0 w0 w3 → G) : G := k (h.trans hq)
set_option maxHeartbeats 2000000 in
set_option maxRecDepth 100000 in
theorem typesPrint_all (k n : Int) (ps : Fo) (w : World) (o : Option Addr) (len cap : Nat) (hs : Slc w o len ps) (ht : Pow10 w) :
    Calls Tryd.prog 3 #[tyv k n o len cap] w fun e w' => e = .returned (.bool true) ∧ Quiet0 w w' := by
  have HA : Hid (∀ W, Quiet0 w W → Calls Tryd.prog 15 #[] W fun e w' => e = .returned (.bool true) ∧ Quiet0 W w') := fun W hq => awake_any W (ht.stay hq)
  have HG : Hid (∀ W, Quiet0 w W → Calls Tryd.prog 14 #[.agg #[.int .i64 k, .int .i64 n, .slice o len cap]] W fun e w' => e = .returned (.bool (greatF ps)) ∧ Quiet0 W w') := fun W hq => great_any k n ps W o len cap (hs.stay hq)
  have HR : Hid (∀ W, Quiet0 w W → Calls Tryd.prog 16 #[.agg #[.int .i64 k, .int .i64 n, .slice o len cap]] W fun e w' => e = .returned (.bool (rightT k n ps)) ∧ Quiet0 W w') := fun W hq => refRight_any k n ps W o len cap (hs.stay hq)
  have HBX : Hid (∀ W, Quiet0 (w.alloc (.cells #[.int .i64 k, .int .i64 n, .slice o len cap] 24)) W → W.cell? ⟨w.heap.size, 0, none⟩ = some (.int .i64 k) ∧ W.cell? ⟨w.heap.size, 1, none⟩ = some (.int .i64 n) ∧ W.cell? ⟨w.heap.size, 2, none⟩ = some (.slice o len cap)) := fun W h => box_cells w k n o len cap 24 W h
  obtain ⟨W0, hW0⟩ : ∃ W0, W0 = w.alloc (.cells #[.int .i64 k, .int .i64 n, .slice o len cap] 24) := ⟨_, rfl⟩
  have HQ0 : Hid (Quiet0 w W0) := by rw [hW0]; exact Quiet0.alloc _ _
  rw [← hW0] at HBX
  cases hg : greatF ps
  · have hsz : ps.size ≤ 1000 := by have := great_size hg; omega
    have HP : Hid (∀ W, Quiet0 w W → Calls Tryd.prog 17 #[.agg #[.int .i64 k, .int .i64 n, .slice o len cap]] W fun e w' => e = .returned (.string (tb (printT k n ps))) ∧ Quiet0 W w') := fun W hq => print_any k n ps W o len cap (hs.stay hq) hsz (ht.stay hq)
    rw [hg] at HG
    cases hr : rightT k n ps
    · rw [hr] at HR
      have e1 : tb (printT k n ps) = ⟨#[]⟩ := by unfold printT; rw [hr]; rfl
      rw [e1] at HP
      clear hs ht e1 hsz
      unfold tyv
      go_enter Tryd.func3, Tryd.ntmps3
      generalize hB : w.heap.size = B at *
      go_wp2_with fail
      rw [← hW0]
      obtain ⟨a0, a1, a2⟩ := HBX.out W0 (Quiet0.refl _)
      go_wp2_with fail
      refine (HG.out _ HQ0.out).mono ?_; rintro e w1 ⟨rfl, hq1⟩
      have HQ1 := Lib.hid hq1
      obtain ⟨b0, b1, b2⟩ := HBX.out w1 hq1
      clear a0 a1 a2 hq1
      go_wp2_with fail
      refine (HR.out _ (HQ0.out.trans HQ1.out)).mono ?_; rintro e w2 ⟨rfl, hq2⟩
      have HQ2 := Lib.hid (HQ1.out.trans hq2)
      obtain ⟨a0, a1, a2⟩ := HBX.out w2 HQ2.out
      clear b0 b1 b2 hq2
      go_wp2_with fail
      refine (HP.out _ (HQ0.out.trans HQ2.out)).mono ?_; rintro e w3 ⟨rfl, hq3⟩
      have HQ3 := Lib.hid (HQ2.out.trans hq3)
      clear a0 a1 a2 hq3
      go_wp2_with fail
      refine (HA.out _ (HQ0.out.trans HQ3.out)).mono ?_; rintro e w4 ⟨rfl, hq4⟩
      go_wp2_with fail
      go_ret
      exact ⟨rfl, (HQ0.out.trans HQ3.out).trans hq4⟩
    · rw [hr] at HR
      have e1 : tb (printT k n ps) = tb (txt k n ps.texts) := by unfold printT; rw [hr]; rfl
      rw [e1] at HP
      have hp : Fo.plain k n ps.length = true ∧ ps.right = true := by simpa [rightT] using hr
      have HT : Hid (∀ W, Quiet0 w W → Calls Tryd.prog 18 #[.agg #[.int .i64 k, .int .i64 n, .slice o len cap]] W fun e w' => e = .returned (.string (tb (txt k n ps.texts))) ∧ Quiet0 W w') := fun W hq => refText_any k n ps W o len cap (hs.stay hq) hp.1 hp.2 hsz
      clear hs ht e1 hsz hp
      generalize tb (txt k n ps.texts) = s at *
      unfold tyv
      go_enter Tryd.func3, Tryd.ntmps3
      generalize hB : w.heap.size = B at *
      go_wp2_with fail
      rw [← hW0]
      obtain ⟨a0, a1, a2⟩ := HBX.out W0 (Quiet0.refl _)
      go_wp2_with fail
      refine (HG.out _ HQ0.out).mono ?_; rintro e w1 ⟨rfl, hq1⟩
      have HQ1 := Lib.hid hq1
      obtain ⟨b0, b1, b2⟩ := HBX.out w1 hq1
      clear a0 a1 a2 hq1
      go_wp2_with fail
      refine (HR.out _ (HQ0.out.trans HQ1.out)).mono ?_; rintro e w2 ⟨rfl, hq2⟩
      have HQ2 := Lib.hid (HQ1.out.trans hq2)
      clear b0 b1 b2 hq2
      go_wp2_with fail
      have hqc := Quiet0.refl w2
      obtain ⟨a0, a1, a2⟩ := HBX.out w2 HQ2.out
      have HS2 : Hid (∀ w', Quiet0 w2 w' → w'.cell? ⟨B, 0, none⟩ = some (.int .i64 k) ∧ w'.cell? ⟨B, 1, none⟩ = some (.int .i64 n) ∧ w'.cell? ⟨B, 2, none⟩ = some (.slice o len cap)) := fun W h => HBX.out W (HQ2.out.trans h)
      have HT2 : Hid (∀ W, Quiet0 w2 W → Calls Tryd.prog 18 #[.agg #[.int .i64 k, .int .i64 n, .slice o len cap]] W fun e w' => e = .returned (.string s) ∧ Quiet0 W w') := fun W hq => HT.out W ((HQ0.out.trans HQ2.out).trans hq)
      have HP2 : Hid (∀ W, Quiet0 w2 W → Calls Tryd.prog 17 #[.agg #[.int .i64 k, .int .i64 n, .slice o len cap]] W fun e w' => e = .returned (.string s) ∧ Quiet0 W w') := fun W hq => HP.out W ((HQ0.out.trans HQ2.out).trans hq)
      have HA2 : Hid (∀ W, Quiet0 w2 W → Calls Tryd.prog 15 #[] W fun e w' => e = .returned (.bool true) ∧ Quiet0 W w') := fun W hq => HA.out W ((HQ0.out.trans HQ2.out).trans hq)
      go_region_held3 (fun w' => w'.cell? ⟨B, 0, none⟩ = some (.int .i64 k) ∧ w'.cell? ⟨B, 1, none⟩ = some (.int .i64 n) ∧ w'.cell? ⟨B, 2, none⟩ = some (.slice o len cap))
      (((refine HS2.out _ ?_); (repeat (first | with_reducible exact hqc | with_reducible exact Quiet0.refl _ | with_reducible refine Quiet0.trans ?_ (Quiet0.alloc _ _) | with_reducible refine Quiet0.trans ?_ (Quiet0.drew _) | fail))))
      (first
        | (go_at_call 17; (with_reducible refine Calls.mono (HP2.out _ ?hq) ?_); (case hq => (repeat (first | with_reducible exact hqc | with_reducible exact Quiet0.refl _ | with_reducible refine Quiet0.trans ?_ (Quiet0.alloc _ _) | with_reducible refine Quiet0.trans ?_ (Quiet0.drew _) | fail))); rintro e wx ⟨rfl, hqx⟩; refine with_q (w0 := w2) ?hq2 hqx ?_; (case hq2 => (repeat (first | with_reducible exact hqc | with_reducible exact Quiet0.refl _ | with_reducible refine Quiet0.trans ?_ (Quiet0.alloc _ _) | with_reducible refine Quiet0.trans ?_ (Quiet0.drew _) | fail))); intro hqc)
        | (go_at_call 18; (with_reducible refine Calls.mono (HT2.out _ ?hq) ?_); (case hq => (repeat (first | with_reducible exact hqc | with_reducible exact Quiet0.refl _ | with_reducible refine Quiet0.trans ?_ (Quiet0.alloc _ _) | with_reducible refine Quiet0.trans ?_ (Quiet0.drew _) | fail))); rintro e wx ⟨rfl, hqx⟩; refine with_q (w0 := w2) ?hq2 hqx ?_; (case hq2 => (repeat (first | with_reducible exact hqc | with_reducible exact Quiet0.refl _ | with_reducible refine Quiet0.trans ?_ (Quiet0.alloc _ _) | with_reducible refine Quiet0.trans ?_ (Quiet0.drew _) | fail))); intro hqc)
        | (go_at_call 15; (with_reducible refine Calls.mono (HA2.out _ ?hq) ?_); (case hq => (repeat (first | with_reducible exact hqc | with_reducible exact Quiet0.refl _ | with_reducible refine Quiet0.trans ?_ (Quiet0.alloc _ _) | with_reducible refine Quiet0.trans ?_ (Quiet0.drew _) | fail))); rintro e wx ⟨rfl, hqx⟩; refine with_q (w0 := w2) ?hq2 hqx ?_; (case hq2 => (repeat (first | with_reducible exact hqc | with_reducible exact Quiet0.refl _ | with_reducible refine Quiet0.trans ?_ (Quiet0.alloc _ _) | with_reducible refine Quiet0.trans ?_ (Quiet0.drew _) | fail))); intro hqc)
        | fail)
      all_goals
        go_wp2_with fail
        go_ret
        exact ⟨rfl, (HQ0.out.trans HQ2.out).trans hqc⟩
  · rw [hg] at HG
    clear hs ht
    unfold tyv
    go_enter Tryd.func3, Tryd.ntmps3
    generalize hB : w.heap.size = B at *
    go_wp2_with fail
    rw [← hW0]
    obtain ⟨a0, a1, a2⟩ := HBX.out W0 (Quiet0.refl _)
    go_wp2_with fail
    refine (HG.out _ HQ0.out).mono ?_; rintro e w1 ⟨rfl, hq1⟩
    have HQ1 := Lib.hid hq1
    clear a0 a1 a2 hq1
    go_wp2_with fail
    refine (HA.out _ (HQ0.out.trans HQ1.out)).mono ?_; rintro e w2 ⟨rfl, hq2⟩
    go_wp2_with fail
    go_ret
    exact ⟨rfl, (HQ0.out.trans HQ1.out).trans hq2⟩
end Go.Proofs.YtggidhgifaekbaaDoor
