/-
  The law TypesArrows: it returns true. Conditions: the types lie in memory; the table of powers of ten holds what its initialiser lays.
-/
import Derived.Test.YtggidhgifaekbaaDoorTyAwake
import Derived.Test.YtggidhgifaekbaaDoorTyPrintLaw
import Derived.Test.YtggidhgifaekbaaDoorTyVars2
namespace Go.Proofs.YtggidhgifaekbaaDoor
open Go.RowKit

theorem slcIn2 {R : Nat → Prop} {W : World} {b : Nat} {k1 n1 : Int} {o1 : Option Addr} {l1 c1 : Nat} {p1 : Fo} {k2 n2 : Int} {o2 : Option Addr} {l2 c2 : Nat} {p2 : Fo} (hR : R b)
    (hb : W.heap[b]? = some (.cells #[.int .i64 k1, .int .i64 n1, .slice o1 l1 c1, .int .i64 k2, .int .i64 n2, .slice o2 l2 c2] 24 (0, 0))) (h1 : SlcIn R W o1 l1 p1) (h2 : SlcIn R W o2 l2 p2) :
    SlcIn R W (some ⟨b, 0, none⟩) 2 (.cons k1 n1 p1 (.cons k2 n2 p2 .nil)) :=
  ⟨rfl, by decide, fun _ => ⟨b, 0, rfl, hR, by rw [cell_of_row _ _ _ _ _ (0, 0) hb]; rfl, by rw [cell_of_row _ _ _ _ _ (0, 0) hb]; rfl, ⟨o1, l1, c1, by rw [cell_of_row _ _ _ _ _ (0, 0) hb]; rfl, h1.1, h1.2.1, h1.2.2⟩,
    hR, by rw [cell_of_row _ _ _ _ _ (0, 0) hb]; rfl, by rw [cell_of_row _ _ _ _ _ (0, 0) hb]; rfl, ⟨o2, l2, c2, by rw [cell_of_row _ _ _ _ _ (0, 0) hb]; rfl, h2.1, h2.2.1, h2.2.2⟩, trivial⟩⟩
/-- what the wanted type holds, in the block B -/
structure Want (wr : World) (B : Nat) (g : Fo) (wo : Option Addr) (wl wc : Nat) : Prop where
  blk : wr.heap[B]? = some (.cells #[.int .i64 (arrK g), .int .i64 (arrN g), .slice wo wl wc] 24 (0, 0))
  parts : SlcIn (fun k => k ≠ B) wr wo wl (arrP g)
theorem Want.stay {w w' : World} {B : Nat} {g : Fo} {wo : Option Addr} {wl wc : Nat} (h : Want w B g wo wl wc) (hq : Quiet0 w w') : Want w' B g wo wl wc :=
  ⟨box_after h.blk hq, h.parts.fr hq (fun k _ hk => ⟨hk, fun h => h⟩)⟩
theorem want_one {wr : World} {B : Nat} {a b c : Value} {k n : Int} {ps : Fo} {o : Option Addr} {len cap : Nat} (hb : wr.heap[B]? = some (.cells #[a, b, c] 24 (0, 0))) (hs : SlcIn (fun k => k ≠ B) wr o len ps) :
    Want (put3 wr B (.int .i64 k) (.int .i64 n) (.slice o len cap)) B (.cons k n ps .nil) o len cap :=
  ⟨box_set2 (box_set1 (box_set0 hb)), hs.fr (put3_fr wr B _ _ _) (fun k _ hk => ⟨hk, hk⟩)⟩
theorem want_more {wr : World} {B : Nat} {k n k2 n2 : Int} {ps ps2 r : Fo} {o wo : Option Addr} {len cap wl wc : Nat} (hw : Want wr B (.cons k2 n2 ps2 r) wo wl wc) (hs : SlcIn (fun k => k ≠ B) wr o len ps) :
    Want ((put3 wr B (.int .i64 4) (.int .i64 0) (.slice (some ⟨wr.heap.size, 0, none⟩) 2 2)).alloc (.cells #[.int .i64 k, .int .i64 n, .slice o len cap, .int .i64 (arrK (.cons k2 n2 ps2 r)), .int .i64 (arrN (.cons k2 n2 ps2 r)), .slice wo wl wc] 24)) B (.cons k n ps (.cons k2 n2 ps2 r)) (some ⟨wr.heap.size, 0, none⟩) 2 2 := by
  have hf := put3_fr wr B (.int .i64 4) (.int .i64 0) (.slice (some ⟨wr.heap.size, 0, none⟩) 2 2)
  have hlt := lt_of_block hw.blk
  have hps : (put3 wr B (.int .i64 4) (.int .i64 0) (.slice (some ⟨wr.heap.size, 0, none⟩) 2 2)).heap.size = wr.heap.size := by simp [put3, World.setCell]
  have hb := box_set2 (u := .slice (some ⟨wr.heap.size, 0, none⟩) 2 2) (box_set1 (u := .int .i64 0) (box_set0 (u := .int .i64 4) hw.blk))
  have hnew := heap_alloc_new (put3 wr B (.int .i64 4) (.int .i64 0) (.slice (some ⟨wr.heap.size, 0, none⟩) 2 2)) (.cells #[.int .i64 k, .int .i64 n, .slice o len cap, .int .i64 (arrK (.cons k2 n2 ps2 r)), .int .i64 (arrN (.cons k2 n2 ps2 r)), .slice wo wl wc] 24)
  rw [hps] at hnew
  have hqa := Quiet0.alloc (put3 wr B (.int .i64 4) (.int .i64 0) (.slice (some ⟨wr.heap.size, 0, none⟩) 2 2)) (.cells #[.int .i64 k, .int .i64 n, .slice o len cap, .int .i64 (arrK (.cons k2 n2 ps2 r)), .int .i64 (arrN (.cons k2 n2 ps2 r)), .slice wo wl wc] 24)
  refine ⟨box_after hb hqa, ?_⟩
  have h1 := (hs.fr (T := fun k => k ≠ B) hf (fun k _ hk => ⟨hk, hk⟩)).fr (T := fun k => k ≠ B) hqa (fun k _ hk => ⟨hk, fun h => h⟩)
  have h2 := (hw.parts.fr (T := fun k => k ≠ B) hf (fun k _ hk => ⟨hk, hk⟩)).fr (T := fun k => k ≠ B) hqa (fun k _ hk => ⟨hk, fun h => h⟩)
  exact slcIn2 (R := fun k => k ≠ B) (by show wr.heap.size ≠ B; omega) hnew h1 h2
theorem put_quiet {w wr : World} {B : Nat} (h : Quiet0 w wr) (hB : w.heap.size ≤ B) (a b c : Value) : Quiet0 w (put3 wr B a b c) :=
  Fr.trans' h (put3_fr wr B a b c) (fun i hi h => by omega)
set_option maxHeartbeats 4000000 in
set_option maxRecDepth 100000 in
theorem typesArrows_all (f : Fo) (w : World) (o : Option Addr) (len cap : Nat) (hs : Slc w o len f) (hc : len ≤ cap) (ht : Pow10 w) :
    Calls Tryd.prog 4 #[.slice o len cap] w fun e w' => e = .returned (.bool true) ∧ Quiet0 w w' := by
  have HA : Hid (∀ W, Quiet0 w W → Calls Tryd.prog 15 #[] W fun e w' => e = .returned (.bool true) ∧ Quiet0 W w') := fun W hq => awake_any W (ht.stay hq)
  have HS := Lib.hid hs
  have HL := Lib.hid hs.1
  by_cases hlen : len ≤ 12
  · have n12 : ¬ (12 : Int) < (len : Int) := by omega
    have nlen : (0 : Int) ≤ len := by omega
    have HAR : Hid (f.size ≤ 1000000 → ∀ W, Quiet0 w W → Calls Tryd.prog 20 #[.slice o len cap] W fun e w' => ∃ o' len' cap', e = .returned (.agg #[.int .i64 (arrK f), .int .i64 (arrN f), .slice o' len' cap']) ∧ Slc w' o' len' (arrP f) ∧ Quiet0 W w') := by
      intro hz W hq
      refine (arrow_any f W o len cap (hs.stay hq) hc hz).mono ?_
      rintro e w' ⟨o', len', cap', rfl, h1, h2⟩
      exact ⟨o', len', cap', rfl, h1.slc, h2⟩
    clear hs ht
    go_enter Tryd.func4, Tryd.ntmps4
    go_wp2_with fail
    obtain ⟨W0, hW0⟩ : ∃ W0, W0 = w.alloc (.cells #[.int .i64 0, .int .i64 0, .slice none 0 0] 24) := ⟨_, rfl⟩
    change Code.wp _ _ _ _ (w.alloc (.cells #[.int .i64 0, .int .i64 0, .slice none 0 0] 24))
    have hw0 : Want W0 w.heap.size .nil none 0 0 := by rw [hW0]; exact ⟨heap_alloc_new w _, SlcIn.nil _ _ _⟩
    have HW0 := Lib.hid hw0
    have HQ0 : Hid (Quiet0 w W0) := by rw [hW0]; exact Quiet0.alloc _ _
    rw [← hW0]
    clear hW0 hw0
    generalize hB : w.heap.size = B at *
    have HBE := Lib.hid hB
    clear hB
    go_loopw [2, 4] (fun _ t wr => ∃ (m : Nat) (wo : Option Addr) (wl wc : Nat), t = .int .i64 ((m : Int) - 1) ∧ m ≤ len ∧ (f.drop m).size ≤ 300 * (len - m) ∧ Want wr B (f.drop m) wo wl wc ∧ Quiet0 w wr) (fun _ t _ => (intOf t + 1).toNat)
    case atStart => exact ⟨len, none, 0, 0, rfl, Nat.le_refl _, by rw [Fo.drop_end f len (Nat.le_of_eq HL.out.symm)]; exact Nat.zero_le _, by rw [Fo.drop_end f len (Nat.le_of_eq HL.out.symm)]; exact HW0.out, HQ0.out⟩
    case round =>
      obtain ⟨m, wo, wl, wc, rfl, hm, hz, hw, hq⟩ := hrel
      have HZ := Lib.hid hz
      have HW := Lib.hid hw
      have HQ := Lib.hid hq
      clear hz hw hq
      rcases m with _ | m
      · have e0 : ((0 : Nat) : Int) - 1 = -1 := rfl
        rw [e0]
        have HAR2 := Lib.hid (HAR.out (by have := HZ.out; rw [Fo.drop_zero] at this; omega))
        have hw' := HW.out
        rw [Fo.drop_zero] at hw'
        have HW' := Lib.hid hw'
        have HSM : Hid (∀ W o' len' cap', Quiet0 wr W → Slc W o' len' (arrP f) → Calls Tryd.prog 19 #[.agg #[.int .i64 (arrK f), .int .i64 (arrN f), .slice o' len' cap'], .agg #[.int .i64 (arrK f), .int .i64 (arrN f), .slice wo wl wc]] W fun e w' => e = .returned (.bool true) ∧ Quiet0 W w') := by
          intro W o' len' cap' hq h1
          have h := refSame_any (arrK f) (arrN f) (arrP f) (arrK f) (arrN f) (arrP f) W o' len' cap' wo wl wc h1 (HW'.out.stay hq).parts.slc
          have e : sameT (arrK f) (arrN f) (arrP f) (arrK f) (arrN f) (arrP f) = true := by simp [sameT, Fo.same_refl]
          rw [e] at h; exact h
        have HBB : Hid (∀ W, Quiet0 wr W → W.cell? ⟨B, 0, none⟩ = some (.int .i64 (arrK f)) ∧ W.cell? ⟨B, 1, none⟩ = some (.int .i64 (arrN f)) ∧ W.cell? ⟨B, 2, none⟩ = some (.slice wo wl wc)) := by
          intro W hq
          obtain ⟨z0, z1, z2, _⟩ := box_cells3 (HW'.out.stay hq).blk
          exact ⟨z0, z1, z2⟩
        generalize arrK f = ka at *
        generalize arrN f = na at *
        generalize arrP f = pa at *
        clear hw'
        go_wp2_with fail
        have hqc := Quiet0.refl wr
        obtain ⟨a0, a1, a2⟩ := HBB.out wr hqc
        have HAR3 : Hid (∀ W, Quiet0 wr W → Calls Tryd.prog 20 #[.slice o len cap] W fun e w' => ∃ o' len' cap', e = .returned (.agg #[.int .i64 ka, .int .i64 na, .slice o' len' cap']) ∧ Slc w' o' len' pa ∧ Quiet0 W w') := fun W hq => HAR2.out W (HQ.out.trans hq)
        have HA3 : Hid (∀ W, Quiet0 wr W → Calls Tryd.prog 15 #[] W fun e w' => e = .returned (.bool true) ∧ Quiet0 W w') := fun W hq => HA.out W (HQ.out.trans hq)
        go_region_held3 (fun w' => w'.cell? ⟨B, 0, none⟩ = some (.int .i64 ka) ∧ w'.cell? ⟨B, 1, none⟩ = some (.int .i64 na) ∧ w'.cell? ⟨B, 2, none⟩ = some (.slice wo wl wc))
      (((refine HBB.out _ ?_); (repeat (first | with_reducible exact hqc | with_reducible exact Quiet0.refl _ | with_reducible refine Quiet0.trans ?_ (Quiet0.alloc _ _) | with_reducible refine Quiet0.trans ?_ (Quiet0.drew _) | fail))))
      (first
        | (go_at_call 20; (with_reducible refine Calls.mono (HAR3.out _ ?hq) ?_); (case hq => (repeat (first | with_reducible exact hqc | with_reducible exact Quiet0.refl _ | with_reducible refine Quiet0.trans ?_ (Quiet0.alloc _ _) | with_reducible refine Quiet0.trans ?_ (Quiet0.drew _) | fail))); rintro e wx ⟨o3, l3, cp3, rfl, hs3, hqx⟩; refine with_q (w0 := wr) ?hq2 hqx ?_; (case hq2 => (repeat (first | with_reducible exact hqc | with_reducible exact Quiet0.refl _ | with_reducible refine Quiet0.trans ?_ (Quiet0.alloc _ _) | with_reducible refine Quiet0.trans ?_ (Quiet0.drew _) | fail))); intro hqc)
        | (go_at_call 19; (with_reducible refine Calls.mono (HSM.out _ o3 l3 cp3 ?hq ?hsl) ?_); (case hq => (repeat (first | with_reducible exact hqc | with_reducible exact Quiet0.refl _ | with_reducible refine Quiet0.trans ?_ (Quiet0.alloc _ _) | with_reducible refine Quiet0.trans ?_ (Quiet0.drew _) | fail))); (case hsl => (first | with_reducible exact hs3 | with_reducible exact hs3.stay (Quiet0.drew _))); rintro e wx ⟨rfl, hqx⟩; refine with_q (w0 := wr) ?hq2 hqx ?_; (case hq2 => (repeat (first | with_reducible exact hqc | with_reducible exact Quiet0.refl _ | with_reducible refine Quiet0.trans ?_ (Quiet0.alloc _ _) | with_reducible refine Quiet0.trans ?_ (Quiet0.drew _) | fail))); intro hqc)
        | (go_at_call 15; (with_reducible refine Calls.mono (HA3.out _ ?hq) ?_); (case hq => (repeat (first | with_reducible exact hqc | with_reducible exact Quiet0.refl _ | with_reducible refine Quiet0.trans ?_ (Quiet0.alloc _ _) | with_reducible refine Quiet0.trans ?_ (Quiet0.drew _) | fail))); rintro e wx ⟨rfl, hqx⟩; refine with_q (w0 := wr) ?hq2 hqx ?_; (case hq2 => (repeat (first | with_reducible exact hqc | with_reducible exact Quiet0.refl _ | with_reducible refine Quiet0.trans ?_ (Quiet0.alloc _ _) | with_reducible refine Quiet0.trans ?_ (Quiet0.drew _) | fail))); intro hqc)
        | fail)
        all_goals
          go_wp2_with fail
          go_ret
          exact ⟨rfl, HQ.out.trans hqc⟩
      · have e0 : ((m + 1 : Nat) : Int) - 1 = (m : Int) := by omega
        rw [e0]
        have hlt : m < len := by omega
        have hlt' : (m : Int) < len := by omega
        obtain ⟨b, off, k1, n1, qs, o1, len1, cap1, rfl, hd, hg, c0, c1, c2, hs1⟩ := (HS.out.stay HQ.out).nth hlt
        obtain ⟨_, _, _, _, _, _, _, _, hoo, hd', hg', _, _, f2, hs0⟩ := HS.out.nth hlt
        rw [hg] at hg'
        cases hg'
        cases hoo
        have f2' := HQ.out.at f2
        rw [c2] at f2'
        cases f2'
        have HD := Lib.hid hd
        have HS1 : Hid (SlcIn (fun k => k ≠ B) wr o1 len1 qs) := hs0.lt.fr HQ.out (fun k _ hk => ⟨by have : k < w.heap.size := hk; have := HBE.out; omega, fun h => h⟩)
        have HGR := Lib.hid (great_any k1 n1 qs wr o1 len1 cap1 hs1)
        unfold tyv at HGR
        clear hd hg hs1 hd' f2 hs0
        cases hgr : greatF qs
        · have hqz := great_size hgr
          rw [hgr] at HGR
          have HZ2 : Hid ((f.drop m).size ≤ 300 * (len - m)) := by
            show _ ≤ _
            rw [HD.out]
            have := HZ.out
            simp only [Fo.size]
            omega
          clear hgr
          by_cases hlast : m + 1 = len
          · have q1 : ((m : Int) == (len : Int) - 1) = true := by simp; omega
            have HN : Hid (f.drop m = .cons k1 n1 qs .nil) := by show _ = _; rw [HD.out, Fo.drop_end f (m + 1) (by have := HL.out; omega)]
            go_wp2_with fail
            refine HGR.out.mono ?_; rintro e w1 ⟨rfl, hq1⟩
            have HQ1 := Lib.hid (HQ.out.trans hq1)
            have hw1 := HW.out.stay hq1
            obtain ⟨z0, z1, z2, y0, y1, y2⟩ := box_cells3 hw1.blk
            have c0' := hq1.at c0
            have c1' := hq1.at c1
            have c2' := hq1.at c2
            have HW1 : Hid (Want (put3 w1 B (.int .i64 k1) (.int .i64 n1) (.slice o1 len1 cap1)) B (f.drop m) o1 len1 cap1) := by
              show Want _ _ _ _ _ _
              rw [HN.out]
              exact want_one hw1.blk (HS1.out.fr hq1 (fun k _ hk => ⟨hk, fun h => h⟩))
            have HQ2 : Hid (Quiet0 w (put3 w1 B (.int .i64 k1) (.int .i64 n1) (.slice o1 len1 cap1))) := put_quiet HQ1.out (by have := HBE.out; omega) _ _ _
            clear hq1 hw1 c0 c1 c2
            go_wp2_with fail
            go_roundw
            case rel => exact ⟨m, o1, len1, cap1, by go_num, by omega, HZ2.out, HW1.out, HQ2.out⟩
            case measure => first | (simp [intOf]; done) | (simp [intOf]; omega)
          · have q1 : ((m : Int) == (len : Int) - 1) = false := by simp; omega
            obtain ⟨k2, n2, ps2, hd2, _⟩ := Fo.drop_get f (m + 1) (by have := HL.out; omega)
            have HN : Hid (f.drop m = .cons k1 n1 qs (.cons k2 n2 ps2 (f.drop (m + 1 + 1)))) := by show _ = _; rw [HD.out, hd2]
            have hw' := HW.out
            rw [hd2] at hw'
            have HW' := Lib.hid hw'
            clear hw' hd2
            go_wp2_with fail
            refine HGR.out.mono ?_; rintro e w1 ⟨rfl, hq1⟩
            have HQ1 := Lib.hid (HQ.out.trans hq1)
            have hw1 := HW'.out.stay hq1
            obtain ⟨z0, z1, z2, y0, y1, y2⟩ := box_cells3 hw1.blk
            have c0' := hq1.at c0
            have c1' := hq1.at c1
            have c2' := hq1.at c2
            have HW1 : Hid (Want ((put3 w1 B (.int .i64 4) (.int .i64 0) (.slice (some ⟨w1.heap.size, 0, none⟩) 2 2)).alloc (.cells #[.int .i64 k1, .int .i64 n1, .slice o1 len1 cap1, .int .i64 (arrK (.cons k2 n2 ps2 (f.drop (m + 1 + 1)))), .int .i64 (arrN (.cons k2 n2 ps2 (f.drop (m + 1 + 1)))), .slice wo wl wc] 24)) B (f.drop m) (some ⟨w1.heap.size, 0, none⟩) 2 2) := by
              show Want _ _ _ _ _ _
              rw [HN.out]
              exact want_more hw1 (HS1.out.fr hq1 (fun k _ hk => ⟨hk, fun h => h⟩))
            have HQ2 : Hid (Quiet0 w ((put3 w1 B (.int .i64 4) (.int .i64 0) (.slice (some ⟨w1.heap.size, 0, none⟩) 2 2)).alloc (.cells #[.int .i64 k1, .int .i64 n1, .slice o1 len1 cap1, .int .i64 (arrK (.cons k2 n2 ps2 (f.drop (m + 1 + 1)))), .int .i64 (arrN (.cons k2 n2 ps2 (f.drop (m + 1 + 1)))), .slice wo wl wc] 24))) := (put_quiet HQ1.out (by have := HBE.out; omega) _ _ _).trans (Quiet0.alloc _ _)
            have hBl := lt_of_block hw1.blk
            generalize arrK (.cons k2 n2 ps2 (f.drop (m + 1 + 1))) = ka at *
            generalize arrN (.cons k2 n2 ps2 (f.drop (m + 1 + 1))) = na at *
            clear hq1 hw1 c0 c1 c2
            go_wp2_with fail
            go_region
            all_goals
              go_wp2_with fail
              go_roundw
              case rel => exact ⟨m, _, 2, 2, by go_num, by omega, HZ2.out, HW1.out.stay (Quiet0.drew _), HQ2.out.trans (Quiet0.drew _)⟩
              case measure => first | (simp [intOf]; done) | (simp [intOf]; omega)
        · rw [hgr] at HGR
          clear hgr
          go_wp2_with fail
          refine HGR.out.mono ?_; rintro e w1 ⟨rfl, hq1⟩
          have HQ1 := Lib.hid (HQ.out.trans hq1)
          clear hq1
          go_wp2_with fail
          refine (HA.out _ HQ1.out).mono ?_; rintro e w2 ⟨rfl, hq2⟩
          go_wp2_with fail
          go_ret
          exact ⟨rfl, HQ1.out.trans hq2⟩
  · have n12 : (12 : Int) < (len : Int) := by omega
    clear hs ht
    go_enter Tryd.func4, Tryd.ntmps4
    go_wp2_with fail
    refine (HA.out _ (Quiet0.refl _)).mono ?_; rintro e w1 ⟨rfl, hq1⟩
    go_wp2_with fail
    go_ret
    exact ⟨rfl, hq1⟩
end Go.Proofs.YtggidhgifaekbaaDoor
