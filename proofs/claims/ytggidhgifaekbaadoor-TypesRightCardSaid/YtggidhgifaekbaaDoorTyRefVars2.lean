/-
  The reference's Vars, whole. Conditions: as TyRefVars'.
-/
import Derived.Test.YtggidhgifaekbaaDoorTyRefVars
namespace Go.Proofs.YtggidhgifaekbaaDoor
open Go.RowKit Go.Maps

def RVars (k n : Int) (ps : Fo) : Prop := ∀ (w : World) (o : Option Addr) (len cap : Nat) (vo : Value) (L : List Int), Slc w o len ps → IntsV w vo L → L.length + ps.size ≤ 199000 + 999 →
  Calls Tryd.prog 43 #[tyv k n o len cap, vo] w fun e w' => ∃ vo', e = .returned vo' ∧ IntsV w' vo' (Fo.vars L (.cons k n ps .nil)) ∧ Quiet0 w w'
set_option maxHeartbeats 4000000 in
set_option maxRecDepth 100000 in
theorem refVars_any (k n : Int) (ps : Fo) : RVars k n ps := by
  refine Fo.ind' (T := RVars) ?_ k n ps
  intro k n ps ih w o len cap vo L hs hv hsz
  obtain ⟨va, vc, rfl, hat⟩ := hv
  have HS := Lib.hid hs
  have HL := Lib.hid hs.1
  have hmx := hs.2.1
  unfold maxLen at hmx
  have IH := Lib.hid ih
  have HAT0 := Lib.hid hat
  obtain ⟨RES, hres⟩ : ∃ RES, RES = Fo.vars L (.cons k n ps .nil) := ⟨_, rfl⟩
  have HRES : Hid (RES = Fo.vars (varStep L k n ps) ps) := hres
  have HIN := Lib.hid (fun (W : World) (hq : Quiet0 w W) => refIn_any va L.length vc L n W (hat.stay hq) rfl (by omega))
  obtain ⟨W0, hW0⟩ : ∃ W0, W0 = w.alloc (.cells #[.int .i64 k, .int .i64 n, .slice o len cap] 24) := ⟨_, rfl⟩
  have HQ0 : Hid (Quiet0 w W0) := by rw [hW0]; exact Quiet0.alloc _ _
  have HBB : Hid (∀ W, Quiet0 W0 W → W.cell? ⟨w.heap.size, 0, none⟩ = some (.int .i64 k) ∧ W.cell? ⟨w.heap.size, 1, none⟩ = some (.int .i64 n) ∧ W.cell? ⟨w.heap.size, 2, none⟩ = some (.slice o len cap)) := by
    intro W hq; rw [hW0] at hq; exact box_cells w k n o len cap _ W hq
  rw [← hres]
  clear hs hat ih hres
  unfold tyv
  cases hk : (k == 1)
  · have HST : Hid (varStep L k n ps = L) := by show _ = _; unfold varStep; rw [hk]; rfl
    go_enter Tryd.func43, Tryd.ntmps43
    generalize hB : w.heap.size = B at *
    go_upto_region 1 with fail
    rw [← hW0]
    clear hW0
    obtain ⟨a0, a1, a2⟩ := HBB.out W0 (Quiet0.refl _)
    go_wp2_with fail
    go_loopw [1, 5] (fun v t wr => ∃ (i : Nat) (l : List Int), t = .int .i64 i ∧ i ≤ len ∧ IntsV wr v l ∧ Fo.vars l (ps.drop i) = RES ∧ l.length + (ps.drop i).size ≤ 200000 ∧ Quiet0 W0 wr) (fun _ t _ => len - (intOf t).toNat)
    case atStart => exact ⟨0, L, rfl, Nat.zero_le _, ⟨va, vc, rfl, HAT0.out.stay HQ0.out⟩, by rw [Fo.drop_zero, HRES.out, HST.out], by rw [Fo.drop_zero]; omega, Quiet0.refl _⟩
    case round =>
      obtain ⟨i, l, rfl, hi, hv, hr, hz, hq⟩ := hrel
      have HV := Lib.hid hv
      have HR := Lib.hid hr
      have HZ := Lib.hid hz
      have HQ := Lib.hid hq
      obtain ⟨b0, b1, b2⟩ := HBB.out wr hq
      clear hv hr hz hq
      by_cases hlt : i < len
      · have hlt' : (i : Int) < len := by omega
        obtain ⟨b, off, k1, n1, qs, o1, len1, cap1, rfl, hd, hg, e0, e1, e2, hs1⟩ := (HS.out.stay (HQ0.out.trans HQ.out)).nth hlt
        have hzz : l.length + qs.size + 1 + (ps.drop (i + 1)).size ≤ 200000 := by have := HZ.out; rw [hd] at this; simp only [Fo.size] at this; omega
        have HC := Lib.hid (IH.out i k1 n1 qs hg wr o1 len1 cap1 u1 l hs1 HV.out (by omega))
        have HR2 : Hid (Fo.vars (Fo.vars l (.cons k1 n1 qs .nil)) (ps.drop (i + 1)) = RES) := by
          show _ = _
          rw [← HR.out, hd]; rfl
        have HZ2 : Hid ((Fo.vars l (.cons k1 n1 qs .nil)).length + (ps.drop (i + 1)).size ≤ 200000) := by
          show _ ≤ _
          have := vars_len (.cons k1 n1 qs .nil) l
          simp only [Fo.size] at this
          omega
        unfold tyv at HC
        generalize Fo.vars l (.cons k1 n1 qs .nil) = l2 at *
        clear hd hg hs1 hzz
        go_wp2_with fail
        refine HC.out.mono ?_; rintro e w2 ⟨v2, rfl, hv2, hq2⟩
        have HV2 := Lib.hid hv2
        have HQ2 := Lib.hid (HQ.out.trans hq2)
        clear hv2 hq2
        go_wp2_with fail
        go_roundw
        case rel => exact ⟨i + 1, l2, by go_num, by omega, HV2.out, HR2.out, HZ2.out, HQ2.out⟩
        case measure => simp [intOf]; omega
      · have hlt' : ¬ (i : Int) < len := by omega
        have hfin : l = RES := by have := HR.out; rw [Fo.drop_end ps i (by have := HL.out; omega)] at this; exact this
        have HFIN := Lib.hid hfin
        clear hfin
        go_wp2_with fail
        go_ret
        exact ⟨_, rfl, HFIN.out ▸ HV.out, HQ0.out.trans HQ.out⟩
  · cases hin : inB L n
    · have HST : Hid (varStep L k n ps = L ++ [n]) := by show _ = _; unfold varStep; rw [hk, hin]; rfl
      rw [hin] at HIN
      go_enter Tryd.func43, Tryd.ntmps43
      generalize hB : w.heap.size = B at *
      go_upto_region 1 with fail
      rw [← hW0]
      clear hW0
      obtain ⟨a0, a1, a2⟩ := HBB.out W0 (Quiet0.refl _)
      go_wp2_with fail
      refine (HIN.out _ HQ0.out).mono ?_; rintro e W1' ⟨rfl, rfl⟩
      have hq1 := Quiet0.refl W0
      have HQ1 := Lib.hid hq1
      clear a0 a1 a2
      go_upto_region 2 with fail
      obtain ⟨a0, a1, a2⟩ := HBB.out W0 hq1
      clear hq1
      have HAT := Lib.hid (HAT0.out.stay (HQ0.out.trans HQ1.out))
      have HS1 : Hid (∀ W, Quiet0 W0 W → W.cell? ⟨B, 1, none⟩ = some (.int .i64 n)) := fun W hq => (HBB.out W (HQ1.out.trans hq)).2.1
      go_cut [1] (fun v wx => IntsV wx v (L ++ [n]) ∧ Quiet0 W0 wx)
      case first =>
        have hqc := Quiet0.refl W0
        go_region_held3 (fun w' => w'.cell? ⟨B, 1, none⟩ = some (.int .i64 n))
          (((refine HS1.out _ ?_); (repeat (first | with_reducible exact hqc | with_reducible exact Quiet0.refl _ | with_reducible refine Quiet0.trans ?_ (Quiet0.alloc _ _) | with_reducible refine Quiet0.trans ?_ (Quiet0.drew _) | fail))))
          (first
            | ((refine step_ints _ rfl (.tmp 16) (.tmp 17) rfl (.slice (some ⟨W0.heap.size, 0, none⟩) 0 0) [] rfl ?hown va L L.length vc rfl rfl ?hat ?hbd ?hne ?_); (case hown => ((refine own_empty ?_); (repeat (first | ((with_reducible refine blk_new _ _ _ _ ?hbe); (case hbe => (simp; done))) | with_reducible refine blk_after (Quiet0.alloc _ _) ?_ | with_reducible refine blk_drew ?_ | ((with_reducible refine blk_fr hf3 ?hbo ?_); (case hbo => (simp [Value.ownBlock]; done))) | ((with_reducible refine blk_fr hf3 ?hbo ?_); (case hbo => (simp [Value.ownBlock]; omega))) | fail)))); (case hat => (repeat (first | with_reducible exact HAT.out | with_reducible refine IntsAt.stay ?_ (Quiet0.alloc _ _) | with_reducible refine IntsAt.stay ?_ (Quiet0.drew _) | fail))); (case hbd => (simp; omega)); (case hne => simp); intro v3 w3 ho3 hf3 hg3 hn3; (refine with_fr2 (w0 := W0) ?hch hf3 ?hlo ?_); (case hch => (repeat (first | with_reducible exact hqc | with_reducible exact Quiet0.refl _ | with_reducible refine Quiet0.trans ?_ (Quiet0.alloc _ _) | with_reducible refine Quiet0.trans ?_ (Quiet0.drew _) | fail))); (case hlo => (intro k hk; simp [Value.ownBlock] at hk; omega)); intro hqc hw3)
            | ((refine step_ints _ rfl (.tmp 16) (.tmp 17) rfl (.slice (some ⟨W0.heap.size + 1, 0, none⟩) 0 0) [] rfl ?hown va L L.length vc rfl rfl ?hat ?hbd ?hne ?_); (case hown => ((refine own_empty ?_); (repeat (first | ((with_reducible refine blk_new _ _ _ _ ?hbe); (case hbe => (simp; done))) | with_reducible refine blk_after (Quiet0.alloc _ _) ?_ | with_reducible refine blk_drew ?_ | ((with_reducible refine blk_fr hf3 ?hbo ?_); (case hbo => (simp [Value.ownBlock]; done))) | ((with_reducible refine blk_fr hf3 ?hbo ?_); (case hbo => (simp [Value.ownBlock]; omega))) | fail)))); (case hat => (repeat (first | with_reducible exact HAT.out | with_reducible refine IntsAt.stay ?_ (Quiet0.alloc _ _) | with_reducible refine IntsAt.stay ?_ (Quiet0.drew _) | fail))); (case hbd => (simp; omega)); (case hne => simp); intro v3 w3 ho3 hf3 hg3 hn3; (refine with_fr2 (w0 := W0) ?hch hf3 ?hlo ?_); (case hch => (repeat (first | with_reducible exact hqc | with_reducible exact Quiet0.refl _ | with_reducible refine Quiet0.trans ?_ (Quiet0.alloc _ _) | with_reducible refine Quiet0.trans ?_ (Quiet0.drew _) | fail))); (case hlo => (intro k hk; simp [Value.ownBlock] at hk; omega)); intro hqc hw3)
            | ((refine step_ints _ rfl (.tmp 18) (.tmp 21) rfl v3 ([] ++ L) rfl ?hown (some ⟨W0.heap.size, 0, none⟩) [n] 1 1 rfl rfl ?hat ?hbd hn3 ?_); (case hown => (first | with_reducible exact ho3 | with_reducible exact ho3.alloc _ | fail)); (case hat => ((refine ints_one ?_); (repeat (first | ((with_reducible refine blk_new _ _ _ _ ?hbe); (case hbe => (simp; done))) | with_reducible refine blk_after (Quiet0.alloc _ _) ?_ | with_reducible refine blk_drew ?_ | ((with_reducible refine blk_fr hf3 ?hbo ?_); (case hbo => (simp [Value.ownBlock]; done))) | ((with_reducible refine blk_fr hf3 ?hbo ?_); (case hbo => (simp [Value.ownBlock]; omega))) | fail)))); (case hbd => (simp; omega)); intro v4 w4 ho4 hf4 hg4 hn4; (refine with_fr2 (w0 := W0) ?hch hf4 ?hlo ?_); (case hch => (repeat (first | with_reducible exact hqc | with_reducible exact Quiet0.refl _ | with_reducible refine Quiet0.trans ?_ (Quiet0.alloc _ _) | with_reducible refine Quiet0.trans ?_ (Quiet0.drew _) | fail))); (case hlo => (intro k hk; rcases hg3 k hk with h | h; (simp [Value.ownBlock] at h; omega); (simp at h; omega))); intro hqc hw4)
            | ((refine step_ints _ rfl (.tmp 18) (.tmp 21) rfl v3 ([] ++ L) rfl ?hown (some ⟨W0.heap.size + 1, 0, none⟩) [n] 1 1 rfl rfl ?hat ?hbd hn3 ?_); (case hown => (first | with_reducible exact ho3 | with_reducible exact ho3.alloc _ | fail)); (case hat => ((refine ints_one ?_); (repeat (first | ((with_reducible refine blk_new _ _ _ _ ?hbe); (case hbe => (simp; done))) | with_reducible refine blk_after (Quiet0.alloc _ _) ?_ | with_reducible refine blk_drew ?_ | ((with_reducible refine blk_fr hf3 ?hbo ?_); (case hbo => (simp [Value.ownBlock]; done))) | ((with_reducible refine blk_fr hf3 ?hbo ?_); (case hbo => (simp [Value.ownBlock]; omega))) | fail)))); (case hbd => (simp; omega)); intro v4 w4 ho4 hf4 hg4 hn4; (refine with_fr2 (w0 := W0) ?hch hf4 ?hlo ?_); (case hch => (repeat (first | with_reducible exact hqc | with_reducible exact Quiet0.refl _ | with_reducible refine Quiet0.trans ?_ (Quiet0.alloc _ _) | with_reducible refine Quiet0.trans ?_ (Quiet0.drew _) | fail))); (case hlo => (intro k hk; rcases hg3 k hk with h | h; (simp [Value.ownBlock] at h; omega); (simp at h; omega))); intro hqc hw4)
            | ((refine step_ints _ rfl (.tmp 18) (.tmp 21) rfl v3 ([] ++ L) rfl ?hown (some ⟨w3.heap.size, 0, none⟩) [n] 1 1 rfl rfl ?hat ?hbd hn3 ?_); (case hown => (first | with_reducible exact ho3 | with_reducible exact ho3.alloc _ | fail)); (case hat => ((refine ints_one ?_); (repeat (first | ((with_reducible refine blk_new _ _ _ _ ?hbe); (case hbe => (simp; done))) | with_reducible refine blk_after (Quiet0.alloc _ _) ?_ | with_reducible refine blk_drew ?_ | ((with_reducible refine blk_fr hf3 ?hbo ?_); (case hbo => (simp [Value.ownBlock]; done))) | ((with_reducible refine blk_fr hf3 ?hbo ?_); (case hbo => (simp [Value.ownBlock]; omega))) | fail)))); (case hbd => (simp; omega)); intro v4 w4 ho4 hf4 hg4 hn4; (refine with_fr2 (w0 := W0) ?hch hf4 ?hlo ?_); (case hch => (repeat (first | with_reducible exact hqc | with_reducible exact Quiet0.refl _ | with_reducible refine Quiet0.trans ?_ (Quiet0.alloc _ _) | with_reducible refine Quiet0.trans ?_ (Quiet0.drew _) | fail))); (case hlo => (intro k hk; rcases hg3 k hk with h | h; (simp [Value.ownBlock] at h; omega); (simp at h; omega))); intro hqc hw4)
            | fail)
        all_goals
          go_wp2_with fail
          go_meet
          exact ⟨by have := ownsInts_v ho4; simpa using this, hqc⟩
      case rest =>
        obtain ⟨hvn, hqn⟩ := hcut
        have HVN := Lib.hid hvn
        have HQN := Lib.hid (HQ1.out.trans hqn)
        clear a0 a1 a2 hvn hqn
        go_wp2_with fail
        go_loopw [1, 5] (fun v t wr => ∃ (i : Nat) (l : List Int), t = .int .i64 i ∧ i ≤ len ∧ IntsV wr v l ∧ Fo.vars l (ps.drop i) = RES ∧ l.length + (ps.drop i).size ≤ 200000 ∧ Quiet0 W0 wr) (fun _ t _ => len - (intOf t).toNat)
        case atStart => exact ⟨0, L ++ [n], rfl, Nat.zero_le _, HVN.out, by rw [Fo.drop_zero, HRES.out, HST.out], by rw [Fo.drop_zero]; simp; omega, HQN.out⟩
        case round =>
          obtain ⟨i, l, rfl, hi, hv, hr, hz, hq⟩ := hrel
          have HV := Lib.hid hv
          have HR := Lib.hid hr
          have HZ := Lib.hid hz
          have HQ := Lib.hid hq
          obtain ⟨b0, b1, b2⟩ := HBB.out wr hq
          clear hv hr hz hq
          by_cases hlt : i < len
          · have hlt' : (i : Int) < len := by omega
            obtain ⟨b, off, k1, n1, qs, o1, len1, cap1, rfl, hd, hg, e0, e1, e2, hs1⟩ := (HS.out.stay (HQ0.out.trans HQ.out)).nth hlt
            have hzz : l.length + qs.size + 1 + (ps.drop (i + 1)).size ≤ 200000 := by have := HZ.out; rw [hd] at this; simp only [Fo.size] at this; omega
            have HC := Lib.hid (IH.out i k1 n1 qs hg wr o1 len1 cap1 u1 l hs1 HV.out (by omega))
            have HR2 : Hid (Fo.vars (Fo.vars l (.cons k1 n1 qs .nil)) (ps.drop (i + 1)) = RES) := by
              show _ = _
              rw [← HR.out, hd]; rfl
            have HZ2 : Hid ((Fo.vars l (.cons k1 n1 qs .nil)).length + (ps.drop (i + 1)).size ≤ 200000) := by
              show _ ≤ _
              have := vars_len (.cons k1 n1 qs .nil) l
              simp only [Fo.size] at this
              omega
            unfold tyv at HC
            generalize Fo.vars l (.cons k1 n1 qs .nil) = l2 at *
            clear hd hg hs1 hzz
            go_wp2_with fail
            refine HC.out.mono ?_; rintro e w2 ⟨v2, rfl, hv2, hq2⟩
            have HV2 := Lib.hid hv2
            have HQ2 := Lib.hid (HQ.out.trans hq2)
            clear hv2 hq2
            go_wp2_with fail
            go_roundw
            case rel => exact ⟨i + 1, l2, by go_num, by omega, HV2.out, HR2.out, HZ2.out, HQ2.out⟩
            case measure => simp [intOf]; omega
          · have hlt' : ¬ (i : Int) < len := by omega
            have hfin : l = RES := by have := HR.out; rw [Fo.drop_end ps i (by have := HL.out; omega)] at this; exact this
            have HFIN := Lib.hid hfin
            clear hfin
            go_wp2_with fail
            go_ret
            exact ⟨_, rfl, HFIN.out ▸ HV.out, HQ0.out.trans HQ.out⟩
    · have HST : Hid (varStep L k n ps = L) := by show _ = _; unfold varStep; rw [hk, hin]; rfl
      rw [hin] at HIN
      go_enter Tryd.func43, Tryd.ntmps43
      generalize hB : w.heap.size = B at *
      go_upto_region 1 with fail
      rw [← hW0]
      clear hW0
      obtain ⟨a0, a1, a2⟩ := HBB.out W0 (Quiet0.refl _)
      go_wp2_with fail
      refine (HIN.out _ HQ0.out).mono ?_; rintro e W1' ⟨rfl, rfl⟩
      have hq1 := Quiet0.refl W0
      have HQ1 := Lib.hid hq1
      clear a0 a1 a2 hq1
      go_wp2_with fail
      go_loopw [1, 5] (fun v t wr => ∃ (i : Nat) (l : List Int), t = .int .i64 i ∧ i ≤ len ∧ IntsV wr v l ∧ Fo.vars l (ps.drop i) = RES ∧ l.length + (ps.drop i).size ≤ 200000 ∧ Quiet0 W0 wr) (fun _ t _ => len - (intOf t).toNat)
      case atStart => exact ⟨0, L, rfl, Nat.zero_le _, ⟨va, vc, rfl, HAT0.out.stay (HQ0.out.trans HQ1.out)⟩, by rw [Fo.drop_zero, HRES.out, HST.out], by rw [Fo.drop_zero]; omega, HQ1.out⟩
      case round =>
        obtain ⟨i, l, rfl, hi, hv, hr, hz, hq⟩ := hrel
        have HV := Lib.hid hv
        have HR := Lib.hid hr
        have HZ := Lib.hid hz
        have HQ := Lib.hid hq
        obtain ⟨b0, b1, b2⟩ := HBB.out wr hq
        clear hv hr hz hq
        by_cases hlt : i < len
        · have hlt' : (i : Int) < len := by omega
          obtain ⟨b, off, k1, n1, qs, o1, len1, cap1, rfl, hd, hg, e0, e1, e2, hs1⟩ := (HS.out.stay (HQ0.out.trans HQ.out)).nth hlt
          have hzz : l.length + qs.size + 1 + (ps.drop (i + 1)).size ≤ 200000 := by have := HZ.out; rw [hd] at this; simp only [Fo.size] at this; omega
          have HC := Lib.hid (IH.out i k1 n1 qs hg wr o1 len1 cap1 u1 l hs1 HV.out (by omega))
          have HR2 : Hid (Fo.vars (Fo.vars l (.cons k1 n1 qs .nil)) (ps.drop (i + 1)) = RES) := by
            show _ = _
            rw [← HR.out, hd]; rfl
          have HZ2 : Hid ((Fo.vars l (.cons k1 n1 qs .nil)).length + (ps.drop (i + 1)).size ≤ 200000) := by
            show _ ≤ _
            have := vars_len (.cons k1 n1 qs .nil) l
            simp only [Fo.size] at this
            omega
          unfold tyv at HC
          generalize Fo.vars l (.cons k1 n1 qs .nil) = l2 at *
          clear hd hg hs1 hzz
          go_wp2_with fail
          refine HC.out.mono ?_; rintro e w2 ⟨v2, rfl, hv2, hq2⟩
          have HV2 := Lib.hid hv2
          have HQ2 := Lib.hid (HQ.out.trans hq2)
          clear hv2 hq2
          go_wp2_with fail
          go_roundw
          case rel => exact ⟨i + 1, l2, by go_num, by omega, HV2.out, HR2.out, HZ2.out, HQ2.out⟩
          case measure => simp [intOf]; omega
        · have hlt' : ¬ (i : Int) < len := by omega
          have hfin : l = RES := by have := HR.out; rw [Fo.drop_end ps i (by have := HL.out; omega)] at this; exact this
          have HFIN := Lib.hid hfin
          clear hfin
          go_wp2_with fail
          go_ret
          exact ⟨_, rfl, HFIN.out ▸ HV.out, HQ0.out.trans HQ.out⟩
end Go.Proofs.YtggidhgifaekbaaDoor
