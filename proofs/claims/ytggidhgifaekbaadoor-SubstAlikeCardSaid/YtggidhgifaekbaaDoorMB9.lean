/-
  Texts laid together (TyRefVars2, SuRefRight, SuRefThen, SuRefThen2): what each one proves, and its conditions, stands at its head.
-/
import Derived.Test.YtggidhgifaekbaaDoorMB1
import Derived.Test.YtggidhgifaekbaaDoorMB2
import Derived.Test.YtggidhgifaekbaaDoorMB3
import Derived.Test.YtggidhgifaekbaaDoorMB4
import Derived.Test.YtggidhgifaekbaaDoorMB5
import Derived.Test.YtggidhgifaekbaaDoorMB6
import Derived.Test.YtggidhgifaekbaaDoorMB7
import Derived.Test.YtggidhgifaekbaaDoorMB8
/-
  The reference's Vars, whole. Conditions: as TyRefVars'.
-/
namespace Go.Proofs.YtggidhgifaekbaaDoor
open Go.RowKit Go.Maps

def RVars (k n : Int) (ps : Fo) : Prop := ∀ (w : World) (o : Option Addr) (len cap : Nat) (vo : Value) (L : List Int), Slc w o len ps → IntsV w vo L → L.length + ps.size ≤ 199000 + 999 →
  Calls Tryd.prog 43 #[tyv k n o len cap, vo] w fun e w' => ∃ vo', e = .returned vo' ∧ IntsV w' vo' (Fo.vars L (.cons k n ps .nil)) ∧ Quiet0 w w'
set_option maxHeartbeats 4000000 in
set_option maxRecDepth 100000 in
theorem refVars_any (k n : Int) (ps : Fo) : RVars k n ps := by
  refine Fo.ind' (T := RVars) ?_ k n ps
  intro k n ps ih w o len cap vo L hs hv hsz
  obtain ⟨va, vc, rfl, hat⟩ := hv
  have HS := Lib.hid hs
  have HL := Lib.hid hs.1
  have hmx := hs.2.1
  unfold maxLen at hmx
  have IH := Lib.hid ih
  have HAT0 := Lib.hid hat
  obtain ⟨RES, hres⟩ : ∃ RES, RES = Fo.vars L (.cons k n ps .nil) := ⟨_, rfl⟩
  have HRES : Hid (RES = Fo.vars (varStep L k n ps) ps) := hres
  have HIN := Lib.hid (fun (W : World) (hq : Quiet0 w W) => refIn_any va L.length vc L n W (hat.stay hq) rfl (by omega))
  obtain ⟨W0, hW0⟩ : ∃ W0, W0 = w.alloc (.cells #[.int .i64 k, .int .i64 n, .slice o len cap] 24) := ⟨_, rfl⟩
  have HQ0 : Hid (Quiet0 w W0) := by rw [hW0]; exact Quiet0.alloc _ _
  have HBB : Hid (∀ W, Quiet0 W0 W → W.cell? ⟨w.heap.size, 0, none⟩ = some (.int .i64 k) ∧ W.cell? ⟨w.heap.size, 1, none⟩ = some (.int .i64 n) ∧ W.cell? ⟨w.heap.size, 2, none⟩ = some (.slice o len cap)) := by
    intro W hq; rw [hW0] at hq; exact box_cells w k n o len cap _ W hq
  rw [← hres]
  clear hs hat ih hres
  unfold tyv
  cases hk : (k == 1)
  · have HST : Hid (varStep L k n ps = L) := by show _ = _; unfold varStep; rw [hk]; rfl
    go_enter Tryd.func43, Tryd.ntmps43
    generalize hB : w.heap.size = B at *
    go_upto_region 1 with fail
    rw [← hW0]
    clear hW0
    obtain ⟨a0, a1, a2⟩ := HBB.out W0 (Quiet0.refl _)
    go_wp2_with fail
    go_loopw [1, 5] (fun v t wr => ∃ (i : Nat) (l : List Int), t = .int .i64 i ∧ i ≤ len ∧ IntsV wr v l ∧ Fo.vars l (ps.drop i) = RES ∧ l.length + (ps.drop i).size ≤ 200000 ∧ Quiet0 W0 wr) (fun _ t _ => len - (intOf t).toNat)
    case atStart => exact ⟨0, L, rfl, Nat.zero_le _, ⟨va, vc, rfl, HAT0.out.stay HQ0.out⟩, by rw [Fo.drop_zero, HRES.out, HST.out], by rw [Fo.drop_zero]; omega, Quiet0.refl _⟩
    case round =>
      obtain ⟨i, l, rfl, hi, hv, hr, hz, hq⟩ := hrel
      have HV := Lib.hid hv
      have HR := Lib.hid hr
      have HZ := Lib.hid hz
      have HQ := Lib.hid hq
      obtain ⟨b0, b1, b2⟩ := HBB.out wr hq
      clear hv hr hz hq
      by_cases hlt : i < len
      · have hlt' : (i : Int) < len := by omega
        obtain ⟨b, off, k1, n1, qs, o1, len1, cap1, rfl, hd, hg, e0, e1, e2, hs1⟩ := (HS.out.stay (HQ0.out.trans HQ.out)).nth hlt
        have hzz : l.length + qs.size + 1 + (ps.drop (i + 1)).size ≤ 200000 := by have := HZ.out; rw [hd] at this; simp only [Fo.size] at this; omega
        have HC := Lib.hid (IH.out i k1 n1 qs hg wr o1 len1 cap1 u1 l hs1 HV.out (by omega))
        have HR2 : Hid (Fo.vars (Fo.vars l (.cons k1 n1 qs .nil)) (ps.drop (i + 1)) = RES) := by
          show _ = _
          rw [← HR.out, hd]; rfl
        have HZ2 : Hid ((Fo.vars l (.cons k1 n1 qs .nil)).length + (ps.drop (i + 1)).size ≤ 200000) := by
          show _ ≤ _
          have := vars_len (.cons k1 n1 qs .nil) l
          simp only [Fo.size] at this
          omega
        unfold tyv at HC
        generalize Fo.vars l (.cons k1 n1 qs .nil) = l2 at *
        clear hd hg hs1 hzz
        go_wp2_with fail
        refine HC.out.mono ?_; rintro e w2 ⟨v2, rfl, hv2, hq2⟩
        have HV2 := Lib.hid hv2
        have HQ2 := Lib.hid (HQ.out.trans hq2)
        clear hv2 hq2
        go_wp2_with fail
        go_roundw
        case rel => exact ⟨i + 1, l2, by go_num, by omega, HV2.out, HR2.out, HZ2.out, HQ2.out⟩
        case measure => simp [intOf]; omega
      · have hlt' : ¬ (i : Int) < len := by omega
        have hfin : l = RES := by have := HR.out; rw [Fo.drop_end ps i (by have := HL.out; omega)] at this; exact this
        have HFIN := Lib.hid hfin
        clear hfin
        go_wp2_with fail
        go_ret
        exact ⟨_, rfl, HFIN.out ▸ HV.out, HQ0.out.trans HQ.out⟩
  · cases hin : inB L n
    · have HST : Hid (varStep L k n ps = L ++ [n]) := by show _ = _; unfold varStep; rw [hk, hin]; rfl
      rw [hin] at HIN
      go_enter Tryd.func43, Tryd.ntmps43
      generalize hB : w.heap.size = B at *
      go_upto_region 1 with fail
      rw [← hW0]
      clear hW0
      obtain ⟨a0, a1, a2⟩ := HBB.out W0 (Quiet0.refl _)
      go_wp2_with fail
      refine (HIN.out _ HQ0.out).mono ?_; rintro e W1' ⟨rfl, rfl⟩
      have hq1 := Quiet0.refl W0
      have HQ1 := Lib.hid hq1
      clear a0 a1 a2
      go_upto_region 2 with fail
      obtain ⟨a0, a1, a2⟩ := HBB.out W0 hq1
      clear hq1
      have HAT := Lib.hid (HAT0.out.stay (HQ0.out.trans HQ1.out))
      have HS1 : Hid (∀ W, Quiet0 W0 W → W.cell? ⟨B, 1, none⟩ = some (.int .i64 n)) := fun W hq => (HBB.out W (HQ1.out.trans hq)).2.1
      go_cut [1] (fun v wx => IntsV wx v (L ++ [n]) ∧ Quiet0 W0 wx)
      case first =>
        have hqc := Quiet0.refl W0
        go_region_held3 (fun w' => w'.cell? ⟨B, 1, none⟩ = some (.int .i64 n))
          (((refine HS1.out _ ?_); (repeat (first | with_reducible exact hqc | with_reducible exact Quiet0.refl _ | with_reducible refine Quiet0.trans ?_ (Quiet0.alloc _ _) | with_reducible refine Quiet0.trans ?_ (Quiet0.drew _) | fail))))
          (first
            | ((refine step_ints _ rfl (.tmp 16) (.tmp 17) rfl (.slice (some ⟨W0.heap.size, 0, none⟩) 0 0) [] rfl ?hown va L L.length vc rfl rfl ?hat ?hbd ?hne ?_); (case hown => ((refine own_empty ?_); (repeat (first | ((with_reducible refine blk_new _ _ _ _ ?hbe); (case hbe => (simp; done))) | with_reducible refine blk_after (Quiet0.alloc _ _) ?_ | with_reducible refine blk_drew ?_ | ((with_reducible refine blk_fr hf3 ?hbo ?_); (case hbo => (simp [Value.ownBlock]; done))) | ((with_reducible refine blk_fr hf3 ?hbo ?_); (case hbo => (simp [Value.ownBlock]; omega))) | fail)))); (case hat => (repeat (first | with_reducible exact HAT.out | with_reducible refine IntsAt.stay ?_ (Quiet0.alloc _ _) | with_reducible refine IntsAt.stay ?_ (Quiet0.drew _) | fail))); (case hbd => (simp; omega)); (case hne => simp); intro v3 w3 ho3 hf3 hg3 hn3; (refine with_fr2 (w0 := W0) ?hch hf3 ?hlo ?_); (case hch => (repeat (first | with_reducible exact hqc | with_reducible exact Quiet0.refl _ | with_reducible refine Quiet0.trans ?_ (Quiet0.alloc _ _) | with_reducible refine Quiet0.trans ?_ (Quiet0.drew _) | fail))); (case hlo => (intro k hk; simp [Value.ownBlock] at hk; omega)); intro hqc hw3)
            | ((refine step_ints _ rfl (.tmp 16) (.tmp 17) rfl (.slice (some ⟨W0.heap.size + 1, 0, none⟩) 0 0) [] rfl ?hown va L L.length vc rfl rfl ?hat ?hbd ?hne ?_); (case hown => ((refine own_empty ?_); (repeat (first | ((with_reducible refine blk_new _ _ _ _ ?hbe); (case hbe => (simp; done))) | with_reducible refine blk_after (Quiet0.alloc _ _) ?_ | with_reducible refine blk_drew ?_ | ((with_reducible refine blk_fr hf3 ?hbo ?_); (case hbo => (simp [Value.ownBlock]; done))) | ((with_reducible refine blk_fr hf3 ?hbo ?_); (case hbo => (simp [Value.ownBlock]; omega))) | fail)))); (case hat => (repeat (first | with_reducible exact HAT.out | with_reducible refine IntsAt.stay ?_ (Quiet0.alloc _ _) | with_reducible refine IntsAt.stay ?_ (Quiet0.drew _) | fail))); (case hbd => (simp; omega)); (case hne => simp); intro v3 w3 ho3 hf3 hg3 hn3; (refine with_fr2 (w0 := W0) ?hch hf3 ?hlo ?_); (case hch => (repeat (first | with_reducible exact hqc | with_reducible exact Quiet0.refl _ | with_reducible refine Quiet0.trans ?_ (Quiet0.alloc _ _) | with_reducible refine Quiet0.trans ?_ (Quiet0.drew _) | fail))); (case hlo => (intro k hk; simp [Value.ownBlock] at hk; omega)); intro hqc hw3)
            | ((refine step_ints _ rfl (.tmp 18) (.tmp 21) rfl v3 ([] ++ L) rfl ?hown (some ⟨W0.heap.size, 0, none⟩) [n] 1 1 rfl rfl ?hat ?hbd hn3 ?_); (case hown => (first | with_reducible exact ho3 | with_reducible exact ho3.alloc _ | fail)); (case hat => ((refine ints_one ?_); (repeat (first | ((with_reducible refine blk_new _ _ _ _ ?hbe); (case hbe => (simp; done))) | with_reducible refine blk_after (Quiet0.alloc _ _) ?_ | with_reducible refine blk_drew ?_ | ((with_reducible refine blk_fr hf3 ?hbo ?_); (case hbo => (simp [Value.ownBlock]; done))) | ((with_reducible refine blk_fr hf3 ?hbo ?_); (case hbo => (simp [Value.ownBlock]; omega))) | fail)))); (case hbd => (simp; omega)); intro v4 w4 ho4 hf4 hg4 hn4; (refine with_fr2 (w0 := W0) ?hch hf4 ?hlo ?_); (case hch => (repeat (first | with_reducible exact hqc | with_reducible exact Quiet0.refl _ | with_reducible refine Quiet0.trans ?_ (Quiet0.alloc _ _) | with_reducible refine Quiet0.trans ?_ (Quiet0.drew _) | fail))); (case hlo => (intro k hk; rcases hg3 k hk with h | h; (simp [Value.ownBlock] at h; omega); (simp at h; omega))); intro hqc hw4)
            | ((refine step_ints _ rfl (.tmp 18) (.tmp 21) rfl v3 ([] ++ L) rfl ?hown (some ⟨W0.heap.size + 1, 0, none⟩) [n] 1 1 rfl rfl ?hat ?hbd hn3 ?_); (case hown => (first | with_reducible exact ho3 | with_reducible exact ho3.alloc _ | fail)); (case hat => ((refine ints_one ?_); (repeat (first | ((with_reducible refine blk_new _ _ _ _ ?hbe); (case hbe => (simp; done))) | with_reducible refine blk_after (Quiet0.alloc _ _) ?_ | with_reducible refine blk_drew ?_ | ((with_reducible refine blk_fr hf3 ?hbo ?_); (case hbo => (simp [Value.ownBlock]; done))) | ((with_reducible refine blk_fr hf3 ?hbo ?_); (case hbo => (simp [Value.ownBlock]; omega))) | fail)))); (case hbd => (simp; omega)); intro v4 w4 ho4 hf4 hg4 hn4; (refine with_fr2 (w0 := W0) ?hch hf4 ?hlo ?_); (case hch => (repeat (first | with_reducible exact hqc | with_reducible exact Quiet0.refl _ | with_reducible refine Quiet0.trans ?_ (Quiet0.alloc _ _) | with_reducible refine Quiet0.trans ?_ (Quiet0.drew _) | fail))); (case hlo => (intro k hk; rcases hg3 k hk with h | h; (simp [Value.ownBlock] at h; omega); (simp at h; omega))); intro hqc hw4)
            | ((refine step_ints _ rfl (.tmp 18) (.tmp 21) rfl v3 ([] ++ L) rfl ?hown (some ⟨w3.heap.size, 0, none⟩) [n] 1 1 rfl rfl ?hat ?hbd hn3 ?_); (case hown => (first | with_reducible exact ho3 | with_reducible exact ho3.alloc _ | fail)); (case hat => ((refine ints_one ?_); (repeat (first | ((with_reducible refine blk_new _ _ _ _ ?hbe); (case hbe => (simp; done))) | with_reducible refine blk_after (Quiet0.alloc _ _) ?_ | with_reducible refine blk_drew ?_ | ((with_reducible refine blk_fr hf3 ?hbo ?_); (case hbo => (simp [Value.ownBlock]; done))) | ((with_reducible refine blk_fr hf3 ?hbo ?_); (case hbo => (simp [Value.ownBlock]; omega))) | fail)))); (case hbd => (simp; omega)); intro v4 w4 ho4 hf4 hg4 hn4; (refine with_fr2 (w0 := W0) ?hch hf4 ?hlo ?_); (case hch => (repeat (first | with_reducible exact hqc | with_reducible exact Quiet0.refl _ | with_reducible refine Quiet0.trans ?_ (Quiet0.alloc _ _) | with_reducible refine Quiet0.trans ?_ (Quiet0.drew _) | fail))); (case hlo => (intro k hk; rcases hg3 k hk with h | h; (simp [Value.ownBlock] at h; omega); (simp at h; omega))); intro hqc hw4)
            | fail)
        all_goals
          go_wp2_with fail
          go_meet
          exact ⟨by have := ownsInts_v ho4; simpa using this, hqc⟩
      case rest =>
        obtain ⟨hvn, hqn⟩ := hcut
        have HVN := Lib.hid hvn
        have HQN := Lib.hid (HQ1.out.trans hqn)
        clear a0 a1 a2 hvn hqn
        go_wp2_with fail
        go_loopw [1, 5] (fun v t wr => ∃ (i : Nat) (l : List Int), t = .int .i64 i ∧ i ≤ len ∧ IntsV wr v l ∧ Fo.vars l (ps.drop i) = RES ∧ l.length + (ps.drop i).size ≤ 200000 ∧ Quiet0 W0 wr) (fun _ t _ => len - (intOf t).toNat)
        case atStart => exact ⟨0, L ++ [n], rfl, Nat.zero_le _, HVN.out, by rw [Fo.drop_zero, HRES.out, HST.out], by rw [Fo.drop_zero]; simp; omega, HQN.out⟩
        case round =>
          obtain ⟨i, l, rfl, hi, hv, hr, hz, hq⟩ := hrel
          have HV := Lib.hid hv
          have HR := Lib.hid hr
          have HZ := Lib.hid hz
          have HQ := Lib.hid hq
          obtain ⟨b0, b1, b2⟩ := HBB.out wr hq
          clear hv hr hz hq
          by_cases hlt : i < len
          · have hlt' : (i : Int) < len := by omega
            obtain ⟨b, off, k1, n1, qs, o1, len1, cap1, rfl, hd, hg, e0, e1, e2, hs1⟩ := (HS.out.stay (HQ0.out.trans HQ.out)).nth hlt
            have hzz : l.length + qs.size + 1 + (ps.drop (i + 1)).size ≤ 200000 := by have := HZ.out; rw [hd] at this; simp only [Fo.size] at this; omega
            have HC := Lib.hid (IH.out i k1 n1 qs hg wr o1 len1 cap1 u1 l hs1 HV.out (by omega))
            have HR2 : Hid (Fo.vars (Fo.vars l (.cons k1 n1 qs .nil)) (ps.drop (i + 1)) = RES) := by
              show _ = _
              rw [← HR.out, hd]; rfl
            have HZ2 : Hid ((Fo.vars l (.cons k1 n1 qs .nil)).length + (ps.drop (i + 1)).size ≤ 200000) := by
              show _ ≤ _
              have := vars_len (.cons k1 n1 qs .nil) l
              simp only [Fo.size] at this
              omega
            unfold tyv at HC
            generalize Fo.vars l (.cons k1 n1 qs .nil) = l2 at *
            clear hd hg hs1 hzz
            go_wp2_with fail
            refine HC.out.mono ?_; rintro e w2 ⟨v2, rfl, hv2, hq2⟩
            have HV2 := Lib.hid hv2
            have HQ2 := Lib.hid (HQ.out.trans hq2)
            clear hv2 hq2
            go_wp2_with fail
            go_roundw
            case rel => exact ⟨i + 1, l2, by go_num, by omega, HV2.out, HR2.out, HZ2.out, HQ2.out⟩
            case measure => simp [intOf]; omega
          · have hlt' : ¬ (i : Int) < len := by omega
            have hfin : l = RES := by have := HR.out; rw [Fo.drop_end ps i (by have := HL.out; omega)] at this; exact this
            have HFIN := Lib.hid hfin
            clear hfin
            go_wp2_with fail
            go_ret
            exact ⟨_, rfl, HFIN.out ▸ HV.out, HQ0.out.trans HQ.out⟩
    · have HST : Hid (varStep L k n ps = L) := by show _ = _; unfold varStep; rw [hk, hin]; rfl
      rw [hin] at HIN
      go_enter Tryd.func43, Tryd.ntmps43
      generalize hB : w.heap.size = B at *
      go_upto_region 1 with fail
      rw [← hW0]
      clear hW0
      obtain ⟨a0, a1, a2⟩ := HBB.out W0 (Quiet0.refl _)
      go_wp2_with fail
      refine (HIN.out _ HQ0.out).mono ?_; rintro e W1' ⟨rfl, rfl⟩
      have hq1 := Quiet0.refl W0
      have HQ1 := Lib.hid hq1
      clear a0 a1 a2 hq1
      go_wp2_with fail
      go_loopw [1, 5] (fun v t wr => ∃ (i : Nat) (l : List Int), t = .int .i64 i ∧ i ≤ len ∧ IntsV wr v l ∧ Fo.vars l (ps.drop i) = RES ∧ l.length + (ps.drop i).size ≤ 200000 ∧ Quiet0 W0 wr) (fun _ t _ => len - (intOf t).toNat)
      case atStart => exact ⟨0, L, rfl, Nat.zero_le _, ⟨va, vc, rfl, HAT0.out.stay (HQ0.out.trans HQ1.out)⟩, by rw [Fo.drop_zero, HRES.out, HST.out], by rw [Fo.drop_zero]; omega, HQ1.out⟩
      case round =>
        obtain ⟨i, l, rfl, hi, hv, hr, hz, hq⟩ := hrel
        have HV := Lib.hid hv
        have HR := Lib.hid hr
        have HZ := Lib.hid hz
        have HQ := Lib.hid hq
        obtain ⟨b0, b1, b2⟩ := HBB.out wr hq
        clear hv hr hz hq
        by_cases hlt : i < len
        · have hlt' : (i : Int) < len := by omega
          obtain ⟨b, off, k1, n1, qs, o1, len1, cap1, rfl, hd, hg, e0, e1, e2, hs1⟩ := (HS.out.stay (HQ0.out.trans HQ.out)).nth hlt
          have hzz : l.length + qs.size + 1 + (ps.drop (i + 1)).size ≤ 200000 := by have := HZ.out; rw [hd] at this; simp only [Fo.size] at this; omega
          have HC := Lib.hid (IH.out i k1 n1 qs hg wr o1 len1 cap1 u1 l hs1 HV.out (by omega))
          have HR2 : Hid (Fo.vars (Fo.vars l (.cons k1 n1 qs .nil)) (ps.drop (i + 1)) = RES) := by
            show _ = _
            rw [← HR.out, hd]; rfl
          have HZ2 : Hid ((Fo.vars l (.cons k1 n1 qs .nil)).length + (ps.drop (i + 1)).size ≤ 200000) := by
            show _ ≤ _
            have := vars_len (.cons k1 n1 qs .nil) l
            simp only [Fo.size] at this
            omega
          unfold tyv at HC
          generalize Fo.vars l (.cons k1 n1 qs .nil) = l2 at *
          clear hd hg hs1 hzz
          go_wp2_with fail
          refine HC.out.mono ?_; rintro e w2 ⟨v2, rfl, hv2, hq2⟩
          have HV2 := Lib.hid hv2
          have HQ2 := Lib.hid (HQ.out.trans hq2)
          clear hv2 hq2
          go_wp2_with fail
          go_roundw
          case rel => exact ⟨i + 1, l2, by go_num, by omega, HV2.out, HR2.out, HZ2.out, HQ2.out⟩
          case measure => simp [intOf]; omega
        · have hlt' : ¬ (i : Int) < len := by omega
          have hfin : l = RES := by have := HR.out; rw [Fo.drop_end ps i (by have := HL.out; omega)] at this; exact this
          have HFIN := Lib.hid hfin
          clear hfin
          go_wp2_with fail
          go_ret
          exact ⟨_, rfl, HFIN.out ▸ HV.out, HQ0.out.trans HQ.out⟩
end Go.Proofs.YtggidhgifaekbaaDoor
/-
  The reference's Counts, Right and Solved on substitutions. Conditions: the binds lie in memory as told; they are few and small.
-/
namespace Go.Proofs.YtggidhgifaekbaaDoor
open Go.RowKit Go.Maps

set_option maxHeartbeats 1000000 in
theorem counts_any (l : List Bd) (w : World) (o : Option Addr) (cap : Nat) (i : Nat) (t : Bd) (ht : l[i]? = some t) (hs : BindsAt w o l) (hz : l.length ≤ 100000) :
    Calls Tryd.prog 104 #[.slice o l.length cap, .int .i64 i] w fun e w' => e = .returned (.bool (!hasB (l.take i) t.1)) ∧ Quiet0 w w' := by
  have HF := Lib.hid (fun (W : World) (h : Quiet0 w W) => find_any l W o cap t.1 (hs.stay h) (by omega))
  rw [← counts0 l i t ht]
  obtain ⟨b, off, o1, l1, c1, rfl, a0, a1, a2, a3, s1⟩ := hs i t ht
  have hlt : i < l.length := (List.getElem?_eq_some_iff.1 ht).1
  have hlt' : (i : Int) < l.length := by omega
  generalize idxB t.1 l 0 = r at *
  generalize t.1 = v at *
  clear hs ht s1 a1 a2 a3
  go_enter Tryd.func104, Tryd.ntmps104
  go_wp2_with fail
  refine (HF.out _ (Quiet0.refl _)).mono ?_; rintro e w1 ⟨rfl, hq⟩
  go_wp2_with fail
  go_ret
  exact ⟨rfl, hq⟩
theorem rightT_var (v : Int) : rightT 1 v .nil = (decide (0 ≤ v) && decide (v < 1073741824)) := by
  simp [rightT, Fo.plain, Fo.length, Fo.right]
set_option maxHeartbeats 4000000 in
set_option maxRecDepth 100000 in
theorem suRefRight_any (l : List Bd) (w : World) (o : Option Addr) (cap : Nat) (hs : BindsAt w o l) (hz : l.length ≤ 100000) :
    Calls Tryd.prog 61 #[.slice o l.length cap] w fun e w' => e = .returned (.bool (rightB l)) ∧ Quiet0 w w' := by
  have HS := Lib.hid hs
  rw [rightB_eq]
  obtain ⟨r, hr⟩ : ∃ r, r = rightR [] l := ⟨_, rfl⟩
  have HR := Lib.hid hr
  rw [← hr]
  clear hs hr
  go_enter Tryd.func61, Tryd.ntmps61
  go_wp2_with fail
  go_loopw [3] (fun t wr => ∃ i : Nat, t = .int .i64 i ∧ i ≤ l.length ∧ r = rightR (l.take i) (l.drop i) ∧ Quiet0 w wr) (fun t _ => l.length - (intOf t).toNat)
  case atStart => exact ⟨0, rfl, Nat.zero_le _, HR.out, Quiet0.refl _⟩
  case round =>
    obtain ⟨i, rfl, hi, hrr, hq⟩ := hrel
    have HRR := Lib.hid hrr
    have HQ := Lib.hid hq
    clear hrr hq
    by_cases hlt : i < l.length
    · have hlt' : (i : Int) < l.length := by omega
      obtain ⟨t, ht⟩ : ∃ t, l[i]? = some t := ⟨_, List.getElem?_eq_getElem hlt⟩
      have HCT := Lib.hid (counts_any l wr o cap i t ht (HS.out.stay HQ.out) hz)
      obtain ⟨b, off, o1, l1, c1, rfl, a0, a1, a2, a3, s1⟩ := HS.out.stay HQ.out i t ht
      have HN : Hid (r = (!hasB (l.take i) t.1 && ((decide (0 ≤ t.1) && decide (t.1 < 1073741824)) && rightT t.2.1 t.2.2.1 t.2.2.2) && rightR (l.take (i + 1)) (l.drop (i + 1)))) := by
        show _ = _
        rw [HRR.out, drop_some ht, rightR, List.take_add_one, ht]
        unfold rightQ
        rw [rightT_var]; rfl
      have HRT := Lib.hid (fun (W : World) (h : Quiet0 wr W) => refRight_any t.2.1 t.2.2.1 t.2.2.2 W o1 l1 c1 (s1.stay h))
      unfold tyv at HRT
      generalize hasB (l.take i) t.1 = hb at *
      generalize rightT t.2.1 t.2.2.1 t.2.2.2 = rt at *
      generalize t.1 = v at *
      generalize t.2.1 = k at *
      generalize t.2.2.1 = n at *
      clear ht s1
      go_wp2_with fail
      refine HCT.out.mono ?_; rintro e w1 ⟨rfl, hq1⟩
      have HQ1 := Lib.hid hq1
      have b0 := hq1.at a0
      have b1 := hq1.at a1
      have b2 := hq1.at a2
      have b3 := hq1.at a3
      clear hq1 a0 a1 a2 a3
      cases hb
      · by_cases h0 : v < 0
        · have HY : Hid (r = false) := by show _ = _; rw [HN.out]; simp; omega
          go_wp2_with fail
          go_ret
          exact ⟨by rw [HY.out]; rfl, HQ.out.trans HQ1.out⟩
        · by_cases h1 : 1073741824 ≤ v
          · have HY : Hid (r = false) := by show _ = _; rw [HN.out]; simp; omega
            go_wp2_with fail
            go_ret
            exact ⟨by rw [HY.out]; rfl, HQ.out.trans HQ1.out⟩
          · have HY : Hid (r = (rt && rightR (l.take (i + 1)) (l.drop (i + 1)))) := by
              show _ = _
              have e1 : decide (0 ≤ v) = true := by simp; omega
              have e2 : decide (v < 1073741824) = true := by simp; omega
              rw [HN.out, e1, e2]; simp
            go_wp2_with fail
            refine (HRT.out _ HQ1.out).mono ?_; rintro e w2 ⟨rfl, hq2⟩
            have HQ2 := Lib.hid ((HQ.out.trans HQ1.out).trans hq2)
            clear hq2
            cases rt
            · go_wp2_with fail
              go_ret
              exact ⟨by rw [HY.out]; rfl, HQ2.out⟩
            · go_wp2_with fail
              go_roundw
              case rel => exact ⟨i + 1, by go_num, by omega, HY.out, HQ2.out⟩
              case measure => simp [intOf]; omega
      · have HY : Hid (r = false) := by show _ = _; rw [HN.out]; simp
        go_wp2_with fail
        go_ret
        exact ⟨by rw [HY.out]; rfl, HQ.out.trans HQ1.out⟩
    · have hlt' : ¬ (i : Int) < l.length := by omega
      have HY : Hid (r = true) := by show _ = _; rw [HRR.out, List.drop_of_length_le (by omega)]; rfl
      go_wp2_with fail
      go_ret
      exact ⟨by rw [HY.out]; rfl, HQ.out⟩
/-- does a variable of a bind's type stand for something -/
def solvedP (l : List Bd) (t : Bd) : Bool := (Fo.vars [] (.cons t.2.1 t.2.2.1 t.2.2.2 .nil)).any (hasB l)
def solvedB (l : List Bd) : Bool := !(firstB l).any (solvedP l)
set_option maxHeartbeats 4000000 in
set_option maxRecDepth 100000 in
theorem suRefSolved_any (l : List Bd) (w : World) (o : Option Addr) (cap : Nat) (hs : BindsAt w o l) (hz : l.length ≤ 100000) (hl : ∀ t ∈ l, t.2.2.2.size ≤ 1000) :
    Calls Tryd.prog 62 #[.slice o l.length cap] w fun e w' => e = .returned (.bool (solvedB l)) ∧ Quiet0 w w' := by
  have HS := Lib.hid hs
  have HL := Lib.hid hl
  unfold solvedB
  rw [firstB_any]
  obtain ⟨r, hr⟩ : ∃ r, r = !anyC (solvedP l) [] l := ⟨_, rfl⟩
  have HR := Lib.hid hr
  rw [← hr]
  clear hs hl hr
  go_enter Tryd.func62, Tryd.ntmps62
  go_wp2_with fail
  go_loopw [3, 4, 5] (fun t _ _ wr => ∃ i : Nat, t = .int .i64 i ∧ i ≤ l.length ∧ r = !anyC (solvedP l) (l.take i) (l.drop i) ∧ Quiet0 w wr) (fun t _ _ _ => l.length - (intOf t).toNat)
  case atStart => exact ⟨0, rfl, Nat.zero_le _, HR.out, Quiet0.refl _⟩
  case round =>
    obtain ⟨i, rfl, hi, hrr, hq⟩ := hrel
    have HRR := Lib.hid hrr
    have HQ := Lib.hid hq
    clear hrr hq
    by_cases hlt : i < l.length
    · have hlt' : (i : Int) < l.length := by omega
      obtain ⟨t, ht⟩ : ∃ t, l[i]? = some t := ⟨_, List.getElem?_eq_getElem hlt⟩
      have hlz := HL.out t (List.mem_of_getElem? ht)
      obtain ⟨L, hL⟩ : ∃ L, L = Fo.vars [] (.cons t.2.1 t.2.2.1 t.2.2.2 .nil) := ⟨_, rfl⟩
      have hll : L.length ≤ 2000 := by rw [hL]; have := vars_len (.cons t.2.1 t.2.2.1 t.2.2.2 .nil) []; simp only [Fo.size, List.length_nil] at this; omega
      have HCT := Lib.hid (fun (W : World) (h : Quiet0 w W) => counts_any l W o cap i t ht (HS.out.stay h) hz)
      have HFI := Lib.hid (fun (W : World) (v : Int) (h : Quiet0 w W) => find_any l W o cap v (HS.out.stay h) (by omega))
      obtain ⟨b, off, o1, l1, c1, rfl, a0, a1, a2, a3, s1⟩ := HS.out.stay HQ.out i t ht
      have HRV : Hid (Calls Tryd.prog 43 #[.agg #[.int .i64 t.2.1, .int .i64 t.2.2.1, .slice o1 l1 c1], .slice none 0 0] wr fun e w' => ∃ a c, e = .returned (.slice a L.length c) ∧ IntsAt w' a L ∧ Quiet0 wr w') := by
        refine (refVars_any t.2.1 t.2.2.1 t.2.2.2 wr o1 l1 c1 (.slice none 0 0) [] s1 ⟨none, 0, rfl, fun i x h => by simp at h⟩ (by simp; omega)).mono ?_
        rintro e w' ⟨vo, rfl, ⟨a, c, rfl, h1⟩, h2⟩
        rw [← hL] at h1
        rw [← hL]
        exact ⟨a, c, rfl, h1, h2⟩
      have HN : Hid (r = !((!hasB (l.take i) t.1 && L.any (hasB l)) || anyC (solvedP l) (l.take (i + 1)) (l.drop (i + 1)))) := by
        show _ = _
        rw [HRR.out, drop_some ht, anyC, List.take_add_one, ht, hL]; rfl
      generalize hasB (l.take i) t.1 = hb at *
      obtain ⟨rest, hrest⟩ : ∃ rest, rest = anyC (solvedP l) (l.take (i + 1)) (l.drop (i + 1)) := ⟨_, rfl⟩
      rw [← hrest] at HN
      have HREST := Lib.hid hrest
      generalize t.1 = v at *
      generalize t.2.1 = k at *
      generalize t.2.2.1 = n at *
      clear ht s1 hL hrest
      go_wp2_with fail
      refine HRV.out.mono ?_; rintro e w1 ⟨va, vc, rfl, hia, hq1⟩
      have HQ1 := Lib.hid (HQ.out.trans hq1)
      have HIA := Lib.hid hia
      clear hq1 hia a0 a1 a2 a3
      go_wp2_with fail
      go_loopw [5] (fun t wx => ∃ j : Nat, t = .int .i64 j ∧ j ≤ L.length ∧ r = !((!hb && (L.drop j).any (hasB l)) || rest) ∧ Quiet0 w1 wx) (fun t _ => L.length - (intOf t).toNat)
      case atStart => exact ⟨0, rfl, Nat.zero_le _, HN.out, Quiet0.refl _⟩
      case round =>
        obtain ⟨j, rfl, hj, hrj, hqj⟩ := hrel
        have HRJ := Lib.hid hrj
        have HQJ := Lib.hid hqj
        clear hrj hqj
        by_cases hlj : j < L.length
        · have hlj' : (j : Int) < L.length := by omega
          obtain ⟨x, hx⟩ : ∃ x, L[j]? = some x := ⟨_, List.getElem?_eq_getElem hlj⟩
          obtain ⟨bb, offb, rfl, e0⟩ := HIA.out.stay HQJ.out j x hx
          have HM : Hid (r = !((!hb && (hasB l x || (L.drop (j + 1)).any (hasB l))) || rest)) := by
            show _ = _
            rw [HRJ.out, drop_some hx]; rfl
          have HX := Lib.hid (has_find l x)
          clear hx
          go_wp2_with fail
          refine (HCT.out _ (HQ1.out.trans HQJ.out)).mono ?_; rintro e w2 ⟨rfl, hq2⟩
          have f0 := hq2.at e0
          have HQ2 := Lib.hid (HQJ.out.trans hq2)
          clear hq2 e0
          cases hb
          · go_wp2_with fail
            refine (HFI.out _ x (HQ1.out.trans HQ2.out)).mono ?_; rintro e w3 ⟨rfl, hq3⟩
            have HQ3 := Lib.hid (HQ2.out.trans hq3)
            clear hq3 f0
            generalize idxB x l 0 = ix at *
            cases hh : hasB l x
            · rw [hh] at HM HX
              have hneg : ¬ 0 ≤ ix := by have := HX.out; simpa using this
              have hneg2 : ix < 0 := by omega
              go_wp2_with fail
              go_roundw
              case rel => exact ⟨j + 1, by go_num, by omega, by rw [HM.out]; rfl, HQ3.out⟩
              case measure => simp [intOf]; omega
            · rw [hh] at HM HX
              have hpos : 0 ≤ ix := by have := HX.out; simpa using this
              go_wp2_with fail
              go_ret
              exact ⟨by rw [HM.out]; rfl, HQ1.out.trans HQ3.out⟩
          · have HY : Hid (r = !rest) := by show _ = _; rw [HM.out]; rfl
            go_wp2_with fail
            go_roundw
            case rel => exact ⟨i + 1, by go_num, by omega, by rw [HY.out, HREST.out], HQ1.out.trans HQ2.out⟩
            case measure => simp [intOf]; omega
        · have hlj' : ¬ (j : Int) < L.length := by omega
          have HY : Hid (r = !rest) := by show _ = _; rw [HRJ.out, List.drop_of_length_le (by omega)]; simp
          go_wp2_with fail
          go_roundw
          case rel => exact ⟨i + 1, by go_num, by omega, by rw [HY.out, HREST.out], HQ1.out.trans HQJ.out⟩
          case measure => simp [intOf]; omega
    · have hlt' : ¬ (i : Int) < l.length := by omega
      have HY : Hid (r = true) := by show _ = _; rw [HRR.out, List.drop_of_length_le (by omega)]; rfl
      go_wp2_with fail
      go_ret
      exact ⟨by rw [HY.out]; rfl, HQ.out⟩
end Go.Proofs.YtggidhgifaekbaaDoor
/-
  The reference's Only, Then and Same on substitutions. Conditions: the rows lie in memory as told; all is small.
-/
namespace Go.Proofs.YtggidhgifaekbaaDoor
open Go.RowKit Go.Maps

theorem filter_first (q : Bd → Bool) (l : List Bd) (i : Nat) (t : Bd) (h : l[i]? = some t) : (firstB (l.take (i + 1))).filter q = (firstB (l.take i)).filter q ++ if (!hasB (l.take i) t.1 && q t) then [t] else [] := by
  rw [first_take l i t h]
  cases hh : hasB (l.take i) t.1
  · simp only [Bool.false_eq_true, if_false, Bool.not_false, Bool.true_and]
    rw [List.filter_append]
    cases hq : q t <;> simp [hq]
  · simp
set_option maxHeartbeats 4000000 in
set_option maxRecDepth 100000 in
theorem suRefOnly_any (l : List Bd) (vars : List Int) (w : World) (o : Option Addr) (cap : Nat) (ov : Option Addr) (capv : Nat) (hs : BindsAt w o l) (hv : IntsAt w ov vars) (hz : l.length ≤ 100000) (hzv : vars.length ≤ 100000) :
    Calls Tryd.prog 67 #[.slice o l.length cap, .slice ov vars.length capv] w fun e w' => ∃ a c, e = .returned (.slice a (onlyB l vars).length c) ∧ BindsAt w' a (onlyB l vars) ∧ Quiet0 w w' := by
  have HS := Lib.hid hs
  have HV := Lib.hid hv
  unfold onlyB
  obtain ⟨X, hX⟩ : ∃ X, X = (firstB l).filter (fun t => inB vars t.1) := ⟨_, rfl⟩
  rw [← hX]
  have HX := Lib.hid hX
  clear hs hv hX
  go_enter Tryd.func67, Tryd.ntmps67
  go_wp2_with fail
  go_loopw [5, 6] (fun v t wr => ∃ (i n : Nat) (xs : List Value) (vo : Option Addr) (vc : Nat), t = .int .i64 i ∧ i ≤ l.length ∧ v = .slice vo n vc ∧ ((firstB (l.take i)).filter (fun t => inB vars t.1)).length = n ∧ BdRow wr w.heap.size (.slice vo n vc) ((firstB (l.take i)).filter (fun t => inB vars t.1)) xs ∧ Quiet0 w wr) (fun _ t _ => l.length - (intOf t).toNat)
  case atStart => exact ⟨0, 0, [], none, 0, rfl, Nat.zero_le _, rfl, rfl, BdRow.nil _ _, Quiet0.refl _⟩
  case round =>
    obtain ⟨i, n, xs, vo, vc, rfl, hi, rfl, hn, hrow, hq⟩ := hrel
    have HN := Lib.hid hn
    have HR := Lib.hid hrow
    have HQ := Lib.hid hq
    have hnb : n ≤ 100000 := by rw [← hn]; have h1 := List.length_filter_le (fun t : Bd => inB vars t.1) (firstB (l.take i)); have h2 := first_length (l.take i); rw [List.length_take] at h2; omega
    clear hn hrow hq
    by_cases hlt : i < l.length
    · have hlt' : (i : Int) < l.length := by omega
      obtain ⟨t, ht⟩ : ∃ t, l[i]? = some t := ⟨_, List.getElem?_eq_getElem hlt⟩
      have HCT := Lib.hid (counts_any l wr o cap i t ht (HS.out.stay HQ.out) hz)
      obtain ⟨b, off, o1, len1, cap1, rfl, f0, f1, f2, f3, hs1⟩ := HS.out i t ht
      have e0 := HQ.out.at f0
      have e1 := HQ.out.at f1
      have e2 := HQ.out.at f2
      have e3 := HQ.out.at f3
      have HNT := Lib.hid (filter_first (fun t => inB vars t.1) l i t ht)
      have HS1 := Lib.hid hs1
      obtain ⟨v, kk, nn, pp⟩ := t
      simp only at e0 e1 e2 e3 HS1 HNT HCT
      have HIN := Lib.hid (fun (W : World) (h : Quiet0 w W) => refIn_any ov vars.length capv vars v W (HV.out.stay h) rfl (by omega))
      clear ht hs1 f0 f1 f2 f3
      generalize hasB (l.take i) v = hb at *
      cases hb
      · go_wp2_with fail
        refine HCT.out.mono ?_; rintro e w1 ⟨rfl, hq1⟩
        have HQ1 := Lib.hid hq1
        have g0 := hq1.at e0
        have g1 := hq1.at e1
        have g2 := hq1.at e2
        have g3 := hq1.at e3
        clear hq1 e0 e1 e2 e3
        cases hin : inB vars v
        · rw [hin] at HIN HNT
          go_wp2_with fail
          refine (HIN.out _ (HQ.out.trans HQ1.out)).mono ?_; rintro e w2 ⟨rfl, rfl⟩
          have HNT2 : Hid ((firstB (l.take (i + 1))).filter (fun t => inB vars t.1) = (firstB (l.take i)).filter (fun t => inB vars t.1)) := by show _ = _; rw [HNT.out]; simp
          clear g0 g1 g2 g3
          go_wp2_with fail
          go_roundw
          case rel => exact ⟨i + 1, n, xs, vo, vc, by go_num, by omega, rfl, by rw [HNT2.out]; exact HN.out, by rw [HNT2.out]; exact HR.out.stay HQ1.out, HQ.out.trans HQ1.out⟩
          case measure => simp [intOf]; omega
        · rw [hin] at HIN HNT
          have HNT2 : Hid ((firstB (l.take (i + 1))).filter (fun t => inB vars t.1) = (firstB (l.take i)).filter (fun t => inB vars t.1) ++ [(v, kk, nn, pp)]) := by show _ = _; rw [HNT.out]; simp
          have HOWN : Hid (w1.ownsRow 0 91 4 (.slice vo n vc) n xs) := by
            have h' := (HR.out.stay HQ1.out).own
            rw [HN.out] at h'
            exact h'
          clear hin
          go_wp2_with fail
          refine (HIN.out _ (HQ.out.trans HQ1.out)).mono ?_; rintro e w2 ⟨rfl, rfl⟩
          go_wp2_with (at_builtin; go_must (refine wpList_append_one _ rfl (.tmp 25) (.tmp 30) 49 rfl 91 _ 4 48 elemBd (.slice vo n vc) n xs rfl HOWN.out #[.int .i64 v, .int .i64 kk, .int .i64 nn, .slice o1 len1 cap1] rfl rfl ?c1 ?c2 ?c3 ?_))
          case c1 => simp [Value.oneCell']
          case c2 => unfold maxLen; omega
          case c3 => omega
          intro g c' w5 ho hf hg
          have HRX := Lib.hid (HR.out.stay HQ1.out)
          have hsz := (HQ.out.trans HQ1.out).size
          have HR2 : Hid (BdRow w5 w.heap.size (.slice (some ⟨g, 0, none⟩) (n + 1) c') ((firstB (l.take (i + 1))).filter (fun t => inB vars t.1)) (xs ++ [.int .i64 v, .int .i64 kk, .int .i64 nn, .slice o1 len1 cap1])) := by
            show BdRow _ _ _ _ _
            rw [HNT2.out]
            have h := BdRow.snoc (t := (v, kk, nn, pp)) (g := g) (c := c') (w1 := w5) HRX.out (SlcIn.of_lt HS1.out (HQ.out.trans HQ1.out) HRX.out (Nat.le_refl _)) (by rw [HN.out]; exact ho) hf hg hsz
            rw [HN.out] at h
            exact h
          have HN2 : Hid (((firstB (l.take (i + 1))).filter (fun t => inB vars t.1)).length = n + 1) := by show _ = _; rw [HNT2.out, List.length_append, HN.out]; rfl
          have HQ5 : Hid (Quiet0 w w5) := Fr.trans' (HQ.out.trans HQ1.out) hf (fun j hj h => absurd (HR.out.low j h) (by omega))
          clear ho hf hg hsz g0 g1 g2 g3
          go_wp2_with fail
          go_roundw
          case rel => exact ⟨i + 1, n + 1, _, some ⟨g, 0, none⟩, c', by go_num, by omega, rfl, HN2.out, HR2.out, HQ5.out⟩
          case measure => simp [intOf]; omega
      · have HNT2 : Hid ((firstB (l.take (i + 1))).filter (fun t => inB vars t.1) = (firstB (l.take i)).filter (fun t => inB vars t.1)) := by show _ = _; rw [HNT.out]; simp
        go_wp2_with fail
        refine HCT.out.mono ?_; rintro e w1 ⟨rfl, hq1⟩
        have HQ1 := Lib.hid hq1
        clear hq1 e0 e1 e2 e3
        go_wp2_with fail
        go_roundw
        case rel => exact ⟨i + 1, n, xs, vo, vc, by go_num, by omega, rfl, by rw [HNT2.out]; exact HN.out, by rw [HNT2.out]; exact HR.out.stay HQ1.out, HQ.out.trans HQ1.out⟩
        case measure => simp [intOf]; omega
    · have hlt' : ¬ (i : Int) < l.length := by omega
      have htk : l.take i = l := List.take_of_length_le (by omega)
      rw [htk, ← HX.out] at HR HN
      have HBA := Lib.hid HR.out.binds
      have hXn : X.length = n := HN.out
      subst hXn
      clear htk
      go_wp2_with fail
      go_ret
      exact ⟨_, ⟨_, rfl⟩, HBA.out, HQ.out⟩
set_option maxHeartbeats 4000000 in
set_option maxRecDepth 100000 in
theorem refSameB_any (l : List Bd) (w : World) (o1 : Option Addr) (c1 : Nat) (o2 : Option Addr) (c2 : Nat) (h1 : BindsAt w o1 l) (h2 : BindsAt w o2 l) (hz : l.length ≤ 1000000) :
    Calls Tryd.prog 64 #[.slice o1 l.length c1, .slice o2 l.length c2] w fun e w' => e = .returned (.bool true) ∧ Quiet0 w w' := by
  have H1 := Lib.hid h1
  have H2 := Lib.hid h2
  clear h1 h2
  go_enter Tryd.func64, Tryd.ntmps64
  go_wp2_with fail
  go_loopw [5] (fun t wr => ∃ i : Nat, t = .int .i64 i ∧ i ≤ l.length ∧ Quiet0 w wr) (fun t _ => l.length - (intOf t).toNat)
  case atStart => exact ⟨0, rfl, Nat.zero_le _, Quiet0.refl _⟩
  case round =>
    obtain ⟨i, rfl, hi, hq⟩ := hrel
    have HQ := Lib.hid hq
    clear hq
    by_cases hlt : i < l.length
    · have hlt' : (i : Int) < l.length := by omega
      obtain ⟨t, ht⟩ : ∃ t, l[i]? = some t := ⟨_, List.getElem?_eq_getElem hlt⟩
      obtain ⟨b1, off1, p1, len1, cap1, rfl, d0, d1, d2, d3, s1⟩ := H1.out.stay HQ.out i t ht
      obtain ⟨b2, off2, p2, len2, cap2, rfl, e0, e1, e2, e3, s2⟩ := H2.out.stay HQ.out i t ht
      have HSM : Hid (∀ W, Quiet0 wr W → Calls Tryd.prog 19 #[.agg #[.int .i64 t.2.1, .int .i64 t.2.2.1, .slice p1 len1 cap1], .agg #[.int .i64 t.2.1, .int .i64 t.2.2.1, .slice p2 len2 cap2]] W fun e w' => e = .returned (.bool true) ∧ Quiet0 W w') := by
        intro W h
        have h' := refSame_any t.2.1 t.2.2.1 t.2.2.2 t.2.1 t.2.2.1 t.2.2.2 W p1 len1 cap1 p2 len2 cap2 (s1.stay h) (s2.stay h)
        rw [show sameT t.2.1 t.2.2.1 t.2.2.2 t.2.1 t.2.2.1 t.2.2.2 = true from by simp [sameT, Fo.same_refl]] at h'
        exact h'
      generalize t.1 = v at *
      generalize t.2.1 = kk at *
      generalize t.2.2.1 = nn at *
      have HBC : Hid (∀ w', Quiet0 wr w' → (w'.cell? ⟨b1, off1 + i * 4, none⟩ = some (.int .i64 v) ∧ w'.cell? ⟨b1, off1 + i * 4 + 1, none⟩ = some (.int .i64 kk) ∧ w'.cell? ⟨b1, off1 + i * 4 + 2, none⟩ = some (.int .i64 nn) ∧ w'.cell? ⟨b1, off1 + i * 4 + 3, none⟩ = some (.slice p1 len1 cap1)) ∧ w'.cell? ⟨b2, off2 + i * 4, none⟩ = some (.int .i64 v) ∧ w'.cell? ⟨b2, off2 + i * 4 + 1, none⟩ = some (.int .i64 kk) ∧ w'.cell? ⟨b2, off2 + i * 4 + 2, none⟩ = some (.int .i64 nn) ∧ w'.cell? ⟨b2, off2 + i * 4 + 3, none⟩ = some (.slice p2 len2 cap2)) :=
        fun W h => ⟨⟨h.at d0, h.at d1, h.at d2, h.at d3⟩, h.at e0, h.at e1, h.at e2, h.at e3⟩
      clear ht s1 s2
      have hqc := Quiet0.refl wr
      go_wp2_with fail
      go_region_held3 (fun w' => (w'.cell? ⟨b1, off1 + i * 4, none⟩ = some (.int .i64 v) ∧ w'.cell? ⟨b1, off1 + i * 4 + 1, none⟩ = some (.int .i64 kk) ∧ w'.cell? ⟨b1, off1 + i * 4 + 2, none⟩ = some (.int .i64 nn) ∧ w'.cell? ⟨b1, off1 + i * 4 + 3, none⟩ = some (.slice p1 len1 cap1)) ∧ w'.cell? ⟨b2, off2 + i * 4, none⟩ = some (.int .i64 v) ∧ w'.cell? ⟨b2, off2 + i * 4 + 1, none⟩ = some (.int .i64 kk) ∧ w'.cell? ⟨b2, off2 + i * 4 + 2, none⟩ = some (.int .i64 nn) ∧ w'.cell? ⟨b2, off2 + i * 4 + 3, none⟩ = some (.slice p2 len2 cap2))
        (((refine HBC.out _ ?_); (repeat (first | with_reducible exact hqc | with_reducible exact Quiet0.refl _ | with_reducible refine Quiet0.trans ?_ (Quiet0.alloc _ _) | with_reducible refine Quiet0.trans ?_ (Quiet0.drew _) | fail))))
        (first
          | (go_at_call 19; (with_reducible refine Calls.mono (HSM.out _ ?hq) ?_); (case hq => (repeat (first | with_reducible exact hqc | with_reducible exact Quiet0.refl _ | with_reducible refine Quiet0.trans ?_ (Quiet0.alloc _ _) | with_reducible refine Quiet0.trans ?_ (Quiet0.drew _) | fail))); rintro e wx ⟨rfl, hqx⟩; (refine with_q (w0 := wr) ?hq2 hqx ?_); (case hq2 => (repeat (first | with_reducible exact hqc | with_reducible exact Quiet0.refl _ | with_reducible refine Quiet0.trans ?_ (Quiet0.alloc _ _) | with_reducible refine Quiet0.trans ?_ (Quiet0.drew _) | fail))); intro hqc)
          | fail)
      all_goals
        clear d0 d1 d2 d3 e0 e1 e2 e3
        have HQ1 := Lib.hid (HQ.out.trans hqc)
        clear hqc
        go_wp2_with fail
        go_roundw
        case rel => exact ⟨i + 1, by go_num, by omega, HQ1.out⟩
        case measure => simp [intOf]; omega
    · have hlt' : ¬ (i : Int) < l.length := by omega
      go_wp2_with fail
      go_ret
      exact ⟨rfl, HQ.out⟩
end Go.Proofs.YtggidhgifaekbaaDoor
/-
  The reference's Then. Conditions: the rows lie in memory as told; all is small.
-/
namespace Go.Proofs.YtggidhgifaekbaaDoor
open Go.RowKit Go.Maps

/-- the reference's Apply: where what comes of it lies -/
theorem refApply_in (w0 : World) (a : Option Addr) (c : Nat) (l : List Bd) (hb : BindsAt w0 a l) (hll : l.length ≤ 1000000) (k n : Int) (ps : Fo) (hz : ps.size ≤ 1000000) (k' n' : Int) (ps' : Fo) (e1 : sK l k n = k') (e2 : sN l k n = n') (e3 : sP l k n ps = ps')
    (W : World) (hq : Quiet0 w0 W) (o : Option Addr) (len cap : Nat) (hs : Slc W o len ps) :
    Calls Tryd.prog 59 #[.slice a l.length c, .agg #[.int .i64 k, .int .i64 n, .slice o len cap]] W fun e w' => ∃ o' len' cap', e = .returned (.agg #[.int .i64 k', .int .i64 n', .slice o' len' cap']) ∧ SlcIn (fun j => j < w0.heap.size ∨ W.heap.size ≤ j) w' o' len' ps' ∧ Quiet0 W w' := by
  subst e1 e2 e3
  refine (refApply_any w0 a c l hb hll k n ps W o len cap hq hs hz).mono ?_
  rintro e w' ⟨o', len', cap', rfl, h1, h2⟩
  exact ⟨o', len', cap', rfl, h1, h2⟩
theorem SlcIn.of_two {w W : World} {B N0 : Nat} {v : Value} {l : List Bd} {xs : List Value} {o : Option Addr} {len : Nat} {f : Fo} {N : Nat} (h : SlcIn (fun k => k < N0 ∨ N ≤ k) W o len f) (hr : BdRow w B v l xs) (hN0 : N0 ≤ B) (hN : w.heap.size ≤ N) : SlcIn (fun k => v.ownBlock ≠ some k) W o len f :=
  h.fr (Fr.refl (fun _ => False) _) (fun k _ hk => ⟨fun e => by have h1 := hr.lt k e; have h2 := hr.low k e; have hk' : k < N0 ∨ N ≤ k := hk; omega, fun h => h⟩)
theorem map_first (f : Bd → Bd) (l : List Bd) (i : Nat) (t : Bd) (h : l[i]? = some t) : (firstB (l.take (i + 1))).map f = (firstB (l.take i)).map f ++ if (!hasB (l.take i) t.1) then [f t] else [] := by
  rw [first_take l i t h]
  cases hh : hasB (l.take i) t.1 <;> simp
set_option maxHeartbeats 8000000 in
set_option maxRecDepth 100000 in
theorem suRefThen_any (la lb : List Bd) (w : World) (oa : Option Addr) (capa : Nat) (ob : Option Addr) (capb : Nat) (hsa : BindsAt w oa la) (hsb : BindsAt w ob lb) (hza : la.length ≤ 100000) (hzb : lb.length ≤ 100000) (hwa : ∀ t ∈ la, t.2.2.2.size ≤ 1000000) :
    Calls Tryd.prog 65 #[.slice oa la.length capa, .slice ob lb.length capb] w fun e w' => ∃ a c, e = .returned (.slice a (thenB la lb).length c) ∧ BindsAt w' a (thenB la lb) ∧ Quiet0 w w' := by
  have HSA := Lib.hid hsa
  have HSB := Lib.hid hsb
  have HWA := Lib.hid hwa
  unfold thenB
  obtain ⟨X, hX⟩ : ∃ X, X = (firstB la).map (thenF lb) ++ (firstB lb).filter (fun t => !hasB la t.1) := ⟨_, rfl⟩
  rw [← hX]
  have HX := Lib.hid hX
  clear hsa hsb hwa hX
  go_enter Tryd.func65, Tryd.ntmps65
  go_wp2_with fail
  go_loopw [5, 6] (fun v t wr => ∃ (i n : Nat) (xs : List Value) (vo : Option Addr) (vc : Nat), t = .int .i64 i ∧ i ≤ la.length ∧ v = .slice vo n vc ∧ ((firstB (la.take i)).map (thenF lb)).length = n ∧ BdRow wr w.heap.size (.slice vo n vc) ((firstB (la.take i)).map (thenF lb)) xs ∧ Quiet0 w wr) (fun _ t _ => la.length - (intOf t).toNat)
  case atStart => exact ⟨0, 0, [], none, 0, rfl, Nat.zero_le _, rfl, rfl, BdRow.nil _ _, Quiet0.refl _⟩
  case round =>
    obtain ⟨i, n, xs, vo, vc, rfl, hi, rfl, hn, hrow, hq⟩ := hrel
    have HN := Lib.hid hn
    have HR := Lib.hid hrow
    have HQ := Lib.hid hq
    have hnb : n ≤ 100000 := by rw [← hn, List.length_map]; have h2 := first_length (la.take i); rw [List.length_take] at h2; omega
    clear hn hrow hq
    by_cases hlt : i < la.length
    · have hlt' : (i : Int) < la.length := by omega
      obtain ⟨t, ht⟩ : ∃ t, la[i]? = some t := ⟨_, List.getElem?_eq_getElem hlt⟩
      have hz1 := HWA.out t (List.mem_of_getElem? ht)
      have HCT := Lib.hid (counts_any la wr oa capa i t ht (HSA.out.stay HQ.out) hza)
      obtain ⟨b, off, o1, len1, cap1, rfl, f0, f1, f2, f3, hs0⟩ := HSA.out i t ht
      have e0 := HQ.out.at f0
      have e1 := HQ.out.at f1
      have e2 := HQ.out.at f2
      have e3 := HQ.out.at f3
      have hs1 := hs0.stay HQ.out
      have HBN : Hid (∀ k, (Value.slice vo n vc).ownBlock = some k → k ≠ b) := by
        intro k hk e
        have h1 := World.block_lt_of_cell? w _ f0
        have h2 := HR.out.low k hk
        have h1' : b < w.heap.size := h1
        omega
      have hblt : b < w.heap.size := World.block_lt_of_cell? w _ f0
      have HBL := Lib.hid hblt
      clear hblt f0 f1 f2 f3 hs0
      have HNT := Lib.hid (map_first (thenF lb) la i t ht)
      have HOWN : Hid (∀ W, Quiet0 wr W → W.ownsRow 0 91 4 (.slice vo n vc) n xs) := fun W h => by
        have h' := (HR.out.stay h).own
        rw [HN.out] at h'
        exact h'
      obtain ⟨v, kk, nn, pp⟩ := t
      simp only at e0 e1 e2 e3 hs1 hz1 HNT HCT
      have HAP := Lib.hid (fun (W : World) (h : Quiet0 wr W) => refApply_in w ob capb lb HSB.out (by omega) kk nn pp hz1 _ _ _ rfl rfl rfl W (HQ.out.trans h) o1 len1 cap1 (hs1.stay h))
      change Hid (_ = _ ++ if (!hasB (la.take i) v) then [(v, sK lb kk nn, sN lb kk nn, sP lb kk nn pp)] else []) at HNT
      generalize sK lb kk nn = k2 at *
      generalize sN lb kk nn = n2 at *
      generalize sP lb kk nn pp = p2 at *
      generalize hasB (la.take i) v = hb at *
      clear ht hs1 hz1
      cases hb
      · have HNT2 : Hid ((firstB (la.take (i + 1))).map (thenF lb) = (firstB (la.take i)).map (thenF lb) ++ [(v, k2, n2, p2)]) := by show _ = _; have h := HNT.out; simpa using h
        go_wp2_with fail
        refine HCT.out.mono ?_; rintro e w1 ⟨rfl, hq1⟩
        have HQ1 := Lib.hid hq1
        have g0 := hq1.at e0
        have g1 := hq1.at e1
        have g2 := hq1.at e2
        have g3 := hq1.at e3
        have HBC : Hid (∀ w', Fr (fun j => (Value.slice vo n vc).ownBlock = some j) w1 w' → w'.cell? ⟨b, off + i * 4, none⟩ = some (.int .i64 v) ∧ w'.cell? ⟨b, off + i * 4 + 1, none⟩ = some (.int .i64 kk) ∧ w'.cell? ⟨b, off + i * 4 + 2, none⟩ = some (.int .i64 nn) ∧ w'.cell? ⟨b, off + i * 4 + 3, none⟩ = some (.slice o1 len1 cap1)) := by
          intro w' h
          have hb1 : b < w1.heap.size := Nat.lt_of_lt_of_le HBL.out (HQ.out.trans HQ1.out).size
          have hb2 : ¬ (Value.slice vo n vc).ownBlock = some b := fun h => HBN.out b h rfl
          exact ⟨(h.cellb hb1 hb2).trans g0, (h.cellb hb1 hb2).trans g1, (h.cellb hb1 hb2).trans g2, (h.cellb hb1 hb2).trans g3⟩
        clear hq1 e0 e1 e2 e3
        have hqc := Quiet0.refl w1
        go_wp2_with fail
        go_region_held3 (fun w' => w'.cell? ⟨b, off + i * 4, none⟩ = some (.int .i64 v) ∧ w'.cell? ⟨b, off + i * 4 + 1, none⟩ = some (.int .i64 kk) ∧ w'.cell? ⟨b, off + i * 4 + 2, none⟩ = some (.int .i64 nn) ∧ w'.cell? ⟨b, off + i * 4 + 3, none⟩ = some (.slice o1 len1 cap1))
          (((refine HBC.out _ ?_); (repeat (first | with_reducible exact HFR | with_reducible exact Quiet0.fr hqc | with_reducible exact Fr.refl _ _ | with_reducible refine Fr.trans ?_ (Fr.alloc _ _ _) | with_reducible refine Fr.trans ?_ (Fr.drew _ _) | ((with_reducible refine Fr.trans ?_ (Fr.setCell _ _ _ _ ?hsd)); (case hsd => (simp <;> omega))) | fail))))
          (first
            | (go_at_call 59; (with_reducible refine Calls.mono (HAP.out _ (HQ1.out.trans ?hq)) ?_); (case hq => (repeat (first | with_reducible exact hqc | with_reducible exact Quiet0.refl _ | with_reducible refine Quiet0.trans ?_ (Quiet0.alloc _ _) | with_reducible refine Quiet0.trans ?_ (Quiet0.drew _) | fail))); rintro e wx ⟨oc, lc, cc, rfl, hsa, hqx⟩; (refine with_q (w0 := w1) ?hq2 hqx ?_); (case hq2 => (repeat (first | with_reducible exact hqc | with_reducible exact Quiet0.refl _ | with_reducible refine Quiet0.trans ?_ (Quiet0.alloc _ _) | with_reducible refine Quiet0.trans ?_ (Quiet0.drew _) | fail))); intro hqc)
            | (refine step_append_one wx (by rfl) (.tmp 17) (.tmp 31) 49 (by rfl) 91 _ 4 48 elemBd (.slice vo n vc) n xs (by rfl) (HOWN.out _ (HQ1.out.trans hqc)) #[.int .i64 v, .int .i64 k2, .int .i64 n2, .slice oc lc cc] (by rfl) (by rfl) (by simp [Value.oneCell']) (by unfold maxLen; omega) (by omega) ?_; intro gg c' w5 ho hf hg2; have HFR := Fr.trans (Quiet0.fr (S := fun j => (Value.slice vo n vc).ownBlock = some j) hqc) hf)
            | fail)
        all_goals
          have HRX := Lib.hid (HR.out.stay (HQ1.out.trans hqc))
          have hsz : w.heap.size ≤ wx.heap.size := ((HQ.out.trans HQ1.out).trans hqc).size
          have HR2 : Hid (BdRow w5 w.heap.size (.slice (some ⟨gg, 0, none⟩) (n + 1) c') ((firstB (la.take (i + 1))).map (thenF lb)) (xs ++ [.int .i64 v, .int .i64 k2, .int .i64 n2, .slice oc lc cc])) := by
            show BdRow _ _ _ _ _
            rw [HNT2.out]
            have h := BdRow.snoc (t := (v, k2, n2, p2)) (g := gg) (c := c') (w1 := w5) HRX.out (SlcIn.of_two hsa HR.out (Nat.le_refl _) HQ1.out.size) (by rw [HN.out]; exact ho) hf hg2 hsz
            rw [HN.out] at h
            exact h
          have HN2 : Hid (((firstB (la.take (i + 1))).map (thenF lb)).length = n + 1) := by show _ = _; rw [HNT2.out, List.length_append, HN.out]; rfl
          have HQ5 : Hid (Quiet0 w w5) := Fr.trans' ((HQ.out.trans HQ1.out).trans hqc) hf (fun j hj h => absurd (HR.out.low j h) (by omega))
          clear ho hf hg2 hsa HFR hsz hqc g0 g1 g2 g3
          go_wp2_with fail
          go_roundw
          case rel => exact ⟨i + 1, n + 1, _, some ⟨gg, 0, none⟩, c', by go_num, by omega, rfl, HN2.out, HR2.out, HQ5.out⟩
          case measure => simp [intOf]; omega
      · have HNT2 : Hid ((firstB (la.take (i + 1))).map (thenF lb) = (firstB (la.take i)).map (thenF lb)) := by show _ = _; have h := HNT.out; simpa using h
        go_wp2_with fail
        refine HCT.out.mono ?_; rintro e w1 ⟨rfl, hq1⟩
        have HQ1 := Lib.hid hq1
        clear hq1 e0 e1 e2 e3
        go_wp2_with fail
        go_roundw
        case rel => exact ⟨i + 1, n, xs, vo, vc, by go_num, by omega, rfl, by rw [HNT2.out]; exact HN.out, by rw [HNT2.out]; exact HR.out.stay HQ1.out, HQ.out.trans HQ1.out⟩
        case measure => simp [intOf]; omega
    · have hlt' : ¬ (i : Int) < la.length := by omega
      have htk : la.take i = la := List.take_of_length_le (by omega)
      rw [htk] at HR HN
      clear htk
      generalize (firstB la).map (thenF lb) = Y at *
      go_wp2_with fail
      go_loopw [5, 7] (fun v t wr => ∃ (j n : Nat) (xs : List Value) (vo : Option Addr) (vc : Nat), t = .int .i64 j ∧ j ≤ lb.length ∧ v = .slice vo n vc ∧ (Y ++ (firstB (lb.take j)).filter (fun t => !hasB la t.1)).length = n ∧ n ≤ 200000 ∧ BdRow wr w.heap.size (.slice vo n vc) (Y ++ (firstB (lb.take j)).filter (fun t => !hasB la t.1)) xs ∧ Quiet0 w wr) (fun _ t _ => lb.length - (intOf t).toNat)
      case atStart => exact ⟨0, n, xs, vo, vc, rfl, Nat.zero_le _, rfl, by rw [List.take_zero]; simpa [firstB] using HN.out, by omega, by rw [List.take_zero]; simpa [firstB] using HR.out, HQ.out⟩
      case round =>
        obtain ⟨j, m, xs2, vo2, vc2, rfl, hj, rfl, hm, hmz, hrow, hq⟩ := hrel
        have HM := Lib.hid hm
        have HR2 := Lib.hid hrow
        have HQJ := Lib.hid hq
        have hmb : m ≤ 200000 := by rw [← hm, List.length_append, HN.out]; have h1 := List.length_filter_le (fun t : Bd => !hasB la t.1) (firstB (lb.take j)); have h2 := first_length (lb.take j); rw [List.length_take] at h2; omega
        clear hm hrow hq hmz
        by_cases hlj : j < lb.length
        · have hlj' : (j : Int) < lb.length := by omega
          obtain ⟨t, ht⟩ : ∃ t, lb[j]? = some t := ⟨_, List.getElem?_eq_getElem hlj⟩
          have HCT := Lib.hid (counts_any lb wr ob capb j t ht (HSB.out.stay HQJ.out) hzb)
          obtain ⟨b, off, o1, len1, cap1, rfl, f0, f1, f2, f3, hs1⟩ := HSB.out j t ht
          have e0 := HQJ.out.at f0
          have e1 := HQJ.out.at f1
          have e2 := HQJ.out.at f2
          have e3 := HQJ.out.at f3
          have HNT : Hid (Y ++ (firstB (lb.take (j + 1))).filter (fun t => !hasB la t.1) = Y ++ (firstB (lb.take j)).filter (fun t => !hasB la t.1) ++ if (!hasB (lb.take j) t.1 && !hasB la t.1) then [t] else []) := by
            show _ = _
            rw [filter_first (fun t => !hasB la t.1) lb j t ht, List.append_assoc]
          have HS1 := Lib.hid hs1
          have HOWN : Hid (∀ W, Quiet0 wr W → W.ownsRow 0 91 4 (.slice vo2 m vc2) m xs2) := fun W h => by
            have h' := (HR2.out.stay h).own
            rw [HM.out] at h'
            exact h'
          obtain ⟨v, kk, nn, pp⟩ := t
          simp only at e0 e1 e2 e3 HS1 HNT HCT
          have HFI := Lib.hid (fun (W : World) (h : Quiet0 w W) => find_any la W oa capa v (HSA.out.stay h) (by omega))
          have HHF := Lib.hid (has_find la v)
          clear ht hs1 f0 f1 f2 f3
          generalize hasB (lb.take j) v = hb at *
          generalize idxB v la 0 = ix at *
          cases hb
          · go_wp2_with fail
            refine HCT.out.mono ?_; rintro e w1 ⟨rfl, hq1⟩
            have HQ1 := Lib.hid hq1
            have g0 := hq1.at e0
            have g1 := hq1.at e1
            have g2 := hq1.at e2
            have g3 := hq1.at e3
            clear hq1 e0 e1 e2 e3
            go_wp2_with fail
            refine (HFI.out _ (HQJ.out.trans HQ1.out)).mono ?_; rintro e w2 ⟨rfl, hq2⟩
            have HQ2 := Lib.hid (HQ1.out.trans hq2)
            have e0 := hq2.at g0
            have e1 := hq2.at g1
            have e2 := hq2.at g2
            have e3 := hq2.at g3
            clear hq2 g0 g1 g2 g3
            cases hin : hasB la v
            · rw [hin] at HHF HNT
              have hneg : ix < 0 := by have := HHF.out; simp at this; omega
              have HNT2 : Hid (Y ++ (firstB (lb.take (j + 1))).filter (fun t => !hasB la t.1) = Y ++ (firstB (lb.take j)).filter (fun t => !hasB la t.1) ++ [(v, kk, nn, pp)]) := by show _ = _; have h := HNT.out; simpa using h
              clear hin
              go_wp2_with (at_builtin; go_must (refine wpList_append_one _ rfl (.tmp 52) (.tmp 57) 49 rfl 91 _ 4 48 elemBd (.slice vo2 m vc2) m xs2 rfl (HOWN.out _ HQ2.out) #[.int .i64 v, .int .i64 kk, .int .i64 nn, .slice o1 len1 cap1] rfl rfl ?c1 ?c2 ?c3 ?_))
              case c1 => simp [Value.oneCell']
              case c2 => unfold maxLen; omega
              case c3 => omega
              intro g c' w5 ho hf hg
              have HRX := Lib.hid (HR2.out.stay HQ2.out)
              have hsz := (HQJ.out.trans HQ2.out).size
              have HR3 : Hid (BdRow w5 w.heap.size (.slice (some ⟨g, 0, none⟩) (m + 1) c') (Y ++ (firstB (lb.take (j + 1))).filter (fun t => !hasB la t.1)) (xs2 ++ [.int .i64 v, .int .i64 kk, .int .i64 nn, .slice o1 len1 cap1])) := by
                show BdRow _ _ _ _ _
                rw [HNT2.out]
                have h := BdRow.snoc (t := (v, kk, nn, pp)) (g := g) (c := c') (w1 := w5) HRX.out (SlcIn.of_lt HS1.out (HQJ.out.trans HQ2.out) HRX.out (Nat.le_refl _)) (by rw [HM.out]; exact ho) hf hg hsz
                rw [HM.out] at h
                exact h
              have HM2 : Hid ((Y ++ (firstB (lb.take (j + 1))).filter (fun t => !hasB la t.1)).length = m + 1) := by show _ = _; rw [HNT2.out, List.length_append, HM.out]; rfl
              have hmz2 : m + 1 ≤ 200000 := by
                have h1 := HM2.out
                rw [List.length_append, HN.out] at h1
                have h2 := List.length_filter_le (fun t : Bd => !hasB la t.1) (firstB (lb.take (j + 1)))
                have h3 := first_length (lb.take (j + 1))
                rw [List.length_take] at h3
                omega
              have HQ5 : Hid (Quiet0 w w5) := Fr.trans' (HQJ.out.trans HQ2.out) hf (fun j hj h => absurd (HR2.out.low j h) (by omega))
              clear ho hf hg hsz e0 e1 e2 e3
              go_wp2_with fail
              go_roundw
              case rel => exact ⟨j + 1, m + 1, _, some ⟨g, 0, none⟩, c', by go_num, by omega, rfl, HM2.out, hmz2, HR3.out, HQ5.out⟩
              case measure => simp [intOf]; omega
            · rw [hin] at HHF HNT
              have hpos : ¬ ix < 0 := by have := HHF.out; simp at this; omega
              have HNT2 : Hid (Y ++ (firstB (lb.take (j + 1))).filter (fun t => !hasB la t.1) = Y ++ (firstB (lb.take j)).filter (fun t => !hasB la t.1)) := by show _ = _; have h := HNT.out; simpa using h
              clear hin e0 e1 e2 e3
              go_wp2_with fail
              go_roundw
              case rel => exact ⟨j + 1, m, xs2, vo2, vc2, by go_num, by omega, rfl, by rw [HNT2.out]; exact HM.out, hmb, by rw [HNT2.out]; exact HR2.out.stay HQ2.out, HQJ.out.trans HQ2.out⟩
              case measure => simp [intOf]; omega
          · have HNT2 : Hid (Y ++ (firstB (lb.take (j + 1))).filter (fun t => !hasB la t.1) = Y ++ (firstB (lb.take j)).filter (fun t => !hasB la t.1)) := by show _ = _; have h := HNT.out; simpa using h
            go_wp2_with fail
            refine HCT.out.mono ?_; rintro e w1 ⟨rfl, hq1⟩
            have HQ1 := Lib.hid hq1
            clear hq1 e0 e1 e2 e3
            go_wp2_with fail
            go_roundw
            case rel => exact ⟨j + 1, m, xs2, vo2, vc2, by go_num, by omega, rfl, by rw [HNT2.out]; exact HM.out, hmb, by rw [HNT2.out]; exact HR2.out.stay HQ1.out, HQJ.out.trans HQ1.out⟩
            case measure => simp [intOf]; omega
        · have hlj' : ¬ (j : Int) < lb.length := by omega
          have htk : lb.take j = lb := List.take_of_length_le (by omega)
          rw [htk, ← HX.out] at HR2 HM
          have HBA := Lib.hid HR2.out.binds
          have hXn : X.length = m := HM.out
          subst hXn
          clear htk
          go_wp2_with fail
          go_ret
          exact ⟨_, ⟨_, rfl⟩, HBA.out, HQJ.out⟩
end Go.Proofs.YtggidhgifaekbaaDoor
