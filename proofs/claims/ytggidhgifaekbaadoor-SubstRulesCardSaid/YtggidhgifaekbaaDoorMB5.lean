/-
  Texts laid together (SuApply, SuFind, TyAux, TyCanon, TyRefVars0, TyRefVars): what each one proves, and its conditions, stands at its head.
-/
import Derived.Deep.DeepCutAuto
import Derived.Deep.RegionHeld3
import Derived.Deep.AppendLies
import Derived.Test.YtggidhgifaekbaaDoorMB1
import Derived.Test.YtggidhgifaekbaaDoorMB2
import Derived.Test.YtggidhgifaekbaaDoorMB3
import Derived.Test.YtggidhgifaekbaaDoorMB4
/-
  The program's apply. Conditions: the type lies in memory as told; its numbers are in range; the table holds binds; all are small.
-/
namespace Go.Proofs.YtggidhgifaekbaaDoor
open Go.RowKit Go.Maps

theorem lookT_some (w : World) {ops : Array Oper} {rest : List Oper} {o : Oper} {a : Act} {Q : Exit → Act → World → Prop}
    (hg : o.guard = none) (m x : Operand) (hop : o.op = Op.lookup 94 m x true) {b n : Nat} {q : Int → Option Value} (hm : a.eval m = .map (some b)) (hown : MapT w b n q) (v : Int) (hv : wfI v) {u : Value} (hq : q v = some u) (hx : a.eval x = .int .i64 v)
    (hK : wpList Tryd.prog ops Q rest (a.put o.dst (.tuple #[u, .bool true])) w) : wpList Tryd.prog ops Q (o :: rest) a w :=
  wpList_lookT w hg m x hop hm hown v hv hx (by rw [hq]; exact hK)
theorem lookT_none (w : World) {ops : Array Oper} {rest : List Oper} {o : Oper} {a : Act} {Q : Exit → Act → World → Prop}
    (hg : o.guard = none) (m x : Operand) (hop : o.op = Op.lookup 94 m x true) {b n : Nat} {q : Int → Option Value} (hm : a.eval m = .map (some b)) (hown : MapT w b n q) (v : Int) (hv : wfI v) (hq : q v = none) (hx : a.eval x = .int .i64 v)
    (hK : wpList Tryd.prog ops Q rest (a.put o.dst (.tuple #[.agg #[.int .i64 0, .int .i64 0, .slice none 0 0], .bool false])) w) : wpList Tryd.prog ops Q (o :: rest) a w :=
  wpList_lookT w hg m x hop hm hown v hv hx (by rw [hq]; exact hK)
def TApp (l : List Bd) (k n : Int) (ps : Fo) : Prop := ∀ (w : World) (o : Option Addr) (len cap : Nat) (b m : Nat) (q : Int → Option Value), MapT w b m q → TabAt w q (findB l) → Slc w o len ps → ps.size ≤ 1000000 → wfI n → wfF ps →
  Calls Tryd.prog 88 #[.map (some b), tyv k n o len cap] w fun e w' => ∃ o' len' cap', e = .returned (tyv (sK l k n) (sN l k n) o' len' cap') ∧ SlcIn (fun b => w.heap.size ≤ b) w' o' len' (sP l k n ps) ∧ Quiet0 w w'
set_option maxHeartbeats 4000000 in
set_option maxRecDepth 100000 in
theorem apply_any (l : List Bd) (hl : ∀ t ∈ l, t.2.2.2.size ≤ 1000000) (k n : Int) (ps : Fo) : TApp l k n ps := by
  refine Fo.ind' (T := TApp l) ?_ k n ps
  intro k n ps ih w o len cap b m q hm ht hs hsz hn hw
  have HS := Lib.hid hs
  have IH := Lib.hid ih
  have HL := Lib.hid hs.1
  have hmx := hs.2.1
  have hll := Fo.length_le ps
  rw [← hs.1] at hll
  unfold maxLen at hmx
  have HM := Lib.hid hm
  have HT := Lib.hid ht
  have HN := Lib.hid hn
  have HW := Lib.hid hw
  have htn := ht n
  clear hs ih hm ht hn hw
  cases hk : (k == 1)
  · have hh : hit l k n = none := by unfold hit; rw [hk]; rfl
    have e1 : sK l k n = k := by unfold sK; rw [hh]
    have e2 : sN l k n = n := by unfold sN; rw [hh]
    have e3 : sP l k n ps = substF l ps := by unfold sP; rw [hh]
    rw [e1, e2, e3]
    clear e1 e2 e3 hh
    cases hf : findB l n with
    | none =>
      rw [hf] at htn
      have hqn : q n = none := htn
      clear htn hf
      unfold tyv
      obtain ⟨W0, hW0⟩ : ∃ W0, W0 = ((w.alloc (.cells #[.int .i64 k, .int .i64 n, .slice o len cap] 24)).alloc (.cells #[.int .i64 0, .int .i64 0, .slice none 0 0] 24)).alloc (.cells #[.int .i64 0, .int .i64 0, .slice none 0 0] 24) := ⟨_, rfl⟩
      have HQ0 : Hid (Quiet0 w W0) := by rw [hW0]; exact ((Quiet0.alloc _ _).trans (Quiet0.alloc _ _)).trans (Quiet0.alloc _ _)
      have hz0 : w.heap.size + 2 ≤ W0.heap.size := by rw [hW0]; simp
      have HB0 : Hid (W0.heap[w.heap.size]? = some (.cells #[.int .i64 k, .int .i64 n, .slice o len cap] 24 (0, 0))) := by rw [hW0]; exact box_after (heap_alloc_new w _) ((Quiet0.alloc _ _).trans (Quiet0.alloc _ _))
      have HB1 : Hid (W0.heap[w.heap.size + 1]? = some (.cells #[.int .i64 0, .int .i64 0, .slice none 0 0] 24 (0, 0))) := by
        rw [hW0, show w.heap.size + 1 = (w.alloc (.cells #[.int .i64 k, .int .i64 n, .slice o len cap] 24)).heap.size from by simp]; exact box_after (heap_alloc_new _ _) (Quiet0.alloc _ _)
      obtain ⟨p0, p1, p2, _, _, _⟩ := box_cells3 HB0.out
      have HMA := Lib.hid (HM.out.stay ((Quiet0.alloc w (.cells #[.int .i64 k, .int .i64 n, .slice o len cap] 24)).trans (Quiet0.alloc _ (.cells #[.int .i64 0, .int .i64 0, .slice none 0 0] 24))))
      go_enter Tryd.func88, Tryd.ntmps88
      go_wp2_with (at_lookup; go_must (refine lookT_none _ rfl _ _ rfl rfl HMA.out n HN.out hqn rfl ?_))
      go_upto_region 4 with fail
      change Code.wp _ _ _ _ (((w.alloc (.cells #[.int .i64 k, .int .i64 n, .slice o len cap] 24)).alloc (.cells #[.int .i64 0, .int .i64 0, .slice none 0 0] 24)).alloc (.cells #[.int .i64 0, .int .i64 0, .slice none 0 0] 24))
      rw [← hW0]
      clear hW0
      generalize hB : w.heap.size = B at *
      have HBE := Lib.hid hB
      clear hB
      go_wp2_with fail
      clear p0 p1 p2
      go_loopw [7, 28] (fun v t wr => ∃ (i : Nat) (f : Fo) (xs : List Value) (vo : Option Addr) (vc : Nat), t = .int .i64 i ∧ i ≤ len ∧ v = .slice vo i vc ∧ f.length = i ∧ f.app (substF l (ps.drop i)) = substF l ps ∧ TyRow wr W0.heap.size (.slice vo i vc) f xs ∧ Quiet0 W0 wr) (fun _ t _ => len - (intOf t).toNat)
      case atStart => exact ⟨0, .nil, [], none, 0, rfl, Nat.zero_le _, rfl, rfl, by rw [Fo.drop_zero]; rfl, TyRow.nil _ _, Quiet0.refl _⟩
      case round =>
        obtain ⟨i, f, xs, vo, vc, rfl, hi, rfl, hfl, hap, hrow, hq⟩ := hrel
        have HF := Lib.hid hfl
        have HAP := Lib.hid hap
        have HR := Lib.hid hrow
        have HQ := Lib.hid hq
        clear hfl hap hrow hq
        by_cases hlt : i < len
        · have hlt' : (i : Int) < len := by omega
          obtain ⟨bb, off, k1, n1, qs, o1, len1, cap1, rfl, hd, hg, e0, e1, e2, hs1⟩ := (HS.out.stay (HQ0.out.trans HQ.out)).nth hlt
          have hsq := Fo.size_get ps i k1 n1 qs hg
          have hgw := allF_get ps i k1 n1 qs HW.out hg
          have HC := Lib.hid (IH.out i k1 n1 qs hg (wr.alloc (.cells #[.int .i64 k1, .int .i64 n1, .slice o1 len1 cap1] 24)) o1 len1 cap1 b m q (HM.out.stay ((HQ0.out.trans HQ.out).trans (Quiet0.alloc _ _))) (HT.out.stay ((HQ0.out.trans HQ.out).trans (Quiet0.alloc _ _))) (hs1.stay (Quiet0.alloc _ _)) (by omega) hgw.1 hgw.2)
          have HD : Hid ((f.app (.cons (sK l k1 n1) (sN l k1 n1) (sP l k1 n1 qs) .nil)).app (substF l (ps.drop (i + 1))) = substF l ps) := by
            show _ = _
            rw [← HAP.out, hd, Fo.app_assoc, substF_cons]; rfl
          unfold tyv at HC
          clear hd hg hs1 hsq hgw
          generalize sK l k1 n1 = k2 at *
          generalize sN l k1 n1 = n2 at *
          generalize sP l k1 n1 qs = p2 at *
          go_wp2_with fail
          refine HC.out.mono ?_; rintro e w1 ⟨o2, len2, cap2, rfl, hs2, hq1⟩
          have HS2 := Lib.hid hs2
          have HQ1 := Lib.hid ((Quiet0.alloc _ _).trans hq1)
          have HR1 := Lib.hid (HR.out.stay HQ1.out)
          clear hs2 hq1
          go_wp2_with (at_builtin; go_must (refine wpList_append_one w1 rfl (.tmp 32) (.tmp 36) 22 rfl 24 _ 3 40 elemTy (.slice vo i vc) i xs rfl (HF.out ▸ HR1.out.own) #[.int .i64 k2, .int .i64 n2, .slice o2 len2 cap2] rfl rfl ?c1 ?c2 ?c3 ?_))
          case c1 => simp [Value.oneCell']
          case c2 => unfold maxLen; omega
          case c3 => omega
          intro g2 c' w2 ho hf hg2
          have hlow : W0.heap.size ≤ w1.heap.size := Nat.le_trans HQ.out.size HQ1.out.size
          have hown : ∀ kk, (Value.slice vo i vc).ownBlock = some kk → kk < wr.heap.size := fun kk h => (HR.out.own.lt kk h).2
          have HR2 : Hid (TyRow w2 W0.heap.size (.slice (some ⟨g2, 0, none⟩) (i + 1) c') (f.app (.cons k2 n2 p2 .nil)) (xs ++ [.int .i64 k2, .int .i64 n2, .slice o2 len2 cap2])) := by
            show TyRow _ _ _ _ _
            have hf' := HF.out
            subst hf'
            refine TyRow.snoc HR1.out (HS2.out.fr (Fr.refl (fun _ => False) _) ?_) ho hf hg2 hlow
            intro kk _ hkk
            have hkk' : (wr.alloc (.cells #[.int .i64 k1, .int .i64 n1, .slice o1 len1 cap1] 24)).heap.size ≤ kk := hkk
            simp at hkk'
            refine ⟨⟨by have := HQ.out.size; omega, fun h => ?_⟩, fun h => h⟩
            have := hown kk h; omega
          have HQ2 : Hid (Quiet0 W0 w2) := by
            show Quiet0 _ _
            exact Fr.trans' (HQ.out.trans HQ1.out) hf (fun kk hkk h => absurd (HR.out.low kk h) (by omega))
          have HL2 : Hid ((f.app (.cons k2 n2 p2 .nil)).length = i + 1) := by
            show _ = _
            rw [Fo.app_length, HF.out]; rfl
          clear ho hf hg2 hown
          go_wp2_with fail
          go_roundw
          case rel => exact ⟨i + 1, _, _, some ⟨g2, 0, none⟩, c', by go_num, by omega, rfl, HL2.out, HD.out, HR2.out, HQ2.out⟩
          case measure => simp [intOf]; omega
        · have hlt' : ¬ (i : Int) < len := by omega
          have hb1 := box_after HB1.out HQ.out
          have hb0 := box_after HB0.out HQ.out
          obtain ⟨c0, c1, c2, z0, z1, z2⟩ := box_cells3 hb0
          obtain ⟨d0, d1, d2, y0, y1, y2⟩ := box_cells3 hb1
          have HB0 := Lib.hid hb0
          have HB1 := Lib.hid hb1
          clear hb0 hb1
          have hil : i = len := by omega
          have HFIN : Hid (∀ u v x y : Value, SlcIn (fun b => w.heap.size ≤ b) ((((wr.setCell ⟨B, 2, none⟩ u).setCell ⟨B + 1, 0, none⟩ v).setCell ⟨B + 1, 1, none⟩ x).setCell ⟨B + 1, 2, none⟩ y) vo len (substF l ps) ∧ Quiet0 w ((((wr.setCell ⟨B, 2, none⟩ u).setCell ⟨B + 1, 0, none⟩ v).setCell ⟨B + 1, 1, none⟩ x).setCell ⟨B + 1, 2, none⟩ y)) := by
            intro u v x y
            have hf : Fr (fun kk => kk = B ∨ kk = B + 1) wr ((((wr.setCell ⟨B, 2, none⟩ u).setCell ⟨B + 1, 0, none⟩ v).setCell ⟨B + 1, 1, none⟩ x).setCell ⟨B + 1, 2, none⟩ y) :=
              (((Fr.setCell _ _ _ _ (.inl rfl)).trans (Fr.setCell _ _ _ _ (.inr rfl))).trans (Fr.setCell _ _ _ _ (.inr rfl))).trans (Fr.setCell _ _ _ _ (.inr rfl))
            have hap := HAP.out
            subst hil
            rw [Fo.drop_end ps i (by have := HL.out; omega)] at hap
            simp only [substF] at hap
            rw [Fo.app_nil] at hap
            refine ⟨?_, ?_⟩
            · rw [← hap]
              refine (HR.out.slc HF.out.symm (by unfold maxLen; omega)).fr hf ?_
              intro kk _ hkk
              have hkk' : W0.heap.size ≤ kk := hkk
              have hz := HBE.out
              exact ⟨by omega, by omega⟩
            · exact Fr.trans' (HQ0.out.trans HQ.out) hf (fun kk hkk h => by have hz := HBE.out; omega)
          go_wp2_with fail
          have hbf := box_set2 (u := .slice vo len vc) (box_set1 (u := .int .i64 n) (box_set0 (u := .int .i64 k) (B := B + 1) (w := wr.setCell ⟨B, 2, none⟩ (.slice vo len vc)) (by rw [Below.heap_setCell _ _ _ _ (by show B + 1 ≠ B; omega)]; exact HB1.out)))
          obtain ⟨f0, f1, f2, _, _, _⟩ := box_cells3 hbf
          have HFF := HFIN.out (.slice vo len vc) (.int .i64 k) (.int .i64 n) (.slice vo len vc)
          clear hbf
          subst hil
          generalize (((wr.setCell ⟨B, 2, none⟩ (.slice vo i vc)).setCell ⟨B + 1, 0, none⟩ (.int .i64 k)).setCell ⟨B + 1, 1, none⟩ (.int .i64 n)).setCell ⟨B + 1, 2, none⟩ (.slice vo i vc) = wf at *
          refine bodyPost_ret (by simp [results, Tryd.results88, go_sem, f0, f1, f2]; rfl) rfl ?_
          exact ⟨vo, i, ⟨vc, rfl⟩, HFF⟩
    | some t =>
      rw [hf] at htn
      obtain ⟨uo, ul, uc, hqn, _⟩ := htn
      generalize t.2.1 = uk at *
      generalize t.2.2.1 = un at *
      unfold tyv at hqn
      clear hf
      unfold tyv
      obtain ⟨W0, hW0⟩ : ∃ W0, W0 = ((w.alloc (.cells #[.int .i64 k, .int .i64 n, .slice o len cap] 24)).alloc (.cells #[.int .i64 0, .int .i64 0, .slice none 0 0] 24)).alloc (.cells #[.int .i64 uk, .int .i64 un, .slice uo ul uc] 24) := ⟨_, rfl⟩
      have HQ0 : Hid (Quiet0 w W0) := by rw [hW0]; exact ((Quiet0.alloc _ _).trans (Quiet0.alloc _ _)).trans (Quiet0.alloc _ _)
      have hz0 : w.heap.size + 2 ≤ W0.heap.size := by rw [hW0]; simp
      have HB0 : Hid (W0.heap[w.heap.size]? = some (.cells #[.int .i64 k, .int .i64 n, .slice o len cap] 24 (0, 0))) := by rw [hW0]; exact box_after (heap_alloc_new w _) ((Quiet0.alloc _ _).trans (Quiet0.alloc _ _))
      have HB1 : Hid (W0.heap[w.heap.size + 1]? = some (.cells #[.int .i64 0, .int .i64 0, .slice none 0 0] 24 (0, 0))) := by
        rw [hW0, show w.heap.size + 1 = (w.alloc (.cells #[.int .i64 k, .int .i64 n, .slice o len cap] 24)).heap.size from by simp]; exact box_after (heap_alloc_new _ _) (Quiet0.alloc _ _)
      obtain ⟨p0, p1, p2, _, _, _⟩ := box_cells3 HB0.out
      have HMA := Lib.hid (HM.out.stay ((Quiet0.alloc w (.cells #[.int .i64 k, .int .i64 n, .slice o len cap] 24)).trans (Quiet0.alloc _ (.cells #[.int .i64 0, .int .i64 0, .slice none 0 0] 24))))
      go_enter Tryd.func88, Tryd.ntmps88
      go_wp2_with (at_lookup; go_must (refine lookT_some _ rfl _ _ rfl rfl HMA.out n HN.out hqn rfl ?_))
      go_upto_region 4 with fail
      change Code.wp _ _ _ _ (((w.alloc (.cells #[.int .i64 k, .int .i64 n, .slice o len cap] 24)).alloc (.cells #[.int .i64 0, .int .i64 0, .slice none 0 0] 24)).alloc (.cells #[.int .i64 uk, .int .i64 un, .slice uo ul uc] 24))
      rw [← hW0]
      clear hW0
      generalize hB : w.heap.size = B at *
      have HBE := Lib.hid hB
      clear hB
      go_wp2_with fail
      clear p0 p1 p2
      go_loopw [7, 28] (fun v t wr => ∃ (i : Nat) (f : Fo) (xs : List Value) (vo : Option Addr) (vc : Nat), t = .int .i64 i ∧ i ≤ len ∧ v = .slice vo i vc ∧ f.length = i ∧ f.app (substF l (ps.drop i)) = substF l ps ∧ TyRow wr W0.heap.size (.slice vo i vc) f xs ∧ Quiet0 W0 wr) (fun _ t _ => len - (intOf t).toNat)
      case atStart => exact ⟨0, .nil, [], none, 0, rfl, Nat.zero_le _, rfl, rfl, by rw [Fo.drop_zero]; rfl, TyRow.nil _ _, Quiet0.refl _⟩
      case round =>
        obtain ⟨i, f, xs, vo, vc, rfl, hi, rfl, hfl, hap, hrow, hq⟩ := hrel
        have HF := Lib.hid hfl
        have HAP := Lib.hid hap
        have HR := Lib.hid hrow
        have HQ := Lib.hid hq
        clear hfl hap hrow hq
        by_cases hlt : i < len
        · have hlt' : (i : Int) < len := by omega
          obtain ⟨bb, off, k1, n1, qs, o1, len1, cap1, rfl, hd, hg, e0, e1, e2, hs1⟩ := (HS.out.stay (HQ0.out.trans HQ.out)).nth hlt
          have hsq := Fo.size_get ps i k1 n1 qs hg
          have hgw := allF_get ps i k1 n1 qs HW.out hg
          have HC := Lib.hid (IH.out i k1 n1 qs hg (wr.alloc (.cells #[.int .i64 k1, .int .i64 n1, .slice o1 len1 cap1] 24)) o1 len1 cap1 b m q (HM.out.stay ((HQ0.out.trans HQ.out).trans (Quiet0.alloc _ _))) (HT.out.stay ((HQ0.out.trans HQ.out).trans (Quiet0.alloc _ _))) (hs1.stay (Quiet0.alloc _ _)) (by omega) hgw.1 hgw.2)
          have HD : Hid ((f.app (.cons (sK l k1 n1) (sN l k1 n1) (sP l k1 n1 qs) .nil)).app (substF l (ps.drop (i + 1))) = substF l ps) := by
            show _ = _
            rw [← HAP.out, hd, Fo.app_assoc, substF_cons]; rfl
          unfold tyv at HC
          clear hd hg hs1 hsq hgw
          generalize sK l k1 n1 = k2 at *
          generalize sN l k1 n1 = n2 at *
          generalize sP l k1 n1 qs = p2 at *
          go_wp2_with fail
          refine HC.out.mono ?_; rintro e w1 ⟨o2, len2, cap2, rfl, hs2, hq1⟩
          have HS2 := Lib.hid hs2
          have HQ1 := Lib.hid ((Quiet0.alloc _ _).trans hq1)
          have HR1 := Lib.hid (HR.out.stay HQ1.out)
          clear hs2 hq1
          go_wp2_with (at_builtin; go_must (refine wpList_append_one w1 rfl (.tmp 32) (.tmp 36) 22 rfl 24 _ 3 40 elemTy (.slice vo i vc) i xs rfl (HF.out ▸ HR1.out.own) #[.int .i64 k2, .int .i64 n2, .slice o2 len2 cap2] rfl rfl ?c1 ?c2 ?c3 ?_))
          case c1 => simp [Value.oneCell']
          case c2 => unfold maxLen; omega
          case c3 => omega
          intro g2 c' w2 ho hf hg2
          have hlow : W0.heap.size ≤ w1.heap.size := Nat.le_trans HQ.out.size HQ1.out.size
          have hown : ∀ kk, (Value.slice vo i vc).ownBlock = some kk → kk < wr.heap.size := fun kk h => (HR.out.own.lt kk h).2
          have HR2 : Hid (TyRow w2 W0.heap.size (.slice (some ⟨g2, 0, none⟩) (i + 1) c') (f.app (.cons k2 n2 p2 .nil)) (xs ++ [.int .i64 k2, .int .i64 n2, .slice o2 len2 cap2])) := by
            show TyRow _ _ _ _ _
            have hf' := HF.out
            subst hf'
            refine TyRow.snoc HR1.out (HS2.out.fr (Fr.refl (fun _ => False) _) ?_) ho hf hg2 hlow
            intro kk _ hkk
            have hkk' : (wr.alloc (.cells #[.int .i64 k1, .int .i64 n1, .slice o1 len1 cap1] 24)).heap.size ≤ kk := hkk
            simp at hkk'
            refine ⟨⟨by have := HQ.out.size; omega, fun h => ?_⟩, fun h => h⟩
            have := hown kk h; omega
          have HQ2 : Hid (Quiet0 W0 w2) := by
            show Quiet0 _ _
            exact Fr.trans' (HQ.out.trans HQ1.out) hf (fun kk hkk h => absurd (HR.out.low kk h) (by omega))
          have HL2 : Hid ((f.app (.cons k2 n2 p2 .nil)).length = i + 1) := by
            show _ = _
            rw [Fo.app_length, HF.out]; rfl
          clear ho hf hg2 hown
          go_wp2_with fail
          go_roundw
          case rel => exact ⟨i + 1, _, _, some ⟨g2, 0, none⟩, c', by go_num, by omega, rfl, HL2.out, HD.out, HR2.out, HQ2.out⟩
          case measure => simp [intOf]; omega
        · have hlt' : ¬ (i : Int) < len := by omega
          have hb1 := box_after HB1.out HQ.out
          have hb0 := box_after HB0.out HQ.out
          obtain ⟨c0, c1, c2, z0, z1, z2⟩ := box_cells3 hb0
          obtain ⟨d0, d1, d2, y0, y1, y2⟩ := box_cells3 hb1
          have HB0 := Lib.hid hb0
          have HB1 := Lib.hid hb1
          clear hb0 hb1
          have hil : i = len := by omega
          have HFIN : Hid (∀ u v x y : Value, SlcIn (fun b => w.heap.size ≤ b) ((((wr.setCell ⟨B, 2, none⟩ u).setCell ⟨B + 1, 0, none⟩ v).setCell ⟨B + 1, 1, none⟩ x).setCell ⟨B + 1, 2, none⟩ y) vo len (substF l ps) ∧ Quiet0 w ((((wr.setCell ⟨B, 2, none⟩ u).setCell ⟨B + 1, 0, none⟩ v).setCell ⟨B + 1, 1, none⟩ x).setCell ⟨B + 1, 2, none⟩ y)) := by
            intro u v x y
            have hf : Fr (fun kk => kk = B ∨ kk = B + 1) wr ((((wr.setCell ⟨B, 2, none⟩ u).setCell ⟨B + 1, 0, none⟩ v).setCell ⟨B + 1, 1, none⟩ x).setCell ⟨B + 1, 2, none⟩ y) :=
              (((Fr.setCell _ _ _ _ (.inl rfl)).trans (Fr.setCell _ _ _ _ (.inr rfl))).trans (Fr.setCell _ _ _ _ (.inr rfl))).trans (Fr.setCell _ _ _ _ (.inr rfl))
            have hap := HAP.out
            subst hil
            rw [Fo.drop_end ps i (by have := HL.out; omega)] at hap
            simp only [substF] at hap
            rw [Fo.app_nil] at hap
            refine ⟨?_, ?_⟩
            · rw [← hap]
              refine (HR.out.slc HF.out.symm (by unfold maxLen; omega)).fr hf ?_
              intro kk _ hkk
              have hkk' : W0.heap.size ≤ kk := hkk
              have hz := HBE.out
              exact ⟨by omega, by omega⟩
            · exact Fr.trans' (HQ0.out.trans HQ.out) hf (fun kk hkk h => by have hz := HBE.out; omega)
          go_wp2_with fail
          have hbf := box_set2 (u := .slice vo len vc) (box_set1 (u := .int .i64 n) (box_set0 (u := .int .i64 k) (B := B + 1) (w := wr.setCell ⟨B, 2, none⟩ (.slice vo len vc)) (by rw [Below.heap_setCell _ _ _ _ (by show B + 1 ≠ B; omega)]; exact HB1.out)))
          obtain ⟨f0, f1, f2, _, _, _⟩ := box_cells3 hbf
          have HFF := HFIN.out (.slice vo len vc) (.int .i64 k) (.int .i64 n) (.slice vo len vc)
          clear hbf
          subst hil
          generalize (((wr.setCell ⟨B, 2, none⟩ (.slice vo i vc)).setCell ⟨B + 1, 0, none⟩ (.int .i64 k)).setCell ⟨B + 1, 1, none⟩ (.int .i64 n)).setCell ⟨B + 1, 2, none⟩ (.slice vo i vc) = wf at *
          refine bodyPost_ret (by simp [results, Tryd.results88, go_sem, f0, f1, f2]; rfl) rfl ?_
          exact ⟨vo, i, ⟨vc, rfl⟩, HFF⟩
  · cases hf : findB l n with
    | none =>
      have hh : hit l k n = none := by unfold hit; rw [hk, hf]; rfl
      have e1 : sK l k n = k := by unfold sK; rw [hh]
      have e2 : sN l k n = n := by unfold sN; rw [hh]
      have e3 : sP l k n ps = substF l ps := by unfold sP; rw [hh]
      rw [e1, e2, e3]
      clear e1 e2 e3 hh
      rw [hf] at htn
      have hqn : q n = none := htn
      clear htn hf
      unfold tyv
      obtain ⟨W0, hW0⟩ : ∃ W0, W0 = ((w.alloc (.cells #[.int .i64 k, .int .i64 n, .slice o len cap] 24)).alloc (.cells #[.int .i64 0, .int .i64 0, .slice none 0 0] 24)).alloc (.cells #[.int .i64 0, .int .i64 0, .slice none 0 0] 24) := ⟨_, rfl⟩
      have HQ0 : Hid (Quiet0 w W0) := by rw [hW0]; exact ((Quiet0.alloc _ _).trans (Quiet0.alloc _ _)).trans (Quiet0.alloc _ _)
      have hz0 : w.heap.size + 2 ≤ W0.heap.size := by rw [hW0]; simp
      have HB0 : Hid (W0.heap[w.heap.size]? = some (.cells #[.int .i64 k, .int .i64 n, .slice o len cap] 24 (0, 0))) := by rw [hW0]; exact box_after (heap_alloc_new w _) ((Quiet0.alloc _ _).trans (Quiet0.alloc _ _))
      have HB1 : Hid (W0.heap[w.heap.size + 1]? = some (.cells #[.int .i64 0, .int .i64 0, .slice none 0 0] 24 (0, 0))) := by
        rw [hW0, show w.heap.size + 1 = (w.alloc (.cells #[.int .i64 k, .int .i64 n, .slice o len cap] 24)).heap.size from by simp]; exact box_after (heap_alloc_new _ _) (Quiet0.alloc _ _)
      obtain ⟨p0, p1, p2, _, _, _⟩ := box_cells3 HB0.out
      have HMA := Lib.hid (HM.out.stay ((Quiet0.alloc w (.cells #[.int .i64 k, .int .i64 n, .slice o len cap] 24)).trans (Quiet0.alloc _ (.cells #[.int .i64 0, .int .i64 0, .slice none 0 0] 24))))
      go_enter Tryd.func88, Tryd.ntmps88
      go_wp2_with (at_lookup; go_must (refine lookT_none _ rfl _ _ rfl rfl HMA.out n HN.out hqn rfl ?_))
      go_upto_region 4 with fail
      change Code.wp _ _ _ _ (((w.alloc (.cells #[.int .i64 k, .int .i64 n, .slice o len cap] 24)).alloc (.cells #[.int .i64 0, .int .i64 0, .slice none 0 0] 24)).alloc (.cells #[.int .i64 0, .int .i64 0, .slice none 0 0] 24))
      rw [← hW0]
      clear hW0
      generalize hB : w.heap.size = B at *
      have HBE := Lib.hid hB
      clear hB
      go_wp2_with fail
      clear p0 p1 p2
      go_loopw [7, 28] (fun v t wr => ∃ (i : Nat) (f : Fo) (xs : List Value) (vo : Option Addr) (vc : Nat), t = .int .i64 i ∧ i ≤ len ∧ v = .slice vo i vc ∧ f.length = i ∧ f.app (substF l (ps.drop i)) = substF l ps ∧ TyRow wr W0.heap.size (.slice vo i vc) f xs ∧ Quiet0 W0 wr) (fun _ t _ => len - (intOf t).toNat)
      case atStart => exact ⟨0, .nil, [], none, 0, rfl, Nat.zero_le _, rfl, rfl, by rw [Fo.drop_zero]; rfl, TyRow.nil _ _, Quiet0.refl _⟩
      case round =>
        obtain ⟨i, f, xs, vo, vc, rfl, hi, rfl, hfl, hap, hrow, hq⟩ := hrel
        have HF := Lib.hid hfl
        have HAP := Lib.hid hap
        have HR := Lib.hid hrow
        have HQ := Lib.hid hq
        clear hfl hap hrow hq
        by_cases hlt : i < len
        · have hlt' : (i : Int) < len := by omega
          obtain ⟨bb, off, k1, n1, qs, o1, len1, cap1, rfl, hd, hg, e0, e1, e2, hs1⟩ := (HS.out.stay (HQ0.out.trans HQ.out)).nth hlt
          have hsq := Fo.size_get ps i k1 n1 qs hg
          have hgw := allF_get ps i k1 n1 qs HW.out hg
          have HC := Lib.hid (IH.out i k1 n1 qs hg (wr.alloc (.cells #[.int .i64 k1, .int .i64 n1, .slice o1 len1 cap1] 24)) o1 len1 cap1 b m q (HM.out.stay ((HQ0.out.trans HQ.out).trans (Quiet0.alloc _ _))) (HT.out.stay ((HQ0.out.trans HQ.out).trans (Quiet0.alloc _ _))) (hs1.stay (Quiet0.alloc _ _)) (by omega) hgw.1 hgw.2)
          have HD : Hid ((f.app (.cons (sK l k1 n1) (sN l k1 n1) (sP l k1 n1 qs) .nil)).app (substF l (ps.drop (i + 1))) = substF l ps) := by
            show _ = _
            rw [← HAP.out, hd, Fo.app_assoc, substF_cons]; rfl
          unfold tyv at HC
          clear hd hg hs1 hsq hgw
          generalize sK l k1 n1 = k2 at *
          generalize sN l k1 n1 = n2 at *
          generalize sP l k1 n1 qs = p2 at *
          go_wp2_with fail
          refine HC.out.mono ?_; rintro e w1 ⟨o2, len2, cap2, rfl, hs2, hq1⟩
          have HS2 := Lib.hid hs2
          have HQ1 := Lib.hid ((Quiet0.alloc _ _).trans hq1)
          have HR1 := Lib.hid (HR.out.stay HQ1.out)
          clear hs2 hq1
          go_wp2_with (at_builtin; go_must (refine wpList_append_one w1 rfl (.tmp 32) (.tmp 36) 22 rfl 24 _ 3 40 elemTy (.slice vo i vc) i xs rfl (HF.out ▸ HR1.out.own) #[.int .i64 k2, .int .i64 n2, .slice o2 len2 cap2] rfl rfl ?c1 ?c2 ?c3 ?_))
          case c1 => simp [Value.oneCell']
          case c2 => unfold maxLen; omega
          case c3 => omega
          intro g2 c' w2 ho hf hg2
          have hlow : W0.heap.size ≤ w1.heap.size := Nat.le_trans HQ.out.size HQ1.out.size
          have hown : ∀ kk, (Value.slice vo i vc).ownBlock = some kk → kk < wr.heap.size := fun kk h => (HR.out.own.lt kk h).2
          have HR2 : Hid (TyRow w2 W0.heap.size (.slice (some ⟨g2, 0, none⟩) (i + 1) c') (f.app (.cons k2 n2 p2 .nil)) (xs ++ [.int .i64 k2, .int .i64 n2, .slice o2 len2 cap2])) := by
            show TyRow _ _ _ _ _
            have hf' := HF.out
            subst hf'
            refine TyRow.snoc HR1.out (HS2.out.fr (Fr.refl (fun _ => False) _) ?_) ho hf hg2 hlow
            intro kk _ hkk
            have hkk' : (wr.alloc (.cells #[.int .i64 k1, .int .i64 n1, .slice o1 len1 cap1] 24)).heap.size ≤ kk := hkk
            simp at hkk'
            refine ⟨⟨by have := HQ.out.size; omega, fun h => ?_⟩, fun h => h⟩
            have := hown kk h; omega
          have HQ2 : Hid (Quiet0 W0 w2) := by
            show Quiet0 _ _
            exact Fr.trans' (HQ.out.trans HQ1.out) hf (fun kk hkk h => absurd (HR.out.low kk h) (by omega))
          have HL2 : Hid ((f.app (.cons k2 n2 p2 .nil)).length = i + 1) := by
            show _ = _
            rw [Fo.app_length, HF.out]; rfl
          clear ho hf hg2 hown
          go_wp2_with fail
          go_roundw
          case rel => exact ⟨i + 1, _, _, some ⟨g2, 0, none⟩, c', by go_num, by omega, rfl, HL2.out, HD.out, HR2.out, HQ2.out⟩
          case measure => simp [intOf]; omega
        · have hlt' : ¬ (i : Int) < len := by omega
          have hb1 := box_after HB1.out HQ.out
          have hb0 := box_after HB0.out HQ.out
          obtain ⟨c0, c1, c2, z0, z1, z2⟩ := box_cells3 hb0
          obtain ⟨d0, d1, d2, y0, y1, y2⟩ := box_cells3 hb1
          have HB0 := Lib.hid hb0
          have HB1 := Lib.hid hb1
          clear hb0 hb1
          have hil : i = len := by omega
          have HFIN : Hid (∀ u v x y : Value, SlcIn (fun b => w.heap.size ≤ b) ((((wr.setCell ⟨B, 2, none⟩ u).setCell ⟨B + 1, 0, none⟩ v).setCell ⟨B + 1, 1, none⟩ x).setCell ⟨B + 1, 2, none⟩ y) vo len (substF l ps) ∧ Quiet0 w ((((wr.setCell ⟨B, 2, none⟩ u).setCell ⟨B + 1, 0, none⟩ v).setCell ⟨B + 1, 1, none⟩ x).setCell ⟨B + 1, 2, none⟩ y)) := by
            intro u v x y
            have hf : Fr (fun kk => kk = B ∨ kk = B + 1) wr ((((wr.setCell ⟨B, 2, none⟩ u).setCell ⟨B + 1, 0, none⟩ v).setCell ⟨B + 1, 1, none⟩ x).setCell ⟨B + 1, 2, none⟩ y) :=
              (((Fr.setCell _ _ _ _ (.inl rfl)).trans (Fr.setCell _ _ _ _ (.inr rfl))).trans (Fr.setCell _ _ _ _ (.inr rfl))).trans (Fr.setCell _ _ _ _ (.inr rfl))
            have hap := HAP.out
            subst hil
            rw [Fo.drop_end ps i (by have := HL.out; omega)] at hap
            simp only [substF] at hap
            rw [Fo.app_nil] at hap
            refine ⟨?_, ?_⟩
            · rw [← hap]
              refine (HR.out.slc HF.out.symm (by unfold maxLen; omega)).fr hf ?_
              intro kk _ hkk
              have hkk' : W0.heap.size ≤ kk := hkk
              have hz := HBE.out
              exact ⟨by omega, by omega⟩
            · exact Fr.trans' (HQ0.out.trans HQ.out) hf (fun kk hkk h => by have hz := HBE.out; omega)
          go_wp2_with fail
          have hbf := box_set2 (u := .slice vo len vc) (box_set1 (u := .int .i64 n) (box_set0 (u := .int .i64 k) (B := B + 1) (w := wr.setCell ⟨B, 2, none⟩ (.slice vo len vc)) (by rw [Below.heap_setCell _ _ _ _ (by show B + 1 ≠ B; omega)]; exact HB1.out)))
          obtain ⟨f0, f1, f2, _, _, _⟩ := box_cells3 hbf
          have HFF := HFIN.out (.slice vo len vc) (.int .i64 k) (.int .i64 n) (.slice vo len vc)
          clear hbf
          subst hil
          generalize (((wr.setCell ⟨B, 2, none⟩ (.slice vo i vc)).setCell ⟨B + 1, 0, none⟩ (.int .i64 k)).setCell ⟨B + 1, 1, none⟩ (.int .i64 n)).setCell ⟨B + 1, 2, none⟩ (.slice vo i vc) = wf at *
          refine bodyPost_ret (by simp [results, Tryd.results88, go_sem, f0, f1, f2]; rfl) rfl ?_
          exact ⟨vo, i, ⟨vc, rfl⟩, HFF⟩
    | some t =>
      have hh : hit l k n = some t := by unfold hit; rw [hk, hf]; rfl
      have e1 : sK l k n = t.2.1 := by unfold sK; rw [hh]
      have e2 : sN l k n = t.2.2.1 := by unfold sN; rw [hh]
      have e3 : sP l k n ps = t.2.2.2 := by unfold sP; rw [hh]
      rw [e1, e2, e3]
      clear e1 e2 e3 hh
      rw [hf] at htn
      obtain ⟨uo, ul, uc, hqn, hus⟩ := htn
      have HUS := Lib.hid hus
      have HUZ : Hid (t.2.2.2.size ≤ 1000000) := hl t (findB_mem hf).1
      clear hus hf
      generalize t.2.1 = uk at *
      generalize t.2.2.1 = un at *
      unfold tyv at hqn
      unfold tyv
      obtain ⟨W0, hW0⟩ : ∃ W0, W0 = ((w.alloc (.cells #[.int .i64 k, .int .i64 n, .slice o len cap] 24)).alloc (.cells #[.int .i64 0, .int .i64 0, .slice none 0 0] 24)).alloc (.cells #[.int .i64 uk, .int .i64 un, .slice uo ul uc] 24) := ⟨_, rfl⟩
      have HQ0 : Hid (Quiet0 w W0) := by rw [hW0]; exact ((Quiet0.alloc _ _).trans (Quiet0.alloc _ _)).trans (Quiet0.alloc _ _)
      have hz0 : w.heap.size + 2 ≤ W0.heap.size := by rw [hW0]; simp
      have HB0 : Hid (W0.heap[w.heap.size]? = some (.cells #[.int .i64 k, .int .i64 n, .slice o len cap] 24 (0, 0))) := by rw [hW0]; exact box_after (heap_alloc_new w _) ((Quiet0.alloc _ _).trans (Quiet0.alloc _ _))
      have HB1 : Hid (W0.heap[w.heap.size + 1]? = some (.cells #[.int .i64 0, .int .i64 0, .slice none 0 0] 24 (0, 0))) := by
        rw [hW0, show w.heap.size + 1 = (w.alloc (.cells #[.int .i64 k, .int .i64 n, .slice o len cap] 24)).heap.size from by simp]; exact box_after (heap_alloc_new _ _) (Quiet0.alloc _ _)
      obtain ⟨p0, p1, p2, _, _, _⟩ := box_cells3 HB0.out
      have HMA := Lib.hid (HM.out.stay ((Quiet0.alloc w (.cells #[.int .i64 k, .int .i64 n, .slice o len cap] 24)).trans (Quiet0.alloc _ (.cells #[.int .i64 0, .int .i64 0, .slice none 0 0] 24))))
      go_enter Tryd.func88, Tryd.ntmps88
      go_wp2_with (at_lookup; go_must (refine lookT_some _ rfl _ _ rfl rfl HMA.out n HN.out hqn rfl ?_))
      have HBU : Hid (W0.heap[w.heap.size + 1 + 1]? = some (.cells #[.int .i64 uk, .int .i64 un, .slice uo ul uc] 24 (0, 0))) := by
        rw [hW0, show w.heap.size + 1 + 1 = ((w.alloc (.cells #[.int .i64 k, .int .i64 n, .slice o len cap] 24)).alloc (.cells #[.int .i64 0, .int .i64 0, .slice none 0 0] 24)).heap.size from by simp]; exact heap_alloc_new _ _
      obtain ⟨x0, x1, x2, _, _, _⟩ := box_cells3 HBU.out
      have HCO := Lib.hid (copy_any uk un t.2.2.2 W0 uo ul uc (HUS.out.stay HQ0.out) HUZ.out)
      unfold tyv at HCO
      rw [← hW0]
      clear hW0 p0 p1 p2
      generalize hB : w.heap.size = B at *
      have HBE := Lib.hid hB
      clear hB
      refine HCO.out.mono ?_; rintro e w4 ⟨o2, cap2, rfl, hs4, hq4⟩
      have hbb := box_after HB1.out hq4
      have HB4 := Lib.hid hbb
      obtain ⟨d0, d1, d2, y0, y1, y2⟩ := box_cells3 hbb
      have HS4 := Lib.hid hs4
      have HQ4 := Lib.hid hq4
      clear hs4 hq4 hbb x0 x1 x2
      go_wp2_with fail
      clear d0 d1 d2 y0 y1 y2
      have hf := put3_fr w4 (B + 1) (.int .i64 uk) (.int .i64 un) (.slice o2 ul cap2)
      obtain ⟨f0, f1, f2⟩ := put3_cells (a := .int .i64 uk) (b := .int .i64 un) (c := .slice o2 ul cap2) HB4.out
      change bodyPost _ _ _ _ _ (put3 w4 (B + 1) (.int .i64 uk) (.int .i64 un) (.slice o2 ul cap2))
      generalize put3 w4 (B + 1) (.int .i64 uk) (.int .i64 un) (.slice o2 ul cap2) = wf at *
      refine bodyPost_ret (by simp [results, Tryd.results88, go_sem, f0, f1, f2]; rfl) rfl ?_
      refine ⟨o2, ul, cap2, rfl, HS4.out.fr hf ?_, ?_⟩
      · intro j _ hj
        have hj' : W0.heap.size ≤ j := hj
        have hz := HBE.out
        exact ⟨by omega, by omega⟩
      · exact Fr.trans' (Fr.trans' HQ0.out HQ4.out (fun _ _ h => h)) hf (fun i hi h => by have h' : i = B + 1 := h; have hz := HBE.out; omega)
end Go.Proofs.YtggidhgifaekbaaDoor
/-
  The reference's Find. Conditions: the binds lie in memory as told.
-/
namespace Go.Proofs.YtggidhgifaekbaaDoor
open Go.RowKit Go.Maps

/-- the place of a variable's first bind -/
def idxB (v : Int) : List Bd → Nat → Int
  | [], _ => -1
  | t :: r, i => if t.1 == v then i else idxB v r (i + 1)
theorem idxB_find (v : Int) : ∀ (l : List Bd) (i : Nat), (idxB v l i = -1 ∧ findB l v = none) ∨ (∃ (j : Nat) (t : Bd), idxB v l i = ((i + j : Nat) : Int) ∧ l[j]? = some t ∧ findB l v = some t)
  | [], i => .inl ⟨rfl, rfl⟩
  | t :: r, i => by
    unfold idxB findB
    rw [List.find?_cons]
    cases h : (t.1 == v)
    · simp only [Bool.false_eq_true, if_false]
      rcases idxB_find v r (i + 1) with ⟨h1, h2⟩ | ⟨j, u, h1, h2, h3⟩
      · exact .inl ⟨h1, h2⟩
      · exact .inr ⟨j + 1, u, by rw [h1]; congr 1; omega, by simpa using h2, h3⟩
    · simp only [if_true]
      exact .inr ⟨0, t, by simp, rfl, rfl⟩
set_option maxHeartbeats 1000000 in
theorem find_any (l : List Bd) (w : World) (o : Option Addr) (cap : Nat) (v : Int) (hs : BindsAt w o l) (hz : l.length ≤ 1000000) :
    Calls Tryd.prog 102 #[.slice o l.length cap, .int .i64 v] w fun e w' => e = .returned (.int .i64 (idxB v l 0)) ∧ Quiet0 w w' := by
  have HS := Lib.hid hs
  clear hs
  obtain ⟨res, hres⟩ : ∃ res, res = idxB v l 0 := ⟨_, rfl⟩
  have HR := Lib.hid hres
  rw [← hres]
  clear hres
  go_enter Tryd.func102, Tryd.ntmps102
  go_wp2_with fail
  go_loopw [5] (fun t wr => ∃ i : Nat, t = .int .i64 i ∧ i ≤ l.length ∧ res = idxB v (l.drop i) i ∧ Quiet0 w wr) (fun t _ => l.length - (intOf t).toNat)
  case atStart => exact ⟨0, rfl, Nat.zero_le _, HR.out, Quiet0.refl _⟩
  case round =>
    obtain ⟨i, rfl, hi, hr, hq⟩ := hrel
    have HRR := Lib.hid hr
    have HQ := Lib.hid hq
    clear hr hq
    by_cases hlt : i < l.length
    · have hlt' : (i : Int) < l.length := by omega
      obtain ⟨t, ht⟩ : ∃ t, l[i]? = some t := ⟨_, List.getElem?_eq_getElem hlt⟩
      obtain ⟨b, off, o1, len1, cap1, rfl, e0, e1, e2, e3, hs1⟩ := HS.out.stay HQ.out i t ht
      have HN : Hid (res = if t.1 == v then (i : Int) else idxB v (l.drop (i + 1)) (i + 1)) := by
        show _ = _
        rw [HRR.out, drop_some ht]; rfl
      generalize t.1 = x at *
      clear ht e1 e2 e3 hs1
      cases hx : (x == v)
      · rw [hx] at HN
        go_wp2_with fail
        go_roundw
        case rel => exact ⟨i + 1, by go_num, by omega, HN.out, HQ.out⟩
        case measure => simp [intOf]; omega
      · rw [hx] at HN
        go_wp2_with fail
        go_ret
        exact ⟨by rw [HN.out]; rfl, HQ.out⟩
    · have hlt' : ¬ (i : Int) < l.length := by omega
      have HY : Hid (res = -1) := by show _ = _; rw [HRR.out, List.drop_of_length_le (by omega)]; rfl
      go_wp2_with fail
      go_ret
      exact ⟨by rw [HY.out]; rfl, HQ.out⟩
end Go.Proofs.YtggidhgifaekbaaDoor
/-
  Small facts for laws: rows of one and of two types, blocks, frames. No condition.
-/
namespace Go.Proofs.YtggidhgifaekbaaDoor
open Go.RowKit

theorem with_q {w0 W w3 : World} {G : Prop} (h : Quiet0 w0 W) (hq : Quiet0 W w3) (k : Quiet0 w0 w3 → G) : G := k (h.trans hq)
theorem slc1 {W : World} {b : Nat} {k n : Int} {o : Option Addr} {len cap : Nat} {ps : Fo} (hb : W.heap[b]? = some (.cells #[.int .i64 k, .int .i64 n, .slice o len cap] 24 (0, 0))) (h1 : Slc W o len ps) : Slc W (some ⟨b, 0, none⟩) 1 (.cons k n ps .nil) :=
  ⟨rfl, by decide, fun _ => ⟨_, 0, rfl, by rw [cell_of_row _ _ _ _ _ (0, 0) hb]; rfl, by rw [cell_of_row _ _ _ _ _ (0, 0) hb]; rfl, ⟨o, len, cap, by rw [cell_of_row _ _ _ _ _ (0, 0) hb]; rfl, h1.1, h1.2.1, h1.2.2⟩, trivial⟩⟩
theorem slc2 {W : World} {b : Nat} {k1 n1 : Int} {o1 : Option Addr} {l1 c1 : Nat} {p1 : Fo} {k2 n2 : Int} {o2 : Option Addr} {l2 c2 : Nat} {p2 : Fo}
    (hb : W.heap[b]? = some (.cells #[.int .i64 k1, .int .i64 n1, .slice o1 l1 c1, .int .i64 k2, .int .i64 n2, .slice o2 l2 c2] 24 (0, 0))) (h1 : Slc W o1 l1 p1) (h2 : Slc W o2 l2 p2) :
    Slc W (some ⟨b, 0, none⟩) 2 (.cons k1 n1 p1 (.cons k2 n2 p2 .nil)) :=
  ⟨rfl, by decide, fun _ => ⟨b, 0, rfl, by rw [cell_of_row _ _ _ _ _ (0, 0) hb]; rfl, by rw [cell_of_row _ _ _ _ _ (0, 0) hb]; rfl, ⟨o1, l1, c1, by rw [cell_of_row _ _ _ _ _ (0, 0) hb]; rfl, h1.1, h1.2.1, h1.2.2⟩,
    by rw [cell_of_row _ _ _ _ _ (0, 0) hb]; rfl, by rw [cell_of_row _ _ _ _ _ (0, 0) hb]; rfl, ⟨o2, l2, c2, by rw [cell_of_row _ _ _ _ _ (0, 0) hb]; rfl, h2.1, h2.2.1, h2.2.2⟩, trivial⟩⟩
theorem blk_new (w : World) (b : Nat) (cs : Array Value) (t : TypeId) (h : b = w.heap.size) : (w.alloc (.cells cs t)).heap[b]? = some (.cells cs t (0, 0)) := by
  subst h; exact heap_alloc_new w _
theorem blk_after {w W : World} {b : Nat} {o : Obj} (hq : Quiet0 w W) (h : w.heap[b]? = some o) : W.heap[b]? = some o := by
  have hlt : b < w.heap.size := (Array.getElem?_eq_some_iff.1 h).1
  rw [hq.block b hlt (fun h => h)]; exact h
theorem blk_drew {w : World} {b : Nat} {o : Obj} (h : w.heap[b]? = some o) : w.drew.heap[b]? = some o := h
/-- types.Arrow of two types that were laid in a row of their own -/
theorem arrow2 (W : World) (b : Nat) (k1 n1 : Int) (o1 : Option Addr) (l1 c1 : Nat) (p1 : Fo) (k2 n2 : Int) (o2 : Option Addr) (l2 c2 : Nat) (p2 : Fo)
    (hb : W.heap[b]? = some (.cells #[.int .i64 k1, .int .i64 n1, .slice o1 l1 c1, .int .i64 k2, .int .i64 n2, .slice o2 l2 c2] 24 (0, 0))) (h1 : Slc W o1 l1 p1) (h2 : Slc W o2 l2 p2) (hz : p1.size + p2.size ≤ 1000) :
    Calls Tryd.prog 20 #[.slice (some ⟨b, 0, none⟩) 2 2] W
      fun e w' => ∃ o' cap', e = .returned (.agg #[.int .i64 4, .int .i64 0, .slice o' 2 cap']) ∧ SlcIn (fun b => W.heap.size ≤ b) w' o' 2 (.cons k1 n1 p1 (.cons k2 n2 p2 .nil)) ∧ Quiet0 W w' := by
  refine (arrow_any _ _ _ 2 2 (slc2 hb h1 h2) (Nat.le_refl _) (by simp only [Fo.size]; omega)).mono ?_
  rintro e w' ⟨o', len', cap', rfl, hs', hq⟩
  have hl : len' = 2 := hs'.1
  subst hl
  exact ⟨o', cap', rfl, hs', hq⟩
theorem with_fr {w0 W w3 : World} {B : Nat} {G : Prop} (h : Fr (fun k => B ≤ k) w0 W) (hq : Quiet0 W w3) (k : Fr (fun k => B ≤ k) w0 w3 → w0.heap.size ≤ w3.heap.size → G) : G :=
  k (h.trans (hq.mono (fun _ _ h => h.elim))) (h.trans (hq.mono (fun _ _ h => h.elim))).size
theorem box_use {w : World} {b : Nat} {a0 a1 a2 : Value} {t : TypeId} {G : Prop} (h : w.heap[b]? = some (.cells #[a0, a1, a2] t (0, 0)))
    (k : w.cell? ⟨b, 0, none⟩ = some a0 → w.cell? ⟨b, 1, none⟩ = some a1 → w.cell? ⟨b, 2, none⟩ = some a2 → w.frozen? ⟨b, 0, none⟩ = false → w.frozen? ⟨b, 1, none⟩ = false → w.frozen? ⟨b, 2, none⟩ = false → w.heap[b]? = some (.cells #[a0, a1, a2] t (0, 0)) → G) : G := by
  obtain ⟨z0, z1, z2, y0, y1, y2⟩ := box_cells3 h
  exact k z0 z1 z2 y0 y1 y2 h
theorem put_end {W0 w5 : World} {d : Nat} {a0 a1 a2 : Value} {o5 : Option Addr} {cp5 : Nat} {PS : Fo} {R : Nat → Prop}
    (hz : w5.heap[d]? = some (.cells #[a0, a1, a2] 24 (0, 0))) (hs : SlcIn R w5 o5 2 PS) (hd : ∀ k, R k → k ≠ d) (hf : Fr (fun k => W0.heap.size ≤ k) W0 w5) (hdd : W0.heap.size ≤ d) :
    ∃ d' o cp, Value.pointer (some ⟨d, 0, none⟩) = Value.pointer (some ⟨d', 0, none⟩) ∧ (put3 w5 d (.int .i64 4) (.int .i64 0) (.slice o5 2 cp5)).heap[d']? = some (.cells #[.int .i64 4, .int .i64 0, .slice o 2 cp] 24 (0, 0)) ∧ Slc (put3 w5 d (.int .i64 4) (.int .i64 0) (.slice o5 2 cp5)) o 2 PS ∧ Quiet0 W0 (put3 w5 d (.int .i64 4) (.int .i64 0) (.slice o5 2 cp5)) := by
  refine ⟨d, o5, cp5, rfl, box_set2 (box_set1 (box_set0 hz)), (hs.fr (T := R) (put3_fr w5 d _ _ _) (fun k _ hk => ⟨hk, hd k hk⟩)).slc, ?_⟩
  exact Fr.trans' (hf.mono (fun k hk h => by omega)) (put3_fr w5 d _ _ _) (fun i hi h => by omega)
end Go.Proofs.YtggidhgifaekbaaDoor
/-
  types.Canon and Shift. Conditions: the type lies in memory as told; its numbers are in range; it is small.
-/
namespace Go.Proofs.YtggidhgifaekbaaDoor
open Go.RowKit Go.Maps

theorem vars_len : ∀ (f : Fo) (l : List Int), (Fo.vars l f).length ≤ l.length + f.size
  | .nil, l => by simp [Fo.vars, Fo.size]
  | .cons k n ps r, l => by
    rw [vars_cons]
    have h1 := vars_len r (Fo.vars (varStep l k n ps) ps)
    have h2 := vars_len ps (varStep l k n ps)
    have h3 : (varStep l k n ps).length ≤ l.length + 1 := by unfold varStep; split <;> simp
    simp only [Fo.size]; omega
theorem vars_all {G : Int → Prop} : ∀ (f : Fo) (l : List Int), (∀ v ∈ l, G v) → allF G f → ∀ v ∈ Fo.vars l f, G v
  | .nil, l, hl, _ => hl
  | .cons k n ps r, l, hl, hf => by
    rw [vars_cons]
    refine vars_all r _ (vars_all ps _ ?_ hf.2.1) hf.2.2
    unfold varStep
    split
    · intro v hv
      rcases List.mem_append.1 hv with h | h
      · exact hl v h
      · have : v = n := by simpa using h
        subst this; exact hf.1
    · exact hl
theorem IntRow.at {B : Nat} {w : World} {vo : Value} {l : List Int} (h : IntRow B w vo l) : ∃ a c, vo = .slice a l.length c ∧ l.length ≤ c ∧ (∀ g, (Value.slice a l.length c).ownBlock = some g → B ≤ g) ∧ w.ownsRow 0 3 1 (.slice a l.length c) l.length (ints l) := by
  obtain ⟨h1, h2⟩ := h
  have h1' := h1
  rcases h1.2 with ⟨rfl, h0⟩ | ⟨g, cap, cur, rfl, _, _, hc, _⟩
  · exact ⟨none, 0, by rw [h0], by omega, by rw [h0]; exact h2, by rw [h0]; rw [h0] at h1'; exact h1'⟩
  · exact ⟨some ⟨g, 0, none⟩, cap, rfl, by omega, h2, h1'⟩
theorem row_int {w : World} {a : Option Addr} {n c : Nat} {l : List Int} (h : w.ownsRow 0 3 1 (.slice a n c) l.length (ints l)) {i : Nat} {x : Int} (hx : l[i]? = some x) : ∃ g, a = some ⟨g, 0, none⟩ ∧ w.cell? ⟨g, i, none⟩ = some (.int .i64 x) := by
  rcases h.2 with ⟨he, h0⟩ | ⟨g, cap, cur, he, _⟩
  · rw [List.length_eq_zero_iff.1 h0] at hx; simp at hx
  · injection he with h1 h2 h3
    subst h1
    have := h.cells (g := g) rfl i (.int .i64 x) (by unfold ints; rw [List.getElem?_map, hx]; rfl)
    exact ⟨g, rfl, by simpa [Addr.add_lit] using this⟩
/-- each one's place -/
def placeN (l : List Int) : Nat → Int → Int
  | 0, _ => 0
  | i + 1, v => if l[i]? = some v then i else placeN l i v
def canonP (k n : Int) (ps : Fo) : Int → Int := placeN (Fo.vars [] (.cons k n ps .nil)) (Fo.vars [] (.cons k n ps .nil)).length
theorem eg_canon : ∀ args w, (callFunc 80 args).run Tryd.prog w = .ok (.enter 80 args) w := enters_of Tryd.func80 (by kernel_rfl) rfl
theorem canon1_any (w0 : World) (cs bm m : Nat) (p : Int → Int) (h1 : Box1 w0 cs (.map (some bm)) 84) (h2 : MapOf w0 bm m p) : DoK 80 #[.pointer (some ⟨cs, 0, none⟩)] w0 wfI p := by
  intro n W hn hq
  have c1 := cell_of_one (h1.fr hq (fun h => h))
  have hlk := (h2.stay hq).look hn
  clear h1 h2
  go_enter Tryd.func80, Tryd.ntmps80
  go_wp2_with fail
  go_ret
  exact ⟨rfl, Quiet0.refl _⟩
theorem newN_eq (p : Int → Int) (k n : Int) : newN p k n = if k == 1 then p n else n := rfl
set_option maxHeartbeats 4000000 in
set_option maxRecDepth 100000 in
theorem canon_any (k n : Int) (ps : Fo) (w : World) (o : Option Addr) (len cap : Nat) (hs : Slc w o len ps) (hn : wfI n) (hw : wfF ps) (hsz : ps.size ≤ 100000) :
    Calls Tryd.prog 35 #[tyv k n o len cap] w fun e w' => ∃ o' cap', e = .returned (tyv k (newN (canonP k n ps) k n) o' len cap') ∧ SlcIn (fun b => w.heap.size ≤ b) w' o' len (ps.change (canonP k n ps)) ∧ Quiet0 w w' := by
  have HS := Lib.hid hs
  have HN := Lib.hid hn
  have HW := Lib.hid hw
  have HWF : Hid (wfF (.cons k n ps .nil)) := ⟨hn, hw, trivial⟩
  have HSZ : Hid ((Fo.cons k n ps .nil).size ≤ 1000000) := by show _ ≤ _; simp only [Fo.size]; omega
  have hll : (Fo.vars [] (.cons k n ps .nil)).length ≤ 100001 := by have := vars_len (.cons k n ps .nil) []; simp only [Fo.size, List.length_nil] at this; omega
  have HWL : Hid (∀ v ∈ Fo.vars [] (.cons k n ps .nil), wfI v) := vars_all (G := wfI) _ [] (fun v h => by cases h) HWF.out
  have hmm := @run_makeMap Tryd.prog
  unfold canonP
  obtain ⟨W1, hW1⟩ : ∃ W1, W1 = ((((w.alloc (.cells #[.int .i64 k, .int .i64 n, .slice o len cap] 24)).alloc (.cells #[.int .i64 0, .int .i64 0, .slice none 0 0] 24)).alloc (.map #[] 0)).alloc (.cells #[.map (some (w.heap.size + 1 + 1))] 84)).alloc (.cells #[.int .i64 k, .int .i64 n, .slice o len cap] 24) := ⟨_, rfl⟩
  have HQ1 : Hid (Quiet0 w W1) := by rw [hW1]; exact ((((Quiet0.alloc _ _).trans (Quiet0.alloc _ _)).trans (Quiet0.alloc _ _)).trans (Quiet0.alloc _ _)).trans (Quiet0.alloc _ _)
  have s1 : (w.alloc (.cells #[.int .i64 k, .int .i64 n, .slice o len cap] 24)).heap.size = w.heap.size + 1 := by simp
  have s2 : ((w.alloc (.cells #[.int .i64 k, .int .i64 n, .slice o len cap] 24)).alloc (.cells #[.int .i64 0, .int .i64 0, .slice none 0 0] 24)).heap.size = w.heap.size + 1 + 1 := by simp
  have s3 : (((w.alloc (.cells #[.int .i64 k, .int .i64 n, .slice o len cap] 24)).alloc (.cells #[.int .i64 0, .int .i64 0, .slice none 0 0] 24)).alloc (.map #[] 0)).heap.size = w.heap.size + 1 + 1 + 1 := by simp
  have s4 : ((((w.alloc (.cells #[.int .i64 k, .int .i64 n, .slice o len cap] 24)).alloc (.cells #[.int .i64 0, .int .i64 0, .slice none 0 0] 24)).alloc (.map #[] 0)).alloc (.cells #[.map (some (w.heap.size + 1 + 1))] 84)).heap.size = w.heap.size + 1 + 1 + 1 + 1 := by simp
  have HB0 : Hid (W1.heap[w.heap.size]? = some (.cells #[.int .i64 k, .int .i64 n, .slice o len cap] 24 (0, 0))) := by
    rw [hW1]; exact box_after (heap_alloc_new w _) ((((Quiet0.alloc _ _).trans (Quiet0.alloc _ _)).trans (Quiet0.alloc _ _)).trans (Quiet0.alloc _ _))
  have HB1 : Hid (W1.heap[w.heap.size + 1]? = some (.cells #[.int .i64 0, .int .i64 0, .slice none 0 0] 24 (0, 0))) := by
    rw [hW1, ← s1]; exact box_after (heap_alloc_new _ _) (((Quiet0.alloc _ _).trans (Quiet0.alloc _ _)).trans (Quiet0.alloc _ _))
  have HM1 : Hid (MapOf W1 (w.heap.size + 1 + 1) 0 (fun _ => 0)) := by
    rw [hW1, ← s2]; exact (MapOf.made _).stay ((Quiet0.alloc _ _).trans (Quiet0.alloc _ _))
  have HC1 : Hid (Box1 W1 (w.heap.size + 1 + 1 + 1) (.map (some (w.heap.size + 1 + 1))) 84) := by
    rw [hW1, ← s3]
    have := (Box1.new (((w.alloc (.cells #[.int .i64 k, .int .i64 n, .slice o len cap] 24)).alloc (.cells #[.int .i64 0, .int .i64 0, .slice none 0 0] 24)).alloc (.map #[] 0)) (.map (some (w.heap.size + 1 + 1))) 84).alloc (.cells #[.int .i64 k, .int .i64 n, .slice o len cap] 24)
    rw [s3] at this ⊢
    exact this
  have HSL : Hid (Slc W1 (some ⟨w.heap.size + 1 + 1 + 1 + 1, 0, none⟩) 1 (.cons k n ps .nil)) := by
    have hb : W1.heap[w.heap.size + 1 + 1 + 1 + 1]? = some (.cells #[.int .i64 k, .int .i64 n, .slice o len cap] 24 (0, 0)) := by rw [hW1, ← s4]; exact heap_alloc_new _ _
    have h1 := HS.out.stay HQ1.out
    exact ⟨rfl, by decide, fun _ => ⟨_, 0, rfl, by rw [cell_of_row _ _ _ _ _ (0, 0) hb]; rfl, by rw [cell_of_row _ _ _ _ _ (0, 0) hb]; rfl, ⟨o, len, cap, by rw [cell_of_row _ _ _ _ _ (0, 0) hb]; rfl, h1.1, h1.2.1, h1.2.2⟩, trivial⟩⟩
  have hz1 : w.heap.size + 1 + 1 + 1 + 1 < W1.heap.size := by rw [hW1]; simp
  have HVA := Lib.hid (vars_any (.cons k n ps .nil) W1 _ 1 1 HSL.out HWF.out HSZ.out)
  generalize hL : Fo.vars [] (.cons k n ps .nil) = L at *
  obtain ⟨P, hP⟩ : ∃ P, P = placeN L L.length := ⟨_, rfl⟩
  rw [← hP]
  obtain ⟨n', hn'⟩ : ∃ n', n' = newN P k n := ⟨_, rfl⟩
  rw [← hn']
  have HP := Lib.hid hP
  have HN' := Lib.hid hn'
  clear hs hn hw hL s1 s2 s3 s4 hP hn'
  unfold tyv
  go_enter Tryd.func35, Tryd.ntmps35
  go_wp2_with fail
  rw [← hW1]
  generalize hB : w.heap.size = B at *
  clear hW1
  refine HVA.out.mono ?_; rintro e w2 ⟨vo, rfl, hrow, hq2⟩
  obtain ⟨a, c, rfl, hlc, hge, hown⟩ := hrow.at
  have HOWN := Lib.hid hown
  have HGE := Lib.hid hge
  have HQ2 := Lib.hid hq2
  clear hrow hown hge hq2
  go_wp2_with fail
  go_loopw [4, 5, 11] (fun _ _ t wr => ∃ i : Nat, t = .int .i64 i ∧ i ≤ L.length ∧ MapOf wr (B + 1 + 1) i (placeN L i) ∧ Fr (fun j => j = B + 1 + 1) w2 wr) (fun _ _ t _ => L.length - (intOf t).toNat)
  case atStart => exact ⟨0, rfl, Nat.zero_le _, (HM1.out.stay HQ2.out).cong (fun _ _ => rfl), Fr.refl _ _⟩
  case round =>
    obtain ⟨i, rfl, hi, hm, hf⟩ := hrel
    have HM := Lib.hid hm
    have HF := Lib.hid hf
    have hC := ((HC1.out.fr HQ2.out (fun h => h)).fr hf (fun h => by omega))
    have HCC := Lib.hid hC
    have c3 := cell_of_one hC
    clear hm hf hC
    by_cases hlt : i < L.length
    · have hlt' : (i : Int) < L.length := by omega
      obtain ⟨x, hx⟩ : ∃ x, L[i]? = some x := ⟨_, List.getElem?_eq_getElem hlt⟩
      obtain ⟨g, rfl, hc⟩ := row_int (ownsRow_fr HOWN.out HF.out (fun g hg h => by have := HGE.out g hg; have h' : g = B + 1 + 1 := h; omega)) hx
      have HX := Lib.hid hx
      have HWX := Lib.hid (HWL.out x (List.mem_of_getElem? hx))
      have HWI : Hid (wfI (i : Int)) := wfI_of (by omega) (by omega)
      clear hx
      go_wp2_with (at_mapUpdate; go_must (refine wpList_store _ rfl _ _ _ rfl rfl HM.out ?hn x i HWX.out HWI.out rfl rfl ?_))
      case hn => unfold maxLen; omega
      intro w3 hm3 hf3
      have HM3 : Hid (MapOf w3 (B + 1 + 1) (i + 1) (placeN L (i + 1))) := hm3.cong (fun v _ => by
        show _ = (if L[i]? = some v then (i : Int) else placeN L i v)
        rw [HX.out]
        by_cases h : v = x
        · rw [if_pos h, if_pos (by rw [h])]
        · rw [if_neg h, if_neg (fun hh => h (by injection hh with hh; exact hh.symm))])
      have HF3 := Lib.hid (HF.out.trans hf3)
      clear hm3 hf3
      go_wp2_with fail
      go_roundw
      case rel => exact ⟨i + 1, by go_num, by omega, HM3.out, HF3.out⟩
      case measure => simp [intOf]; omega
    · have hlt' : ¬ (i : Int) < L.length := by omega
      have hil : i = L.length := by omega
      subst hil
      have HFF : Hid (Fr (fun j => j = B + 1 + 1) W1 wr) := (HQ2.out.mono (fun _ _ h => h.elim)).trans HF.out
      have hb0 : wr.heap[B]? = some (.cells #[.int .i64 k, .int .i64 n, .slice o len cap] 24 (0, 0)) := by rw [HFF.out.block B (by omega) (fun h => by have h' : B = B + 1 + 1 := h; omega)]; exact HB0.out
      have hb1 : wr.heap[B + 1]? = some (.cells #[.int .i64 0, .int .i64 0, .slice none 0 0] 24 (0, 0)) := by rw [HFF.out.block (B + 1) (by omega) (fun h => by have h' : B + 1 = B + 1 + 1 := h; omega)]; exact HB1.out
      obtain ⟨a0, a1, a2, _, _, _⟩ := box_cells3 hb0
      have HSR : Hid (Slc wr o len ps) := (HS.out.lt.fr (T := fun j => j < w.heap.size) (Fr.trans' (HQ1.out.mono (fun _ _ h => h.elim)) HFF.out (fun i _ h => h)) (fun j _ hj => ⟨hj, fun h => by have h' : j = B + 1 + 1 := h; have h2 : j < w.heap.size := hj; omega⟩)).slc
      have HD := Lib.hid (change_any eg_canon (canon1_any wr (B + 1 + 1 + 1) (B + 1 + 1) L.length (placeN L L.length) HCC.out HM.out) k n ps wr o len cap (Quiet0.refl _) HSR.out (by omega) HN.out HW.out)
      have HBB1 := Lib.hid hb1
      rw [← HP.out, ← HN'.out] at HD
      unfold tyv at HD
      clear hb0 hb1
      go_wp2_with fail
      refine HD.out.mono ?_; rintro e w4 ⟨o2, cap2, rfl, hs4, hq4⟩
      have hbb := box_after HBB1.out hq4
      have HB4 := Lib.hid hbb
      obtain ⟨d0, d1, d2, y0, y1, y2⟩ := box_cells3 hbb
      have HS4 := Lib.hid hs4
      have HQ4 := Lib.hid hq4
      clear hs4 hq4 hbb a0 a1 a2
      go_wp2_with fail
      clear d0 d1 d2 y0 y1 y2
      have hf := put3_fr w4 (B + 1) (.int .i64 k) (.int .i64 n') (.slice o2 len cap2)
      obtain ⟨f0, f1, f2⟩ := put3_cells (a := .int .i64 k) (b := .int .i64 n') (c := .slice o2 len cap2) HB4.out
      change bodyPost _ _ _ _ _ (put3 w4 (B + 1) (.int .i64 k) (.int .i64 n') (.slice o2 len cap2))
      generalize put3 w4 (B + 1) (.int .i64 k) (.int .i64 n') (.slice o2 len cap2) = wf at *
      refine bodyPost_ret (by simp [results, Tryd.results35, go_sem, f0, f1, f2]; rfl) rfl ?_
      refine ⟨o2, cap2, rfl, HS4.out.fr hf ?_, ?_⟩
      · intro j _ hj
        have hj' : wr.heap.size ≤ j := hj
        have := HFF.out.size
        exact ⟨by omega, by omega⟩
      · exact Fr.trans' (Fr.trans' (Fr.trans' HQ1.out HFF.out (fun i hi h => by have h' : i = B + 1 + 1 := h; omega)) HQ4.out (fun _ _ h => h)) hf (fun i hi h => by have h' : i = B + 1 := h; omega)
end Go.Proofs.YtggidhgifaekbaaDoor
/-
  The reference's Vars: append of integers, where the order is drawn. Conditions: the rows lie in memory as told; they are short.
-/
namespace Go.Proofs.YtggidhgifaekbaaDoor
open Go.RowKit Go.Maps

/-- a slice's integers -/
def IntsV (w : World) (v : Value) (l : List Int) : Prop := ∃ a c, v = .slice a l.length c ∧ IntsAt w a l
theorem IntsV.stay {w w' : World} {v : Value} {l : List Int} (h : IntsV w v l) (hq : Quiet0 w w') : IntsV w' v l := by
  obtain ⟨a, c, rfl, h⟩ := h
  exact ⟨a, c, rfl, h.stay hq⟩
theorem ownsInts_v {w : World} {v : Value} {l : List Int} (h : w.ownsRow 0 3 1 v l.length (ints l)) : IntsV w v l := by
  obtain ⟨a, c, rfl, _, _, h'⟩ := IntRow.at (B := 0) ⟨h, fun _ _ => Nat.zero_le _⟩
  refine ⟨a, c, rfl, fun i x hx => ?_⟩
  obtain ⟨g, rfl, hc⟩ := row_int h' hx
  exact ⟨g, 0, rfl, by simpa using hc⟩
theorem own_empty {w : World} {b : Nat} (h : w.heap[b]? = some (.cells #[] 3 (0, 0))) : w.ownsRow 0 3 1 (.slice (some ⟨b, 0, none⟩) 0 0) ([] : List Int).length (ints []) := by
  refine ⟨rfl, .inr ⟨b, 0, #[], rfl, Nat.zero_le _, h, Nat.le_refl _, Nat.zero_le _, rfl, rfl⟩⟩
theorem run_append_nothing (w : World) (ty : TypeId) (v : Value) (n : Nat) (xs : List Value) (hown : w.ownsRow 0 3 1 v n xs) (hv : v ≠ .slice none 0 0) (o : Option Addr) (c : Nat) :
    (Builtin.append_ #[45, 45] ty #[v, .slice o 0 c]).run Tryd.prog w = .ok v w := by
  rcases hown.2 with ⟨rfl, _⟩ | ⟨g, cap, cur, rfl, _, hg, hc, hm, hs, _⟩
  · exact absurd rfl hv
  · obtain ⟨i0, hi, hz0, hz1, hz2⟩ := info_parts elemInt.info
    have hu := elemInt.under
    cases o <;> simp [Builtin.append_, run_underlying hu, sizeOf, typeInfo, hi, Builtin.lenOf, Builtin.firstCells, loadCells, loadCellsFrom, storeCells, hc]
end Go.Proofs.YtggidhgifaekbaaDoor
/-
  The reference's Vars. Conditions: the type and the row lie in memory as told; they are small.
-/
namespace Go.Proofs.YtggidhgifaekbaaDoor
open Go.RowKit Go.Maps

/-- append of integers that lie somewhere to a row of the call's own (not nil) -/
theorem step_ints {ops : Array Oper} {o : Oper} {a : Act} {K : Act → World → Prop} {Q : Exit → Act → World → Prop} {E : Prop} (W : World)
    (hg : o.guard = none) (s x : Operand) (hop : o.op = Op.call { callee := Callee.builtin Builtin.append, args := #[s, x], argTypes := #[45, 45] })
    (v : Value) (xs : List Int) (hs : a.eval s = v) (hown : W.ownsRow 0 3 1 v xs.length (ints xs)) (va : Option Addr) (ys : List Int) (m c : Nat) (hm : m = ys.length) (hx : a.eval x = .slice va m c) (hat : IntsAt W va ys) (hb : xs.length + ys.length ≤ 1000000) (hne : v ≠ .slice none 0 0)
    (hK : ∀ v' w', w'.ownsRow 0 3 1 v' (xs ++ ys).length (ints (xs ++ ys)) → Fr (fun k => v.ownBlock = some k) W w' → (∀ g, v'.ownBlock = some g → v.ownBlock = some g ∨ g = W.heap.size) → v' ≠ .slice none 0 0 → K (a.put o.dst v') w') :
    if Region.wanted o (yielded ops a.tmps) = true then Oper.wp Tryd.prog o a W K Q else E := by
  subst hm
  rw [if_pos (by unfold Region.wanted; rw [hg])]
  by_cases h0 : ys = []
  · subst h0
    have hr := run_append_nothing W o.type v _ _ hown hne va c
    unfold Oper.wp execOp
    simp only [hop, resolve, invoke, builtin, Sem.run_bind, Sem.run_pure, Result.andThen_ok, List.map_toArray, List.map_cons, List.map_nil, hs, hx, List.length_nil, hr]
    exact hK v W (by simpa using hown) (Fr.refl _ _) (fun g h => .inl h) hne
  · obtain ⟨y, r, rfl⟩ := List.exists_cons_of_ne_nil h0
    obtain ⟨b, off, rfl, _⟩ := hat 0 y rfl
    obtain ⟨i0, hi, hz0, hz1, hz2⟩ := info_parts elemInt.info
    refine wp_append_lies (P := Tryd.prog) W s x 45 hop 0 3 i0 (.int .i64 0) 1 8 elemInt.under hi hz0 hz1 hz2 (by decide) (by decide) v xs.length (ints xs) hs hown ⟨b, off, none⟩ (y :: r).length c (ints (y :: r)) hx (by simp [ints]) ?_ (by unfold ints; intro u hu; obtain ⟨z, _, rfl⟩ := List.mem_map.1 hu; rfl) (by simp) (by unfold maxLen; omega) (by omega) (Nat.zero_le _) _ rfl ?_
    · intro j u hj
      unfold ints at hj
      rw [List.getElem?_map] at hj
      cases hz : (y :: r)[j]? with
      | none => rw [hz] at hj; cases hj
      | some z =>
        rw [hz] at hj
        cases hj
        obtain ⟨b', off', he, hc⟩ := hat j z hz
        cases he
        simpa [Addr.add_lit] using hc
    · intro g cap w' ho hgr hg' _
      refine hK _ w' ?_ (Fr.grown hgr (fun k hk => hk)) ?_ (by simp)
      · rw [List.length_append]; unfold ints at *; rw [List.map_append]; exact ho
      · intro g2 h2
        simp [Value.ownBlock] at h2
        subst h2
        exact hg'
theorem ints_one {W : World} {b : Nat} {n : Int} (h : W.heap[b]? = some (.cells #[.int .i64 n] 3 (0, 0))) : IntsAt W (some ⟨b, 0, none⟩) [n] := by
  intro i x hx
  cases i with
  | zero =>
    simp at hx
    subst hx
    exact ⟨b, 0, rfl, by rw [cell_of_row _ _ _ _ _ (0, 0) h]; rfl⟩
  | succ i => simp at hx
theorem blk_fr {S : Nat → Prop} {w W : World} {b : Nat} {o : Obj} (hf : Fr S w W) (hb : ¬ S b) (h : w.heap[b]? = some o) : W.heap[b]? = some o := by
  rw [hf.block b (Array.getElem?_eq_some_iff.1 h).1 hb]; exact h
theorem with_fr2 {w0 W w3 : World} {S : Nat → Prop} {G : Prop} (h : Quiet0 w0 W) (hf : Fr S W w3) (hS : ∀ k, S k → w0.heap.size ≤ k) (k : Quiet0 w0 w3 → w0.heap.size ≤ w3.heap.size → G) : G :=
  have hq : Quiet0 w0 w3 := Fr.trans' h hf (fun i hi hs => by have := hS i hs; omega)
  k hq hq.size
end Go.Proofs.YtggidhgifaekbaaDoor
