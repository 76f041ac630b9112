/-
  The program's apply. Conditions: the type lies in memory as told; its numbers are in range; the table holds binds; all are small.
-/
import Derived.Test.YtggidhgifaekbaaDoorSuTable
import Derived.Test.YtggidhgifaekbaaDoorTyArrow
import Derived.Deep.DeepCutAuto
namespace Go.Proofs.YtggidhgifaekbaaDoor
open Go.RowKit Go.Maps

theorem lookT_some (w : World) {ops : Array Oper} {rest : List Oper} {o : Oper} {a : Act} {Q : Exit → Act → World → Prop}
    (hg : o.guard = none) (m x : Operand) (hop : o.op = Op.lookup 94 m x true) {b n : Nat} {q : Int → Option Value} (hm : a.eval m = .map (some b)) (hown : MapT w b n q) (v : Int) (hv : wfI v) {u : Value} (hq : q v = some u) (hx : a.eval x = .int .i64 v)
    (hK : wpList Tryd.prog ops Q rest (a.put o.dst (.tuple #[u, .bool true])) w) : wpList Tryd.prog ops Q (o :: rest) a w :=
  wpList_lookT w hg m x hop hm hown v hv hx (by rw [hq]; exact hK)
theorem lookT_none (w : World) {ops : Array Oper} {rest : List Oper} {o : Oper} {a : Act} {Q : Exit → Act → World → Prop}
    (hg : o.guard = none) (m x : Operand) (hop : o.op = Op.lookup 94 m x true) {b n : Nat} {q : Int → Option Value} (hm : a.eval m = .map (some b)) (hown : MapT w b n q) (v : Int) (hv : wfI v) (hq : q v = none) (hx : a.eval x = .int .i64 v)
    (hK : wpList Tryd.prog ops Q rest (a.put o.dst (.tuple #[.agg #[.int .i64 0, .int .i64 0, .slice none 0 0], .bool false])) w) : wpList Tryd.prog ops Q (o :: rest) a w :=
  wpList_lookT w hg m x hop hm hown v hv hx (by rw [hq]; exact hK)
def TApp (l : List Bd) (k n : Int) (ps : Fo) : Prop := ∀ (w : World) (o : Option Addr) (len cap : Nat) (b m : Nat) (q : Int → Option Value), MapT w b m q → TabAt w q (findB l) → Slc w o len ps → ps.size ≤ 1000000 → wfI n → wfF ps →
  Calls Tryd.prog 88 #[.map (some b), tyv k n o len cap] w fun e w' => ∃ o' len' cap', e = .returned (tyv (sK l k n) (sN l k n) o' len' cap') ∧ SlcIn (fun b => w.heap.size ≤ b) w' o' len' (sP l k n ps) ∧ Quiet0 w w'
set_option maxHeartbeats 4000000 in
set_option maxRecDepth 100000 in
theorem apply_any (l : List Bd) (hl : ∀ t ∈ l, t.2.2.2.size ≤ 1000000) (k n : Int) (ps : Fo) : TApp l k n ps := by
  refine Fo.ind' (T := TApp l) ?_ k n ps
  intro k n ps ih w o len cap b m q hm ht hs hsz hn hw
  have HS := Lib.hid hs
  have IH := Lib.hid ih
  have HL := Lib.hid hs.1
  have hmx := hs.2.1
  have hll := Fo.length_le ps
  rw [← hs.1] at hll
  unfold maxLen at hmx
  have HM := Lib.hid hm
  have HT := Lib.hid ht
  have HN := Lib.hid hn
  have HW := Lib.hid hw
  have htn := ht n
  clear hs ih hm ht hn hw
  cases hk : (k == 1)
  · have hh : hit l k n = none := by unfold hit; rw [hk]; rfl
    have e1 : sK l k n = k := by unfold sK; rw [hh]
    have e2 : sN l k n = n := by unfold sN; rw [hh]
    have e3 : sP l k n ps = substF l ps := by unfold sP; rw [hh]
    rw [e1, e2, e3]
    clear e1 e2 e3 hh
    cases hf : findB l n with
    | none =>
      rw [hf] at htn
      have hqn : q n = none := htn
      clear htn hf
      unfold tyv
      obtain ⟨W0, hW0⟩ : ∃ W0, W0 = ((w.alloc (.cells #[.int .i64 k, .int .i64 n, .slice o len cap] 24)).alloc (.cells #[.int .i64 0, .int .i64 0, .slice none 0 0] 24)).alloc (.cells #[.int .i64 0, .int .i64 0, .slice none 0 0] 24) := ⟨_, rfl⟩
      have HQ0 : Hid (Quiet0 w W0) := by rw [hW0]; exact ((Quiet0.alloc _ _).trans (Quiet0.alloc _ _)).trans (Quiet0.alloc _ _)
      have hz0 : w.heap.size + 2 ≤ W0.heap.size := by rw [hW0]; simp
      have HB0 : Hid (W0.heap[w.heap.size]? = some (.cells #[.int .i64 k, .int .i64 n, .slice o len cap] 24 (0, 0))) := by rw [hW0]; exact box_after (heap_alloc_new w _) ((Quiet0.alloc _ _).trans (Quiet0.alloc _ _))
      have HB1 : Hid (W0.heap[w.heap.size + 1]? = some (.cells #[.int .i64 0, .int .i64 0, .slice none 0 0] 24 (0, 0))) := by
        rw [hW0, show w.heap.size + 1 = (w.alloc (.cells #[.int .i64 k, .int .i64 n, .slice o len cap] 24)).heap.size from by simp]; exact box_after (heap_alloc_new _ _) (Quiet0.alloc _ _)
      obtain ⟨p0, p1, p2, _, _, _⟩ := box_cells3 HB0.out
      have HMA := Lib.hid (HM.out.stay ((Quiet0.alloc w (.cells #[.int .i64 k, .int .i64 n, .slice o len cap] 24)).trans (Quiet0.alloc _ (.cells #[.int .i64 0, .int .i64 0, .slice none 0 0] 24))))
      go_enter Tryd.func88, Tryd.ntmps88
      go_wp2_with (at_lookup; go_must (refine lookT_none _ rfl _ _ rfl rfl HMA.out n HN.out hqn rfl ?_))
      go_upto_region 4 with fail
      change Code.wp _ _ _ _ (((w.alloc (.cells #[.int .i64 k, .int .i64 n, .slice o len cap] 24)).alloc (.cells #[.int .i64 0, .int .i64 0, .slice none 0 0] 24)).alloc (.cells #[.int .i64 0, .int .i64 0, .slice none 0 0] 24))
      rw [← hW0]
      clear hW0
      generalize hB : w.heap.size = B at *
      have HBE := Lib.hid hB
      clear hB
      go_wp2_with fail
      clear p0 p1 p2
      go_loopw [7, 28] (fun v t wr => ∃ (i : Nat) (f : Fo) (xs : List Value) (vo : Option Addr) (vc : Nat), t = .int .i64 i ∧ i ≤ len ∧ v = .slice vo i vc ∧ f.length = i ∧ f.app (substF l (ps.drop i)) = substF l ps ∧ TyRow wr W0.heap.size (.slice vo i vc) f xs ∧ Quiet0 W0 wr) (fun _ t _ => len - (intOf t).toNat)
      case atStart => exact ⟨0, .nil, [], none, 0, rfl, Nat.zero_le _, rfl, rfl, by rw [Fo.drop_zero]; rfl, TyRow.nil _ _, Quiet0.refl _⟩
      case round =>
        obtain ⟨i, f, xs, vo, vc, rfl, hi, rfl, hfl, hap, hrow, hq⟩ := hrel
        have HF := Lib.hid hfl
        have HAP := Lib.hid hap
        have HR := Lib.hid hrow
        have HQ := Lib.hid hq
        clear hfl hap hrow hq
        by_cases hlt : i < len
        · have hlt' : (i : Int) < len := by omega
          obtain ⟨bb, off, k1, n1, qs, o1, len1, cap1, rfl, hd, hg, e0, e1, e2, hs1⟩ := (HS.out.stay (HQ0.out.trans HQ.out)).nth hlt
          have hsq := Fo.size_get ps i k1 n1 qs hg
          have hgw := allF_get ps i k1 n1 qs HW.out hg
          have HC := Lib.hid (IH.out i k1 n1 qs hg (wr.alloc (.cells #[.int .i64 k1, .int .i64 n1, .slice o1 len1 cap1] 24)) o1 len1 cap1 b m q (HM.out.stay ((HQ0.out.trans HQ.out).trans (Quiet0.alloc _ _))) (HT.out.stay ((HQ0.out.trans HQ.out).trans (Quiet0.alloc _ _))) (hs1.stay (Quiet0.alloc _ _)) (by omega) hgw.1 hgw.2)
          have HD : Hid ((f.app (.cons (sK l k1 n1) (sN l k1 n1) (sP l k1 n1 qs) .nil)).app (substF l (ps.drop (i + 1))) = substF l ps) := by
            show _ = _
            rw [← HAP.out, hd, Fo.app_assoc, substF_cons]; rfl
          unfold tyv at HC
          clear hd hg hs1 hsq hgw
          generalize sK l k1 n1 = k2 at *
          generalize sN l k1 n1 = n2 at *
          generalize sP l k1 n1 qs = p2 at *
          go_wp2_with fail
          refine HC.out.mono ?_; rintro e w1 ⟨o2, len2, cap2, rfl, hs2, hq1⟩
          have HS2 := Lib.hid hs2
          have HQ1 := Lib.hid ((Quiet0.alloc _ _).trans hq1)
          have HR1 := Lib.hid (HR.out.stay HQ1.out)
          clear hs2 hq1
          go_wp2_with (at_builtin; go_must (refine wpList_append_one w1 rfl (.tmp 32) (.tmp 36) 22 rfl 24 _ 3 40 elemTy (.slice vo i vc) i xs rfl (HF.out ▸ HR1.out.own) #[.int .i64 k2, .int .i64 n2, .slice o2 len2 cap2] rfl rfl ?c1 ?c2 ?c3 ?_))
          case c1 => simp [Value.oneCell']
          case c2 => unfold maxLen; omega
          case c3 => omega
          intro g2 c' w2 ho hf hg2
          have hlow : W0.heap.size ≤ w1.heap.size := Nat.le_trans HQ.out.size HQ1.out.size
          have hown : ∀ kk, (Value.slice vo i vc).ownBlock = some kk → kk < wr.heap.size := fun kk h => (HR.out.own.lt kk h).2
          have HR2 : Hid (TyRow w2 W0.heap.size (.slice (some ⟨g2, 0, none⟩) (i + 1) c') (f.app (.cons k2 n2 p2 .nil)) (xs ++ [.int .i64 k2, .int .i64 n2, .slice o2 len2 cap2])) := by
            show TyRow _ _ _ _ _
            have hf' := HF.out
            subst hf'
            refine TyRow.snoc HR1.out (HS2.out.fr (Fr.refl (fun _ => False) _) ?_) ho hf hg2 hlow
            intro kk _ hkk
            have hkk' : (wr.alloc (.cells #[.int .i64 k1, .int .i64 n1, .slice o1 len1 cap1] 24)).heap.size ≤ kk := hkk
            simp at hkk'
            refine ⟨⟨by have := HQ.out.size; omega, fun h => ?_⟩, fun h => h⟩
            have := hown kk h; omega
          have HQ2 : Hid (Quiet0 W0 w2) := by
            show Quiet0 _ _
            exact Fr.trans' (HQ.out.trans HQ1.out) hf (fun kk hkk h => absurd (HR.out.low kk h) (by omega))
          have HL2 : Hid ((f.app (.cons k2 n2 p2 .nil)).length = i + 1) := by
            show _ = _
            rw [Fo.app_length, HF.out]; rfl
          clear ho hf hg2 hown
          go_wp2_with fail
          go_roundw
          case rel => exact ⟨i + 1, _, _, some ⟨g2, 0, none⟩, c', by go_num, by omega, rfl, HL2.out, HD.out, HR2.out, HQ2.out⟩
          case measure => simp [intOf]; omega
        · have hlt' : ¬ (i : Int) < len := by omega
          have hb1 := box_after HB1.out HQ.out
          have hb0 := box_after HB0.out HQ.out
          obtain ⟨c0, c1, c2, z0, z1, z2⟩ := box_cells3 hb0
          obtain ⟨d0, d1, d2, y0, y1, y2⟩ := box_cells3 hb1
          have HB0 := Lib.hid hb0
          have HB1 := Lib.hid hb1
          clear hb0 hb1
          have hil : i = len := by omega
          have HFIN : Hid (∀ u v x y : Value, SlcIn (fun b => w.heap.size ≤ b) ((((wr.setCell ⟨B, 2, none⟩ u).setCell ⟨B + 1, 0, none⟩ v).setCell ⟨B + 1, 1, none⟩ x).setCell ⟨B + 1, 2, none⟩ y) vo len (substF l ps) ∧ Quiet0 w ((((wr.setCell ⟨B, 2, none⟩ u).setCell ⟨B + 1, 0, none⟩ v).setCell ⟨B + 1, 1, none⟩ x).setCell ⟨B + 1, 2, none⟩ y)) := by
            intro u v x y
            have hf : Fr (fun kk => kk = B ∨ kk = B + 1) wr ((((wr.setCell ⟨B, 2, none⟩ u).setCell ⟨B + 1, 0, none⟩ v).setCell ⟨B + 1, 1, none⟩ x).setCell ⟨B + 1, 2, none⟩ y) :=
              (((Fr.setCell _ _ _ _ (.inl rfl)).trans (Fr.setCell _ _ _ _ (.inr rfl))).trans (Fr.setCell _ _ _ _ (.inr rfl))).trans (Fr.setCell _ _ _ _ (.inr rfl))
            have hap := HAP.out
            subst hil
            rw [Fo.drop_end ps i (by have := HL.out; omega)] at hap
            simp only [substF] at hap
            rw [Fo.app_nil] at hap
            refine ⟨?_, ?_⟩
            · rw [← hap]
              refine (HR.out.slc HF.out.symm (by unfold maxLen; omega)).fr hf ?_
              intro kk _ hkk
              have hkk' : W0.heap.size ≤ kk := hkk
              have hz := HBE.out
              exact ⟨by omega, by omega⟩
            · exact Fr.trans' (HQ0.out.trans HQ.out) hf (fun kk hkk h => by have hz := HBE.out; omega)
          go_wp2_with fail
          have hbf := box_set2 (u := .slice vo len vc) (box_set1 (u := .int .i64 n) (box_set0 (u := .int .i64 k) (B := B + 1) (w := wr.setCell ⟨B, 2, none⟩ (.slice vo len vc)) (by rw [Below.heap_setCell _ _ _ _ (by show B + 1 ≠ B; omega)]; exact HB1.out)))
          obtain ⟨f0, f1, f2, _, _, _⟩ := box_cells3 hbf
          have HFF := HFIN.out (.slice vo len vc) (.int .i64 k) (.int .i64 n) (.slice vo len vc)
          clear hbf
          subst hil
          generalize (((wr.setCell ⟨B, 2, none⟩ (.slice vo i vc)).setCell ⟨B + 1, 0, none⟩ (.int .i64 k)).setCell ⟨B + 1, 1, none⟩ (.int .i64 n)).setCell ⟨B + 1, 2, none⟩ (.slice vo i vc) = wf at *
          refine bodyPost_ret (by simp [results, Tryd.results88, go_sem, f0, f1, f2]; rfl) rfl ?_
          exact ⟨vo, i, ⟨vc, rfl⟩, HFF⟩
    | some t =>
      rw [hf] at htn
      obtain ⟨uo, ul, uc, hqn, _⟩ := htn
      generalize t.2.1 = uk at *
      generalize t.2.2.1 = un at *
      unfold tyv at hqn
      clear hf
      unfold tyv
      obtain ⟨W0, hW0⟩ : ∃ W0, W0 = ((w.alloc (.cells #[.int .i64 k, .int .i64 n, .slice o len cap] 24)).alloc (.cells #[.int .i64 0, .int .i64 0, .slice none 0 0] 24)).alloc (.cells #[.int .i64 uk, .int .i64 un, .slice uo ul uc] 24) := ⟨_, rfl⟩
      have HQ0 : Hid (Quiet0 w W0) := by rw [hW0]; exact ((Quiet0.alloc _ _).trans (Quiet0.alloc _ _)).trans (Quiet0.alloc _ _)
      have hz0 : w.heap.size + 2 ≤ W0.heap.size := by rw [hW0]; simp
      have HB0 : Hid (W0.heap[w.heap.size]? = some (.cells #[.int .i64 k, .int .i64 n, .slice o len cap] 24 (0, 0))) := by rw [hW0]; exact box_after (heap_alloc_new w _) ((Quiet0.alloc _ _).trans (Quiet0.alloc _ _))
      have HB1 : Hid (W0.heap[w.heap.size + 1]? = some (.cells #[.int .i64 0, .int .i64 0, .slice none 0 0] 24 (0, 0))) := by
        rw [hW0, show w.heap.size + 1 = (w.alloc (.cells #[.int .i64 k, .int .i64 n, .slice o len cap] 24)).heap.size from by simp]; exact box_after (heap_alloc_new _ _) (Quiet0.alloc _ _)
      obtain ⟨p0, p1, p2, _, _, _⟩ := box_cells3 HB0.out
      have HMA := Lib.hid (HM.out.stay ((Quiet0.alloc w (.cells #[.int .i64 k, .int .i64 n, .slice o len cap] 24)).trans (Quiet0.alloc _ (.cells #[.int .i64 0, .int .i64 0, .slice none 0 0] 24))))
      go_enter Tryd.func88, Tryd.ntmps88
      go_wp2_with (at_lookup; go_must (refine lookT_some _ rfl _ _ rfl rfl HMA.out n HN.out hqn rfl ?_))
      go_upto_region 4 with fail
      change Code.wp _ _ _ _ (((w.alloc (.cells #[.int .i64 k, .int .i64 n, .slice o len cap] 24)).alloc (.cells #[.int .i64 0, .int .i64 0, .slice none 0 0] 24)).alloc (.cells #[.int .i64 uk, .int .i64 un, .slice uo ul uc] 24))
      rw [← hW0]
      clear hW0
      generalize hB : w.heap.size = B at *
      have HBE := Lib.hid hB
      clear hB
      go_wp2_with fail
      clear p0 p1 p2
      go_loopw [7, 28] (fun v t wr => ∃ (i : Nat) (f : Fo) (xs : List Value) (vo : Option Addr) (vc : Nat), t = .int .i64 i ∧ i ≤ len ∧ v = .slice vo i vc ∧ f.length = i ∧ f.app (substF l (ps.drop i)) = substF l ps ∧ TyRow wr W0.heap.size (.slice vo i vc) f xs ∧ Quiet0 W0 wr) (fun _ t _ => len - (intOf t).toNat)
      case atStart => exact ⟨0, .nil, [], none, 0, rfl, Nat.zero_le _, rfl, rfl, by rw [Fo.drop_zero]; rfl, TyRow.nil _ _, Quiet0.refl _⟩
      case round =>
        obtain ⟨i, f, xs, vo, vc, rfl, hi, rfl, hfl, hap, hrow, hq⟩ := hrel
        have HF := Lib.hid hfl
        have HAP := Lib.hid hap
        have HR := Lib.hid hrow
        have HQ := Lib.hid hq
        clear hfl hap hrow hq
        by_cases hlt : i < len
        · have hlt' : (i : Int) < len := by omega
          obtain ⟨bb, off, k1, n1, qs, o1, len1, cap1, rfl, hd, hg, e0, e1, e2, hs1⟩ := (HS.out.stay (HQ0.out.trans HQ.out)).nth hlt
          have hsq := Fo.size_get ps i k1 n1 qs hg
          have hgw := allF_get ps i k1 n1 qs HW.out hg
          have HC := Lib.hid (IH.out i k1 n1 qs hg (wr.alloc (.cells #[.int .i64 k1, .int .i64 n1, .slice o1 len1 cap1] 24)) o1 len1 cap1 b m q (HM.out.stay ((HQ0.out.trans HQ.out).trans (Quiet0.alloc _ _))) (HT.out.stay ((HQ0.out.trans HQ.out).trans (Quiet0.alloc _ _))) (hs1.stay (Quiet0.alloc _ _)) (by omega) hgw.1 hgw.2)
          have HD : Hid ((f.app (.cons (sK l k1 n1) (sN l k1 n1) (sP l k1 n1 qs) .nil)).app (substF l (ps.drop (i + 1))) = substF l ps) := by
            show _ = _
            rw [← HAP.out, hd, Fo.app_assoc, substF_cons]; rfl
          unfold tyv at HC
          clear hd hg hs1 hsq hgw
          generalize sK l k1 n1 = k2 at *
          generalize sN l k1 n1 = n2 at *
          generalize sP l k1 n1 qs = p2 at *
          go_wp2_with fail
          refine HC.out.mono ?_; rintro e w1 ⟨o2, len2, cap2, rfl, hs2, hq1⟩
          have HS2 := Lib.hid hs2
          have HQ1 := Lib.hid ((Quiet0.alloc _ _).trans hq1)
          have HR1 := Lib.hid (HR.out.stay HQ1.out)
          clear hs2 hq1
          go_wp2_with (at_builtin; go_must (refine wpList_append_one w1 rfl (.tmp 32) (.tmp 36) 22 rfl 24 _ 3 40 elemTy (.slice vo i vc) i xs rfl (HF.out ▸ HR1.out.own) #[.int .i64 k2, .int .i64 n2, .slice o2 len2 cap2] rfl rfl ?c1 ?c2 ?c3 ?_))
          case c1 => simp [Value.oneCell']
          case c2 => unfold maxLen; omega
          case c3 => omega
          intro g2 c' w2 ho hf hg2
          have hlow : W0.heap.size ≤ w1.heap.size := Nat.le_trans HQ.out.size HQ1.out.size
          have hown : ∀ kk, (Value.slice vo i vc).ownBlock = some kk → kk < wr.heap.size := fun kk h => (HR.out.own.lt kk h).2
          have HR2 : Hid (TyRow w2 W0.heap.size (.slice (some ⟨g2, 0, none⟩) (i + 1) c') (f.app (.cons k2 n2 p2 .nil)) (xs ++ [.int .i64 k2, .int .i64 n2, .slice o2 len2 cap2])) := by
            show TyRow _ _ _ _ _
            have hf' := HF.out
            subst hf'
            refine TyRow.snoc HR1.out (HS2.out.fr (Fr.refl (fun _ => False) _) ?_) ho hf hg2 hlow
            intro kk _ hkk
            have hkk' : (wr.alloc (.cells #[.int .i64 k1, .int .i64 n1, .slice o1 len1 cap1] 24)).heap.size ≤ kk := hkk
            simp at hkk'
            refine ⟨⟨by have := HQ.out.size; omega, fun h => ?_⟩, fun h => h⟩
            have := hown kk h; omega
          have HQ2 : Hid (Quiet0 W0 w2) := by
            show Quiet0 _ _
            exact Fr.trans' (HQ.out.trans HQ1.out) hf (fun kk hkk h => absurd (HR.out.low kk h) (by omega))
          have HL2 : Hid ((f.app (.cons k2 n2 p2 .nil)).length = i + 1) := by
            show _ = _
            rw [Fo.app_length, HF.out]; rfl
          clear ho hf hg2 hown
          go_wp2_with fail
          go_roundw
          case rel => exact ⟨i + 1, _, _, some ⟨g2, 0, none⟩, c', by go_num, by omega, rfl, HL2.out, HD.out, HR2.out, HQ2.out⟩
          case measure => simp [intOf]; omega
        · have hlt' : ¬ (i : Int) < len := by omega
          have hb1 := box_after HB1.out HQ.out
          have hb0 := box_after HB0.out HQ.out
          obtain ⟨c0, c1, c2, z0, z1, z2⟩ := box_cells3 hb0
          obtain ⟨d0, d1, d2, y0, y1, y2⟩ := box_cells3 hb1
          have HB0 := Lib.hid hb0
          have HB1 := Lib.hid hb1
          clear hb0 hb1
          have hil : i = len := by omega
          have HFIN : Hid (∀ u v x y : Value, SlcIn (fun b => w.heap.size ≤ b) ((((wr.setCell ⟨B, 2, none⟩ u).setCell ⟨B + 1, 0, none⟩ v).setCell ⟨B + 1, 1, none⟩ x).setCell ⟨B + 1, 2, none⟩ y) vo len (substF l ps) ∧ Quiet0 w ((((wr.setCell ⟨B, 2, none⟩ u).setCell ⟨B + 1, 0, none⟩ v).setCell ⟨B + 1, 1, none⟩ x).setCell ⟨B + 1, 2, none⟩ y)) := by
            intro u v x y
            have hf : Fr (fun kk => kk = B ∨ kk = B + 1) wr ((((wr.setCell ⟨B, 2, none⟩ u).setCell ⟨B + 1, 0, none⟩ v).setCell ⟨B + 1, 1, none⟩ x).setCell ⟨B + 1, 2, none⟩ y) :=
              (((Fr.setCell _ _ _ _ (.inl rfl)).trans (Fr.setCell _ _ _ _ (.inr rfl))).trans (Fr.setCell _ _ _ _ (.inr rfl))).trans (Fr.setCell _ _ _ _ (.inr rfl))
            have hap := HAP.out
            subst hil
            rw [Fo.drop_end ps i (by have := HL.out; omega)] at hap
            simp only [substF] at hap
            rw [Fo.app_nil] at hap
            refine ⟨?_, ?_⟩
            · rw [← hap]
              refine (HR.out.slc HF.out.symm (by unfold maxLen; omega)).fr hf ?_
              intro kk _ hkk
              have hkk' : W0.heap.size ≤ kk := hkk
              have hz := HBE.out
              exact ⟨by omega, by omega⟩
            · exact Fr.trans' (HQ0.out.trans HQ.out) hf (fun kk hkk h => by have hz := HBE.out; omega)
          go_wp2_with fail
          have hbf := box_set2 (u := .slice vo len vc) (box_set1 (u := .int .i64 n) (box_set0 (u := .int .i64 k) (B := B + 1) (w := wr.setCell ⟨B, 2, none⟩ (.slice vo len vc)) (by rw [Below.heap_setCell _ _ _ _ (by show B + 1 ≠ B; omega)]; exact HB1.out)))
          obtain ⟨f0, f1, f2, _, _, _⟩ := box_cells3 hbf
          have HFF := HFIN.out (.slice vo len vc) (.int .i64 k) (.int .i64 n) (.slice vo len vc)
          clear hbf
          subst hil
          generalize (((wr.setCell ⟨B, 2, none⟩ (.slice vo i vc)).setCell ⟨B + 1, 0, none⟩ (.int .i64 k)).setCell ⟨B + 1, 1, none⟩ (.int .i64 n)).setCell ⟨B + 1, 2, none⟩ (.slice vo i vc) = wf at *
          refine bodyPost_ret (by simp [results, Tryd.results88, go_sem, f0, f1, f2]; rfl) rfl ?_
          exact ⟨vo, i, ⟨vc, rfl⟩, HFF⟩
  · cases hf : findB l n with
    | none =>
      have hh : hit l k n = none := by unfold hit; rw [hk, hf]; rfl
      have e1 : sK l k n = k := by unfold sK; rw [hh]
      have e2 : sN l k n = n := by unfold sN; rw [hh]
      have e3 : sP l k n ps = substF l ps := by unfold sP; rw [hh]
      rw [e1, e2, e3]
      clear e1 e2 e3 hh
      rw [hf] at htn
      have hqn : q n = none := htn
      clear htn hf
      unfold tyv
      obtain ⟨W0, hW0⟩ : ∃ W0, W0 = ((w.alloc (.cells #[.int .i64 k, .int .i64 n, .slice o len cap] 24)).alloc (.cells #[.int .i64 0, .int .i64 0, .slice none 0 0] 24)).alloc (.cells #[.int .i64 0, .int .i64 0, .slice none 0 0] 24) := ⟨_, rfl⟩
      have HQ0 : Hid (Quiet0 w W0) := by rw [hW0]; exact ((Quiet0.alloc _ _).trans (Quiet0.alloc _ _)).trans (Quiet0.alloc _ _)
      have hz0 : w.heap.size + 2 ≤ W0.heap.size := by rw [hW0]; simp
      have HB0 : Hid (W0.heap[w.heap.size]? = some (.cells #[.int .i64 k, .int .i64 n, .slice o len cap] 24 (0, 0))) := by rw [hW0]; exact box_after (heap_alloc_new w _) ((Quiet0.alloc _ _).trans (Quiet0.alloc _ _))
      have HB1 : Hid (W0.heap[w.heap.size + 1]? = some (.cells #[.int .i64 0, .int .i64 0, .slice none 0 0] 24 (0, 0))) := by
        rw [hW0, show w.heap.size + 1 = (w.alloc (.cells #[.int .i64 k, .int .i64 n, .slice o len cap] 24)).heap.size from by simp]; exact box_after (heap_alloc_new _ _) (Quiet0.alloc _ _)
      obtain ⟨p0, p1, p2, _, _, _⟩ := box_cells3 HB0.out
      have HMA := Lib.hid (HM.out.stay ((Quiet0.alloc w (.cells #[.int .i64 k, .int .i64 n, .slice o len cap] 24)).trans (Quiet0.alloc _ (.cells #[.int .i64 0, .int .i64 0, .slice none 0 0] 24))))
      go_enter Tryd.func88, Tryd.ntmps88
      go_wp2_with (at_lookup; go_must (refine lookT_none _ rfl _ _ rfl rfl HMA.out n HN.out hqn rfl ?_))
      go_upto_region 4 with fail
      change Code.wp _ _ _ _ (((w.alloc (.cells #[.int .i64 k, .int .i64 n, .slice o len cap] 24)).alloc (.cells #[.int .i64 0, .int .i64 0, .slice none 0 0] 24)).alloc (.cells #[.int .i64 0, .int .i64 0, .slice none 0 0] 24))
      rw [← hW0]
      clear hW0
      generalize hB : w.heap.size = B at *
      have HBE := Lib.hid hB
      clear hB
      go_wp2_with fail
      clear p0 p1 p2
      go_loopw [7, 28] (fun v t wr => ∃ (i : Nat) (f : Fo) (xs : List Value) (vo : Option Addr) (vc : Nat), t = .int .i64 i ∧ i ≤ len ∧ v = .slice vo i vc ∧ f.length = i ∧ f.app (substF l (ps.drop i)) = substF l ps ∧ TyRow wr W0.heap.size (.slice vo i vc) f xs ∧ Quiet0 W0 wr) (fun _ t _ => len - (intOf t).toNat)
      case atStart => exact ⟨0, .nil, [], none, 0, rfl, Nat.zero_le _, rfl, rfl, by rw [Fo.drop_zero]; rfl, TyRow.nil _ _, Quiet0.refl _⟩
      case round =>
        obtain ⟨i, f, xs, vo, vc, rfl, hi, rfl, hfl, hap, hrow, hq⟩ := hrel
        have HF := Lib.hid hfl
        have HAP := Lib.hid hap
        have HR := Lib.hid hrow
        have HQ := Lib.hid hq
        clear hfl hap hrow hq
        by_cases hlt : i < len
        · have hlt' : (i : Int) < len := by omega
          obtain ⟨bb, off, k1, n1, qs, o1, len1, cap1, rfl, hd, hg, e0, e1, e2, hs1⟩ := (HS.out.stay (HQ0.out.trans HQ.out)).nth hlt
          have hsq := Fo.size_get ps i k1 n1 qs hg
          have hgw := allF_get ps i k1 n1 qs HW.out hg
          have HC := Lib.hid (IH.out i k1 n1 qs hg (wr.alloc (.cells #[.int .i64 k1, .int .i64 n1, .slice o1 len1 cap1] 24)) o1 len1 cap1 b m q (HM.out.stay ((HQ0.out.trans HQ.out).trans (Quiet0.alloc _ _))) (HT.out.stay ((HQ0.out.trans HQ.out).trans (Quiet0.alloc _ _))) (hs1.stay (Quiet0.alloc _ _)) (by omega) hgw.1 hgw.2)
          have HD : Hid ((f.app (.cons (sK l k1 n1) (sN l k1 n1) (sP l k1 n1 qs) .nil)).app (substF l (ps.drop (i + 1))) = substF l ps) := by
            show _ = _
            rw [← HAP.out, hd, Fo.app_assoc, substF_cons]; rfl
          unfold tyv at HC
          clear hd hg hs1 hsq hgw
          generalize sK l k1 n1 = k2 at *
          generalize sN l k1 n1 = n2 at *
          generalize sP l k1 n1 qs = p2 at *
          go_wp2_with fail
          refine HC.out.mono ?_; rintro e w1 ⟨o2, len2, cap2, rfl, hs2, hq1⟩
          have HS2 := Lib.hid hs2
          have HQ1 := Lib.hid ((Quiet0.alloc _ _).trans hq1)
          have HR1 := Lib.hid (HR.out.stay HQ1.out)
          clear hs2 hq1
          go_wp2_with (at_builtin; go_must (refine wpList_append_one w1 rfl (.tmp 32) (.tmp 36) 22 rfl 24 _ 3 40 elemTy (.slice vo i vc) i xs rfl (HF.out ▸ HR1.out.own) #[.int .i64 k2, .int .i64 n2, .slice o2 len2 cap2] rfl rfl ?c1 ?c2 ?c3 ?_))
          case c1 => simp [Value.oneCell']
          case c2 => unfold maxLen; omega
          case c3 => omega
          intro g2 c' w2 ho hf hg2
          have hlow : W0.heap.size ≤ w1.heap.size := Nat.le_trans HQ.out.size HQ1.out.size
          have hown : ∀ kk, (Value.slice vo i vc).ownBlock = some kk → kk < wr.heap.size := fun kk h => (HR.out.own.lt kk h).2
          have HR2 : Hid (TyRow w2 W0.heap.size (.slice (some ⟨g2, 0, none⟩) (i + 1) c') (f.app (.cons k2 n2 p2 .nil)) (xs ++ [.int .i64 k2, .int .i64 n2, .slice o2 len2 cap2])) := by
            show TyRow _ _ _ _ _
            have hf' := HF.out
            subst hf'
            refine TyRow.snoc HR1.out (HS2.out.fr (Fr.refl (fun _ => False) _) ?_) ho hf hg2 hlow
            intro kk _ hkk
            have hkk' : (wr.alloc (.cells #[.int .i64 k1, .int .i64 n1, .slice o1 len1 cap1] 24)).heap.size ≤ kk := hkk
            simp at hkk'
            refine ⟨⟨by have := HQ.out.size; omega, fun h => ?_⟩, fun h => h⟩
            have := hown kk h; omega
          have HQ2 : Hid (Quiet0 W0 w2) := by
            show Quiet0 _ _
            exact Fr.trans' (HQ.out.trans HQ1.out) hf (fun kk hkk h => absurd (HR.out.low kk h) (by omega))
          have HL2 : Hid ((f.app (.cons k2 n2 p2 .nil)).length = i + 1) := by
            show _ = _
            rw [Fo.app_length, HF.out]; rfl
          clear ho hf hg2 hown
          go_wp2_with fail
          go_roundw
          case rel => exact ⟨i + 1, _, _, some ⟨g2, 0, none⟩, c', by go_num, by omega, rfl, HL2.out, HD.out, HR2.out, HQ2.out⟩
          case measure => simp [intOf]; omega
        · have hlt' : ¬ (i : Int) < len := by omega
          have hb1 := box_after HB1.out HQ.out
          have hb0 := box_after HB0.out HQ.out
          obtain ⟨c0, c1, c2, z0, z1, z2⟩ := box_cells3 hb0
          obtain ⟨d0, d1, d2, y0, y1, y2⟩ := box_cells3 hb1
          have HB0 := Lib.hid hb0
          have HB1 := Lib.hid hb1
          clear hb0 hb1
          have hil : i = len := by omega
          have HFIN : Hid (∀ u v x y : Value, SlcIn (fun b => w.heap.size ≤ b) ((((wr.setCell ⟨B, 2, none⟩ u).setCell ⟨B + 1, 0, none⟩ v).setCell ⟨B + 1, 1, none⟩ x).setCell ⟨B + 1, 2, none⟩ y) vo len (substF l ps) ∧ Quiet0 w ((((wr.setCell ⟨B, 2, none⟩ u).setCell ⟨B + 1, 0, none⟩ v).setCell ⟨B + 1, 1, none⟩ x).setCell ⟨B + 1, 2, none⟩ y)) := by
            intro u v x y
            have hf : Fr (fun kk => kk = B ∨ kk = B + 1) wr ((((wr.setCell ⟨B, 2, none⟩ u).setCell ⟨B + 1, 0, none⟩ v).setCell ⟨B + 1, 1, none⟩ x).setCell ⟨B + 1, 2, none⟩ y) :=
              (((Fr.setCell _ _ _ _ (.inl rfl)).trans (Fr.setCell _ _ _ _ (.inr rfl))).trans (Fr.setCell _ _ _ _ (.inr rfl))).trans (Fr.setCell _ _ _ _ (.inr rfl))
            have hap := HAP.out
            subst hil
            rw [Fo.drop_end ps i (by have := HL.out; omega)] at hap
            simp only [substF] at hap
            rw [Fo.app_nil] at hap
            refine ⟨?_, ?_⟩
            · rw [← hap]
              refine (HR.out.slc HF.out.symm (by unfold maxLen; omega)).fr hf ?_
              intro kk _ hkk
              have hkk' : W0.heap.size ≤ kk := hkk
              have hz := HBE.out
              exact ⟨by omega, by omega⟩
            · exact Fr.trans' (HQ0.out.trans HQ.out) hf (fun kk hkk h => by have hz := HBE.out; omega)
          go_wp2_with fail
          have hbf := box_set2 (u := .slice vo len vc) (box_set1 (u := .int .i64 n) (box_set0 (u := .int .i64 k) (B := B + 1) (w := wr.setCell ⟨B, 2, none⟩ (.slice vo len vc)) (by rw [Below.heap_setCell _ _ _ _ (by show B + 1 ≠ B; omega)]; exact HB1.out)))
          obtain ⟨f0, f1, f2, _, _, _⟩ := box_cells3 hbf
          have HFF := HFIN.out (.slice vo len vc) (.int .i64 k) (.int .i64 n) (.slice vo len vc)
          clear hbf
          subst hil
          generalize (((wr.setCell ⟨B, 2, none⟩ (.slice vo i vc)).setCell ⟨B + 1, 0, none⟩ (.int .i64 k)).setCell ⟨B + 1, 1, none⟩ (.int .i64 n)).setCell ⟨B + 1, 2, none⟩ (.slice vo i vc) = wf at *
          refine bodyPost_ret (by simp [results, Tryd.results88, go_sem, f0, f1, f2]; rfl) rfl ?_
          exact ⟨vo, i, ⟨vc, rfl⟩, HFF⟩
    | some t =>
      have hh : hit l k n = some t := by unfold hit; rw [hk, hf]; rfl
      have e1 : sK l k n = t.2.1 := by unfold sK; rw [hh]
      have e2 : sN l k n = t.2.2.1 := by unfold sN; rw [hh]
      have e3 : sP l k n ps = t.2.2.2 := by unfold sP; rw [hh]
      rw [e1, e2, e3]
      clear e1 e2 e3 hh
      rw [hf] at htn
      obtain ⟨uo, ul, uc, hqn, hus⟩ := htn
      have HUS := Lib.hid hus
      have HUZ : Hid (t.2.2.2.size ≤ 1000000) := hl t (findB_mem hf).1
      clear hus hf
      generalize t.2.1 = uk at *
      generalize t.2.2.1 = un at *
      unfold tyv at hqn
      unfold tyv
      obtain ⟨W0, hW0⟩ : ∃ W0, W0 = ((w.alloc (.cells #[.int .i64 k, .int .i64 n, .slice o len cap] 24)).alloc (.cells #[.int .i64 0, .int .i64 0, .slice none 0 0] 24)).alloc (.cells #[.int .i64 uk, .int .i64 un, .slice uo ul uc] 24) := ⟨_, rfl⟩
      have HQ0 : Hid (Quiet0 w W0) := by rw [hW0]; exact ((Quiet0.alloc _ _).trans (Quiet0.alloc _ _)).trans (Quiet0.alloc _ _)
      have hz0 : w.heap.size + 2 ≤ W0.heap.size := by rw [hW0]; simp
      have HB0 : Hid (W0.heap[w.heap.size]? = some (.cells #[.int .i64 k, .int .i64 n, .slice o len cap] 24 (0, 0))) := by rw [hW0]; exact box_after (heap_alloc_new w _) ((Quiet0.alloc _ _).trans (Quiet0.alloc _ _))
      have HB1 : Hid (W0.heap[w.heap.size + 1]? = some (.cells #[.int .i64 0, .int .i64 0, .slice none 0 0] 24 (0, 0))) := by
        rw [hW0, show w.heap.size + 1 = (w.alloc (.cells #[.int .i64 k, .int .i64 n, .slice o len cap] 24)).heap.size from by simp]; exact box_after (heap_alloc_new _ _) (Quiet0.alloc _ _)
      obtain ⟨p0, p1, p2, _, _, _⟩ := box_cells3 HB0.out
      have HMA := Lib.hid (HM.out.stay ((Quiet0.alloc w (.cells #[.int .i64 k, .int .i64 n, .slice o len cap] 24)).trans (Quiet0.alloc _ (.cells #[.int .i64 0, .int .i64 0, .slice none 0 0] 24))))
      go_enter Tryd.func88, Tryd.ntmps88
      go_wp2_with (at_lookup; go_must (refine lookT_some _ rfl _ _ rfl rfl HMA.out n HN.out hqn rfl ?_))
      have HBU : Hid (W0.heap[w.heap.size + 1 + 1]? = some (.cells #[.int .i64 uk, .int .i64 un, .slice uo ul uc] 24 (0, 0))) := by
        rw [hW0, show w.heap.size + 1 + 1 = ((w.alloc (.cells #[.int .i64 k, .int .i64 n, .slice o len cap] 24)).alloc (.cells #[.int .i64 0, .int .i64 0, .slice none 0 0] 24)).heap.size from by simp]; exact heap_alloc_new _ _
      obtain ⟨x0, x1, x2, _, _, _⟩ := box_cells3 HBU.out
      have HCO := Lib.hid (copy_any uk un t.2.2.2 W0 uo ul uc (HUS.out.stay HQ0.out) HUZ.out)
      unfold tyv at HCO
      rw [← hW0]
      clear hW0 p0 p1 p2
      generalize hB : w.heap.size = B at *
      have HBE := Lib.hid hB
      clear hB
      refine HCO.out.mono ?_; rintro e w4 ⟨o2, cap2, rfl, hs4, hq4⟩
      have hbb := box_after HB1.out hq4
      have HB4 := Lib.hid hbb
      obtain ⟨d0, d1, d2, y0, y1, y2⟩ := box_cells3 hbb
      have HS4 := Lib.hid hs4
      have HQ4 := Lib.hid hq4
      clear hs4 hq4 hbb x0 x1 x2
      go_wp2_with fail
      clear d0 d1 d2 y0 y1 y2
      have hf := put3_fr w4 (B + 1) (.int .i64 uk) (.int .i64 un) (.slice o2 ul cap2)
      obtain ⟨f0, f1, f2⟩ := put3_cells (a := .int .i64 uk) (b := .int .i64 un) (c := .slice o2 ul cap2) HB4.out
      change bodyPost _ _ _ _ _ (put3 w4 (B + 1) (.int .i64 uk) (.int .i64 un) (.slice o2 ul cap2))
      generalize put3 w4 (B + 1) (.int .i64 uk) (.int .i64 un) (.slice o2 ul cap2) = wf at *
      refine bodyPost_ret (by simp [results, Tryd.results88, go_sem, f0, f1, f2]; rfl) rfl ?_
      refine ⟨o2, ul, cap2, rfl, HS4.out.fr hf ?_, ?_⟩
      · intro j _ hj
        have hj' : W0.heap.size ≤ j := hj
        have hz := HBE.out
        exact ⟨by omega, by omega⟩
      · exact Fr.trans' (Fr.trans' HQ0.out HQ4.out (fun _ _ h => h)) hf (fun i hi h => by have h' : i = B + 1 := h; have hz := HBE.out; omega)
end Go.Proofs.YtggidhgifaekbaaDoor
