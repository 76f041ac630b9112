/-
  Texts laid together (TyChange, TyVars, TyVars2, SuMem, SuRow, SuInts): what each one proves, and its conditions, stands at its head.
-/
import Derived.Handy
import Derived.Test.YtggidhgifaekbaaDoorMB1
import Derived.Test.YtggidhgifaekbaaDoorMB2
/-
  types.change and Copy. Conditions: the type lies in memory as told; there are few of them.
-/
namespace Go.Proofs.YtggidhgifaekbaaDoor
open Go.RowKit Go.Shelf

theorem elemTy : Elem Tryd.prog 22 24 (.agg #[.int .i64 0, .int .i64 0, .slice none 0 0]) 3 40 :=
  ⟨Tryd.underlying22, by kernel_rfl, by decide, by decide⟩
/-- what a function that is handed to change does -/
def DoK (g : Nat) (lb : Array Value) (w0 : World) (G : Int → Prop) (p : Int → Int) : Prop := ∀ (n : Int) (W : World), G n → Quiet0 w0 W →
  Calls Tryd.prog g (#[.int .i64 n] ++ lb) W fun e W' => e = .returned (.int .i64 (p n)) ∧ Quiet0 W W'
def newN (p : Int → Int) (k n : Int) : Int := if k == 1 then p n else n
def TChange (g : Nat) (lb : Array Value) (w0 : World) (G : Int → Prop) (p : Int → Int) (k n : Int) (ps : Fo) : Prop :=
  ∀ (w : World) (o : Option Addr) (len cap : Nat), Quiet0 w0 w → Slc w o len ps → ps.size ≤ 1000000 → G n → allF G ps →
    Calls Tryd.prog 79 #[tyv k n o len cap, .func (.func g) #[] lb] w fun e w' => ∃ o' cap', e = .returned (tyv k (newN p k n) o' len cap') ∧ SlcIn (fun b => w.heap.size ≤ b) w' o' len (ps.change p) ∧ Quiet0 w w'
theorem box_after {w W : World} {a b c : Value} {t : TypeId} {B : Nat} (h : w.heap[B]? = some (.cells #[a, b, c] t (0, 0))) (hq : Quiet0 w W) : W.heap[B]? = some (.cells #[a, b, c] t (0, 0)) := by
  rw [hq.block B (lt_of_block h) (fun h => h)]; exact h
theorem box_cells3 {w : World} {a b c : Value} {t : TypeId} {B : Nat} (h : w.heap[B]? = some (.cells #[a, b, c] t (0, 0))) : w.cell? ⟨B, 0, none⟩ = some a ∧ w.cell? ⟨B, 1, none⟩ = some b ∧ w.cell? ⟨B, 2, none⟩ = some c ∧ w.frozen? ⟨B, 0, none⟩ = false ∧ w.frozen? ⟨B, 1, none⟩ = false ∧ w.frozen? ⟨B, 2, none⟩ = false := by
  refine ⟨?_, ?_, ?_, ?_, ?_, ?_⟩
  · rw [cell_of_row _ _ _ _ _ (0, 0) h]; rfl
  · rw [cell_of_row _ _ _ _ _ (0, 0) h]; rfl
  · rw [cell_of_row _ _ _ _ _ (0, 0) h]; rfl
  · simp [World.frozen?, h]
  · simp [World.frozen?, h]
  · simp [World.frozen?, h]
theorem box_set1 {w : World} {a b c u : Value} {t : TypeId} {B : Nat} (h : w.heap[B]? = some (.cells #[a, b, c] t (0, 0))) : (w.setCell ⟨B, 1, none⟩ u).heap[B]? = some (.cells #[a, u, c] t (0, 0)) := by
  have hlt := lt_of_block h
  have h' : w.heap[B] = .cells #[a, b, c] t (0, 0) := by simpa [Array.getElem?_eq_getElem hlt] using h
  show (w.heap.modify B _)[B]? = _
  rw [Array.getElem?_eq_getElem (by simpa using hlt), Array.getElem_modify_self, h']
  rfl
theorem box_set0 {w : World} {a b c u : Value} {t : TypeId} {B : Nat} (h : w.heap[B]? = some (.cells #[a, b, c] t (0, 0))) : (w.setCell ⟨B, 0, none⟩ u).heap[B]? = some (.cells #[u, b, c] t (0, 0)) := by
  have hlt := lt_of_block h
  have h' : w.heap[B] = .cells #[a, b, c] t (0, 0) := by simpa [Array.getElem?_eq_getElem hlt] using h
  show (w.heap.modify B _)[B]? = _
  rw [Array.getElem?_eq_getElem (by simpa using hlt), Array.getElem_modify_self, h']
  rfl
theorem box_set2 {w : World} {a b c u : Value} {t : TypeId} {B : Nat} (h : w.heap[B]? = some (.cells #[a, b, c] t (0, 0))) : (w.setCell ⟨B, 2, none⟩ u).heap[B]? = some (.cells #[a, b, u] t (0, 0)) := by
  have hlt := lt_of_block h
  have h' : w.heap[B] = .cells #[a, b, c] t (0, 0) := by simpa [Array.getElem?_eq_getElem hlt] using h
  show (w.heap.modify B _)[B]? = _
  rw [Array.getElem?_eq_getElem (by simpa using hlt), Array.getElem_modify_self, h']
  rfl
set_option maxHeartbeats 4000000 in
theorem change_any {g : Nat} {lb : Array Value} {w0 : World} {G : Int → Prop} {p : Int → Int} (eg : ∀ args w, (callFunc g args).run Tryd.prog w = .ok (.enter g args) w) (hK : DoK g lb w0 G p) (k n : Int) (ps : Fo) : TChange g lb w0 G p k n ps := by
  refine Fo.ind' (T := TChange g lb w0 G p) ?_ k n ps
  intro k n ps ih w o len cap hw hs hsz hgn hgp
  have HGN := Lib.hid hgn
  have HGP := Lib.hid hgp
  clear hgn hgp
  have HS := Lib.hid hs
  have IH := Lib.hid ih
  have HL := Lib.hid hs.1
  have hmx := hs.2.1
  have hll := Fo.length_le ps
  rw [← hs.1] at hll
  unfold maxLen at hmx
  have HK := Lib.hid hK
  have HW := Lib.hid hw
  have hb0 : ((w.alloc (.cells #[.int .i64 k, .int .i64 n, .slice o len cap] 24)).alloc (.cells #[.int .i64 0, .int .i64 0, .slice none 0 0] 24)).heap[w.heap.size]? = some (.cells #[.int .i64 k, .int .i64 n, .slice o len cap] 24 (0, 0)) := by
    rw [Below.heap_alloc _ _ _ (by simp)]; exact heap_alloc_new w _
  have hb1 : ((w.alloc (.cells #[.int .i64 k, .int .i64 n, .slice o len cap] 24)).alloc (.cells #[.int .i64 0, .int .i64 0, .slice none 0 0] 24)).heap[w.heap.size + 1]? = some (.cells #[.int .i64 0, .int .i64 0, .slice none 0 0] 24 (0, 0)) := by
    have := heap_alloc_new (w.alloc (.cells #[.int .i64 k, .int .i64 n, .slice o len cap] 24)) (.cells #[.int .i64 0, .int .i64 0, .slice none 0 0] 24)
    simpa using this
  have HB0 := Lib.hid hb0
  have HB1 := Lib.hid hb1
  clear hs ih hK hw hb0 hb1
  unfold tyv
  cases hk : (k == 1)
  · go_enter Tryd.func79, Tryd.ntmps79
    go_wp2_with fail
    obtain ⟨W0, hW0⟩ : ∃ W0, W0 = ((w.alloc (.cells #[.int .i64 k, .int .i64 n, .slice o len cap] 24)).alloc (.cells #[.int .i64 0, .int .i64 0, .slice none 0 0] 24)) := ⟨_, rfl⟩
    change Code.wp _ _ _ _ ((w.alloc (.cells #[.int .i64 k, .int .i64 n, .slice o len cap] 24)).alloc (.cells #[.int .i64 0, .int .i64 0, .slice none 0 0] 24))
    have HQ0 : Hid (Quiet0 w W0) := by rw [hW0]; exact (Quiet0.alloc _ _).trans (Quiet0.alloc _ _)
    have hz0 : w.heap.size + 2 ≤ W0.heap.size := by rw [hW0]; simp
    have HN : Hid (newN p k n = n) := by show _ = _; unfold newN; rw [hk]; rfl
    rw [← hW0] at HB0 HB1 ⊢
    clear hW0 hk
    generalize hnn : newN p k n = n' at *
    generalize hB : w.heap.size = B at *
    have HBE := Lib.hid hB
    clear hB
    go_loopw [5, 19] (fun v t wr => ∃ (i : Nat) (f : Fo) (xs : List Value) (vo : Option Addr) (vc : Nat), t = .int .i64 i ∧ i ≤ len ∧ v = .slice vo i vc ∧ f.length = i ∧ f.app ((ps.drop i).change p) = ps.change p ∧ TyRow wr W0.heap.size (.slice vo i vc) f xs ∧ Quiet0 W0 wr) (fun _ t _ => len - (intOf t).toNat)
    case atStart => exact ⟨0, .nil, [], none, 0, rfl, Nat.zero_le _, rfl, rfl, by rw [Fo.drop_zero]; rfl, TyRow.nil _ _, Quiet0.refl _⟩
    case round =>
      obtain ⟨i, f, xs, vo, vc, rfl, hi, rfl, hfl, hap, hrow, hq⟩ := hrel
      have HF := Lib.hid hfl
      have HAP := Lib.hid hap
      have HR := Lib.hid hrow
      have HQ := Lib.hid hq
      clear hfl hap hrow hq
      by_cases hlt : i < len
      · have hlt' : (i : Int) < len := by omega
        obtain ⟨b, off, k1, n1, qs, o1, len1, cap1, rfl, hd, hg, e0, e1, e2, hs1⟩ := (HS.out.stay (HQ0.out.trans HQ.out)).nth hlt
        have hsq := Fo.size_get ps i k1 n1 qs hg
        have HC := Lib.hid (IH.out i k1 n1 qs hg (wr.alloc (.cells #[.int .i64 k1, .int .i64 n1, .slice o1 len1 cap1] 24)) o1 len1 cap1 (HW.out.trans ((HQ0.out.trans HQ.out).trans (Quiet0.alloc _ _))) (hs1.stay (Quiet0.alloc _ _)) (by omega) (allF_get ps i k1 n1 qs HGP.out hg).1 (allF_get ps i k1 n1 qs HGP.out hg).2)
        have HD : Hid ((f.app (.cons k1 (newN p k1 n1) (qs.change p) .nil)).app ((ps.drop (i + 1)).change p) = ps.change p) := by
          show _ = _
          rw [← HAP.out, hd, Fo.app_assoc]; rfl
        unfold tyv at HC
        clear hd hg hs1 hsq
        generalize newN p k1 n1 = n2 at *
        go_wp2_with fail
        refine HC.out.mono ?_; rintro e w1 ⟨o2, cap2, rfl, hs2, hq1⟩
        have HS2 := Lib.hid hs2
        have HQ1 := Lib.hid ((Quiet0.alloc _ _).trans hq1)
        have HR1 := Lib.hid (HR.out.stay HQ1.out)
        clear hs2 hq1
        go_wp2_with (at_builtin; go_must (refine wpList_append_one w1 rfl (.tmp 23) (.tmp 27) 22 rfl 24 _ 3 40 elemTy (.slice vo i vc) i xs rfl (HF.out ▸ HR1.out.own) #[.int .i64 k1, .int .i64 n2, .slice o2 len1 cap2] rfl rfl ?c1 ?c2 ?c3 ?_))
        case c1 => simp [Value.oneCell']
        case c2 => unfold maxLen; omega
        case c3 => omega
        intro g2 c' w2 ho hf hg2
        have hlow : W0.heap.size ≤ w1.heap.size := Nat.le_trans HQ.out.size HQ1.out.size
        have hown : ∀ kk, (Value.slice vo i vc).ownBlock = some kk → kk < wr.heap.size := fun kk h => (HR.out.own.lt kk h).2
        have HR2 : Hid (TyRow w2 W0.heap.size (.slice (some ⟨g2, 0, none⟩) (i + 1) c') (f.app (.cons k1 n2 (qs.change p) .nil)) (xs ++ [.int .i64 k1, .int .i64 n2, .slice o2 len1 cap2])) := by
          show TyRow _ _ _ _ _
          have hf' := HF.out
          subst hf'
          refine TyRow.snoc HR1.out (HS2.out.fr (Fr.refl (fun _ => False) _) ?_) ho hf hg2 hlow
          intro kk _ hkk
          have hkk' : (wr.alloc (.cells #[.int .i64 k1, .int .i64 n1, .slice o1 len1 cap1] 24)).heap.size ≤ kk := hkk
          simp at hkk'
          refine ⟨⟨by have := HQ.out.size; omega, fun h => ?_⟩, fun h => h⟩
          have := hown kk h; omega
        have HQ2 : Hid (Quiet0 W0 w2) := by
          show Quiet0 _ _
          exact Fr.trans' (HQ.out.trans HQ1.out) hf (fun kk hkk h => absurd (HR.out.low kk h) (by omega))
        have HL2 : Hid ((f.app (.cons k1 n2 (qs.change p) .nil)).length = i + 1) := by
          show _ = _
          rw [Fo.app_length, HF.out]; rfl
        clear ho hf hg2 hown
        go_wp2_with fail
        go_roundw
        case rel => exact ⟨i + 1, _, _, some ⟨g2, 0, none⟩, c', by go_num, by omega, rfl, HL2.out, HD.out, HR2.out, HQ2.out⟩
        case measure => simp [intOf]; omega
      · have hlt' : ¬ (i : Int) < len := by omega
        have hb1 := box_after HB1.out HQ.out
        have hb0 := box_after HB0.out HQ.out
        obtain ⟨c0, c1, c2, z0, z1, z2⟩ := box_cells3 hb0
        obtain ⟨d0, d1, d2, y0, y1, y2⟩ := box_cells3 hb1
        have HB0 := Lib.hid hb0
        have HB1 := Lib.hid hb1
        clear hb0 hb1
        have hil : i = len := by omega
        have HFIN : Hid (∀ u v x y : Value, SlcIn (fun b => w.heap.size ≤ b) ((((wr.setCell ⟨B, 2, none⟩ u).setCell ⟨B + 1, 0, none⟩ v).setCell ⟨B + 1, 1, none⟩ x).setCell ⟨B + 1, 2, none⟩ y) vo len (ps.change p) ∧ Quiet0 w ((((wr.setCell ⟨B, 2, none⟩ u).setCell ⟨B + 1, 0, none⟩ v).setCell ⟨B + 1, 1, none⟩ x).setCell ⟨B + 1, 2, none⟩ y)) := by
          intro u v x y
          have hf : Fr (fun kk => kk = B ∨ kk = B + 1) wr ((((wr.setCell ⟨B, 2, none⟩ u).setCell ⟨B + 1, 0, none⟩ v).setCell ⟨B + 1, 1, none⟩ x).setCell ⟨B + 1, 2, none⟩ y) :=
            (((Fr.setCell _ _ _ _ (.inl rfl)).trans (Fr.setCell _ _ _ _ (.inr rfl))).trans (Fr.setCell _ _ _ _ (.inr rfl))).trans (Fr.setCell _ _ _ _ (.inr rfl))
          have hap := HAP.out
          subst hil
          rw [Fo.drop_end ps i (by have := HL.out; omega)] at hap
          simp only [Fo.change] at hap
          rw [Fo.app_nil] at hap
          refine ⟨?_, ?_⟩
          · rw [← hap]
            refine (HR.out.slc HF.out.symm (by unfold maxLen; omega)).fr hf ?_
            intro kk _ hkk
            have hkk' : W0.heap.size ≤ kk := hkk
            have hz := HBE.out
            exact ⟨by omega, by omega⟩
          · exact Fr.trans' (HQ0.out.trans HQ.out) hf (fun kk hkk h => by have hz := HBE.out; omega)
        go_wp2_with fail
        have hbf := box_set2 (u := .slice vo len vc) (box_set1 (u := .int .i64 n') (box_set0 (u := .int .i64 k) (B := B + 1) (w := wr.setCell ⟨B, 2, none⟩ (.slice vo len vc)) (by rw [Below.heap_setCell _ _ _ _ (by show B + 1 ≠ B; omega)]; exact HB1.out)))
        obtain ⟨f0, f1, f2, _, _, _⟩ := box_cells3 hbf
        have HFF := HFIN.out (.slice vo len vc) (.int .i64 k) (.int .i64 n') (.slice vo len vc)
        have hn' := HN.out
        clear hbf
        rw [hn'] at f0 f1 f2 HFF ⊢
        generalize ((((wr.setCell ⟨B, 2, none⟩ (.slice vo len vc)).setCell ⟨B + 1, 0, none⟩ (.int .i64 k)).setCell ⟨B + 1, 1, none⟩ (.int .i64 n)).setCell ⟨B + 1, 2, none⟩ (.slice vo len vc)) = wf at *
        refine bodyPost_ret (by simp [results, Tryd.results79, go_sem, f0, f1, f2]; rfl) rfl ?_
        exact ⟨vo, ⟨vc, rfl⟩, HFF⟩
  · go_enter Tryd.func79, Tryd.ntmps79
    go_wp2_with fail
    refine (HK.out n _ HGN.out (HW.out.trans ((Quiet0.alloc _ _).trans (Quiet0.alloc _ _)))).mono ?_; rintro e w1 ⟨rfl, hq1⟩
    have hb1 := box_after HB1.out hq1
    have hb0 := box_after HB0.out hq1
    obtain ⟨c0, c1, c2, z0, z1, z2⟩ := box_cells3 hb0
    have HB0 := Lib.hid hb0
    have HB1 := Lib.hid hb1
    clear hb0 hb1
    go_wp2_with fail
    obtain ⟨W0, hW0⟩ : ∃ W0, W0 = w1.setCell ⟨w.heap.size, 1, none⟩ (.int .i64 (p n)) := ⟨_, rfl⟩
    change Code.wp _ _ _ _ (w1.setCell ⟨w.heap.size, 1, none⟩ (.int .i64 (p n)))
    have hsz1 : w.heap.size + 2 ≤ w1.heap.size := by have := hq1.size; simp at this; omega
    have HQ0 : Hid (Quiet0 w W0) := by
      rw [hW0]
      exact (((Quiet0.alloc _ _).trans (Quiet0.alloc _ _)).trans hq1).trans' (Fr.setCell (fun kk => kk = w.heap.size) _ _ _ rfl) (fun i hi h => by omega)
    have hz0 : w.heap.size + 2 ≤ W0.heap.size := by rw [hW0]; simpa [World.setCell] using hsz1
    have HN : Hid (newN p k n = p n) := by show _ = _; unfold newN; rw [hk]; rfl
    replace HB0 : Hid (W0.heap[w.heap.size]? = some (.cells #[.int .i64 k, .int .i64 (p n), .slice o len cap] 24 (0, 0))) := by
      rw [hW0]; exact box_set1 HB0.out
    replace HB1 : Hid (W0.heap[w.heap.size + 1]? = some (.cells #[.int .i64 0, .int .i64 0, .slice none 0 0] 24 (0, 0))) := by
      show _ = _
      rw [hW0, Below.heap_setCell _ _ _ _ (by show w.heap.size + 1 ≠ w.heap.size; omega)]; exact HB1.out
    rw [← hW0]
    clear hW0 hk hsz1 c0 c1 c2 z0 z1 z2 hq1
    generalize hnn : newN p k n = n' at *
    generalize hB : w.heap.size = B at *
    have HBE := Lib.hid hB
    clear hB
    go_loopw [5, 19] (fun v t wr => ∃ (i : Nat) (f : Fo) (xs : List Value) (vo : Option Addr) (vc : Nat), t = .int .i64 i ∧ i ≤ len ∧ v = .slice vo i vc ∧ f.length = i ∧ f.app ((ps.drop i).change p) = ps.change p ∧ TyRow wr W0.heap.size (.slice vo i vc) f xs ∧ Quiet0 W0 wr) (fun _ t _ => len - (intOf t).toNat)
    case atStart => exact ⟨0, .nil, [], none, 0, rfl, Nat.zero_le _, rfl, rfl, by rw [Fo.drop_zero]; rfl, TyRow.nil _ _, Quiet0.refl _⟩
    case round =>
      obtain ⟨i, f, xs, vo, vc, rfl, hi, rfl, hfl, hap, hrow, hq⟩ := hrel
      have HF := Lib.hid hfl
      have HAP := Lib.hid hap
      have HR := Lib.hid hrow
      have HQ := Lib.hid hq
      clear hfl hap hrow hq
      by_cases hlt : i < len
      · have hlt' : (i : Int) < len := by omega
        obtain ⟨b, off, k1, n1, qs, o1, len1, cap1, rfl, hd, hg, e0, e1, e2, hs1⟩ := (HS.out.stay (HQ0.out.trans HQ.out)).nth hlt
        have hsq := Fo.size_get ps i k1 n1 qs hg
        have HC := Lib.hid (IH.out i k1 n1 qs hg (wr.alloc (.cells #[.int .i64 k1, .int .i64 n1, .slice o1 len1 cap1] 24)) o1 len1 cap1 (HW.out.trans ((HQ0.out.trans HQ.out).trans (Quiet0.alloc _ _))) (hs1.stay (Quiet0.alloc _ _)) (by omega) (allF_get ps i k1 n1 qs HGP.out hg).1 (allF_get ps i k1 n1 qs HGP.out hg).2)
        have HD : Hid ((f.app (.cons k1 (newN p k1 n1) (qs.change p) .nil)).app ((ps.drop (i + 1)).change p) = ps.change p) := by
          show _ = _
          rw [← HAP.out, hd, Fo.app_assoc]; rfl
        unfold tyv at HC
        clear hd hg hs1 hsq
        generalize newN p k1 n1 = n2 at *
        go_wp2_with fail
        refine HC.out.mono ?_; rintro e w1 ⟨o2, cap2, rfl, hs2, hq1⟩
        have HS2 := Lib.hid hs2
        have HQ1 := Lib.hid ((Quiet0.alloc _ _).trans hq1)
        have HR1 := Lib.hid (HR.out.stay HQ1.out)
        clear hs2 hq1
        go_wp2_with (at_builtin; go_must (refine wpList_append_one w1 rfl (.tmp 23) (.tmp 27) 22 rfl 24 _ 3 40 elemTy (.slice vo i vc) i xs rfl (HF.out ▸ HR1.out.own) #[.int .i64 k1, .int .i64 n2, .slice o2 len1 cap2] rfl rfl ?c1 ?c2 ?c3 ?_))
        case c1 => simp [Value.oneCell']
        case c2 => unfold maxLen; omega
        case c3 => omega
        intro g2 c' w2 ho hf hg2
        have hlow : W0.heap.size ≤ w1.heap.size := Nat.le_trans HQ.out.size HQ1.out.size
        have hown : ∀ kk, (Value.slice vo i vc).ownBlock = some kk → kk < wr.heap.size := fun kk h => (HR.out.own.lt kk h).2
        have HR2 : Hid (TyRow w2 W0.heap.size (.slice (some ⟨g2, 0, none⟩) (i + 1) c') (f.app (.cons k1 n2 (qs.change p) .nil)) (xs ++ [.int .i64 k1, .int .i64 n2, .slice o2 len1 cap2])) := by
          show TyRow _ _ _ _ _
          have hf' := HF.out
          subst hf'
          refine TyRow.snoc HR1.out (HS2.out.fr (Fr.refl (fun _ => False) _) ?_) ho hf hg2 hlow
          intro kk _ hkk
          have hkk' : (wr.alloc (.cells #[.int .i64 k1, .int .i64 n1, .slice o1 len1 cap1] 24)).heap.size ≤ kk := hkk
          simp at hkk'
          refine ⟨⟨by have := HQ.out.size; omega, fun h => ?_⟩, fun h => h⟩
          have := hown kk h; omega
        have HQ2 : Hid (Quiet0 W0 w2) := by
          show Quiet0 _ _
          exact Fr.trans' (HQ.out.trans HQ1.out) hf (fun kk hkk h => absurd (HR.out.low kk h) (by omega))
        have HL2 : Hid ((f.app (.cons k1 n2 (qs.change p) .nil)).length = i + 1) := by
          show _ = _
          rw [Fo.app_length, HF.out]; rfl
        clear ho hf hg2 hown
        go_wp2_with fail
        go_roundw
        case rel => exact ⟨i + 1, _, _, some ⟨g2, 0, none⟩, c', by go_num, by omega, rfl, HL2.out, HD.out, HR2.out, HQ2.out⟩
        case measure => simp [intOf]; omega
      · have hlt' : ¬ (i : Int) < len := by omega
        have hb1 := box_after HB1.out HQ.out
        have hb0 := box_after HB0.out HQ.out
        obtain ⟨c0, c1, c2, z0, z1, z2⟩ := box_cells3 hb0
        obtain ⟨d0, d1, d2, y0, y1, y2⟩ := box_cells3 hb1
        have HB0 := Lib.hid hb0
        have HB1 := Lib.hid hb1
        clear hb0 hb1
        have hil : i = len := by omega
        have HFIN : Hid (∀ u v x y : Value, SlcIn (fun b => w.heap.size ≤ b) ((((wr.setCell ⟨B, 2, none⟩ u).setCell ⟨B + 1, 0, none⟩ v).setCell ⟨B + 1, 1, none⟩ x).setCell ⟨B + 1, 2, none⟩ y) vo len (ps.change p) ∧ Quiet0 w ((((wr.setCell ⟨B, 2, none⟩ u).setCell ⟨B + 1, 0, none⟩ v).setCell ⟨B + 1, 1, none⟩ x).setCell ⟨B + 1, 2, none⟩ y)) := by
          intro u v x y
          have hf : Fr (fun kk => kk = B ∨ kk = B + 1) wr ((((wr.setCell ⟨B, 2, none⟩ u).setCell ⟨B + 1, 0, none⟩ v).setCell ⟨B + 1, 1, none⟩ x).setCell ⟨B + 1, 2, none⟩ y) :=
            (((Fr.setCell _ _ _ _ (.inl rfl)).trans (Fr.setCell _ _ _ _ (.inr rfl))).trans (Fr.setCell _ _ _ _ (.inr rfl))).trans (Fr.setCell _ _ _ _ (.inr rfl))
          have hap := HAP.out
          subst hil
          rw [Fo.drop_end ps i (by have := HL.out; omega)] at hap
          simp only [Fo.change] at hap
          rw [Fo.app_nil] at hap
          refine ⟨?_, ?_⟩
          · rw [← hap]
            refine (HR.out.slc HF.out.symm (by unfold maxLen; omega)).fr hf ?_
            intro kk _ hkk
            have hkk' : W0.heap.size ≤ kk := hkk
            have hz := HBE.out
            exact ⟨by omega, by omega⟩
          · exact Fr.trans' (HQ0.out.trans HQ.out) hf (fun kk hkk h => by have hz := HBE.out; omega)
        go_wp2_with fail
        have hbf := box_set2 (u := .slice vo len vc) (box_set1 (u := .int .i64 n') (box_set0 (u := .int .i64 k) (B := B + 1) (w := wr.setCell ⟨B, 2, none⟩ (.slice vo len vc)) (by rw [Below.heap_setCell _ _ _ _ (by show B + 1 ≠ B; omega)]; exact HB1.out)))
        obtain ⟨f0, f1, f2, _, _, _⟩ := box_cells3 hbf
        have HFF := HFIN.out (.slice vo len vc) (.int .i64 k) (.int .i64 n') (.slice vo len vc)
        have hn' := HN.out
        clear hbf
        rw [hn'] at f0 f1 f2 HFF ⊢
        generalize ((((wr.setCell ⟨B, 2, none⟩ (.slice vo len vc)).setCell ⟨B + 1, 0, none⟩ (.int .i64 k)).setCell ⟨B + 1, 1, none⟩ (.int .i64 (p n))).setCell ⟨B + 1, 2, none⟩ (.slice vo len vc)) = wf at *
        refine bodyPost_ret (by simp [results, Tryd.results79, go_sem, f0, f1, f2]; rfl) rfl ?_
        exact ⟨vo, ⟨vc, rfl⟩, HFF⟩
end Go.Proofs.YtggidhgifaekbaaDoor
/-
  types.Vars. Conditions: the types lie in memory as told; their numbers are in range; there are few of them.
-/
namespace Go.Proofs.YtggidhgifaekbaaDoor
open Go.RowKit Go.Maps

theorem elemInt : Elem Tryd.prog 45 3 (.int .i64 0) 1 8 :=
  ⟨Tryd.underlying45, by kernel_rfl, by decide, by decide⟩
def varStep (l : List Int) (k n : Int) (_ : Fo) : List Int := if k == 1 && !inB l n then l ++ [n] else l
theorem vars_fold : ∀ (f : Fo) (l : List Int), foldF varStep l f = Fo.vars l f
  | .nil, l => rfl
  | .cons k n ps r, l => by
    show foldF varStep (foldF varStep (varStep l k n ps) ps) r = _
    rw [vars_fold ps, vars_fold r]; rfl
def seenP (l : List Int) (v : Int) : Int := if inB l v then 1 else 0
def ints (l : List Int) : List Value := l.map (Value.int .i64)
/-- what Vars' closure has under way -/
def VarsJ (w0 : World) (cs co bm : Nat) (m : Nat) (l : List Int) (W : World) : Prop :=
  ∃ vo, Box1 W cs (.map (some bm)) 84 ∧ Box1 W co vo 45 ∧ MapOf W bm m (seenP l) ∧ W.ownsRow 0 3 1 vo l.length (ints l) ∧ (∀ g, vo.ownBlock = some g → w0.heap.size ≤ g ∧ g ≠ cs ∧ g ≠ co ∧ g ≠ bm) ∧ l.length ≤ m ∧ Quiet0 w0 W
def VarsS (co bm : Nat) (W : World) (k : Nat) : Prop := k = co ∨ k = bm ∨ ∃ vo, Box1 W co vo 45 ∧ vo.ownBlock = some k
theorem Box1.inj {w : World} {c : Nat} {v u : Value} {t t' : TypeId} (h : Box1 w c v t) (h' : Box1 w c u t') : v = u := by
  unfold Box1 at *
  rw [h] at h'
  injection h' with h'
  injection h' with h1 h2 h3
  have := congrArg (fun a : Array Value => a[0]?) h1
  simpa using this
theorem Box1.back {w : World} {c : Nat} {v u : Value} {t t' : TypeId} {o : Obj} (h : Box1 w c v t) (h' : Box1 (w.alloc o) c u t') : Box1 w c u t' := by
  have := lt_of_block h
  unfold Box1 at *
  rw [Below.heap_alloc _ _ _ this] at h'; exact h'
theorem Box1.fr {w w' : World} {c : Nat} {v : Value} {t : TypeId} {S : Nat → Prop} (h : Box1 w c v t) (hf : Fr S w w') (hS : ¬ S c) : Box1 w' c v t := by
  have := lt_of_block h
  unfold Box1 at *
  rw [hf.block c this hS]; exact h
theorem inB_snoc (l : List Int) (n v : Int) : inB (l ++ [n]) v = (inB l v || v == n) := by
  unfold inB; rw [Bool.eq_iff_iff]; simp
set_option maxHeartbeats 2000000 in
set_option maxRecDepth 100000 in
theorem vars1_any (w0 : World) (cs co bm : Nat) (hcs : w0.heap.size ≤ cs) (hco : w0.heap.size ≤ co) (hbm : w0.heap.size ≤ bm) (h12 : cs ≠ co) (h13 : cs ≠ bm) (h23 : co ≠ bm) :
    EachK 82 #[.pointer (some ⟨cs, 0, none⟩), .pointer (some ⟨co, 0, none⟩)] 10000000 w0 wfI (VarsS co bm) varStep (VarsJ w0 cs co bm) where
  quiet := fun m l W h => by obtain ⟨vo, _, _, _, _, _, _, h⟩ := h; exact h
  alloc := fun m l W o h => by
    obtain ⟨vo, h1, h2, h3, h4, h5, h6, h7⟩ := h
    exact ⟨vo, h1.alloc o, h2.alloc o, h3.stay (Quiet0.alloc _ _), h4.alloc o, h5, h6, h7.trans (Quiet0.alloc _ _)⟩
  low := fun m l W h k hk => by
    obtain ⟨vo, h1, h2, h3, h4, h5, h6, h7⟩ := h
    rcases hk with rfl | rfl | ⟨vo', hb, hk⟩
    · exact lt_of_block h2
    · exact h3.lt
    · have := h2.inj hb
      subst this
      exact (h4.lt k hk).2
  back := fun m l W o k h hk => by
    obtain ⟨vo, h1, h2, h3, h4, h5, h6, h7⟩ := h
    rcases hk with rfl | rfl | ⟨vo', hb, hk⟩
    · exact .inl rfl
    · exact .inr (.inl rfl)
    · exact .inr (.inr ⟨vo', h2.back hb, hk⟩)
  call := by
    intro m l k n ps W o len cap hm hJ hs hgn
    have HJ := Lib.hid hJ
    obtain ⟨vo, h1, h2, h3, h4, h5, h6, h7⟩ := hJ
    have HW := Lib.hid hgn
    have H1 := Lib.hid h1
    have H2 := Lib.hid h2
    have H3 := Lib.hid (h3.stay (Quiet0.alloc W (.cells #[.int .i64 k, .int .i64 n, .slice o len cap] 24)))
    have H4 := Lib.hid h4
    have H5 := Lib.hid h5
    have H6 := Lib.hid h6
    have H7 := Lib.hid h7
    have hb1 := h1.alloc (.cells #[.int .i64 k, .int .i64 n, .slice o len cap] 24)
    have hb2 := h2.alloc (.cells #[.int .i64 k, .int .i64 n, .slice o len cap] 24)
    have c1 := cell_of_one hb1
    have c2 := cell_of_one hb2
    have z2 := free_of_one hb2
    have hcl := lt_of_block h1
    have hol := lt_of_block h2
    have HQA : Hid (Quiet0 W (W.alloc (.cells #[.int .i64 k, .int .i64 n, .slice o len cap] 24))) := Quiet0.alloc _ _
    have HNO : Hid (varStep l k n ps = l → ∀ W', Quiet0 W W' → VarsJ w0 cs co bm (m + 1) (varStep l k n ps) W' ∧ Fr (VarsS co bm W) W W') := by
      intro e W' hq
      rw [e]
      refine ⟨⟨vo, h1.fr hq (fun h => h), h2.fr hq (fun h => h), ?_, ownsRow_fr h4 hq (fun _ _ h => h), h5, by omega, h7.trans hq⟩, hq.mono (fun _ _ h => h.elim)⟩
      obtain ⟨D, hD, hM, hA⟩ := h3.stay hq
      exact ⟨D, hD.mono (by omega), hM, hA⟩
    clear h1 h2 h3 h4 h5 h6 h7 hgn hs hb1 hb2
    have hlk := H3.out.look HW.out
    unfold tyv
    cases hk : (k == 1)
    · go_enter Tryd.func82, Tryd.ntmps82
      go_wp2_with fail
      go_end0
      exact ⟨rfl, HNO.out (by unfold varStep; rw [hk]; rfl) _ HQA.out⟩
    · cases hin : inB l n
      · have hsn : (seenP l n == 0) = true := by unfold seenP; rw [hin]; rfl
        have hsz : seenP l n = 0 := by unfold seenP; rw [hin]; rfl
        have HV : Hid (varStep l k n ps = l ++ [n]) := by show _ = _; unfold varStep; rw [hk, hin]; rfl
        have HIN := Lib.hid hin
        clear hin
        rw [hsz] at hlk
        have hbm := H3.out.lt
        have hbmW : bm < W.heap.size := by
          obtain ⟨vo', _, _, h3, _⟩ := HJ.out
          exact h3.lt
        have hbx := heap_alloc_new W (.cells #[.int .i64 k, .int .i64 n, .slice o len cap] 24)
        have HBX := Lib.hid hbx
        clear hbx hsz hsn
        go_enter Tryd.func82, Tryd.ntmps82
        go_wp2_with (at_mapUpdate; go_must (refine wpList_store _ rfl _ _ _ rfl rfl H3.out ?hn n 1 HW.out (wfI_of (by omega) (by omega)) rfl rfl ?_))
        case hn => unfold maxLen; omega
        intro w1 hm1 hf1
        have B1 := Lib.hid (Box1.fr (H1.out.alloc _) hf1 (fun h => h13 h))
        have B2 := Lib.hid (Box1.fr (H2.out.alloc _) hf1 (fun h => h23 h))
        have HB1 : Hid (w1.heap[W.heap.size]? = some (.cells #[.int .i64 k, .int .i64 n, .slice o len cap] 24 (0, 0))) := by
          show _ = _
          rw [hf1.block W.heap.size (by simp) (fun h => by have h' : W.heap.size = bm := h; omega)]; exact HBX.out
        have HM1 := Lib.hid hm1
        have HF1 := Lib.hid hf1
        have H41 : Hid (w1.ownsRow 0 3 1 vo l.length (ints l)) := ownsRow_fr (H4.out.alloc _) hf1 (fun g hg h => (H5.out g hg).2.2.2 h)
        obtain ⟨g0, g1, g2, _, _, _⟩ := box_cells3 HB1.out
        have d2 := cell_of_one B2.out
        clear c1 c2 z2 hlk hm1 hf1
        go_wp2_with (at_builtin; go_must (refine wpList_append_one w1 rfl (.tmp 19) (.tmp 22) 45 rfl 3 _ 1 8 elemInt vo l.length (ints l) rfl H41.out #[.int .i64 n] rfl rfl ?c1 ?c2 ?c3 ?_))
        case c1 => simp [Value.oneCell']
        case c2 => have := H6.out; unfold maxLen; omega
        case c3 => have := H6.out; omega
        intro gg c' w2 ho hf hgg
        have hz1 : W.heap.size + 1 ≤ w1.heap.size := by have := HF1.out.size; simpa using this
        have C1 := Lib.hid (Box1.fr B1.out hf (fun h => (H5.out _ h).2.1 rfl))
        have C2 := Lib.hid (Box1.fr B2.out hf (fun h => (H5.out _ h).2.2.1 rfl))
        have CM := Lib.hid (HM1.out.fr hf (fun h => (H5.out _ h).2.2.2 rfl))
        have e2 := cell_of_one C2.out
        have y2 := free_of_one C2.out
        have HOW := Lib.hid ho
        have HFW := Lib.hid hf
        have HGG : Hid (w0.heap.size ≤ gg ∧ gg ≠ cs ∧ gg ≠ co ∧ gg ≠ bm) := by
          rcases hgg with h | h
          · exact H5.out gg h
          · have := H7.out.size
            exact ⟨by omega, by omega, by omega, by omega⟩
        clear g0 g1 g2 d2 ho hf hgg
        go_wp2_with fail
        go_end0
        have hset := Fr.setCell (fun j => j = co) w2 ⟨co, 0, none⟩ (.slice (some ⟨gg, 0, none⟩) (l.length + 1) c') rfl
        refine ⟨rfl, ?_, ?_⟩
        · rw [HV.out]
          refine ⟨.slice (some ⟨gg, 0, none⟩) (l.length + 1) c', C1.out.fr hset (fun h => h12 h), one_setCell C2.out, (CM.out.fr hset (fun h => h23 h.symm)).cong ?_, ?_, ?_, by simp; have := H6.out; omega, ?_⟩
          · intro v hv
            unfold seenP
            rw [inB_snoc]
            by_cases he : v = n
            · simp [he]
            · simp [he]
          · have hrow := ownsRow_setCell_other HOW.out ⟨co, 0, none⟩ (.slice (some ⟨gg, 0, none⟩) (l.length + 1) c') (by
              intro h; simp [Value.ownBlock] at h; exact HGG.out.2.2.1 h)
            simpa [ints] using hrow
          · intro g hg
            simp [Value.ownBlock] at hg
            subst hg
            exact HGG.out
          · refine Fr.trans' (Fr.trans' (Fr.trans' (H7.out.trans HQA.out) HF1.out (fun i hi h => ?_)) HFW.out (fun i hi h => ?_)) hset (fun i hi h => ?_)
            · have h' : i = bm := h; omega
            · have := (H5.out i h).1; omega
            · have h' : i = co := h; omega
        · refine Fr.trans' (Fr.trans' (Fr.trans' (HQA.out.mono (fun _ _ h => h.elim)) HF1.out (fun i hi h => .inr (.inl h))) HFW.out (fun i hi h => .inr (.inr ⟨vo, H2.out, h⟩))) hset (fun i hi h => .inl h)
      · have hsn : (seenP l n == 0) = false := by unfold seenP; rw [hin]; rfl
        go_enter Tryd.func82, Tryd.ntmps82
        go_wp2_with fail
        go_end0
        exact ⟨rfl, HNO.out (by unfold varStep; rw [hk, hin]; rfl) _ HQA.out⟩
end Go.Proofs.YtggidhgifaekbaaDoor
/-
  types.Vars, whole. Conditions: as TyVars'.
-/
namespace Go.Proofs.YtggidhgifaekbaaDoor
open Go.RowKit Go.Maps

theorem At.lt {w : World} : ∀ (f : Fo) (b off : Nat), At w b off f → AtIn (fun k => k < w.heap.size) w b off f
  | .nil, _, _, _ => trivial
  | .cons k n ps r, b, off, h => by
    obtain ⟨h1, h2, ⟨o, len, cap, h3, h4, h4', h5⟩, h6⟩ := h
    refine ⟨World.block_lt_of_cell? w _ h1, h1, h2, ⟨o, len, cap, h3, h4, h4', fun hl => ?_⟩, At.lt r b (off + 3) h6⟩
    obtain ⟨b', off', ho, ha⟩ := h5 hl
    exact ⟨b', off', ho, At.lt ps b' off' ha⟩
theorem Slc.lt {w : World} {o : Option Addr} {len : Nat} {f : Fo} (h : Slc w o len f) : SlcIn (fun k => k < w.heap.size) w o len f := by
  refine ⟨h.1, h.2.1, fun hl => ?_⟩
  obtain ⟨b, off, ho, ha⟩ := h.2.2 hl
  exact ⟨b, off, ho, At.lt f b off ha⟩
theorem eg_vars : ∀ args w, (callFunc 82 args).run Tryd.prog w = .ok (.enter 82 args) w := enters_of Tryd.func82 (by kernel_rfl) rfl
/-- a row of integers as a value: owned, and new -/
def IntRow (B : Nat) (w : World) (vo : Value) (l : List Int) : Prop := w.ownsRow 0 3 1 vo l.length (ints l) ∧ ∀ g, vo.ownBlock = some g → B ≤ g
theorem vars_cons (k n : Int) (ps r : Fo) (l : List Int) : Fo.vars l (.cons k n ps r) = Fo.vars (Fo.vars (varStep l k n ps) ps) r := rfl
set_option maxHeartbeats 2000000 in
set_option maxRecDepth 100000 in
theorem vars_any (f : Fo) (w : World) (o : Option Addr) (len cap : Nat) (hs : Slc w o len f) (hw : wfF f) (hsz : f.size ≤ 1000000) :
    Calls Tryd.prog 36 #[.slice o len cap] w fun e w' => ∃ vo, e = .returned vo ∧ IntRow w.heap.size w' vo (Fo.vars [] f) ∧ Quiet0 w w' := by
  have HS := Lib.hid hs
  have HL := Lib.hid hs.1
  have HWF := Lib.hid hw
  have hmx := hs.2.1
  unfold maxLen at hmx
  have hmm := @run_makeMap Tryd.prog
  clear hs hw
  go_enter Tryd.func36, Tryd.ntmps36
  go_wp2_with fail
  obtain ⟨W0, hW0⟩ : ∃ W0, W0 = ((w.alloc (.map #[] 0)).alloc (.cells #[.map (some w.heap.size)] 84)).alloc (.cells #[.slice none 0 0] 45) := ⟨_, rfl⟩
  change Code.wp _ _ _ _ (((w.alloc (.map #[] 0)).alloc (.cells #[.map (some w.heap.size)] 84)).alloc (.cells #[.slice none 0 0] 45))
  have HJ0 : Hid (VarsJ w (w.heap.size + 1) (w.heap.size + 1 + 1) w.heap.size 0 [] W0) := by
    rw [hW0]
    refine ⟨.slice none 0 0, ?_, ?_, ?_, World.ownsRow_nil _ _ _ _, (fun g hg => by cases hg), Nat.le_refl _, (((Quiet0.alloc _ _).trans (Quiet0.alloc _ _)).trans (Quiet0.alloc _ _))⟩
    · refine Box1.alloc ?_ _
      have := Box1.new (w.alloc (.map #[] 0)) (.map (some w.heap.size)) 84
      rw [show (w.alloc (.map #[] 0)).heap.size = w.heap.size + 1 from by simp] at this
      exact this
    · have := Box1.new ((w.alloc (.map #[] 0)).alloc (.cells #[.map (some w.heap.size)] 84)) (.slice none 0 0) 45
      rw [show ((w.alloc (.map #[] 0)).alloc (.cells #[.map (some w.heap.size)] 84)).heap.size = w.heap.size + 1 + 1 from by simp] at this
      exact this
    · exact ((MapOf.made w).stay ((Quiet0.alloc _ _).trans (Quiet0.alloc _ _))).cong (fun v _ => by simp [seenP, inB])
  have HE := Lib.hid (each_any eg_vars (vars1_any w (w.heap.size + 1) (w.heap.size + 1 + 1) w.heap.size (by omega) (by omega) (by omega) (by omega) (by omega) (by omega)))
  rw [← hW0]
  clear hW0
  generalize hB : w.heap.size = B at *
  go_loopw [10] (fun t wr => ∃ (i m : Nat) (l : List Int), t = .int .i64 i ∧ i ≤ len ∧ m + (f.drop i).size = f.size ∧ Fo.vars l (f.drop i) = Fo.vars [] f ∧ VarsJ w (B + 1) (B + 1 + 1) B m l wr) (fun t _ => len - (intOf t).toNat)
  case atStart => exact ⟨0, 0, [], rfl, Nat.zero_le _, by rw [Fo.drop_zero]; omega, by rw [Fo.drop_zero], HJ0.out⟩
  case round =>
    obtain ⟨i, m, l, rfl, hi, hm, hv, hj⟩ := hrel
    have HM := Lib.hid hm
    have HV := Lib.hid hv
    have HJ := Lib.hid hj
    have hqq : Quiet0 w wr := by obtain ⟨_, _, _, _, _, _, _, h⟩ := hj; exact h
    have HQ := Lib.hid hqq
    clear hm hv hj hqq
    by_cases hlt : i < len
    · have hlt' : (i : Int) < len := by omega
      obtain ⟨b, off, k1, n1, qs, o1, len1, cap1, rfl, hd, hg, e0, e1, e2, hs1⟩ := (HS.out.stay HQ.out).nth hlt
      obtain ⟨_, _, _, _, _, _, _, _, ho, hd', hg', _, _, f2, hs0⟩ := HS.out.nth hlt
      rw [hg] at hg'
      cases hg'
      cases ho
      have f2' := HQ.out.at f2
      rw [e2] at f2'
      cases f2'
      have hjb : VarsJ w (B + 1) (B + 1 + 1) B m l (wr.alloc (.cells #[.int .i64 k1, .int .i64 n1, .slice o1 len1 cap1] 24)) := by
        obtain ⟨vo, h1, h2, h3, h4, h5, h6, h7⟩ := HJ.out
        exact ⟨vo, h1.alloc _, h2.alloc _, h3.stay (Quiet0.alloc _ _), h4.alloc _, h5, h6, h7.trans (Quiet0.alloc _ _)⟩
      have hgn := allF_get f i k1 n1 qs HWF.out hg
      have HC := Lib.hid (HE.out k1 n1 qs m l _ o1 len1 cap1 hjb hs0 (by
        have := HM.out; rw [hd] at this; simp only [Fo.size] at this; omega) hgn.1 hgn.2)
      have HM2 : Hid (m + (qs.size + 1) + (f.drop (i + 1)).size = f.size) := by
        have := HM.out; rw [hd] at this; simp only [Fo.size] at this; show _ = _; omega
      have HV2 : Hid (Fo.vars (foldF varStep (varStep l k1 n1 qs) qs) (f.drop (i + 1)) = Fo.vars [] f) := by
        show _ = _
        rw [← HV.out, hd, vars_fold, vars_cons]
      unfold tyv at HC
      clear hd hg hs1 hd' f2 hs0 hjb hgn
      go_wp2_with fail
      refine HC.out.mono ?_; rintro e w2 ⟨rfl, hj2⟩
      have HJ2 := Lib.hid hj2
      clear hj2
      go_wp2_with fail
      go_roundw
      case rel => exact ⟨i + 1, _, _, by go_num, by omega, HM2.out, HV2.out, HJ2.out⟩
      case measure => simp [intOf]; omega
    · have hlt' : ¬ (i : Int) < len := by omega
      have hfin : Fo.vars [] f = l := by
        have := HV.out
        rw [Fo.drop_end f i (by have := HL.out; omega)] at this
        exact this.symm
      have HFIN := Lib.hid hfin
      obtain ⟨vo, h1, h2, h3, h4, h5, h6, h7⟩ := HJ.out
      have c2 := cell_of_one h2
      have H4 := Lib.hid h4
      have H5 := Lib.hid h5
      have H7 := Lib.hid h7
      clear h1 h2 h3 h4 h5 h6 h7 hfin
      go_wp2_with fail
      go_ret
      refine ⟨vo, rfl, ?_, H7.out⟩
      rw [HFIN.out]
      exact ⟨H4.out, fun g hg => by have := (H5.out g hg).1; omega⟩
end Go.Proofs.YtggidhgifaekbaaDoor
/-
  Substitutions: rows of binds, in plain words and in memory. No condition.
-/
namespace Go.Proofs.YtggidhgifaekbaaDoor
open Go.RowKit Go.Maps

abbrev Bd := Int × Int × Int × Fo
def findB (l : List Bd) (v : Int) : Option Bd := l.find? (fun t => t.1 == v)
def hasB (l : List Bd) (v : Int) : Bool := l.any (fun t => t.1 == v)
def firstStep (acc : List Bd) (t : Bd) : List Bd := if hasB acc t.1 then acc else acc ++ [t]
/-- the binds that count -/
def firstB (l : List Bd) : List Bd := l.foldl firstStep []
def hit (l : List Bd) (k n : Int) : Option Bd := if k == 1 then findB l n else none
def substF (l : List Bd) : Fo → Fo
  | .nil => .nil
  | .cons k n ps r => match hit l k n with
    | some t => .cons t.2.1 t.2.2.1 t.2.2.2 (substF l r)
    | none => .cons k n (substF l ps) (substF l r)
def sK (l : List Bd) (k n : Int) : Int := match hit l k n with | some t => t.2.1 | none => k
def sN (l : List Bd) (k n : Int) : Int := match hit l k n with | some t => t.2.2.1 | none => n
def sP (l : List Bd) (k n : Int) (ps : Fo) : Fo := match hit l k n with | some t => t.2.2.2 | none => substF l ps
theorem substF_cons (l : List Bd) (k n : Int) (ps r : Fo) : substF l (.cons k n ps r) = .cons (sK l k n) (sN l k n) (sP l k n ps) (substF l r) := by
  unfold sK sN sP
  rw [substF]
  cases hit l k n <;> rfl
theorem firstB_snoc (l : List Bd) (t : Bd) : firstB (l ++ [t]) = firstStep (firstB l) t := by unfold firstB; rw [List.foldl_append]; rfl
theorem hasB_snoc (l : List Bd) (t : Bd) (v : Int) : hasB (l ++ [t]) v = (hasB l v || t.1 == v) := by unfold hasB; simp
theorem hasB_step (acc : List Bd) (t : Bd) (v : Int) : hasB (firstStep acc t) v = (hasB acc v || t.1 == v) := by
  unfold firstStep
  cases h : hasB acc t.1
  · simp only [Bool.false_eq_true, if_false]; exact hasB_snoc _ _ _
  · simp only [if_true]
    by_cases he : t.1 = v
    · subst he; rw [h]; rfl
    · simp [he]
theorem hasB_first : ∀ (l : List Bd) (acc : List Bd) (v : Int), hasB (l.foldl firstStep acc) v = (hasB acc v || hasB l v)
  | [], acc, v => by simp [hasB]
  | t :: r, acc, v => by
    rw [List.foldl_cons, hasB_first r, hasB_step]
    unfold hasB; simp [Bool.or_assoc]
theorem first_has (l : List Bd) (v : Int) : hasB (firstB l) v = hasB l v := by unfold firstB; rw [hasB_first]; simp [hasB]
theorem findB_none {l : List Bd} {v : Int} : findB l v = none ↔ hasB l v = false := by unfold findB hasB; simp
theorem findB_snoc (l : List Bd) (t : Bd) (v : Int) : findB (l ++ [t]) v = (findB l v).or (if t.1 == v then some t else none) := by
  unfold findB; rw [List.find?_append]
  congr 1
  simp only [List.find?_cons, List.find?_nil]
  cases (t.1 == v) <;> rfl
theorem findB_step (acc : List Bd) (t : Bd) (v : Int) : findB (firstStep acc t) v = (findB acc v).or (if t.1 == v then some t else none) := by
  unfold firstStep
  cases h : hasB acc t.1
  · simp only [Bool.false_eq_true, if_false]; exact findB_snoc _ _ _
  · simp only [if_true]
    by_cases he : t.1 = v
    · subst he
      cases hf : findB acc t.1 with
      | none => rw [findB_none] at hf; rw [hf] at h; cases h
      | some u => rfl
    · have : (t.1 == v) = false := by simp [he]
      rw [this]; cases findB acc v <;> rfl
theorem findB_first : ∀ (l : List Bd) (acc : List Bd) (v : Int), findB (l.foldl firstStep acc) v = (findB acc v).or (findB l v)
  | [], acc, v => by simp [findB]
  | t :: r, acc, v => by
    rw [List.foldl_cons, findB_first r, findB_step, Option.or_assoc]
    congr 1
    unfold findB
    rw [List.find?_cons]
    cases (t.1 == v) <;> simp
theorem first_find (l : List Bd) (v : Int) : findB (firstB l) v = findB l v := by unfold firstB; rw [findB_first]; simp [findB]
theorem findB_mem {l : List Bd} {v : Int} {t : Bd} (h : findB l v = some t) : t ∈ l ∧ t.1 = v := by
  unfold findB at h
  exact ⟨List.mem_of_find?_eq_some h, by have := List.find?_some h; simpa using this⟩
theorem first_sub : ∀ (l acc : List Bd) (t : Bd), t ∈ l.foldl firstStep acc → t ∈ acc ∨ t ∈ l
  | [], acc, t, h => .inl h
  | u :: r, acc, t, h => by
    rw [List.foldl_cons] at h
    rcases first_sub r _ t h with h | h
    · unfold firstStep at h
      split at h
      · exact .inl h
      · rcases List.mem_append.1 h with h | h
        · exact .inl h
        · right
          have : t = u := by simpa using h
          rw [this]; exact List.mem_cons_self
    · exact .inr (List.mem_cons_of_mem _ h)
theorem first_len : ∀ (l acc : List Bd), (l.foldl firstStep acc).length ≤ acc.length + l.length
  | [], acc => by simp
  | u :: r, acc => by
    rw [List.foldl_cons]
    have := first_len r (firstStep acc u)
    have h2 : (firstStep acc u).length ≤ acc.length + 1 := by unfold firstStep; split <;> simp
    simp; omega

/-- binds that lie in a row -/
def BindsAt (w : World) (o : Option Addr) (l : List Bd) : Prop := ∀ i t, l[i]? = some t → ∃ b off o' len' cap', o = some ⟨b, off, none⟩ ∧
  w.cell? ⟨b, off + i * 4, none⟩ = some (.int .i64 t.1) ∧ w.cell? ⟨b, off + i * 4 + 1, none⟩ = some (.int .i64 t.2.1) ∧ w.cell? ⟨b, off + i * 4 + 2, none⟩ = some (.int .i64 t.2.2.1) ∧ w.cell? ⟨b, off + i * 4 + 3, none⟩ = some (.slice o' len' cap') ∧ Slc w o' len' t.2.2.2
theorem BindsAt.stay {w w' : World} {o : Option Addr} {l : List Bd} (h : BindsAt w o l) (hq : Quiet0 w w') : BindsAt w' o l := by
  intro i t ht
  obtain ⟨b, off, o', len', cap', h0, h1, h2, h3, h4, h5⟩ := h i t ht
  exact ⟨b, off, o', len', cap', h0, hq.at h1, hq.at h2, hq.at h3, hq.at h4, h5.stay hq⟩
/-- cells that are binds -/
def RowB (R : Nat → Prop) (w : World) : List Value → List Bd → Prop
  | xs, [] => xs = []
  | xs, t :: r => ∃ o len cap ys, xs = .int .i64 t.1 :: .int .i64 t.2.1 :: .int .i64 t.2.2.1 :: .slice o len cap :: ys ∧ SlcIn R w o len t.2.2.2 ∧ RowB R w ys r
theorem RowB.fr {R T S : Nat → Prop} {w w' : World} (hf : Fr S w w') (hR : ∀ k, k < w.heap.size → R k → T k ∧ ¬ S k) : ∀ (l : List Bd) (xs : List Value), RowB R w xs l → RowB T w' xs l
  | [], _, h => h
  | t :: r, xs, h => by
    obtain ⟨o, len, cap, ys, rfl, hs, hr⟩ := h
    exact ⟨o, len, cap, ys, rfl, hs.fr hf hR, RowB.fr hf hR r ys hr⟩
theorem RowB.snoc {R : Nat → Prop} {w : World} {t : Bd} {o : Option Addr} {len cap : Nat} (hs : SlcIn R w o len t.2.2.2) : ∀ (l : List Bd) (xs : List Value), RowB R w xs l → RowB R w (xs ++ [.int .i64 t.1, .int .i64 t.2.1, .int .i64 t.2.2.1, .slice o len cap]) (l ++ [t])
  | [], xs, h => by
    cases h
    exact ⟨o, len, cap, [], rfl, hs, rfl⟩
  | u :: r, xs, h => by
    obtain ⟨o', len', cap', ys, rfl, hs', hr⟩ := h
    exact ⟨o', len', cap', _, rfl, hs', RowB.snoc hs r ys hr⟩
theorem RowB.get {R : Nat → Prop} {w : World} : ∀ (l : List Bd) (xs : List Value), RowB R w xs l → ∀ i t, l[i]? = some t → ∃ o len cap, xs[i * 4]? = some (.int .i64 t.1) ∧ xs[i * 4 + 1]? = some (.int .i64 t.2.1) ∧ xs[i * 4 + 2]? = some (.int .i64 t.2.2.1) ∧ xs[i * 4 + 3]? = some (.slice o len cap) ∧ SlcIn R w o len t.2.2.2
  | [], xs, h, i, t, ht => by simp at ht
  | u :: r, xs, h, 0, t, ht => by
    simp at ht
    subst ht
    obtain ⟨o, len, cap, ys, rfl, hs, hr⟩ := h
    exact ⟨o, len, cap, rfl, rfl, rfl, rfl, hs⟩
  | u :: r, xs, h, i + 1, t, ht => by
    obtain ⟨o', len', cap', ys, rfl, hs', hr⟩ := h
    obtain ⟨o, len, cap, h0, h1, h2, h3, h4⟩ := RowB.get r ys hr i t (by simpa using ht)
    refine ⟨o, len, cap, ?_, ?_, ?_, ?_, h4⟩
    · rw [show (i + 1) * 4 = i * 4 + 4 from by omega]; simpa using h0
    · rw [show (i + 1) * 4 + 1 = i * 4 + 1 + 4 from by omega]; simpa using h1
    · rw [show (i + 1) * 4 + 2 = i * 4 + 2 + 4 from by omega]; simpa using h2
    · rw [show (i + 1) * 4 + 3 = i * 4 + 3 + 4 from by omega]; simpa using h3
theorem RowB.binds {R : Nat → Prop} {w : World} {l : List Bd} {xs : List Value} {g n c : Nat} (h : RowB R w xs l) (ho : w.ownsRow 0 91 4 (.slice (some ⟨g, 0, none⟩) n c) l.length xs) : BindsAt w (some ⟨g, 0, none⟩) l := by
  intro i t ht
  obtain ⟨o, len, cap, h0, h1, h2, h3, h4⟩ := RowB.get l xs h i t ht
  have hc : ∀ j u, xs[j]? = some u → w.cell? ⟨g, j, none⟩ = some u := fun j u hj => by
    have := ho.cells (g := g) rfl j u hj
    simpa [Addr.add_lit] using this
  exact ⟨g, 0, o, len, cap, rfl, by rw [Nat.zero_add]; exact hc _ _ h0, by rw [Nat.zero_add]; exact hc _ _ h1, by rw [Nat.zero_add]; exact hc _ _ h2, by rw [Nat.zero_add]; exact hc _ _ h3, h4.slc⟩
theorem elemBd : Elem Tryd.prog 49 91 (.agg #[.int .i64 0, .int .i64 0, .int .i64 0, .slice none 0 0]) 4 48 :=
  ⟨Tryd.underlying49, by kernel_rfl, by decide, by decide⟩
end Go.Proofs.YtggidhgifaekbaaDoor
/-
  A row of binds under way. No condition.
-/
namespace Go.Proofs.YtggidhgifaekbaaDoor
open Go.RowKit Go.Maps

/-- a row of binds of the call's own, in a block from B on; its types' parts lie in other blocks -/
structure BdRow (w : World) (B : Nat) (v : Value) (l : List Bd) (xs : List Value) : Prop where
  own : w.ownsRow 0 91 4 v l.length xs
  low : ∀ k, v.ownBlock = some k → B ≤ k
  cells : RowB (fun k => v.ownBlock ≠ some k) w xs l
theorem BdRow.nil (w : World) (B : Nat) : BdRow w B (.slice none 0 0) [] [] := ⟨World.ownsRow_nil _ _ _ _, fun k hk => (by cases hk), rfl⟩
theorem BdRow.stay {w w' : World} {B : Nat} {v : Value} {l : List Bd} {xs : List Value} (h : BdRow w B v l xs) (hf : Quiet0 w w') : BdRow w' B v l xs :=
  ⟨ownsRow_fr h.own hf (fun _ _ hs => hs), h.low, RowB.fr hf (fun _ _ hk => ⟨hk, fun h => h⟩) l xs h.cells⟩
theorem BdRow.snoc {W w1 : World} {B : Nat} {v : Value} {l : List Bd} {xs : List Value} {t : Bd} {o : Option Addr} {len cap g c : Nat} (hr : BdRow W B v l xs)
    (hs : SlcIn (fun k => v.ownBlock ≠ some k) W o len t.2.2.2)
    (ho : w1.ownsRow 0 91 4 (.slice (some ⟨g, 0, none⟩) (l.length + 1) c) (l.length + 1) (xs ++ [.int .i64 t.1, .int .i64 t.2.1, .int .i64 t.2.2.1, .slice o len cap])) (hf : Fr (fun k => v.ownBlock = some k) W w1) (hg : v.ownBlock = some g ∨ W.heap.size ≤ g) (hB : B ≤ W.heap.size) :
    BdRow w1 B (.slice (some ⟨g, 0, none⟩) (l.length + 1) c) (l ++ [t]) (xs ++ [.int .i64 t.1, .int .i64 t.2.1, .int .i64 t.2.2.1, .slice o len cap]) := by
  refine ⟨by rw [List.length_append]; exact ho, ?_, ?_⟩
  · intro k hk
    simp [Value.ownBlock] at hk
    subst hk
    rcases hg with h | h
    · exact hr.low g h
    · omega
  · have hk : ∀ k, k < W.heap.size → v.ownBlock ≠ some k → ((Value.slice (some ⟨g, 0, none⟩) (l.length + 1) c).ownBlock ≠ some k ∧ ¬ v.ownBlock = some k) := by
      rintro k hk h2
      refine ⟨fun h => ?_, h2⟩
      simp [Value.ownBlock] at h
      subst h
      rcases hg with h | h
      · exact h2 h
      · omega
    exact RowB.snoc (hs.fr hf hk) l xs (RowB.fr hf hk l xs hr.cells)
theorem BdRow.binds {w : World} {B : Nat} {o : Option Addr} {n c : Nat} {l : List Bd} {xs : List Value} (h : BdRow w B (.slice o n c) l xs) : BindsAt w o l := by
  rcases h.own.2 with ⟨_, h0⟩ | ⟨g, cap', cur, he, _⟩
  · intro j u hu
    rw [List.length_eq_zero_iff.1 h0] at hu; simp at hu
  · injection he with h1 h2 h3
    subst h1
    exact RowB.binds h.cells h.own
theorem BdRow.lt {w : World} {B : Nat} {v : Value} {l : List Bd} {xs : List Value} (h : BdRow w B v l xs) : ∀ k, v.ownBlock = some k → k < w.heap.size := fun k hk => (h.own.lt k hk).2
/-- what lay there ahead of the row lies in other blocks -/
theorem SlcIn.of_lt {w W : World} {B : Nat} {v : Value} {l : List Bd} {xs : List Value} {o : Option Addr} {len : Nat} {f : Fo} (h : Slc w o len f) (hq : Quiet0 w W) (hr : BdRow W B v l xs) (hB : w.heap.size ≤ B) : SlcIn (fun k => v.ownBlock ≠ some k) W o len f :=
  h.lt.fr hq (fun k _ hk => ⟨fun e => by have := hr.low k e; have hk' : k < w.heap.size := hk; omega, fun h => h⟩)
/-- what was made behind the row lies in other blocks -/
theorem SlcIn.of_new {w W : World} {B : Nat} {v : Value} {l : List Bd} {xs : List Value} {o : Option Addr} {len : Nat} {f : Fo} {N : Nat} (h : SlcIn (fun k => N ≤ k) W o len f) (hr : BdRow w B v l xs) (hN : w.heap.size ≤ N) : SlcIn (fun k => v.ownBlock ≠ some k) W o len f :=
  h.fr (Fr.refl (fun _ => False) _) (fun k _ hk => ⟨fun e => by have := hr.lt k e; have hk' : N ≤ k := hk; omega, fun h => h⟩)
/-- then: the binds of the first one, the second applied; and those of the second that the first hasn't -/
def thenF (b : List Bd) (t : Bd) : Bd := (t.1, sK b t.2.1 t.2.2.1, sN b t.2.1 t.2.2.1, sP b t.2.1 t.2.2.1 t.2.2.2)
def thenB (a b : List Bd) : List Bd := (firstB a).map (thenF b) ++ (firstB b).filter (fun t => !hasB a t.1)
def onlyB (l : List Bd) (vars : List Int) : List Bd := (firstB l).filter (fun t => inB vars t.1)
/-- the binds that count among the first ones: one more -/
theorem first_take (l : List Bd) (i : Nat) (t : Bd) (h : l[i]? = some t) : firstB (l.take (i + 1)) = if hasB (l.take i) t.1 then firstB (l.take i) else firstB (l.take i) ++ [t] := by
  rw [List.take_add_one, h]
  show firstB (l.take i ++ [t]) = _
  rw [firstB_snoc]
  unfold firstStep
  rw [first_has]
theorem first_length (l : List Bd) : (firstB l).length ≤ l.length := by
  have := first_len l []
  simp at this
  exact this
end Go.Proofs.YtggidhgifaekbaaDoor
/-
  slices.IndexFunc, ContainsFunc, Index and Contains on numbers. Conditions: the numbers lie in memory as told.
-/
namespace Go.Proofs.YtggidhgifaekbaaDoor
open Go.RowKit

def idxI (p : Int → Bool) : List Int → Nat → Int
  | [], _ => -1
  | t :: r, i => if p t then i else idxI p r (i + 1)
theorem idxI_any (p : Int → Bool) : ∀ (l : List Int) (i : Nat), decide (0 ≤ idxI p l i) = l.any p
  | [], i => rfl
  | t :: r, i => by
    unfold idxI
    rw [List.any_cons]
    cases h : p t
    · simp only [Bool.false_eq_true, if_false, Bool.false_or]; exact idxI_any p r (i + 1)
    · simp
theorem inB_any (v : Int) : ∀ l : List Int, inB l v = l.any (fun t => v == t)
  | [] => rfl
  | a :: r => by rw [inB_cons, List.any_cons, inB_any v r]
def PredI (g : Nat) (lb : Array Value) (w0 : World) (l : List Int) (p : Int → Bool) : Prop := ∀ t ∈ l, ∀ (W : World), Quiet0 w0 W → Calls Tryd.prog g (#[.int .i64 t] ++ lb) W fun e W' => e = .returned (.bool (p t)) ∧ Quiet0 W W'
set_option maxHeartbeats 1000000 in
theorem indexI_any (g : Nat) (lb : Array Value) (p : Int → Bool) (eg : ∀ args w, (callFunc g args).run Tryd.prog w = .ok (.enter g args) w) (l : List Int) (o : Option Addr) (cap : Nat) (w : World) (hs : IntsAt w o l) (hp : PredI g lb w l p) (hz : l.length ≤ 1000000) :
    Calls Tryd.prog 120 #[.slice o l.length cap, .func (.func g) #[] lb] w fun e w' => e = .returned (.int .i64 (idxI p l 0)) ∧ Quiet0 w w' := by
  have HS := Lib.hid hs
  have HP := Lib.hid hp
  clear hs hp
  obtain ⟨res, hres⟩ : ∃ res, res = idxI p l 0 := ⟨_, rfl⟩
  have HR := Lib.hid hres
  rw [← hres]
  clear hres
  go_enter Tryd.func120, Tryd.ntmps120
  go_wp2_with fail
  go_loopw [8] (fun t wr => ∃ i : Nat, t = .int .i64 i ∧ i ≤ l.length ∧ res = idxI p (l.drop i) i ∧ Quiet0 w wr) (fun t _ => l.length - (intOf t).toNat)
  case atStart => exact ⟨0, rfl, Nat.zero_le _, HR.out, Quiet0.refl _⟩
  case round =>
    obtain ⟨i, rfl, hi, hr, hq⟩ := hrel
    have HRR := Lib.hid hr
    have HQ := Lib.hid hq
    clear hr hq
    by_cases hlt : i < l.length
    · have hlt' : (i : Int) < l.length := by omega
      obtain ⟨t, ht⟩ : ∃ t, l[i]? = some t := ⟨_, List.getElem?_eq_getElem hlt⟩
      obtain ⟨b, off, rfl, a0⟩ := HS.out.stay HQ.out i t ht
      have HN : Hid (res = if p t then (i : Int) else idxI p (l.drop (i + 1)) (i + 1)) := by
        show _ = _
        rw [HRR.out, drop_some ht]; rfl
      have HC := Lib.hid (HP.out t (List.mem_of_getElem? ht) wr HQ.out)
      clear ht
      cases hb : p t
      all_goals
        rw [hb] at HC HN
        clear hb
        go_wp2_with fail
        refine HC.out.mono ?_; rintro e w1 ⟨rfl, hq1⟩
        have HQ1 := Lib.hid (HQ.out.trans hq1)
        clear hq1
        go_wp2_with fail
      · go_roundw
        case rel => exact ⟨i + 1, by go_num, by omega, HN.out, HQ1.out⟩
        case measure => simp [intOf]; omega
      · go_ret
        exact ⟨by rw [HN.out]; rfl, HQ1.out⟩
    · have hlt' : ¬ (i : Int) < l.length := by omega
      have HY : Hid (res = -1) := by show _ = _; rw [HRR.out, List.drop_of_length_le (by omega)]; rfl
      go_wp2_with fail
      go_ret
      exact ⟨by rw [HY.out]; rfl, HQ.out⟩
theorem containsI_any (g : Nat) (lb : Array Value) (p : Int → Bool) (eg : ∀ args w, (callFunc g args).run Tryd.prog w = .ok (.enter g args) w) (l : List Int) (o : Option Addr) (cap : Nat) (w : World) (hs : IntsAt w o l) (hp : PredI g lb w l p) (hz : l.length ≤ 1000000) :
    Calls Tryd.prog 96 #[.slice o l.length cap, .func (.func g) #[] lb] w fun e w' => e = .returned (.bool (l.any p)) ∧ Quiet0 w w' := by
  have HC := Lib.hid (indexI_any g lb p eg l o cap w hs hp hz)
  rw [← idxI_any p l 0]
  clear hs hp eg
  generalize idxI p l 0 = r at *
  go_enter Tryd.func96, Tryd.ntmps96
  go_wp2_with fail
  refine HC.out.mono ?_; rintro e w1 ⟨rfl, hq⟩
  go_wp2_with fail
  go_ret
  exact ⟨rfl, hq⟩
set_option maxHeartbeats 1000000 in
theorem indexV_any (v : Int) (l : List Int) (o : Option Addr) (cap : Nat) (w : World) (hs : IntsAt w o l) (hz : l.length ≤ 1000000) :
    Calls Tryd.prog 122 #[.slice o l.length cap, .int .i64 v] w fun e w' => e = .returned (.int .i64 (idxI (fun t => v == t) l 0)) ∧ Quiet0 w w' := by
  have HS := Lib.hid hs
  clear hs
  obtain ⟨res, hres⟩ : ∃ res, res = idxI (fun t => v == t) l 0 := ⟨_, rfl⟩
  have HR := Lib.hid hres
  rw [← hres]
  clear hres
  go_enter Tryd.func122, Tryd.ntmps122
  go_wp2_with fail
  go_loopw [8] (fun t wr => ∃ i : Nat, t = .int .i64 i ∧ i ≤ l.length ∧ res = idxI (fun t => v == t) (l.drop i) i ∧ Quiet0 w wr) (fun t _ => l.length - (intOf t).toNat)
  case atStart => exact ⟨0, rfl, Nat.zero_le _, HR.out, Quiet0.refl _⟩
  case round =>
    obtain ⟨i, rfl, hi, hr, hq⟩ := hrel
    have HRR := Lib.hid hr
    have HQ := Lib.hid hq
    clear hr hq
    by_cases hlt : i < l.length
    · have hlt' : (i : Int) < l.length := by omega
      obtain ⟨t, ht⟩ : ∃ t, l[i]? = some t := ⟨_, List.getElem?_eq_getElem hlt⟩
      obtain ⟨b, off, rfl, a0⟩ := HS.out.stay HQ.out i t ht
      have HN : Hid (res = if v == t then (i : Int) else idxI (fun t => v == t) (l.drop (i + 1)) (i + 1)) := by
        show _ = _
        rw [HRR.out, drop_some ht]; rfl
      clear ht
      cases hb : (v == t)
      all_goals rw [hb] at HN
      · have hb2 : ¬ v = t := by simpa using hb
        go_wp2_with fail
        go_roundw
        case rel => exact ⟨i + 1, by go_num, by omega, HN.out, HQ.out⟩
        case measure => simp [intOf]; omega
      · have hb2 : v = t := by simpa using hb
        subst hb2
        go_wp2_with fail
        go_ret
        exact ⟨by rw [HN.out]; rfl, HQ.out⟩
    · have hlt' : ¬ (i : Int) < l.length := by omega
      have HY : Hid (res = -1) := by show _ = _; rw [HRR.out, List.drop_of_length_le (by omega)]; rfl
      go_wp2_with fail
      go_ret
      exact ⟨by rw [HY.out]; rfl, HQ.out⟩
theorem containsV_any (v : Int) (l : List Int) (o : Option Addr) (cap : Nat) (w : World) (hs : IntsAt w o l) (hz : l.length ≤ 1000000) :
    Calls Tryd.prog 106 #[.slice o l.length cap, .int .i64 v] w fun e w' => e = .returned (.bool (inB l v)) ∧ Quiet0 w w' := by
  have HC := Lib.hid (indexV_any v l o cap w hs hz)
  have e : inB l v = decide (0 ≤ idxI (fun t => v == t) l 0) := by rw [idxI_any, inB_any]
  rw [e]
  clear hs e
  generalize idxI (fun t => v == t) l 0 = r at *
  go_enter Tryd.func106, Tryd.ntmps106
  go_wp2_with fail
  refine HC.out.mono ?_; rintro e w1 ⟨rfl, hq⟩
  go_wp2_with fail
  go_ret
  exact ⟨rfl, hq⟩
end Go.Proofs.YtggidhgifaekbaaDoor
