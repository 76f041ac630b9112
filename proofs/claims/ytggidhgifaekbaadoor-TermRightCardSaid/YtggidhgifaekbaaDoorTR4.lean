/-
  Texts laid together (TyChange, TyArrow, Blk, TyAux, TeRef): what each one proves, and its conditions, stands at its head.
-/
import Derived.Handy
import Derived.Deep.RegionHeld3
import Derived.Deep.DeepCutAuto
import Derived.Deep.AppendLies
import Derived.Test.YtggidhgifaekbaaDoorTR1
import Derived.Test.YtggidhgifaekbaaDoorTR2
import Derived.Test.YtggidhgifaekbaaDoorTR3
section
/-
  types.change and Copy. Conditions: the type lies in memory as told; there are few of them.
-/
namespace Go.Proofs.YtggidhgifaekbaaDoor
open Go.RowKit Go.Shelf

theorem elemTy : Elem Tryd.prog 22 24 (.agg #[.int .i64 0, .int .i64 0, .slice none 0 0]) 3 40 :=
  ⟨Tryd.underlying22, by kernel_rfl, by decide, by decide⟩
/-- what a function that is handed to change does -/
def DoK (g : Nat) (lb : Array Value) (w0 : World) (G : Int → Prop) (p : Int → Int) : Prop := ∀ (n : Int) (W : World), G n → Quiet0 w0 W →
  Calls Tryd.prog g (#[.int .i64 n] ++ lb) W fun e W' => e = .returned (.int .i64 (p n)) ∧ Quiet0 W W'
def newN (p : Int → Int) (k n : Int) : Int := if k == 1 then p n else n
def TChange (g : Nat) (lb : Array Value) (w0 : World) (G : Int → Prop) (p : Int → Int) (k n : Int) (ps : Fo) : Prop :=
  ∀ (w : World) (o : Option Addr) (len cap : Nat), Quiet0 w0 w → Slc w o len ps → ps.size ≤ 1000000 → G n → allF G ps →
    Calls Tryd.prog 79 #[tyv k n o len cap, .func (.func g) #[] lb] w fun e w' => ∃ o' cap', e = .returned (tyv k (newN p k n) o' len cap') ∧ SlcIn (fun b => w.heap.size ≤ b) w' o' len (ps.change p) ∧ Quiet0 w w'
theorem box_after {w W : World} {a b c : Value} {t : TypeId} {B : Nat} (h : w.heap[B]? = some (.cells #[a, b, c] t (0, 0))) (hq : Quiet0 w W) : W.heap[B]? = some (.cells #[a, b, c] t (0, 0)) := by
  rw [hq.block B (lt_of_block h) (fun h => h)]; exact h
theorem box_cells3 {w : World} {a b c : Value} {t : TypeId} {B : Nat} (h : w.heap[B]? = some (.cells #[a, b, c] t (0, 0))) : w.cell? ⟨B, 0, none⟩ = some a ∧ w.cell? ⟨B, 1, none⟩ = some b ∧ w.cell? ⟨B, 2, none⟩ = some c ∧ w.frozen? ⟨B, 0, none⟩ = false ∧ w.frozen? ⟨B, 1, none⟩ = false ∧ w.frozen? ⟨B, 2, none⟩ = false := by
  refine ⟨?_, ?_, ?_, ?_, ?_, ?_⟩
  · rw [cell_of_row _ _ _ _ _ (0, 0) h]; rfl
  · rw [cell_of_row _ _ _ _ _ (0, 0) h]; rfl
  · rw [cell_of_row _ _ _ _ _ (0, 0) h]; rfl
  · simp [World.frozen?, h]
  · simp [World.frozen?, h]
  · simp [World.frozen?, h]
theorem box_set1 {w : World} {a b c u : Value} {t : TypeId} {B : Nat} (h : w.heap[B]? = some (.cells #[a, b, c] t (0, 0))) : (w.setCell ⟨B, 1, none⟩ u).heap[B]? = some (.cells #[a, u, c] t (0, 0)) := by
  have hlt := lt_of_block h
  have h' : w.heap[B] = .cells #[a, b, c] t (0, 0) := by simpa [Array.getElem?_eq_getElem hlt] using h
  show (w.heap.modify B _)[B]? = _
  rw [Array.getElem?_eq_getElem (by simpa using hlt), Array.getElem_modify_self, h']
  rfl
theorem box_set0 {w : World} {a b c u : Value} {t : TypeId} {B : Nat} (h : w.heap[B]? = some (.cells #[a, b, c] t (0, 0))) : (w.setCell ⟨B, 0, none⟩ u).heap[B]? = some (.cells #[u, b, c] t (0, 0)) := by
  have hlt := lt_of_block h
  have h' : w.heap[B] = .cells #[a, b, c] t (0, 0) := by simpa [Array.getElem?_eq_getElem hlt] using h
  show (w.heap.modify B _)[B]? = _
  rw [Array.getElem?_eq_getElem (by simpa using hlt), Array.getElem_modify_self, h']
  rfl
theorem box_set2 {w : World} {a b c u : Value} {t : TypeId} {B : Nat} (h : w.heap[B]? = some (.cells #[a, b, c] t (0, 0))) : (w.setCell ⟨B, 2, none⟩ u).heap[B]? = some (.cells #[a, b, u] t (0, 0)) := by
  have hlt := lt_of_block h
  have h' : w.heap[B] = .cells #[a, b, c] t (0, 0) := by simpa [Array.getElem?_eq_getElem hlt] using h
  show (w.heap.modify B _)[B]? = _
  rw [Array.getElem?_eq_getElem (by simpa using hlt), Array.getElem_modify_self, h']
  rfl
set_option maxHeartbeats 4000000 in
theorem change_any {g : Nat} {lb : Array Value} {w0 : World} {G : Int → Prop} {p : Int → Int} (eg : ∀ args w, (callFunc g args).run Tryd.prog w = .ok (.enter g args) w) (hK : DoK g lb w0 G p) (k n : Int) (ps : Fo) : TChange g lb w0 G p k n ps := by
  refine Fo.ind' (T := TChange g lb w0 G p) ?_ k n ps
  intro k n ps ih w o len cap hw hs hsz hgn hgp
  have HGN := Lib.hid hgn
  have HGP := Lib.hid hgp
  clear hgn hgp
  have HS := Lib.hid hs
  have IH := Lib.hid ih
  have HL := Lib.hid hs.1
  have hmx := hs.2.1
  have hll := Fo.length_le ps
  rw [← hs.1] at hll
  unfold maxLen at hmx
  have HK := Lib.hid hK
  have HW := Lib.hid hw
  have hb0 : ((w.alloc (.cells #[.int .i64 k, .int .i64 n, .slice o len cap] 24)).alloc (.cells #[.int .i64 0, .int .i64 0, .slice none 0 0] 24)).heap[w.heap.size]? = some (.cells #[.int .i64 k, .int .i64 n, .slice o len cap] 24 (0, 0)) := by
    rw [Below.heap_alloc _ _ _ (by simp)]; exact heap_alloc_new w _
  have hb1 : ((w.alloc (.cells #[.int .i64 k, .int .i64 n, .slice o len cap] 24)).alloc (.cells #[.int .i64 0, .int .i64 0, .slice none 0 0] 24)).heap[w.heap.size + 1]? = some (.cells #[.int .i64 0, .int .i64 0, .slice none 0 0] 24 (0, 0)) := by
    have := heap_alloc_new (w.alloc (.cells #[.int .i64 k, .int .i64 n, .slice o len cap] 24)) (.cells #[.int .i64 0, .int .i64 0, .slice none 0 0] 24)
    simpa using this
  have HB0 := Lib.hid hb0
  have HB1 := Lib.hid hb1
  clear hs ih hK hw hb0 hb1
  unfold tyv
  cases hk : (k == 1)
  · go_enter Tryd.func79, Tryd.ntmps79
    go_wp2_with fail
    obtain ⟨W0, hW0⟩ : ∃ W0, W0 = ((w.alloc (.cells #[.int .i64 k, .int .i64 n, .slice o len cap] 24)).alloc (.cells #[.int .i64 0, .int .i64 0, .slice none 0 0] 24)) := ⟨_, rfl⟩
    change Code.wp _ _ _ _ ((w.alloc (.cells #[.int .i64 k, .int .i64 n, .slice o len cap] 24)).alloc (.cells #[.int .i64 0, .int .i64 0, .slice none 0 0] 24))
    have HQ0 : Hid (Quiet0 w W0) := by rw [hW0]; exact (Quiet0.alloc _ _).trans (Quiet0.alloc _ _)
    have hz0 : w.heap.size + 2 ≤ W0.heap.size := by rw [hW0]; simp
    have HN : Hid (newN p k n = n) := by show _ = _; unfold newN; rw [hk]; rfl
    rw [← hW0] at HB0 HB1 ⊢
    clear hW0 hk
    generalize hnn : newN p k n = n' at *
    generalize hB : w.heap.size = B at *
    have HBE := Lib.hid hB
    clear hB
    go_loopw [5, 19] (fun v t wr => ∃ (i : Nat) (f : Fo) (xs : List Value) (vo : Option Addr) (vc : Nat), t = .int .i64 i ∧ i ≤ len ∧ v = .slice vo i vc ∧ f.length = i ∧ f.app ((ps.drop i).change p) = ps.change p ∧ TyRow wr W0.heap.size (.slice vo i vc) f xs ∧ Quiet0 W0 wr) (fun _ t _ => len - (intOf t).toNat)
    case atStart => exact ⟨0, .nil, [], none, 0, rfl, Nat.zero_le _, rfl, rfl, by rw [Fo.drop_zero]; rfl, TyRow.nil _ _, Quiet0.refl _⟩
    case round =>
      obtain ⟨i, f, xs, vo, vc, rfl, hi, rfl, hfl, hap, hrow, hq⟩ := hrel
      have HF := Lib.hid hfl
      have HAP := Lib.hid hap
      have HR := Lib.hid hrow
      have HQ := Lib.hid hq
      clear hfl hap hrow hq
      by_cases hlt : i < len
      · have hlt' : (i : Int) < len := by omega
        obtain ⟨b, off, k1, n1, qs, o1, len1, cap1, rfl, hd, hg, e0, e1, e2, hs1⟩ := (HS.out.stay (HQ0.out.trans HQ.out)).nth hlt
        have hsq := Fo.size_get ps i k1 n1 qs hg
        have HC := Lib.hid (IH.out i k1 n1 qs hg (wr.alloc (.cells #[.int .i64 k1, .int .i64 n1, .slice o1 len1 cap1] 24)) o1 len1 cap1 (HW.out.trans ((HQ0.out.trans HQ.out).trans (Quiet0.alloc _ _))) (hs1.stay (Quiet0.alloc _ _)) (by omega) (allF_get ps i k1 n1 qs HGP.out hg).1 (allF_get ps i k1 n1 qs HGP.out hg).2)
        have HD : Hid ((f.app (.cons k1 (newN p k1 n1) (qs.change p) .nil)).app ((ps.drop (i + 1)).change p) = ps.change p) := by
          show _ = _
          rw [← HAP.out, hd, Fo.app_assoc]; rfl
        unfold tyv at HC
        clear hd hg hs1 hsq
        generalize newN p k1 n1 = n2 at *
        go_wp2_with fail
        refine HC.out.mono ?_; rintro e w1 ⟨o2, cap2, rfl, hs2, hq1⟩
        have HS2 := Lib.hid hs2
        have HQ1 := Lib.hid ((Quiet0.alloc _ _).trans hq1)
        have HR1 := Lib.hid (HR.out.stay HQ1.out)
        clear hs2 hq1
        go_wp2_with (at_builtin; go_must (refine wpList_append_one w1 rfl (.tmp 23) (.tmp 27) 22 rfl 24 _ 3 40 elemTy (.slice vo i vc) i xs rfl (HF.out ▸ HR1.out.own) #[.int .i64 k1, .int .i64 n2, .slice o2 len1 cap2] rfl rfl ?c1 ?c2 ?c3 ?_))
        case c1 => simp [Value.oneCell']
        case c2 => unfold maxLen; omega
        case c3 => omega
        intro g2 c' w2 ho hf hg2
        have hlow : W0.heap.size ≤ w1.heap.size := Nat.le_trans HQ.out.size HQ1.out.size
        have hown : ∀ kk, (Value.slice vo i vc).ownBlock = some kk → kk < wr.heap.size := fun kk h => (HR.out.own.lt kk h).2
        have HR2 : Hid (TyRow w2 W0.heap.size (.slice (some ⟨g2, 0, none⟩) (i + 1) c') (f.app (.cons k1 n2 (qs.change p) .nil)) (xs ++ [.int .i64 k1, .int .i64 n2, .slice o2 len1 cap2])) := by
          show TyRow _ _ _ _ _
          have hf' := HF.out
          subst hf'
          refine TyRow.snoc HR1.out (HS2.out.fr (Fr.refl (fun _ => False) _) ?_) ho hf hg2 hlow
          intro kk _ hkk
          have hkk' : (wr.alloc (.cells #[.int .i64 k1, .int .i64 n1, .slice o1 len1 cap1] 24)).heap.size ≤ kk := hkk
          simp at hkk'
          refine ⟨⟨by have := HQ.out.size; omega, fun h => ?_⟩, fun h => h⟩
          have := hown kk h; omega
        have HQ2 : Hid (Quiet0 W0 w2) := by
          show Quiet0 _ _
          exact Fr.trans' (HQ.out.trans HQ1.out) hf (fun kk hkk h => absurd (HR.out.low kk h) (by omega))
        have HL2 : Hid ((f.app (.cons k1 n2 (qs.change p) .nil)).length = i + 1) := by
          show _ = _
          rw [Fo.app_length, HF.out]; rfl
        clear ho hf hg2 hown
        go_wp2_with fail
        go_roundw
        case rel => exact ⟨i + 1, _, _, some ⟨g2, 0, none⟩, c', by go_num, by omega, rfl, HL2.out, HD.out, HR2.out, HQ2.out⟩
        case measure => simp [intOf]; omega
      · have hlt' : ¬ (i : Int) < len := by omega
        have hb1 := box_after HB1.out HQ.out
        have hb0 := box_after HB0.out HQ.out
        obtain ⟨c0, c1, c2, z0, z1, z2⟩ := box_cells3 hb0
        obtain ⟨d0, d1, d2, y0, y1, y2⟩ := box_cells3 hb1
        have HB0 := Lib.hid hb0
        have HB1 := Lib.hid hb1
        clear hb0 hb1
        have hil : i = len := by omega
        have HFIN : Hid (∀ u v x y : Value, SlcIn (fun b => w.heap.size ≤ b) ((((wr.setCell ⟨B, 2, none⟩ u).setCell ⟨B + 1, 0, none⟩ v).setCell ⟨B + 1, 1, none⟩ x).setCell ⟨B + 1, 2, none⟩ y) vo len (ps.change p) ∧ Quiet0 w ((((wr.setCell ⟨B, 2, none⟩ u).setCell ⟨B + 1, 0, none⟩ v).setCell ⟨B + 1, 1, none⟩ x).setCell ⟨B + 1, 2, none⟩ y)) := by
          intro u v x y
          have hf : Fr (fun kk => kk = B ∨ kk = B + 1) wr ((((wr.setCell ⟨B, 2, none⟩ u).setCell ⟨B + 1, 0, none⟩ v).setCell ⟨B + 1, 1, none⟩ x).setCell ⟨B + 1, 2, none⟩ y) :=
            (((Fr.setCell _ _ _ _ (.inl rfl)).trans (Fr.setCell _ _ _ _ (.inr rfl))).trans (Fr.setCell _ _ _ _ (.inr rfl))).trans (Fr.setCell _ _ _ _ (.inr rfl))
          have hap := HAP.out
          subst hil
          rw [Fo.drop_end ps i (by have := HL.out; omega)] at hap
          simp only [Fo.change] at hap
          rw [Fo.app_nil] at hap
          refine ⟨?_, ?_⟩
          · rw [← hap]
            refine (HR.out.slc HF.out.symm (by unfold maxLen; omega)).fr hf ?_
            intro kk _ hkk
            have hkk' : W0.heap.size ≤ kk := hkk
            have hz := HBE.out
            exact ⟨by omega, by omega⟩
          · exact Fr.trans' (HQ0.out.trans HQ.out) hf (fun kk hkk h => by have hz := HBE.out; omega)
        go_wp2_with fail
        have hbf := box_set2 (u := .slice vo len vc) (box_set1 (u := .int .i64 n') (box_set0 (u := .int .i64 k) (B := B + 1) (w := wr.setCell ⟨B, 2, none⟩ (.slice vo len vc)) (by rw [Below.heap_setCell _ _ _ _ (by show B + 1 ≠ B; omega)]; exact HB1.out)))
        obtain ⟨f0, f1, f2, _, _, _⟩ := box_cells3 hbf
        have HFF := HFIN.out (.slice vo len vc) (.int .i64 k) (.int .i64 n') (.slice vo len vc)
        have hn' := HN.out
        clear hbf
        rw [hn'] at f0 f1 f2 HFF ⊢
        generalize ((((wr.setCell ⟨B, 2, none⟩ (.slice vo len vc)).setCell ⟨B + 1, 0, none⟩ (.int .i64 k)).setCell ⟨B + 1, 1, none⟩ (.int .i64 n)).setCell ⟨B + 1, 2, none⟩ (.slice vo len vc)) = wf at *
        refine bodyPost_ret (by simp [results, Tryd.results79, go_sem, f0, f1, f2]; rfl) rfl ?_
        exact ⟨vo, ⟨vc, rfl⟩, HFF⟩
  · go_enter Tryd.func79, Tryd.ntmps79
    go_wp2_with fail
    refine (HK.out n _ HGN.out (HW.out.trans ((Quiet0.alloc _ _).trans (Quiet0.alloc _ _)))).mono ?_; rintro e w1 ⟨rfl, hq1⟩
    have hb1 := box_after HB1.out hq1
    have hb0 := box_after HB0.out hq1
    obtain ⟨c0, c1, c2, z0, z1, z2⟩ := box_cells3 hb0
    have HB0 := Lib.hid hb0
    have HB1 := Lib.hid hb1
    clear hb0 hb1
    go_wp2_with fail
    obtain ⟨W0, hW0⟩ : ∃ W0, W0 = w1.setCell ⟨w.heap.size, 1, none⟩ (.int .i64 (p n)) := ⟨_, rfl⟩
    change Code.wp _ _ _ _ (w1.setCell ⟨w.heap.size, 1, none⟩ (.int .i64 (p n)))
    have hsz1 : w.heap.size + 2 ≤ w1.heap.size := by have := hq1.size; simp at this; omega
    have HQ0 : Hid (Quiet0 w W0) := by
      rw [hW0]
      exact (((Quiet0.alloc _ _).trans (Quiet0.alloc _ _)).trans hq1).trans' (Fr.setCell (fun kk => kk = w.heap.size) _ _ _ rfl) (fun i hi h => by omega)
    have hz0 : w.heap.size + 2 ≤ W0.heap.size := by rw [hW0]; simpa [World.setCell] using hsz1
    have HN : Hid (newN p k n = p n) := by show _ = _; unfold newN; rw [hk]; rfl
    replace HB0 : Hid (W0.heap[w.heap.size]? = some (.cells #[.int .i64 k, .int .i64 (p n), .slice o len cap] 24 (0, 0))) := by
      rw [hW0]; exact box_set1 HB0.out
    replace HB1 : Hid (W0.heap[w.heap.size + 1]? = some (.cells #[.int .i64 0, .int .i64 0, .slice none 0 0] 24 (0, 0))) := by
      show _ = _
      rw [hW0, Below.heap_setCell _ _ _ _ (by show w.heap.size + 1 ≠ w.heap.size; omega)]; exact HB1.out
    rw [← hW0]
    clear hW0 hk hsz1 c0 c1 c2 z0 z1 z2 hq1
    generalize hnn : newN p k n = n' at *
    generalize hB : w.heap.size = B at *
    have HBE := Lib.hid hB
    clear hB
    go_loopw [5, 19] (fun v t wr => ∃ (i : Nat) (f : Fo) (xs : List Value) (vo : Option Addr) (vc : Nat), t = .int .i64 i ∧ i ≤ len ∧ v = .slice vo i vc ∧ f.length = i ∧ f.app ((ps.drop i).change p) = ps.change p ∧ TyRow wr W0.heap.size (.slice vo i vc) f xs ∧ Quiet0 W0 wr) (fun _ t _ => len - (intOf t).toNat)
    case atStart => exact ⟨0, .nil, [], none, 0, rfl, Nat.zero_le _, rfl, rfl, by rw [Fo.drop_zero]; rfl, TyRow.nil _ _, Quiet0.refl _⟩
    case round =>
      obtain ⟨i, f, xs, vo, vc, rfl, hi, rfl, hfl, hap, hrow, hq⟩ := hrel
      have HF := Lib.hid hfl
      have HAP := Lib.hid hap
      have HR := Lib.hid hrow
      have HQ := Lib.hid hq
      clear hfl hap hrow hq
      by_cases hlt : i < len
      · have hlt' : (i : Int) < len := by omega
        obtain ⟨b, off, k1, n1, qs, o1, len1, cap1, rfl, hd, hg, e0, e1, e2, hs1⟩ := (HS.out.stay (HQ0.out.trans HQ.out)).nth hlt
        have hsq := Fo.size_get ps i k1 n1 qs hg
        have HC := Lib.hid (IH.out i k1 n1 qs hg (wr.alloc (.cells #[.int .i64 k1, .int .i64 n1, .slice o1 len1 cap1] 24)) o1 len1 cap1 (HW.out.trans ((HQ0.out.trans HQ.out).trans (Quiet0.alloc _ _))) (hs1.stay (Quiet0.alloc _ _)) (by omega) (allF_get ps i k1 n1 qs HGP.out hg).1 (allF_get ps i k1 n1 qs HGP.out hg).2)
        have HD : Hid ((f.app (.cons k1 (newN p k1 n1) (qs.change p) .nil)).app ((ps.drop (i + 1)).change p) = ps.change p) := by
          show _ = _
          rw [← HAP.out, hd, Fo.app_assoc]; rfl
        unfold tyv at HC
        clear hd hg hs1 hsq
        generalize newN p k1 n1 = n2 at *
        go_wp2_with fail
        refine HC.out.mono ?_; rintro e w1 ⟨o2, cap2, rfl, hs2, hq1⟩
        have HS2 := Lib.hid hs2
        have HQ1 := Lib.hid ((Quiet0.alloc _ _).trans hq1)
        have HR1 := Lib.hid (HR.out.stay HQ1.out)
        clear hs2 hq1
        go_wp2_with (at_builtin; go_must (refine wpList_append_one w1 rfl (.tmp 23) (.tmp 27) 22 rfl 24 _ 3 40 elemTy (.slice vo i vc) i xs rfl (HF.out ▸ HR1.out.own) #[.int .i64 k1, .int .i64 n2, .slice o2 len1 cap2] rfl rfl ?c1 ?c2 ?c3 ?_))
        case c1 => simp [Value.oneCell']
        case c2 => unfold maxLen; omega
        case c3 => omega
        intro g2 c' w2 ho hf hg2
        have hlow : W0.heap.size ≤ w1.heap.size := Nat.le_trans HQ.out.size HQ1.out.size
        have hown : ∀ kk, (Value.slice vo i vc).ownBlock = some kk → kk < wr.heap.size := fun kk h => (HR.out.own.lt kk h).2
        have HR2 : Hid (TyRow w2 W0.heap.size (.slice (some ⟨g2, 0, none⟩) (i + 1) c') (f.app (.cons k1 n2 (qs.change p) .nil)) (xs ++ [.int .i64 k1, .int .i64 n2, .slice o2 len1 cap2])) := by
          show TyRow _ _ _ _ _
          have hf' := HF.out
          subst hf'
          refine TyRow.snoc HR1.out (HS2.out.fr (Fr.refl (fun _ => False) _) ?_) ho hf hg2 hlow
          intro kk _ hkk
          have hkk' : (wr.alloc (.cells #[.int .i64 k1, .int .i64 n1, .slice o1 len1 cap1] 24)).heap.size ≤ kk := hkk
          simp at hkk'
          refine ⟨⟨by have := HQ.out.size; omega, fun h => ?_⟩, fun h => h⟩
          have := hown kk h; omega
        have HQ2 : Hid (Quiet0 W0 w2) := by
          show Quiet0 _ _
          exact Fr.trans' (HQ.out.trans HQ1.out) hf (fun kk hkk h => absurd (HR.out.low kk h) (by omega))
        have HL2 : Hid ((f.app (.cons k1 n2 (qs.change p) .nil)).length = i + 1) := by
          show _ = _
          rw [Fo.app_length, HF.out]; rfl
        clear ho hf hg2 hown
        go_wp2_with fail
        go_roundw
        case rel => exact ⟨i + 1, _, _, some ⟨g2, 0, none⟩, c', by go_num, by omega, rfl, HL2.out, HD.out, HR2.out, HQ2.out⟩
        case measure => simp [intOf]; omega
      · have hlt' : ¬ (i : Int) < len := by omega
        have hb1 := box_after HB1.out HQ.out
        have hb0 := box_after HB0.out HQ.out
        obtain ⟨c0, c1, c2, z0, z1, z2⟩ := box_cells3 hb0
        obtain ⟨d0, d1, d2, y0, y1, y2⟩ := box_cells3 hb1
        have HB0 := Lib.hid hb0
        have HB1 := Lib.hid hb1
        clear hb0 hb1
        have hil : i = len := by omega
        have HFIN : Hid (∀ u v x y : Value, SlcIn (fun b => w.heap.size ≤ b) ((((wr.setCell ⟨B, 2, none⟩ u).setCell ⟨B + 1, 0, none⟩ v).setCell ⟨B + 1, 1, none⟩ x).setCell ⟨B + 1, 2, none⟩ y) vo len (ps.change p) ∧ Quiet0 w ((((wr.setCell ⟨B, 2, none⟩ u).setCell ⟨B + 1, 0, none⟩ v).setCell ⟨B + 1, 1, none⟩ x).setCell ⟨B + 1, 2, none⟩ y)) := by
          intro u v x y
          have hf : Fr (fun kk => kk = B ∨ kk = B + 1) wr ((((wr.setCell ⟨B, 2, none⟩ u).setCell ⟨B + 1, 0, none⟩ v).setCell ⟨B + 1, 1, none⟩ x).setCell ⟨B + 1, 2, none⟩ y) :=
            (((Fr.setCell _ _ _ _ (.inl rfl)).trans (Fr.setCell _ _ _ _ (.inr rfl))).trans (Fr.setCell _ _ _ _ (.inr rfl))).trans (Fr.setCell _ _ _ _ (.inr rfl))
          have hap := HAP.out
          subst hil
          rw [Fo.drop_end ps i (by have := HL.out; omega)] at hap
          simp only [Fo.change] at hap
          rw [Fo.app_nil] at hap
          refine ⟨?_, ?_⟩
          · rw [← hap]
            refine (HR.out.slc HF.out.symm (by unfold maxLen; omega)).fr hf ?_
            intro kk _ hkk
            have hkk' : W0.heap.size ≤ kk := hkk
            have hz := HBE.out
            exact ⟨by omega, by omega⟩
          · exact Fr.trans' (HQ0.out.trans HQ.out) hf (fun kk hkk h => by have hz := HBE.out; omega)
        go_wp2_with fail
        have hbf := box_set2 (u := .slice vo len vc) (box_set1 (u := .int .i64 n') (box_set0 (u := .int .i64 k) (B := B + 1) (w := wr.setCell ⟨B, 2, none⟩ (.slice vo len vc)) (by rw [Below.heap_setCell _ _ _ _ (by show B + 1 ≠ B; omega)]; exact HB1.out)))
        obtain ⟨f0, f1, f2, _, _, _⟩ := box_cells3 hbf
        have HFF := HFIN.out (.slice vo len vc) (.int .i64 k) (.int .i64 n') (.slice vo len vc)
        have hn' := HN.out
        clear hbf
        rw [hn'] at f0 f1 f2 HFF ⊢
        generalize ((((wr.setCell ⟨B, 2, none⟩ (.slice vo len vc)).setCell ⟨B + 1, 0, none⟩ (.int .i64 k)).setCell ⟨B + 1, 1, none⟩ (.int .i64 (p n))).setCell ⟨B + 1, 2, none⟩ (.slice vo len vc)) = wf at *
        refine bodyPost_ret (by simp [results, Tryd.results79, go_sem, f0, f1, f2]; rfl) rfl ?_
        exact ⟨vo, ⟨vc, rfl⟩, HFF⟩
end Go.Proofs.YtggidhgifaekbaaDoor
end
section
/-
  types.Copy, Var and Arrow. Conditions: the types lie in memory as told; there are few of them.
-/
namespace Go.Proofs.YtggidhgifaekbaaDoor
open Go.RowKit Go.Shelf

/-- a world whose block B gets three cells anew -/
def put3 (w : World) (B : Nat) (a b c : Value) : World := ((w.setCell ⟨B, 0, none⟩ a).setCell ⟨B, 1, none⟩ b).setCell ⟨B, 2, none⟩ c
theorem put3_fr (w : World) (B : Nat) (a b c : Value) : Fr (fun k => k = B) w (put3 w B a b c) :=
  ((Fr.setCell (fun k => k = B) w ⟨B, 0, none⟩ a rfl).trans (Fr.setCell (fun k => k = B) _ ⟨B, 1, none⟩ b rfl)).trans (Fr.setCell (fun k => k = B) _ ⟨B, 2, none⟩ c rfl)
theorem put3_cells {w : World} {B : Nat} {a b c a' b' c' : Value} {t : TypeId} (h : w.heap[B]? = some (.cells #[a', b', c'] t (0, 0))) :
    (put3 w B a b c).cell? ⟨B, 0, none⟩ = some a ∧ (put3 w B a b c).cell? ⟨B, 1, none⟩ = some b ∧ (put3 w B a b c).cell? ⟨B, 2, none⟩ = some c := by
  have hbf := box_set2 (u := c) (box_set1 (u := b) (box_set0 (u := a) h))
  obtain ⟨f0, f1, f2, _, _, _⟩ := box_cells3 hbf
  exact ⟨f0, f1, f2⟩

theorem copy1_any (w0 : World) : DoK 95 #[] w0 (fun _ => True) (fun n => n) := by
  intro n W _ _
  go_enter Tryd.func95, Tryd.ntmps95
  go_wp2_with fail
  go_ret
  exact ⟨rfl, Quiet0.refl _⟩
theorem eg_copy : ∀ args w, (callFunc 95 args).run Tryd.prog w = .ok (.enter 95 args) w := enters_of Tryd.func95 (by kernel_rfl) rfl
set_option maxHeartbeats 1000000 in
theorem copy_any (k n : Int) (ps : Fo) (w : World) (o : Option Addr) (len cap : Nat) (hs : Slc w o len ps) (hsz : ps.size ≤ 1000000) :
    Calls Tryd.prog 53 #[tyv k n o len cap] w fun e w' => ∃ o' cap', e = .returned (tyv k n o' len cap') ∧ SlcIn (fun b => w.heap.size ≤ b) w' o' len ps ∧ Quiet0 w w' := by
  have HC := Lib.hid (change_any eg_copy (copy1_any w) k n ps ((w.alloc (.cells #[.int .i64 k, .int .i64 n, .slice o len cap] 24)).alloc (.cells #[.int .i64 0, .int .i64 0, .slice none 0 0] 24)) o len cap ((Quiet0.alloc _ _).trans (Quiet0.alloc _ _)) (hs.stay ((Quiet0.alloc _ _).trans (Quiet0.alloc _ _))) hsz trivial (allF_true (fun _ => trivial) ps))
  rw [Fo.change_id, show newN (fun n => n) k n = n from by unfold newN; split <;> rfl] at HC
  have hb1 : ((w.alloc (.cells #[.int .i64 k, .int .i64 n, .slice o len cap] 24)).alloc (.cells #[.int .i64 0, .int .i64 0, .slice none 0 0] 24)).heap[w.heap.size + 1]? = some (.cells #[.int .i64 0, .int .i64 0, .slice none 0 0] 24 (0, 0)) := by
    have := heap_alloc_new (w.alloc (.cells #[.int .i64 k, .int .i64 n, .slice o len cap] 24)) (.cells #[.int .i64 0, .int .i64 0, .slice none 0 0] 24)
    simpa using this
  have HB1 := Lib.hid hb1
  clear hs hb1
  unfold tyv at *
  go_enter Tryd.func53, Tryd.ntmps53
  go_wp2_with fail
  refine HC.out.mono ?_; rintro e w1 ⟨o2, cap2, rfl, hs2, hq1⟩
  have hb1 := box_after HB1.out hq1
  have HB2 := Lib.hid hb1
  obtain ⟨d0, d1, d2, y0, y1, y2⟩ := box_cells3 hb1
  have HS2 := Lib.hid hs2
  have HQ1 := Lib.hid hq1
  clear hs2 hq1 hb1
  go_wp2_with fail
  clear d0 d1 d2 y0 y1 y2
  have hf := put3_fr w1 (w.heap.size + 1) (.int .i64 k) (.int .i64 n) (.slice o2 len cap2)
  obtain ⟨f0, f1, f2⟩ := put3_cells (a := .int .i64 k) (b := .int .i64 n) (c := .slice o2 len cap2) HB2.out
  change bodyPost _ _ _ _ _ (put3 w1 (w.heap.size + 1) (.int .i64 k) (.int .i64 n) (.slice o2 len cap2))
  generalize put3 w1 (w.heap.size + 1) (.int .i64 k) (.int .i64 n) (.slice o2 len cap2) = wf at *
  refine bodyPost_ret (by simp [results, Tryd.results53, go_sem, f0, f1, f2]; rfl) rfl ?_
  refine ⟨o2, cap2, rfl, HS2.out.fr hf ?_, (((Quiet0.alloc _ _).trans (Quiet0.alloc _ _)).trans HQ1.out).trans' hf (fun kk hkk h => by omega)⟩
  intro kk _ hkk
  have hkk' : ((w.alloc (.cells #[.int .i64 k, .int .i64 n, .slice o len cap] 24)).alloc (.cells #[.int .i64 0, .int .i64 0, .slice none 0 0] 24)).heap.size ≤ kk := hkk
  simp at hkk'
  exact ⟨by omega, by omega⟩

theorem var_any (n : Int) (w : World) :
    Calls Tryd.prog 69 #[.int .i64 n] w fun e w' => e = .returned (tyv 1 n none 0 0) ∧ Quiet0 w w' := by
  unfold tyv
  go_enter Tryd.func69, Tryd.ntmps69
  go_wp2_with fail
  obtain ⟨f0, f1, f2⟩ := box_cells w 1 n none 0 0 24 _ (Quiet0.refl _)
  have hq := Quiet0.alloc w (.cells #[.int .i64 1, .int .i64 n, .slice none 0 0] 24)
  generalize w.alloc (.cells #[.int .i64 1, .int .i64 n, .slice none 0 0] 24) = wf at *
  refine bodyPost_ret (by simp [results, Tryd.results69, go_sem, f0, f1, f2]; rfl) rfl ?_
  exact ⟨rfl, hq⟩

def arrK : Fo → Int
  | .nil => 0
  | .cons k _ _ .nil => k
  | .cons _ _ _ (.cons _ _ _ _) => 4
def arrN : Fo → Int
  | .nil => 0
  | .cons _ n _ .nil => n
  | .cons _ _ _ (.cons _ _ _ _) => 0
def arrP : Fo → Fo
  | .nil => .nil
  | .cons _ _ ps .nil => ps
  | .cons k n ps (.cons k' n' ps' r) => .cons k n ps (.cons (arrK (.cons k' n' ps' r)) (arrN (.cons k' n' ps' r)) (arrP (.cons k' n' ps' r)) .nil)
def TArrow (f : Fo) : Prop := ∀ (w : World) (o : Option Addr) (len cap : Nat), Slc w o len f → len ≤ cap → f.size ≤ 1000000 →
    Calls Tryd.prog 20 #[.slice o len cap] w fun e w' => ∃ o' len' cap', e = .returned (tyv (arrK f) (arrN f) o' len' cap') ∧ SlcIn (fun b => w.heap.size ≤ b) w' o' len' (arrP f) ∧ Quiet0 w w'
theorem arrow_nil : TArrow .nil := by
  intro w o len cap hs hc hsz
  have hl : len = 0 := hs.1
  subst hl
  unfold tyv arrK arrN
  go_enter Tryd.func20, Tryd.ntmps20
  go_wp2_with fail
  obtain ⟨f0, f1, f2⟩ := box_cells w 0 0 none 0 0 24 _ (Quiet0.refl _)
  have hq := Quiet0.alloc w (.cells #[.int .i64 0, .int .i64 0, .slice none 0 0] 24)
  generalize w.alloc (.cells #[.int .i64 0, .int .i64 0, .slice none 0 0] 24) = wf at *
  refine bodyPost_ret (by simp [results, Tryd.results20, go_sem, f0, f1, f2]; rfl) rfl ?_
  exact ⟨none, 0, 0, rfl, SlcIn.nil _ _ _, hq⟩
theorem arrow_one (k n : Int) (ps : Fo) : TArrow (.cons k n ps .nil) := by
  intro w o len cap hs hc hsz
  have hl : len = 1 := hs.1
  subst hl
  obtain ⟨b, off, k', n', qs, o1, len1, cap1, rfl, hd, hg, e0, e1, e2, hs1⟩ := hs.nth (i := 0) (by omega)
  simp only [Fo.get] at hg
  cases hg
  have hsq : ps.size ≤ 1000000 := by simp only [Fo.size] at hsz; omega
  have HC := Lib.hid (copy_any k n ps (w.alloc (.cells #[.int .i64 0, .int .i64 0, .slice none 0 0] 24)) o1 len1 cap1 (hs1.stay (Quiet0.alloc _ _)) hsq)
  have HB1 := Lib.hid (heap_alloc_new w (.cells #[.int .i64 0, .int .i64 0, .slice none 0 0] 24))
  rw [Nat.zero_mul, Nat.add_zero] at e0 e1 e2
  have hbl := World.block_lt_of_cell? w _ e0
  clear hd hs hs1 hsz
  unfold tyv at *
  simp only [arrK, arrN, arrP]
  go_enter Tryd.func20, Tryd.ntmps20
  go_wp2_with fail
  refine HC.out.mono ?_; rintro e w1 ⟨o2, cap2, rfl, hs2, hq1⟩
  have hb1 := box_after HB1.out hq1
  have HB2 := Lib.hid hb1
  obtain ⟨d0, d1, d2, y0, y1, y2⟩ := box_cells3 hb1
  have HS2 := Lib.hid hs2
  have HQ1 := Lib.hid hq1
  clear hs2 hq1 hb1
  go_wp2_with fail
  clear d0 d1 d2 y0 y1 y2
  have hf := put3_fr w1 w.heap.size (.int .i64 k) (.int .i64 n) (.slice o2 len1 cap2)
  obtain ⟨f0, f1, f2⟩ := put3_cells (a := .int .i64 k) (b := .int .i64 n) (c := .slice o2 len1 cap2) HB2.out
  change bodyPost _ _ _ _ _ (put3 w1 w.heap.size (.int .i64 k) (.int .i64 n) (.slice o2 len1 cap2))
  generalize put3 w1 w.heap.size (.int .i64 k) (.int .i64 n) (.slice o2 len1 cap2) = wf at *
  refine bodyPost_ret (by simp [results, Tryd.results20, go_sem, f0, f1, f2]; rfl) rfl ?_
  refine ⟨o2, len1, cap2, rfl, HS2.out.fr hf ?_, ((Quiet0.alloc _ _).trans HQ1.out).trans' hf (fun kk hkk h => by omega)⟩
  intro kk _ hkk
  have hkk' : (w.alloc (.cells #[.int .i64 0, .int .i64 0, .slice none 0 0] 24)).heap.size ≤ kk := hkk
  simp at hkk'
  exact ⟨by omega, by omega⟩
set_option maxHeartbeats 2000000 in
theorem arrow_more (k n : Int) (ps : Fo) (k2 n2 : Int) (ps2 r : Fo) (ih : TArrow (.cons k2 n2 ps2 r)) : TArrow (.cons k n ps (.cons k2 n2 ps2 r)) := by
  intro w o len cap hs hc hsz
  have hl : len = r.length + 1 + 1 := hs.1
  have hmx := hs.2.1
  unfold maxLen at hmx
  obtain ⟨b, off, k', n', qs, o1, len1, cap1, rfl, hd, hg, e0, e1, e2, hs1⟩ := hs.nth (i := 0) (by omega)
  simp only [Fo.get] at hg
  cases hg
  have hsq : ps.size ≤ 1000000 := by simp only [Fo.size] at hsz; omega
  have HC := Lib.hid (copy_any k n ps)
  have hs2 : Slc w (some ⟨b, off + 3, none⟩) (len - 1) (.cons k2 n2 ps2 r) := by
    refine ⟨by simp only [Fo.length]; omega, by unfold maxLen; omega, fun _ => ⟨b, off + 3, rfl, ?_⟩⟩
    obtain ⟨b', off', he, ha⟩ := hs.2.2 (by omega)
    cases he
    exact ha.2.2.2
  have HB1 := Lib.hid (heap_alloc_new w (.cells #[.int .i64 0, .int .i64 0, .slice none 0 0] 24))
  rw [Nat.zero_mul, Nat.add_zero] at e0 e1 e2
  have hsz2 : (Fo.cons k2 n2 ps2 r).size ≤ 1000000 := by simp only [Fo.size] at hsz ⊢; omega
  have HS1 := Lib.hid hs1
  have HS2 := Lib.hid hs2
  have hlen2 : 2 ≤ len := by omega
  unfold TArrow at ih
  have IH := Lib.hid ih
  have j0 : (0 : Int) < (len : Int) := by omega
  have jn : 0 < len := by omega
  have j1 : (1 : Int) ≤ (len : Int) := by omega
  have j2 : (len : Int) ≤ (cap : Int) := by omega
  clear hd hs hs1 hs2 hsz hl ih
  unfold tyv at *
  have e4 : arrK (.cons k n ps (.cons k2 n2 ps2 r)) = 4 := rfl
  have e0' : arrN (.cons k n ps (.cons k2 n2 ps2 r)) = 0 := rfl
  have eP : arrP (.cons k n ps (.cons k2 n2 ps2 r)) = .cons k n ps (.cons (arrK (.cons k2 n2 ps2 r)) (arrN (.cons k2 n2 ps2 r)) (arrP (.cons k2 n2 ps2 r)) .nil) := rfl
  rw [e4, e0', eP]
  clear e4 e0' eP
  generalize arrP (.cons k2 n2 ps2 r) = pa at *
  generalize arrK (.cons k2 n2 ps2 r) = ka at *
  generalize arrN (.cons k2 n2 ps2 r) = na at *
  go_enter Tryd.func20, Tryd.ntmps20
  go_wp2_with fail
  obtain ⟨W0, hW0⟩ : ∃ W0, W0 = w.alloc (.cells #[.int .i64 0, .int .i64 0, .slice none 0 0] 24) := ⟨_, rfl⟩
  change Code.wp _ _ _ _ (w.alloc (.cells #[.int .i64 0, .int .i64 0, .slice none 0 0] 24))
  have HQ0 : Hid (Quiet0 w W0) := by rw [hW0]; exact Quiet0.alloc _ _
  have hz0 : w.heap.size + 1 = W0.heap.size := by rw [hW0]; simp
  have HZ := Lib.hid hz0
  rw [← hW0] at HB1 ⊢
  have g0 := HQ0.out.at e0
  have g1 := HQ0.out.at e1
  have g2 := HQ0.out.at e2
  have hbB : ¬ b = w.heap.size := by have := World.block_lt_of_cell? w _ e0; simp at this; omega
  clear hW0 e0 e1 e2 hz0
  generalize hB : w.heap.size = B at *
  have HBE := Lib.hid hB
  clear hB
  go_region_held3 (fun w' => w'.cell? ⟨b, off, none⟩ = some (.int .i64 k) ∧ w'.cell? ⟨b, off + 1, none⟩ = some (.int .i64 n) ∧ w'.cell? ⟨b, off + 2, none⟩ = some (.slice o1 len1 cap1))
    (first
      | (go_keep; done)
      | (exact ⟨h0, h1, h2⟩)
      | (exact ⟨f0, f1, f2⟩)
      | (exact ⟨g0, g1, g2⟩)
      | (have hp := put3_fr w4 B (.int .i64 4) (.int .i64 0) (.slice (some ⟨w4.heap.size, 0, none⟩) 2 2); exact ⟨(Quiet0.alloc _ _).at ((hp.cellb hb4l hbB).trans h0), (Quiet0.alloc _ _).at ((hp.cellb hb4l hbB).trans h1), (Quiet0.alloc _ _).at ((hp.cellb hb4l hbB).trans h2)⟩))
    (first
      | (go_at_call 53; refine (HC.out _ _ _ _ (HS1.out.stay (HQ0.out.trans (Quiet0.drew _))) hsq).mono ?_; rintro e w3 ⟨o2, cap2, rfl, hs3, hq3⟩; have f3 := (Quiet0.drew W0).trans hq3; have f0 := f3.at g0; have f1 := f3.at g1; have f2 := f3.at g2; have HQ3 := Lib.hid hq3; have HS3 := Lib.hid hs3; have HF3 := Lib.hid f3; clear hq3 hs3)
      | (go_at_call 20; refine (IH.out _ _ _ _ (HS2.out.stay (HQ0.out.trans HF3.out)) (by omega) hsz2).mono ?_; rintro e w4 ⟨o3, len3, cap3, rfl, hs4, hq4⟩; have h3 := HF3.out.trans hq4; have h0 := h3.at g0; have hb4l := World.block_lt_of_cell? w4 _ h0; have h1 := h3.at g1; have h2 := h3.at g2; have hb4 := box_after HB1.out h3; have hlt4 := lt_of_block hb4; obtain ⟨d0, d1, d2, y0, y1, y2⟩ := box_cells3 hb4; have HB4 := Lib.hid hb4; have HQ4 := Lib.hid hq4; have HS4 := Lib.hid hs4; have HF4 := Lib.hid h3; clear hq4 hs4 hb4))
  all_goals
    go_wp2_with fail
    clear d0 d1 d2 y0 y1 y2
    have hf := put3_fr w4 B (.int .i64 4) (.int .i64 0) (.slice (some ⟨w4.heap.size, 0, none⟩) 2 2)
    obtain ⟨p0, p1, p2⟩ := put3_cells (a := .int .i64 4) (b := .int .i64 0) (c := .slice (some ⟨w4.heap.size, 0, none⟩) 2 2) HB4.out
    have hps : (put3 w4 B (.int .i64 4) (.int .i64 0) (.slice (some ⟨w4.heap.size, 0, none⟩) 2 2)).heap.size = w4.heap.size := by simp [put3, World.setCell]
    change bodyPost _ _ _ _ _ ((put3 w4 B (.int .i64 4) (.int .i64 0) (.slice (some ⟨w4.heap.size, 0, none⟩) 2 2)).alloc (.cells #[.int .i64 k, .int .i64 n, .slice o2 len1 cap2, .int .i64 ka, .int .i64 na, .slice o3 len3 cap3] 24))
    generalize put3 w4 B (.int .i64 4) (.int .i64 0) (.slice (some ⟨w4.heap.size, 0, none⟩) 2 2) = w5 at *
    have hnew := heap_alloc_new w5 (.cells #[.int .i64 k, .int .i64 n, .slice o2 len1 cap2, .int .i64 ka, .int .i64 na, .slice o3 len3 cap3] 24)
    have hqa := Quiet0.alloc w5 (.cells #[.int .i64 k, .int .i64 n, .slice o2 len1 cap2, .int .i64 ka, .int .i64 na, .slice o3 len3 cap3] 24)
    generalize w5.alloc (.cells #[.int .i64 k, .int .i64 n, .slice o2 len1 cap2, .int .i64 ka, .int .i64 na, .slice o3 len3 cap3] 24) = wf at *
    rw [hps] at hnew
    have q0 := hqa.at p0
    have q1 := hqa.at p1
    have q2 := hqa.at p2
    refine bodyPost_ret (by simp [results, Tryd.results20, go_sem, q0, q1, q2]; rfl) rfl ?_
    have hbe := HBE.out
    have hz := HZ.out
    have hw3 := HF3.out.size
    have hw4 := HF4.out.size
    have hfa : Fr (fun kk => kk = B) w4 wf := hf.trans (hqa.mono (fun _ _ h => h.elim))
    refine ⟨some ⟨w4.heap.size, 0, none⟩, 2, 2, rfl, ⟨rfl, by decide, fun _ => ⟨w4.heap.size, 0, rfl, ?_⟩⟩, ((HQ0.out.trans HF4.out).trans' hfa (fun kk hkk h => by omega))⟩
    have hsa : SlcIn (fun kk => w.heap.size ≤ kk) wf o2 len1 ps := by
      refine (HS3.out.fr (T := fun kk => W0.heap.size ≤ kk) HQ4.out (fun kk _ h => ⟨h, fun h => h⟩)).fr hfa ?_
      intro kk _ h
      have h' : W0.heap.size ≤ kk := h
      exact ⟨by omega, by omega⟩
    have hsb : SlcIn (fun kk => w.heap.size ≤ kk) wf o3 len3 pa := by
      refine HS4.out.fr hfa ?_
      intro kk _ h
      have h' : w3.heap.size ≤ kk := h
      exact ⟨by omega, by omega⟩
    have hR : w.heap.size ≤ w4.heap.size := by omega
    exact ⟨hR, by rw [cell_of_row _ _ _ _ _ (0, 0) hnew]; rfl, by rw [cell_of_row _ _ _ _ _ (0, 0) hnew]; rfl, ⟨o2, len1, cap2, by rw [cell_of_row _ _ _ _ _ (0, 0) hnew]; rfl, hsa.1, hsa.2.1, hsa.2.2⟩,
      hR, by rw [cell_of_row _ _ _ _ _ (0, 0) hnew]; rfl, by rw [cell_of_row _ _ _ _ _ (0, 0) hnew]; rfl, ⟨o3, len3, cap3, by rw [cell_of_row _ _ _ _ _ (0, 0) hnew]; rfl, hsb.1, hsb.2.1, hsb.2.2⟩, trivial⟩
theorem arrow_any : ∀ f : Fo, TArrow f
  | .nil => arrow_nil
  | .cons k n ps .nil => arrow_one k n ps
  | .cons k n ps (.cons k2 n2 ps2 r) => arrow_more k n ps k2 n2 ps2 r (arrow_any (.cons k2 n2 ps2 r))
end Go.Proofs.YtggidhgifaekbaaDoor
end
section
/-
  Blocks and frames carried on, for arms of drawn regions. No condition.
-/
namespace Go.Proofs.YtggidhgifaekbaaDoor
open Go.RowKit

theorem with_q {w0 W w3 : World} {G : Prop} (h : Quiet0 w0 W) (hq : Quiet0 W w3) (k : Quiet0 w0 w3 → G) : G := k (h.trans hq)
theorem blk_new (w : World) (b : Nat) (cs : Array Value) (t : TypeId) (h : b = w.heap.size) : (w.alloc (.cells cs t)).heap[b]? = some (.cells cs t (0, 0)) := by
  subst h; exact heap_alloc_new w _
theorem blk_after {w W : World} {b : Nat} {o : Obj} (hq : Quiet0 w W) (h : w.heap[b]? = some o) : W.heap[b]? = some o := by
  have hlt : b < w.heap.size := (Array.getElem?_eq_some_iff.1 h).1
  rw [hq.block b hlt (fun h => h)]; exact h
theorem blk_drew {w : World} {b : Nat} {o : Obj} (h : w.heap[b]? = some o) : w.drew.heap[b]? = some o := h
theorem with_fr {w0 W w3 : World} {B : Nat} {G : Prop} (h : Fr (fun k => B ≤ k) w0 W) (hq : Quiet0 W w3) (k : Fr (fun k => B ≤ k) w0 w3 → w0.heap.size ≤ w3.heap.size → G) : G :=
  k (h.trans (hq.mono (fun _ _ h => h.elim))) (h.trans (hq.mono (fun _ _ h => h.elim))).size
theorem Quiet0.fr {S : Nat → Prop} {w w' : World} (h : Quiet0 w w') : Fr S w w' := h.mono (fun _ _ h => h.elim)
theorem with_frq {S : Nat → Prop} {w0 W w3 : World} {G : Prop} (h : Fr S w0 W) (hq : Quiet0 W w3) (k : Fr S w0 w3 → G) : G := k (h.trans hq.fr)
/-- a cell of a block is set: what the block is then -/
theorem set_block {w : World} {b i : Nat} {cs : Array Value} {u : Value} {t : TypeId} {z : Nat × Nat} (h : w.heap[b]? = some (.cells cs t z)) : (w.setCell ⟨b, i, none⟩ u).heap[b]? = some (.cells (cs.setIfInBounds i u) t z) := by
  have hlt := (Array.getElem?_eq_some_iff.1 h).1
  have h' : w.heap[b] = .cells cs t z := by simpa [Array.getElem?_eq_getElem hlt] using h
  show (w.heap.modify b _)[b]? = _
  rw [Array.getElem?_eq_getElem (by simpa using hlt), Array.getElem_modify_self, h']
  rfl
theorem blk_fr {S : Nat → Prop} {w W : World} {b : Nat} {o : Obj} (hf : Fr S w W) (hb : ¬ S b) (h : w.heap[b]? = some o) : W.heap[b]? = some o := by
  rw [hf.block b (Array.getElem?_eq_some_iff.1 h).1 hb]; exact h
theorem with_fr2 {w0 W w3 : World} {S : Nat → Prop} {G : Prop} (h : Quiet0 w0 W) (hf : Fr S W w3) (hS : ∀ k, S k → w0.heap.size ≤ k) (k : Quiet0 w0 w3 → w0.heap.size ≤ w3.heap.size → G) : G :=
  have hq : Quiet0 w0 w3 := Fr.trans' h hf (fun i hi hs => by have := hS i hs; omega)
  k hq hq.size
end Go.Proofs.YtggidhgifaekbaaDoor
end
section
/-
  Small facts for laws: rows of one and of two types, blocks, frames. No condition.
-/
namespace Go.Proofs.YtggidhgifaekbaaDoor
open Go.RowKit

theorem slc1 {W : World} {b : Nat} {k n : Int} {o : Option Addr} {len cap : Nat} {ps : Fo} (hb : W.heap[b]? = some (.cells #[.int .i64 k, .int .i64 n, .slice o len cap] 24 (0, 0))) (h1 : Slc W o len ps) : Slc W (some ⟨b, 0, none⟩) 1 (.cons k n ps .nil) :=
  ⟨rfl, by decide, fun _ => ⟨_, 0, rfl, by rw [cell_of_row _ _ _ _ _ (0, 0) hb]; rfl, by rw [cell_of_row _ _ _ _ _ (0, 0) hb]; rfl, ⟨o, len, cap, by rw [cell_of_row _ _ _ _ _ (0, 0) hb]; rfl, h1.1, h1.2.1, h1.2.2⟩, trivial⟩⟩
theorem slc2 {W : World} {b : Nat} {k1 n1 : Int} {o1 : Option Addr} {l1 c1 : Nat} {p1 : Fo} {k2 n2 : Int} {o2 : Option Addr} {l2 c2 : Nat} {p2 : Fo}
    (hb : W.heap[b]? = some (.cells #[.int .i64 k1, .int .i64 n1, .slice o1 l1 c1, .int .i64 k2, .int .i64 n2, .slice o2 l2 c2] 24 (0, 0))) (h1 : Slc W o1 l1 p1) (h2 : Slc W o2 l2 p2) :
    Slc W (some ⟨b, 0, none⟩) 2 (.cons k1 n1 p1 (.cons k2 n2 p2 .nil)) :=
  ⟨rfl, by decide, fun _ => ⟨b, 0, rfl, by rw [cell_of_row _ _ _ _ _ (0, 0) hb]; rfl, by rw [cell_of_row _ _ _ _ _ (0, 0) hb]; rfl, ⟨o1, l1, c1, by rw [cell_of_row _ _ _ _ _ (0, 0) hb]; rfl, h1.1, h1.2.1, h1.2.2⟩,
    by rw [cell_of_row _ _ _ _ _ (0, 0) hb]; rfl, by rw [cell_of_row _ _ _ _ _ (0, 0) hb]; rfl, ⟨o2, l2, c2, by rw [cell_of_row _ _ _ _ _ (0, 0) hb]; rfl, h2.1, h2.2.1, h2.2.2⟩, trivial⟩⟩
/-- types.Arrow of two types that were laid in a row of their own -/
theorem arrow2 (W : World) (b : Nat) (k1 n1 : Int) (o1 : Option Addr) (l1 c1 : Nat) (p1 : Fo) (k2 n2 : Int) (o2 : Option Addr) (l2 c2 : Nat) (p2 : Fo)
    (hb : W.heap[b]? = some (.cells #[.int .i64 k1, .int .i64 n1, .slice o1 l1 c1, .int .i64 k2, .int .i64 n2, .slice o2 l2 c2] 24 (0, 0))) (h1 : Slc W o1 l1 p1) (h2 : Slc W o2 l2 p2) (hz : p1.size + p2.size ≤ 1000) :
    Calls Tryd.prog 20 #[.slice (some ⟨b, 0, none⟩) 2 2] W
      fun e w' => ∃ o' cap', e = .returned (.agg #[.int .i64 4, .int .i64 0, .slice o' 2 cap']) ∧ SlcIn (fun b => W.heap.size ≤ b) w' o' 2 (.cons k1 n1 p1 (.cons k2 n2 p2 .nil)) ∧ Quiet0 W w' := by
  refine (arrow_any _ _ _ 2 2 (slc2 hb h1 h2) (Nat.le_refl _) (by simp only [Fo.size]; omega)).mono ?_
  rintro e w' ⟨o', len', cap', rfl, hs', hq⟩
  have hl : len' = 2 := hs'.1
  subst hl
  exact ⟨o', cap', rfl, hs', hq⟩
theorem box_use {w : World} {b : Nat} {a0 a1 a2 : Value} {t : TypeId} {G : Prop} (h : w.heap[b]? = some (.cells #[a0, a1, a2] t (0, 0)))
    (k : w.cell? ⟨b, 0, none⟩ = some a0 → w.cell? ⟨b, 1, none⟩ = some a1 → w.cell? ⟨b, 2, none⟩ = some a2 → w.frozen? ⟨b, 0, none⟩ = false → w.frozen? ⟨b, 1, none⟩ = false → w.frozen? ⟨b, 2, none⟩ = false → w.heap[b]? = some (.cells #[a0, a1, a2] t (0, 0)) → G) : G := by
  obtain ⟨z0, z1, z2, y0, y1, y2⟩ := box_cells3 h
  exact k z0 z1 z2 y0 y1 y2 h
theorem box5_use {w : World} {b : Nat} {a0 a1 a2 a3 a4 : Value} {t : TypeId} {G : Prop} (h : w.heap[b]? = some (.cells #[a0, a1, a2, a3, a4] t (0, 0)))
    (k : w.cell? ⟨b, 0, none⟩ = some a0 → w.cell? ⟨b, 1, none⟩ = some a1 → w.cell? ⟨b, 2, none⟩ = some a2 → w.cell? ⟨b, 3, none⟩ = some a3 → w.cell? ⟨b, 4, none⟩ = some a4 →
      w.frozen? ⟨b, 0, none⟩ = false → w.frozen? ⟨b, 1, none⟩ = false → w.frozen? ⟨b, 2, none⟩ = false → w.frozen? ⟨b, 3, none⟩ = false → w.frozen? ⟨b, 4, none⟩ = false → w.heap[b]? = some (.cells #[a0, a1, a2, a3, a4] t (0, 0)) → G) : G := by
  refine k ?_ ?_ ?_ ?_ ?_ ?_ ?_ ?_ ?_ ?_ h
  all_goals first | (rw [cell_of_row _ _ _ _ _ (0, 0) h]; rfl) | simp [World.frozen?, h]
theorem put_end {W0 w5 : World} {d : Nat} {a0 a1 a2 : Value} {o5 : Option Addr} {cp5 : Nat} {PS : Fo} {R : Nat → Prop}
    (hz : w5.heap[d]? = some (.cells #[a0, a1, a2] 24 (0, 0))) (hs : SlcIn R w5 o5 2 PS) (hd : ∀ k, R k → k ≠ d) (hf : Fr (fun k => W0.heap.size ≤ k) W0 w5) (hdd : W0.heap.size ≤ d) :
    ∃ d' o cp, Value.pointer (some ⟨d, 0, none⟩) = Value.pointer (some ⟨d', 0, none⟩) ∧ (put3 w5 d (.int .i64 4) (.int .i64 0) (.slice o5 2 cp5)).heap[d']? = some (.cells #[.int .i64 4, .int .i64 0, .slice o 2 cp] 24 (0, 0)) ∧ Slc (put3 w5 d (.int .i64 4) (.int .i64 0) (.slice o5 2 cp5)) o 2 PS ∧ Quiet0 W0 (put3 w5 d (.int .i64 4) (.int .i64 0) (.slice o5 2 cp5)) := by
  refine ⟨d, o5, cp5, rfl, box_set2 (box_set1 (box_set0 hz)), (hs.fr (T := R) (put3_fr w5 d _ _ _) (fun k _ hk => ⟨hk, hd k hk⟩)).slc, ?_⟩
  exact Fr.trans' (hf.mono (fun k hk h => by omega)) (put3_fr w5 d _ _ _) (fun i hi h => by omega)
end Go.Proofs.YtggidhgifaekbaaDoor
end
section
/-
  Depth of a term, by the reference and by the program; the law's bound (room, Great). Conditions: the term lies in memory as told; where numbers are added up, there are few terms.
-/
namespace Go.Proofs.YtggidhgifaekbaaDoor
open Go.RowKit

theorem box9 (w : World) (h : Nd) (o1 : Option Addr) (l1 c1 : Nat) (o2 : Option Addr) (l2 c2 : Nat) (t : TypeId) (W : World) (hq : Quiet0 (w.alloc (.cells (cells9 h o1 l1 c1 o2 l2 c2) t)) W) : Cells9 W w.heap.size 0 h o1 l1 c1 o2 l2 c2 :=
  (cells9_new w h o1 l1 c1 o2 l2 c2 t).fr hq (fun h => h)
/-- ref.Depth -/
def RDepthT (h : Nd) (ps : To) : Prop := ∀ (w : World) (R : Nat → Prop) (o1 : Option Addr) (l1 c1 : Nat) (o2 : Option Addr) (l2 c2 : Nat), TSlc R w o2 l2 ps → ps.size ≤ 1000000 →
  Calls Tryd.prog 30 #[tmv h o1 l1 c1 o2 l2 c2] w fun e w' => e = .returned (.int .i64 ((ps.depth + 1 : Nat) : Int)) ∧ Quiet0 w w'
set_option maxHeartbeats 1000000 in
theorem refDepthT_any (h : Nd) (ps : To) : RDepthT h ps := by
  refine To.ind' (T := RDepthT) ?_ h ps
  intro h ps ih w R o1 l1 c1 o2 l2 c2 hs hsz
  have HS := Lib.hid hs
  have IH := Lib.hid ih
  have hl := hs.1
  have hll := To.length_le ps
  rw [← hl] at hll
  have HL := Lib.hid hl
  have hdp := To.depth_le ps
  clear hs ih hl
  unfold tmv
  go_enter Tryd.func30, Tryd.ntmps30
  go_wp2_with fail
  obtain ⟨W0, hW0⟩ : ∃ W0, W0 = w.alloc (.cells (cells9 h o1 l1 c1 o2 l2 c2) 35) := ⟨_, rfl⟩
  have HB : Hid (∀ W, Quiet0 W0 W → W.cell? ⟨w.heap.size, 6, none⟩ = some (.slice o2 l2 c2)) := by
    intro W hq; rw [hW0] at hq; exact (box9 w h o1 l1 c1 o2 l2 c2 _ W hq).2.2.2.2.2.2.1
  have HQ0 : Hid (Quiet0 w W0) := by rw [hW0]; exact Quiet0.alloc _ _
  change Code.wp _ _ _ _ (w.alloc (.cells (cells9 h o1 l1 c1 o2 l2 c2) 35))
  rw [← hW0]
  clear hW0
  generalize w.heap.size = nb at *
  go_loopw [3, 4] (fun s t wr => ∃ (i m : Nat), t = .int .i64 i ∧ s = .int .i64 m ∧ i ≤ l2 ∧ 1 ≤ m ∧ max m ((ps.drop i).depth + 1) = ps.depth + 1 ∧ Quiet0 W0 wr) (fun _ t _ => l2 - (intOf t).toNat)
  case atStart => exact ⟨0, 1, rfl, rfl, Nat.zero_le _, Nat.le_refl _, by rw [To.drop_zero]; omega, Quiet0.refl _⟩
  case round =>
    obtain ⟨i, m, rfl, rfl, hi, hm1, hm, hq⟩ := hrel
    have HM := Lib.hid hm
    have HQ := Lib.hid hq
    have cc := HB.out wr hq
    have hmb : m ≤ 1000001 := by omega
    clear hm hq
    by_cases hlt : i < l2
    · have hlt' : (i : Int) < l2 := by omega
      obtain ⟨b, off, hd, qs, p1, m1, d1, p2, m2, d2, rfl, hd1, hg, hRb, ⟨e0, e1, e2, e3, e4, e5, e6, e7, e8⟩, hs1, ht1⟩ := (HS.out.stay (HQ0.out.trans HQ.out)).nth hlt
      have hsq := To.size_get ps i hd qs hg
      have hqd := To.depth_le qs
      have hqs : qs.depth ≤ 1000001 := by omega
      have HC := Lib.hid (IH.out i hd qs hg wr R p1 m1 d1 p2 m2 d2 ht1 (by omega))
      have HD : Hid (max (max m (qs.depth + 1 + 1)) ((ps.drop (i + 1)).depth + 1) = ps.depth + 1) := by
        have := HM.out; rw [hd1] at this; simp only [To.depth] at this; show _ = _; omega
      unfold tmv at HC
      clear hd1 hg hs1 ht1 hsq hqd hRb
      by_cases hgt : m < qs.depth + 1 + 1
      · have hgt' : (m : Int) < (qs.depth : Int) + 1 + 1 := by omega
        go_wp2_with fail
        refine HC.out.mono ?_; rintro e w1 ⟨rfl, hq1⟩
        have HQ1 := Lib.hid (HQ.out.trans hq1)
        clear hq1
        go_wp2_with fail
        go_roundw
        case rel => exact ⟨i + 1, qs.depth + 1 + 1, by go_num, by go_num, by omega, by omega, by have := HD.out; omega, HQ1.out⟩
        case measure => simp [intOf]; omega
      · have hgt' : ¬ (m : Int) < (qs.depth : Int) + 1 + 1 := by omega
        go_wp2_with fail
        refine HC.out.mono ?_; rintro e w1 ⟨rfl, hq1⟩
        have HQ1 := Lib.hid (HQ.out.trans hq1)
        clear hq1
        go_wp2_with fail
        go_roundw
        case rel => exact ⟨i + 1, m, by go_num, rfl, by omega, by omega, by have := HD.out; omega, HQ1.out⟩
        case measure => simp [intOf]; omega
    · have hlt' : ¬ (i : Int) < l2 := by omega
      go_wp2_with fail
      go_ret
      refine ⟨ret_int (a := (m : Nat)) ?_, HQ0.out.trans HQ.out⟩
      have := HM.out
      rw [To.drop_end ps i (by have := HL.out; omega)] at this
      simp only [To.depth] at this
      omega
end Go.Proofs.YtggidhgifaekbaaDoor
end
