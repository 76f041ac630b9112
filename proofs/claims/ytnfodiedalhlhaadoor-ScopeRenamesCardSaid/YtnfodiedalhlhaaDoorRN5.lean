/-
  Texts laid together (TyChange, TyArrow, TyAux, TeRef, ScStr, ScAround): laws and walks, with their conditions in their statements.
-/
import Derived.Handy
import Derived.Deep.QuietTactic
import Derived.Test.YtnfodiedalhlhaaDoorRN4
section
namespace Go.Proofs.YtnfodiedalhlhaaDoor
open Go.RowKit Go.Shelf
theorem elemTy : Elem Tryd.prog 23 25 (.agg #[.int .i64 0, .int .i64 0, .slice none 0 0]) 3 40 :=
  ⟨Tryd.underlying23, by kernel_rfl, by decide, by decide⟩
def DoK (g : Nat) (lb : Array Value) (w0 : World) (G : Int → Prop) (p : Int → Int) : Prop := ∀ (n : Int) (W : World), G n → Quiet0 w0 W →
  Calls Tryd.prog g (#[.int .i64 n] ++ lb) W fun e W' => e = .returned (.int .i64 (p n)) ∧ Quiet0 W W'
def newN (p : Int → Int) (k n : Int) : Int := if k == 1 then p n else n
def TChange (g : Nat) (lb : Array Value) (w0 : World) (G : Int → Prop) (p : Int → Int) (k n : Int) (ps : Fo) : Prop :=
  ∀ (w : World) (o : Option Addr) (len cap : Nat), Quiet0 w0 w → Slc w o len ps → ps.size ≤ 1000000 → G n → allF G ps →
    Calls Tryd.prog 106 #[tyv k n o len cap, .func (.func g) #[] lb] w fun e w' => ∃ o' cap', e = .returned (tyv k (newN p k n) o' len cap') ∧ SlcIn (fun b => w.heap.size ≤ b) w' o' len (ps.change p) ∧ Quiet0 w w'
theorem box_after {w W : World} {a b c : Value} {t : TypeId} {B : Nat} (h : w.heap[B]? = some (.cells #[a, b, c] t (0, 0))) (hq : Quiet0 w W) : W.heap[B]? = some (.cells #[a, b, c] t (0, 0)) := by
  rw [hq.block B (lt_of_block h) (fun h => h)]; exact h
theorem box_cells3 {w : World} {a b c : Value} {t : TypeId} {B : Nat} (h : w.heap[B]? = some (.cells #[a, b, c] t (0, 0))) : w.cell? ⟨B, 0, none⟩ = some a ∧ w.cell? ⟨B, 1, none⟩ = some b ∧ w.cell? ⟨B, 2, none⟩ = some c ∧ w.frozen? ⟨B, 0, none⟩ = false ∧ w.frozen? ⟨B, 1, none⟩ = false ∧ w.frozen? ⟨B, 2, none⟩ = false := by
  refine ⟨?_, ?_, ?_, ?_, ?_, ?_⟩
  · rw [cell_of_row _ _ _ _ _ (0, 0) h]; rfl
  · rw [cell_of_row _ _ _ _ _ (0, 0) h]; rfl
  · rw [cell_of_row _ _ _ _ _ (0, 0) h]; rfl
  · simp [World.frozen?, h]
  · simp [World.frozen?, h]
  · simp [World.frozen?, h]
theorem box_set1 {w : World} {a b c u : Value} {t : TypeId} {B : Nat} (h : w.heap[B]? = some (.cells #[a, b, c] t (0, 0))) : (w.setCell ⟨B, 1, none⟩ u).heap[B]? = some (.cells #[a, u, c] t (0, 0)) := by
  have hlt := lt_of_block h
  have h' : w.heap[B] = .cells #[a, b, c] t (0, 0) := by simpa [Array.getElem?_eq_getElem hlt] using h
  show (w.heap.modify B _)[B]? = _
  rw [Array.getElem?_eq_getElem (by simpa using hlt), Array.getElem_modify_self, h']
  rfl
theorem box_set0 {w : World} {a b c u : Value} {t : TypeId} {B : Nat} (h : w.heap[B]? = some (.cells #[a, b, c] t (0, 0))) : (w.setCell ⟨B, 0, none⟩ u).heap[B]? = some (.cells #[u, b, c] t (0, 0)) := by
  have hlt := lt_of_block h
  have h' : w.heap[B] = .cells #[a, b, c] t (0, 0) := by simpa [Array.getElem?_eq_getElem hlt] using h
  show (w.heap.modify B _)[B]? = _
  rw [Array.getElem?_eq_getElem (by simpa using hlt), Array.getElem_modify_self, h']
  rfl
theorem box_set2 {w : World} {a b c u : Value} {t : TypeId} {B : Nat} (h : w.heap[B]? = some (.cells #[a, b, c] t (0, 0))) : (w.setCell ⟨B, 2, none⟩ u).heap[B]? = some (.cells #[a, b, u] t (0, 0)) := by
  have hlt := lt_of_block h
  have h' : w.heap[B] = .cells #[a, b, c] t (0, 0) := by simpa [Array.getElem?_eq_getElem hlt] using h
  show (w.heap.modify B _)[B]? = _
  rw [Array.getElem?_eq_getElem (by simpa using hlt), Array.getElem_modify_self, h']
  rfl
set_option maxHeartbeats 4000000 in
theorem change_any {g : Nat} {lb : Array Value} {w0 : World} {G : Int → Prop} {p : Int → Int} (eg : ∀ args w, (callFunc g args).run Tryd.prog w = .ok (.enter g args) w) (hK : DoK g lb w0 G p) (k n : Int) (ps : Fo) : TChange g lb w0 G p k n ps := by
  refine Fo.ind' (T := TChange g lb w0 G p) ?_ k n ps
  intro k n ps ih w o len cap hw hs hsz hgn hgp
  have HGN := Lib.hid hgn
  have HGP := Lib.hid hgp
  clear hgn hgp
  have HS := Lib.hid hs
  have IH := Lib.hid ih
  have HL := Lib.hid hs.1
  have hmx := hs.2.1
  have hll := Fo.length_le ps
  rw [← hs.1] at hll
  unfold maxLen at hmx
  have HK := Lib.hid hK
  have HW := Lib.hid hw
  have hb0 : ((w.alloc (.cells #[.int .i64 k, .int .i64 n, .slice o len cap] 25)).alloc (.cells #[.int .i64 0, .int .i64 0, .slice none 0 0] 25)).heap[w.heap.size]? = some (.cells #[.int .i64 k, .int .i64 n, .slice o len cap] 25 (0, 0)) := by
    rw [Below.heap_alloc _ _ _ (by simp)]; exact heap_alloc_new w _
  have hb1 : ((w.alloc (.cells #[.int .i64 k, .int .i64 n, .slice o len cap] 25)).alloc (.cells #[.int .i64 0, .int .i64 0, .slice none 0 0] 25)).heap[w.heap.size + 1]? = some (.cells #[.int .i64 0, .int .i64 0, .slice none 0 0] 25 (0, 0)) := by
    have := heap_alloc_new (w.alloc (.cells #[.int .i64 k, .int .i64 n, .slice o len cap] 25)) (.cells #[.int .i64 0, .int .i64 0, .slice none 0 0] 25)
    simpa using this
  have HB0 := Lib.hid hb0
  have HB1 := Lib.hid hb1
  clear hs ih hK hw hb0 hb1
  unfold tyv
  cases hk : (k == 1)
  · go_enter Tryd.func106, Tryd.ntmps106
    go_wp2_with fail
    obtain ⟨W0, hW0⟩ : ∃ W0, W0 = ((w.alloc (.cells #[.int .i64 k, .int .i64 n, .slice o len cap] 25)).alloc (.cells #[.int .i64 0, .int .i64 0, .slice none 0 0] 25)) := ⟨_, rfl⟩
    change Code.wp _ _ _ _ ((w.alloc (.cells #[.int .i64 k, .int .i64 n, .slice o len cap] 25)).alloc (.cells #[.int .i64 0, .int .i64 0, .slice none 0 0] 25))
    have HQ0 : Hid (Quiet0 w W0) := by rw [hW0]; exact (Quiet0.alloc _ _).trans (Quiet0.alloc _ _)
    have hz0 : w.heap.size + 2 ≤ W0.heap.size := by rw [hW0]; simp
    have HN : Hid (newN p k n = n) := by show _ = _; unfold newN; rw [hk]; rfl
    rw [← hW0] at HB0 HB1 ⊢
    clear hW0 hk
    generalize hnn : newN p k n = n' at *
    generalize hB : w.heap.size = B at *
    have HBE := Lib.hid hB
    clear hB
    go_loopw [5, 19] (fun v t wr => ∃ (i : Nat) (f : Fo) (xs : List Value) (vo : Option Addr) (vc : Nat), t = .int .i64 i ∧ i ≤ len ∧ v = .slice vo i vc ∧ f.length = i ∧ f.app ((ps.drop i).change p) = ps.change p ∧ TyRow wr W0.heap.size (.slice vo i vc) f xs ∧ Quiet0 W0 wr) (fun _ t _ => len - (intOf t).toNat)
    case atStart => exact ⟨0, .nil, [], none, 0, rfl, Nat.zero_le _, rfl, rfl, by rw [Fo.drop_zero]; rfl, TyRow.nil _ _, Quiet0.refl _⟩
    case round =>
      obtain ⟨i, f, xs, vo, vc, rfl, hi, rfl, hfl, hap, hrow, hq⟩ := hrel
      have HF := Lib.hid hfl
      have HAP := Lib.hid hap
      have HR := Lib.hid hrow
      have HQ := Lib.hid hq
      clear hfl hap hrow hq
      by_cases hlt : i < len
      · have hlt' : (i : Int) < len := by omega
        obtain ⟨b, off, k1, n1, qs, o1, len1, cap1, rfl, hd, hg, e0, e1, e2, hs1⟩ := (HS.out.stay (HQ0.out.trans HQ.out)).nth hlt
        have hsq := Fo.size_get ps i k1 n1 qs hg
        have HC := Lib.hid (IH.out i k1 n1 qs hg (wr.alloc (.cells #[.int .i64 k1, .int .i64 n1, .slice o1 len1 cap1] 25)) o1 len1 cap1 (HW.out.trans ((HQ0.out.trans HQ.out).trans (Quiet0.alloc _ _))) (hs1.stay (Quiet0.alloc _ _)) (by omega) (allF_get ps i k1 n1 qs HGP.out hg).1 (allF_get ps i k1 n1 qs HGP.out hg).2)
        have HD : Hid ((f.app (.cons k1 (newN p k1 n1) (qs.change p) .nil)).app ((ps.drop (i + 1)).change p) = ps.change p) := by
          show _ = _
          rw [← HAP.out, hd, Fo.app_assoc]; rfl
        unfold tyv at HC
        clear hd hg hs1 hsq
        generalize newN p k1 n1 = n2 at *
        go_wp2_with fail
        refine HC.out.mono ?_; rintro e w1 ⟨o2, cap2, rfl, hs2, hq1⟩
        have HS2 := Lib.hid hs2
        have HQ1 := Lib.hid ((Quiet0.alloc _ _).trans hq1)
        have HR1 := Lib.hid (HR.out.stay HQ1.out)
        clear hs2 hq1
        go_wp2_with (at_builtin; go_must (refine wpList_append_one w1 rfl (.tmp 23) (.tmp 27) 23 rfl 25 _ 3 40 elemTy (.slice vo i vc) i xs rfl (HF.out ▸ HR1.out.own) #[.int .i64 k1, .int .i64 n2, .slice o2 len1 cap2] rfl rfl ?c1 ?c2 ?c3 ?_))
        case c1 => simp [Value.oneCell']
        case c2 => unfold maxLen; omega
        case c3 => omega
        intro g2 c' w2 ho hf hg2
        have hlow : W0.heap.size ≤ w1.heap.size := Nat.le_trans HQ.out.size HQ1.out.size
        have hown : ∀ kk, (Value.slice vo i vc).ownBlock = some kk → kk < wr.heap.size := fun kk h => (HR.out.own.lt kk h).2
        have HR2 : Hid (TyRow w2 W0.heap.size (.slice (some ⟨g2, 0, none⟩) (i + 1) c') (f.app (.cons k1 n2 (qs.change p) .nil)) (xs ++ [.int .i64 k1, .int .i64 n2, .slice o2 len1 cap2])) := by
          show TyRow _ _ _ _ _
          have hf' := HF.out
          subst hf'
          refine TyRow.snoc HR1.out (HS2.out.fr (Fr.refl (fun _ => False) _) ?_) ho hf hg2 hlow
          intro kk _ hkk
          have hkk' : (wr.alloc (.cells #[.int .i64 k1, .int .i64 n1, .slice o1 len1 cap1] 25)).heap.size ≤ kk := hkk
          simp at hkk'
          refine ⟨⟨by have := HQ.out.size; omega, fun h => ?_⟩, fun h => h⟩
          have := hown kk h; omega
        have HQ2 : Hid (Quiet0 W0 w2) := by
          show Quiet0 _ _
          exact Fr.trans' (HQ.out.trans HQ1.out) hf (fun kk hkk h => absurd (HR.out.low kk h) (by omega))
        have HL2 : Hid ((f.app (.cons k1 n2 (qs.change p) .nil)).length = i + 1) := by
          show _ = _
          rw [Fo.app_length, HF.out]; rfl
        clear ho hf hg2 hown
        go_wp2_with fail
        go_roundw
        case rel => exact ⟨i + 1, _, _, some ⟨g2, 0, none⟩, c', by go_num, by omega, rfl, HL2.out, HD.out, HR2.out, HQ2.out⟩
        case measure => simp [intOf]; omega
      · have hlt' : ¬ (i : Int) < len := by omega
        have hb1 := box_after HB1.out HQ.out
        have hb0 := box_after HB0.out HQ.out
        obtain ⟨c0, c1, c2, z0, z1, z2⟩ := box_cells3 hb0
        obtain ⟨d0, d1, d2, y0, y1, y2⟩ := box_cells3 hb1
        have HB0 := Lib.hid hb0
        have HB1 := Lib.hid hb1
        clear hb0 hb1
        have hil : i = len := by omega
        have HFIN : Hid (∀ u v x y : Value, SlcIn (fun b => w.heap.size ≤ b) ((((wr.setCell ⟨B, 2, none⟩ u).setCell ⟨B + 1, 0, none⟩ v).setCell ⟨B + 1, 1, none⟩ x).setCell ⟨B + 1, 2, none⟩ y) vo len (ps.change p) ∧ Quiet0 w ((((wr.setCell ⟨B, 2, none⟩ u).setCell ⟨B + 1, 0, none⟩ v).setCell ⟨B + 1, 1, none⟩ x).setCell ⟨B + 1, 2, none⟩ y)) := by
          intro u v x y
          have hf : Fr (fun kk => kk = B ∨ kk = B + 1) wr ((((wr.setCell ⟨B, 2, none⟩ u).setCell ⟨B + 1, 0, none⟩ v).setCell ⟨B + 1, 1, none⟩ x).setCell ⟨B + 1, 2, none⟩ y) :=
            (((Fr.setCell _ _ _ _ (.inl rfl)).trans (Fr.setCell _ _ _ _ (.inr rfl))).trans (Fr.setCell _ _ _ _ (.inr rfl))).trans (Fr.setCell _ _ _ _ (.inr rfl))
          have hap := HAP.out
          subst hil
          rw [Fo.drop_end ps i (by have := HL.out; omega)] at hap
          simp only [Fo.change] at hap
          rw [Fo.app_nil] at hap
          refine ⟨?_, ?_⟩
          · rw [← hap]
            refine (HR.out.slc HF.out.symm (by unfold maxLen; omega)).fr hf ?_
            intro kk _ hkk
            have hkk' : W0.heap.size ≤ kk := hkk
            have hz := HBE.out
            exact ⟨by omega, by omega⟩
          · exact Fr.trans' (HQ0.out.trans HQ.out) hf (fun kk hkk h => by have hz := HBE.out; omega)
        go_wp2_with fail
        have hbf := box_set2 (u := .slice vo len vc) (box_set1 (u := .int .i64 n') (box_set0 (u := .int .i64 k) (B := B + 1) (w := wr.setCell ⟨B, 2, none⟩ (.slice vo len vc)) (by rw [Below.heap_setCell _ _ _ _ (by show B + 1 ≠ B; omega)]; exact HB1.out)))
        obtain ⟨f0, f1, f2, _, _, _⟩ := box_cells3 hbf
        have HFF := HFIN.out (.slice vo len vc) (.int .i64 k) (.int .i64 n') (.slice vo len vc)
        have hn' := HN.out
        clear hbf
        rw [hn'] at f0 f1 f2 HFF ⊢
        generalize ((((wr.setCell ⟨B, 2, none⟩ (.slice vo len vc)).setCell ⟨B + 1, 0, none⟩ (.int .i64 k)).setCell ⟨B + 1, 1, none⟩ (.int .i64 n)).setCell ⟨B + 1, 2, none⟩ (.slice vo len vc)) = wf at *
        refine bodyPost_ret (by simp [results, Tryd.results106, go_sem, f0, f1, f2]; rfl) rfl ?_
        exact ⟨vo, ⟨vc, rfl⟩, HFF⟩
  · go_enter Tryd.func106, Tryd.ntmps106
    go_wp2_with fail
    refine (HK.out n _ HGN.out (HW.out.trans ((Quiet0.alloc _ _).trans (Quiet0.alloc _ _)))).mono ?_; rintro e w1 ⟨rfl, hq1⟩
    have hb1 := box_after HB1.out hq1
    have hb0 := box_after HB0.out hq1
    obtain ⟨c0, c1, c2, z0, z1, z2⟩ := box_cells3 hb0
    have HB0 := Lib.hid hb0
    have HB1 := Lib.hid hb1
    clear hb0 hb1
    go_wp2_with fail
    obtain ⟨W0, hW0⟩ : ∃ W0, W0 = w1.setCell ⟨w.heap.size, 1, none⟩ (.int .i64 (p n)) := ⟨_, rfl⟩
    change Code.wp _ _ _ _ (w1.setCell ⟨w.heap.size, 1, none⟩ (.int .i64 (p n)))
    have hsz1 : w.heap.size + 2 ≤ w1.heap.size := by have := hq1.size; simp at this; omega
    have HQ0 : Hid (Quiet0 w W0) := by
      rw [hW0]
      exact (((Quiet0.alloc _ _).trans (Quiet0.alloc _ _)).trans hq1).trans' (Fr.setCell (fun kk => kk = w.heap.size) _ _ _ rfl) (fun i hi h => by omega)
    have hz0 : w.heap.size + 2 ≤ W0.heap.size := by rw [hW0]; simpa [World.setCell] using hsz1
    have HN : Hid (newN p k n = p n) := by show _ = _; unfold newN; rw [hk]; rfl
    replace HB0 : Hid (W0.heap[w.heap.size]? = some (.cells #[.int .i64 k, .int .i64 (p n), .slice o len cap] 25 (0, 0))) := by
      rw [hW0]; exact box_set1 HB0.out
    replace HB1 : Hid (W0.heap[w.heap.size + 1]? = some (.cells #[.int .i64 0, .int .i64 0, .slice none 0 0] 25 (0, 0))) := by
      show _ = _
      rw [hW0, Below.heap_setCell _ _ _ _ (by show w.heap.size + 1 ≠ w.heap.size; omega)]; exact HB1.out
    rw [← hW0]
    clear hW0 hk hsz1 c0 c1 c2 z0 z1 z2 hq1
    generalize hnn : newN p k n = n' at *
    generalize hB : w.heap.size = B at *
    have HBE := Lib.hid hB
    clear hB
    go_loopw [5, 19] (fun v t wr => ∃ (i : Nat) (f : Fo) (xs : List Value) (vo : Option Addr) (vc : Nat), t = .int .i64 i ∧ i ≤ len ∧ v = .slice vo i vc ∧ f.length = i ∧ f.app ((ps.drop i).change p) = ps.change p ∧ TyRow wr W0.heap.size (.slice vo i vc) f xs ∧ Quiet0 W0 wr) (fun _ t _ => len - (intOf t).toNat)
    case atStart => exact ⟨0, .nil, [], none, 0, rfl, Nat.zero_le _, rfl, rfl, by rw [Fo.drop_zero]; rfl, TyRow.nil _ _, Quiet0.refl _⟩
    case round =>
      obtain ⟨i, f, xs, vo, vc, rfl, hi, rfl, hfl, hap, hrow, hq⟩ := hrel
      have HF := Lib.hid hfl
      have HAP := Lib.hid hap
      have HR := Lib.hid hrow
      have HQ := Lib.hid hq
      clear hfl hap hrow hq
      by_cases hlt : i < len
      · have hlt' : (i : Int) < len := by omega
        obtain ⟨b, off, k1, n1, qs, o1, len1, cap1, rfl, hd, hg, e0, e1, e2, hs1⟩ := (HS.out.stay (HQ0.out.trans HQ.out)).nth hlt
        have hsq := Fo.size_get ps i k1 n1 qs hg
        have HC := Lib.hid (IH.out i k1 n1 qs hg (wr.alloc (.cells #[.int .i64 k1, .int .i64 n1, .slice o1 len1 cap1] 25)) o1 len1 cap1 (HW.out.trans ((HQ0.out.trans HQ.out).trans (Quiet0.alloc _ _))) (hs1.stay (Quiet0.alloc _ _)) (by omega) (allF_get ps i k1 n1 qs HGP.out hg).1 (allF_get ps i k1 n1 qs HGP.out hg).2)
        have HD : Hid ((f.app (.cons k1 (newN p k1 n1) (qs.change p) .nil)).app ((ps.drop (i + 1)).change p) = ps.change p) := by
          show _ = _
          rw [← HAP.out, hd, Fo.app_assoc]; rfl
        unfold tyv at HC
        clear hd hg hs1 hsq
        generalize newN p k1 n1 = n2 at *
        go_wp2_with fail
        refine HC.out.mono ?_; rintro e w1 ⟨o2, cap2, rfl, hs2, hq1⟩
        have HS2 := Lib.hid hs2
        have HQ1 := Lib.hid ((Quiet0.alloc _ _).trans hq1)
        have HR1 := Lib.hid (HR.out.stay HQ1.out)
        clear hs2 hq1
        go_wp2_with (at_builtin; go_must (refine wpList_append_one w1 rfl (.tmp 23) (.tmp 27) 23 rfl 25 _ 3 40 elemTy (.slice vo i vc) i xs rfl (HF.out ▸ HR1.out.own) #[.int .i64 k1, .int .i64 n2, .slice o2 len1 cap2] rfl rfl ?c1 ?c2 ?c3 ?_))
        case c1 => simp [Value.oneCell']
        case c2 => unfold maxLen; omega
        case c3 => omega
        intro g2 c' w2 ho hf hg2
        have hlow : W0.heap.size ≤ w1.heap.size := Nat.le_trans HQ.out.size HQ1.out.size
        have hown : ∀ kk, (Value.slice vo i vc).ownBlock = some kk → kk < wr.heap.size := fun kk h => (HR.out.own.lt kk h).2
        have HR2 : Hid (TyRow w2 W0.heap.size (.slice (some ⟨g2, 0, none⟩) (i + 1) c') (f.app (.cons k1 n2 (qs.change p) .nil)) (xs ++ [.int .i64 k1, .int .i64 n2, .slice o2 len1 cap2])) := by
          show TyRow _ _ _ _ _
          have hf' := HF.out
          subst hf'
          refine TyRow.snoc HR1.out (HS2.out.fr (Fr.refl (fun _ => False) _) ?_) ho hf hg2 hlow
          intro kk _ hkk
          have hkk' : (wr.alloc (.cells #[.int .i64 k1, .int .i64 n1, .slice o1 len1 cap1] 25)).heap.size ≤ kk := hkk
          simp at hkk'
          refine ⟨⟨by have := HQ.out.size; omega, fun h => ?_⟩, fun h => h⟩
          have := hown kk h; omega
        have HQ2 : Hid (Quiet0 W0 w2) := by
          show Quiet0 _ _
          exact Fr.trans' (HQ.out.trans HQ1.out) hf (fun kk hkk h => absurd (HR.out.low kk h) (by omega))
        have HL2 : Hid ((f.app (.cons k1 n2 (qs.change p) .nil)).length = i + 1) := by
          show _ = _
          rw [Fo.app_length, HF.out]; rfl
        clear ho hf hg2 hown
        go_wp2_with fail
        go_roundw
        case rel => exact ⟨i + 1, _, _, some ⟨g2, 0, none⟩, c', by go_num, by omega, rfl, HL2.out, HD.out, HR2.out, HQ2.out⟩
        case measure => simp [intOf]; omega
      · have hlt' : ¬ (i : Int) < len := by omega
        have hb1 := box_after HB1.out HQ.out
        have hb0 := box_after HB0.out HQ.out
        obtain ⟨c0, c1, c2, z0, z1, z2⟩ := box_cells3 hb0
        obtain ⟨d0, d1, d2, y0, y1, y2⟩ := box_cells3 hb1
        have HB0 := Lib.hid hb0
        have HB1 := Lib.hid hb1
        clear hb0 hb1
        have hil : i = len := by omega
        have HFIN : Hid (∀ u v x y : Value, SlcIn (fun b => w.heap.size ≤ b) ((((wr.setCell ⟨B, 2, none⟩ u).setCell ⟨B + 1, 0, none⟩ v).setCell ⟨B + 1, 1, none⟩ x).setCell ⟨B + 1, 2, none⟩ y) vo len (ps.change p) ∧ Quiet0 w ((((wr.setCell ⟨B, 2, none⟩ u).setCell ⟨B + 1, 0, none⟩ v).setCell ⟨B + 1, 1, none⟩ x).setCell ⟨B + 1, 2, none⟩ y)) := by
          intro u v x y
          have hf : Fr (fun kk => kk = B ∨ kk = B + 1) wr ((((wr.setCell ⟨B, 2, none⟩ u).setCell ⟨B + 1, 0, none⟩ v).setCell ⟨B + 1, 1, none⟩ x).setCell ⟨B + 1, 2, none⟩ y) :=
            (((Fr.setCell _ _ _ _ (.inl rfl)).trans (Fr.setCell _ _ _ _ (.inr rfl))).trans (Fr.setCell _ _ _ _ (.inr rfl))).trans (Fr.setCell _ _ _ _ (.inr rfl))
          have hap := HAP.out
          subst hil
          rw [Fo.drop_end ps i (by have := HL.out; omega)] at hap
          simp only [Fo.change] at hap
          rw [Fo.app_nil] at hap
          refine ⟨?_, ?_⟩
          · rw [← hap]
            refine (HR.out.slc HF.out.symm (by unfold maxLen; omega)).fr hf ?_
            intro kk _ hkk
            have hkk' : W0.heap.size ≤ kk := hkk
            have hz := HBE.out
            exact ⟨by omega, by omega⟩
          · exact Fr.trans' (HQ0.out.trans HQ.out) hf (fun kk hkk h => by have hz := HBE.out; omega)
        go_wp2_with fail
        have hbf := box_set2 (u := .slice vo len vc) (box_set1 (u := .int .i64 n') (box_set0 (u := .int .i64 k) (B := B + 1) (w := wr.setCell ⟨B, 2, none⟩ (.slice vo len vc)) (by rw [Below.heap_setCell _ _ _ _ (by show B + 1 ≠ B; omega)]; exact HB1.out)))
        obtain ⟨f0, f1, f2, _, _, _⟩ := box_cells3 hbf
        have HFF := HFIN.out (.slice vo len vc) (.int .i64 k) (.int .i64 n') (.slice vo len vc)
        have hn' := HN.out
        clear hbf
        rw [hn'] at f0 f1 f2 HFF ⊢
        generalize ((((wr.setCell ⟨B, 2, none⟩ (.slice vo len vc)).setCell ⟨B + 1, 0, none⟩ (.int .i64 k)).setCell ⟨B + 1, 1, none⟩ (.int .i64 (p n))).setCell ⟨B + 1, 2, none⟩ (.slice vo len vc)) = wf at *
        refine bodyPost_ret (by simp [results, Tryd.results106, go_sem, f0, f1, f2]; rfl) rfl ?_
        exact ⟨vo, ⟨vc, rfl⟩, HFF⟩
end Go.Proofs.YtnfodiedalhlhaaDoor
end
section
namespace Go.Proofs.YtnfodiedalhlhaaDoor
open Go.RowKit Go.Shelf
def put3 (w : World) (B : Nat) (a b c : Value) : World := ((w.setCell ⟨B, 0, none⟩ a).setCell ⟨B, 1, none⟩ b).setCell ⟨B, 2, none⟩ c
theorem put3_fr (w : World) (B : Nat) (a b c : Value) : Fr (fun k => k = B) w (put3 w B a b c) :=
  ((Fr.setCell (fun k => k = B) w ⟨B, 0, none⟩ a rfl).trans (Fr.setCell (fun k => k = B) _ ⟨B, 1, none⟩ b rfl)).trans (Fr.setCell (fun k => k = B) _ ⟨B, 2, none⟩ c rfl)
theorem put3_cells {w : World} {B : Nat} {a b c a' b' c' : Value} {t : TypeId} (h : w.heap[B]? = some (.cells #[a', b', c'] t (0, 0))) :
    (put3 w B a b c).cell? ⟨B, 0, none⟩ = some a ∧ (put3 w B a b c).cell? ⟨B, 1, none⟩ = some b ∧ (put3 w B a b c).cell? ⟨B, 2, none⟩ = some c := by
  have hbf := box_set2 (u := c) (box_set1 (u := b) (box_set0 (u := a) h))
  obtain ⟨f0, f1, f2, _, _, _⟩ := box_cells3 hbf
  exact ⟨f0, f1, f2⟩
theorem copy1_any (w0 : World) : DoK 107 #[] w0 (fun _ => True) (fun n => n) := by
  intro n W _ _
  go_enter Tryd.func107, Tryd.ntmps107
  go_wp2_with fail
  go_ret
  exact ⟨rfl, Quiet0.refl _⟩
theorem eg_copy : ∀ args w, (callFunc 107 args).run Tryd.prog w = .ok (.enter 107 args) w := enters_of Tryd.func107 (by kernel_rfl) rfl
set_option maxHeartbeats 1000000 in
theorem copy_any (k n : Int) (ps : Fo) (w : World) (o : Option Addr) (len cap : Nat) (hs : Slc w o len ps) (hsz : ps.size ≤ 1000000) :
    Calls Tryd.prog 87 #[tyv k n o len cap] w fun e w' => ∃ o' cap', e = .returned (tyv k n o' len cap') ∧ SlcIn (fun b => w.heap.size ≤ b) w' o' len ps ∧ Quiet0 w w' := by
  have HC := Lib.hid (change_any eg_copy (copy1_any w) k n ps ((w.alloc (.cells #[.int .i64 k, .int .i64 n, .slice o len cap] 25)).alloc (.cells #[.int .i64 0, .int .i64 0, .slice none 0 0] 25)) o len cap ((Quiet0.alloc _ _).trans (Quiet0.alloc _ _)) (hs.stay ((Quiet0.alloc _ _).trans (Quiet0.alloc _ _))) hsz trivial (allF_true (fun _ => trivial) ps))
  rw [Fo.change_id, show newN (fun n => n) k n = n from by unfold newN; split <;> rfl] at HC
  have hb1 : ((w.alloc (.cells #[.int .i64 k, .int .i64 n, .slice o len cap] 25)).alloc (.cells #[.int .i64 0, .int .i64 0, .slice none 0 0] 25)).heap[w.heap.size + 1]? = some (.cells #[.int .i64 0, .int .i64 0, .slice none 0 0] 25 (0, 0)) := by
    have := heap_alloc_new (w.alloc (.cells #[.int .i64 k, .int .i64 n, .slice o len cap] 25)) (.cells #[.int .i64 0, .int .i64 0, .slice none 0 0] 25)
    simpa using this
  have HB1 := Lib.hid hb1
  clear hs hb1
  unfold tyv at *
  go_enter Tryd.func87, Tryd.ntmps87
  go_wp2_with fail
  refine HC.out.mono ?_; rintro e w1 ⟨o2, cap2, rfl, hs2, hq1⟩
  have hb1 := box_after HB1.out hq1
  have HB2 := Lib.hid hb1
  obtain ⟨d0, d1, d2, y0, y1, y2⟩ := box_cells3 hb1
  have HS2 := Lib.hid hs2
  have HQ1 := Lib.hid hq1
  clear hs2 hq1 hb1
  go_wp2_with fail
  clear d0 d1 d2 y0 y1 y2
  have hf := put3_fr w1 (w.heap.size + 1) (.int .i64 k) (.int .i64 n) (.slice o2 len cap2)
  obtain ⟨f0, f1, f2⟩ := put3_cells (a := .int .i64 k) (b := .int .i64 n) (c := .slice o2 len cap2) HB2.out
  change bodyPost _ _ _ _ _ (put3 w1 (w.heap.size + 1) (.int .i64 k) (.int .i64 n) (.slice o2 len cap2))
  generalize put3 w1 (w.heap.size + 1) (.int .i64 k) (.int .i64 n) (.slice o2 len cap2) = wf at *
  refine bodyPost_ret (by simp [results, Tryd.results87, go_sem, f0, f1, f2]; rfl) rfl ?_
  refine ⟨o2, cap2, rfl, HS2.out.fr hf ?_, (((Quiet0.alloc _ _).trans (Quiet0.alloc _ _)).trans HQ1.out).trans' hf (fun kk hkk h => by omega)⟩
  intro kk _ hkk
  have hkk' : ((w.alloc (.cells #[.int .i64 k, .int .i64 n, .slice o len cap] 25)).alloc (.cells #[.int .i64 0, .int .i64 0, .slice none 0 0] 25)).heap.size ≤ kk := hkk
  simp at hkk'
  exact ⟨by omega, by omega⟩
end Go.Proofs.YtnfodiedalhlhaaDoor
end
section
namespace Go.Proofs.YtnfodiedalhlhaaDoor
open Go.RowKit
theorem slc1 {W : World} {b : Nat} {k n : Int} {o : Option Addr} {len cap : Nat} {ps : Fo} (hb : W.heap[b]? = some (.cells #[.int .i64 k, .int .i64 n, .slice o len cap] 25 (0, 0))) (h1 : Slc W o len ps) : Slc W (some ⟨b, 0, none⟩) 1 (.cons k n ps .nil) :=
  ⟨rfl, by decide, fun _ => ⟨_, 0, rfl, by rw [cell_of_row _ _ _ _ _ (0, 0) hb]; rfl, by rw [cell_of_row _ _ _ _ _ (0, 0) hb]; rfl, ⟨o, len, cap, by rw [cell_of_row _ _ _ _ _ (0, 0) hb]; rfl, h1.1, h1.2.1, h1.2.2⟩, trivial⟩⟩
theorem box5_use {w : World} {b : Nat} {a0 a1 a2 a3 a4 : Value} {t : TypeId} {G : Prop} (h : w.heap[b]? = some (.cells #[a0, a1, a2, a3, a4] t (0, 0)))
    (k : w.cell? ⟨b, 0, none⟩ = some a0 → w.cell? ⟨b, 1, none⟩ = some a1 → w.cell? ⟨b, 2, none⟩ = some a2 → w.cell? ⟨b, 3, none⟩ = some a3 → w.cell? ⟨b, 4, none⟩ = some a4 →
      w.frozen? ⟨b, 0, none⟩ = false → w.frozen? ⟨b, 1, none⟩ = false → w.frozen? ⟨b, 2, none⟩ = false → w.frozen? ⟨b, 3, none⟩ = false → w.frozen? ⟨b, 4, none⟩ = false → w.heap[b]? = some (.cells #[a0, a1, a2, a3, a4] t (0, 0)) → G) : G := by
  refine k ?_ ?_ ?_ ?_ ?_ ?_ ?_ ?_ ?_ ?_ h
  all_goals first | (rw [cell_of_row _ _ _ _ _ (0, 0) h]; rfl) | simp [World.frozen?, h]
end Go.Proofs.YtnfodiedalhlhaaDoor
end
section
namespace Go.Proofs.YtnfodiedalhlhaaDoor
open Go.RowKit
theorem box9 (w : World) (h : Nd) (o1 : Option Addr) (l1 c1 : Nat) (o2 : Option Addr) (l2 c2 : Nat) (t : TypeId) (W : World) (hq : Quiet0 (w.alloc (.cells (cells9 h o1 l1 c1 o2 l2 c2) t)) W) : Cells9 W w.heap.size 0 h o1 l1 c1 o2 l2 c2 :=
  (cells9_new w h o1 l1 c1 o2 l2 c2 t).fr hq (fun h => h)
end Go.Proofs.YtnfodiedalhlhaaDoor
end
section
namespace Go.Proofs.YtnfodiedalhlhaaDoor
open Go.RowKit Go.Shelf
namespace Sc
def StrAt (w : World) (o : Option Addr) (l : List ByteArray) : Prop := ∀ j s, l[j]? = some s → ∃ b off, o = some ⟨b, off, none⟩ ∧ w.cell? ⟨b, off + j, none⟩ = some (.string s)
theorem StrAt.stay {w w' : World} {o : Option Addr} {l : List ByteArray} (h : StrAt w o l) (hq : Quiet0 w w') : StrAt w' o l := by
  intro j s hs
  obtain ⟨b, off, h0, h1⟩ := h j s hs
  exact ⟨b, off, h0, hq.at h1⟩
def strs (l : List ByteArray) : List Value := l.map .string
end Sc
end Go.Proofs.YtnfodiedalhlhaaDoor
end
section
namespace Go.Proofs.YtnfodiedalhlhaaDoor
open Go.RowKit Go.Shelf
namespace Sc
theorem NmIn.str {T : Nat → Prop} {w : World} {o : Option Addr} {n : Nat} {e : List ByteArray} (h : NmIn T w o n e) : StrAt w o e.reverse := by
  intro j s hj
  have hl := (List.getElem?_eq_some_iff.1 hj).1
  obtain ⟨b, he, _, hc⟩ := h.2.2 (by have := h.1; simp at hl; omega)
  exact ⟨b, 0, he, by rw [Nat.zero_add]; exact hc j s hj⟩
theorem str_empty {w : World} {b : Nat} (h : w.heap[b]? = some (.cells #[] 9 (0, 0))) : w.ownsRow 0 9 1 (.slice (some ⟨b, 0, none⟩) 0 0) ([] : List ByteArray).length (strs []) :=
  ⟨rfl, .inr ⟨b, 0, #[], rfl, Nat.zero_le _, h, Nat.le_refl _, Nat.zero_le _, rfl, rfl⟩⟩
theorem str_nothing (w : World) (ty : TypeId) (v : Value) (n : Nat) (xs : List Value) (hown : w.ownsRow 0 9 1 v n xs) (hv : v ≠ .slice none 0 0) (o : Option Addr) (c : Nat) :
    (Builtin.append_ #[40, 40] ty #[v, .slice o 0 c]).run Tryd.prog w = .ok v w := by
  rcases hown.2 with ⟨rfl, _⟩ | ⟨g, cap, cur, rfl, _, hg, hc, hm, hs, _⟩
  · exact absurd rfl hv
  · obtain ⟨i0, hi, hz0, hz1, hz2⟩ := info_parts elemStr.info
    have hu := elemStr.under
    cases o <;> simp [Builtin.append_, run_underlying hu, sizeOf, typeInfo, hi, Builtin.lenOf, Builtin.firstCells, loadCells, loadCellsFrom, storeCells, hc]
theorem step_strs {ops : Array Oper} {o : Oper} {a : Act} {K : Act → World → Prop} {Q : Exit → Act → World → Prop} {E : Prop} (W : World)
    (hg : o.guard = none) (s x : Operand) (hop : o.op = Op.call { callee := Callee.builtin Builtin.append, args := #[s, x], argTypes := #[40, 40] })
    (v : Value) (xs : List ByteArray) (hs : a.eval s = v) (hown : W.ownsRow 0 9 1 v xs.length (strs xs)) (va : Option Addr) (ys : List ByteArray) (m c : Nat) (hm : m = ys.length) (hx : a.eval x = .slice va m c) (hat : StrAt W va ys) (hb : xs.length + ys.length ≤ 1000000) (hne : v ≠ .slice none 0 0)
    (hK : ∀ v' w', w'.ownsRow 0 9 1 v' (xs ++ ys).length (strs (xs ++ ys)) → Fr (fun k => v.ownBlock = some k) W w' → (∀ g, v'.ownBlock = some g → v.ownBlock = some g ∨ g = W.heap.size) → v' ≠ .slice none 0 0 → K (a.put o.dst v') w') :
    if Region.wanted o (yielded ops a.tmps) = true then Oper.wp Tryd.prog o a W K Q else E := by
  subst hm
  rw [if_pos (by unfold Region.wanted; rw [hg])]
  by_cases h0 : ys = []
  · subst h0
    have hr := str_nothing W o.type v _ _ hown hne va c
    unfold Oper.wp execOp
    simp only [hop, resolve, invoke, builtin, Sem.run_bind, Sem.run_pure, Result.andThen_ok, List.map_toArray, List.map_cons, List.map_nil, hs, hx, List.length_nil, hr]
    exact hK v W (by simpa using hown) (Fr.refl _ _) (fun g h => .inl h) hne
  · obtain ⟨y, r, rfl⟩ := List.exists_cons_of_ne_nil h0
    obtain ⟨b, off, rfl, _⟩ := hat 0 y rfl
    obtain ⟨i0, hi, hz0, hz1, hz2⟩ := info_parts elemStr.info
    refine wp_append_lies (P := Tryd.prog) W s x 40 hop 0 9 i0 (.string ⟨#[]⟩) 1 16 elemStr.under hi hz0 hz1 hz2 elemStr.cells elemStr.pos v xs.length (strs xs) hs hown ⟨b, off, none⟩ (y :: r).length c (strs (y :: r)) hx (by simp [strs]) ?_ (by unfold strs; intro u hu; obtain ⟨z, _, rfl⟩ := List.mem_map.1 hu; rfl) (by simp) (by unfold maxLen; omega) (by omega) (Nat.zero_le _) _ rfl ?_
    · intro j u hj
      unfold strs at hj
      rw [List.getElem?_map] at hj
      cases hz : (y :: r)[j]? with
      | none => rw [hz] at hj; cases hj
      | some z =>
        rw [hz] at hj
        cases hj
        obtain ⟨b', off', he, hc⟩ := hat j z hz
        cases he
        simpa [Addr.add_lit] using hc
    · intro g cap w' ho hgr hg' _
      refine hK _ w' ?_ (Fr.grown hgr (fun k hk => hk)) ?_ (by simp)
      · rw [List.length_append]; unfold strs at *; rw [List.map_append]; exact ho
      · intro g2 h2
        simp [Value.ownBlock] at h2
        subst h2
        exact hg'
theorem str_one {W : World} {b : Nat} {n : ByteArray} (h : W.heap[b]? = some (.cells #[.string n] 9 (0, 0))) : StrAt W (some ⟨b, 0, none⟩) [n] := by
  intro i x hx
  cases i with
  | zero =>
    simp at hx
    subst hx
    exact ⟨b, 0, rfl, by rw [cell_of_row _ _ _ _ _ (0, 0) h]; rfl⟩
  | succ i => simp at hx
def NmPost (T : Nat → Prop) (w : World) (e : List ByteArray) (x : Ending) (w' : World) : Prop := ∃ o c, x = .returned (.slice o e.length c) ∧ NmIn (fun k => T k ∨ w.heap.size ≤ k) w' o e.length e ∧ Quiet0 w w'
theorem nm_end {T : Nat → Prop} {w w4 : World} {v : Value} {L e : List ByteArray} {nm : ByteArray} (ho : w4.ownsRow 0 9 1 v ([] ++ L ++ [nm]).length (strs ([] ++ L ++ [nm]))) (hr : e.reverse = L) (hg : ∀ g, v.ownBlock = some g → w.heap.size ≤ g) (hq : Quiet0 w w4) (hz : e.length ≤ 900000) :
    NmPost T w (nm :: e) (.returned v) w4 := by
  subst hr
  simp only [List.nil_append, List.length_append, List.length_reverse, List.length_cons, List.length_nil, Nat.zero_add] at ho
  obtain ⟨g, c, rfl, _, _⟩ := ho.form (by omega)
  refine ⟨_, c, rfl, ?_, hq⟩
  have ho' : w4.ownsRow 0 9 1 (.slice (some ⟨g, 0, none⟩) (e.length + 1) c) (e.length + 1) (e.reverse.map Value.string ++ [.string nm]) := by
    have e2 : strs (e.reverse ++ [nm]) = e.reverse.map Value.string ++ [.string nm] := by simp [strs]
    rw [← e2]; exact ho
  exact NmIn.of_own (n := e.length + 1) ho' rfl (by unfold maxLen; omega) (.inr (hg g rfl))
set_option maxHeartbeats 4000000 in
theorem around_any (h : Nd) (o1 : Option Addr) (l1 c1 : Nat) (o2 : Option Addr) (l2 c2 : Nat) (i : Nat) (T : Nat → Prop) (e : List ByteArray) (o : Option Addr) (n c : Nat) (w : World) (hN : NmIn T w o n e) (hz : n ≤ 900000) :
    Calls Tryd.prog 41 #[tmv h o1 l1 c1 o2 l2 c2, .int .i64 (i : Nat), .slice o n c] w (NmPost T w (envOf h.k h.nm i e)) := by
  have HN := Lib.hid hN
  have e1 : ((i : Int) == 1) = (i == 1) := by rw [Bool.eq_iff_iff, beq_iff_eq, beq_iff_eq]; omega
  obtain ⟨W0, hW0⟩ : ∃ W0, W0 = w.alloc (.cells (cells9 h o1 l1 c1 o2 l2 c2) 30) := ⟨_, rfl⟩
  have HQ0 : Hid (Quiet0 w W0) := by rw [hW0]; exact Quiet0.alloc _ _
  have HBB : Hid (∀ W, Quiet0 W0 W → Cells9 W w.heap.size 0 h o1 l1 c1 o2 l2 c2) := by
    intro W hq; rw [hW0] at hq; exact box9 w h o1 l1 c1 o2 l2 c2 _ W hq
  have HS1 : Hid (∀ W, Quiet0 W0 W → W.cell? ⟨w.heap.size, 1, none⟩ = some (.string h.nm)) := fun W hq => (HBB.out W hq).2.1
  have HZ : Hid (W0.heap.size = w.heap.size + 1) := by show _ = _; rw [hW0]; simp
  cases hb : bindsB h.k i
  case false =>
    have HE : Hid (envOf h.k h.nm i e = e) := by show _ = _; unfold envOf; rw [hb]; rfl
    unfold bindsB at hb
    simp only [Bool.or_eq_false_iff] at hb
    obtain ⟨⟨h4, h7⟩, h6⟩ := hb
    clear hN
    rw [HE.out]
    have HNL := Lib.hid HN.out.1
    unfold tmv
    cases h6k : (h.k == 6)
    · go_enter Tryd.func41, Tryd.ntmps41
      go_upto_region 1 with fail
      rw [← hW0]
      clear hW0 h6
      obtain ⟨a0, a1, a2, a3, a4, a5, a6, a7, a8⟩ := HBB.out W0 (Quiet0.refl _)
      go_wp2_with fail
      go_ret
      exact ⟨o, c, by rw [← HNL.out]; rfl, HNL.out ▸ (HN.out.stay HQ0.out).fr (Fr.refl (fun _ => False) _) (fun k _ h => ⟨.inl h, fun h => h⟩), HQ0.out⟩
    · rw [h6k] at h6
      have h1 : (i == 1) = false := by simpa using h6
      rw [h1] at e1
      go_enter Tryd.func41, Tryd.ntmps41
      go_upto_region 1 with fail
      rw [← hW0]
      clear hW0 h6
      obtain ⟨a0, a1, a2, a3, a4, a5, a6, a7, a8⟩ := HBB.out W0 (Quiet0.refl _)
      go_wp2_with fail
      go_ret
      exact ⟨o, c, by rw [← HNL.out]; rfl, HNL.out ▸ (HN.out.stay HQ0.out).fr (Fr.refl (fun _ => False) _) (fun k _ h => ⟨.inl h, fun h => h⟩), HQ0.out⟩
  case true =>
    have HE : Hid (envOf h.k h.nm i e = h.nm :: e) := by show _ = _; unfold envOf; rw [hb]; rfl
    unfold bindsB at hb
    have hc : (h.k == 4) = true ∨ ((h.k == 4) = false ∧ (h.k == 7) = true) ∨ ((h.k == 4) = false ∧ (h.k == 7) = false ∧ (h.k == 6) = true ∧ (i == 1) = true) := by
      cases h4 : (h.k == 4)
      · cases h7 : (h.k == 7)
        · rw [h4, h7] at hb; simp only [Bool.false_or, Bool.and_eq_true] at hb; exact .inr (.inr ⟨rfl, rfl, hb.1, hb.2⟩)
        · exact .inr (.inl ⟨rfl, rfl⟩)
      · exact .inl rfl
    have hlen := hN.1
    have HAT : Hid (StrAt W0 o e.reverse) := (hN.stay HQ0.out).str
    have hrl : e.reverse.length = n := by rw [List.length_reverse, hlen]
    rw [HE.out]
    clear hN hb
    generalize hr : e.reverse = L at *
    have HRL := Lib.hid hr
    have HLEN := Lib.hid hlen
    clear hr
    have hqc0 := HQ0.out.size
    clear hlen
    unfold tmv
    rcases hc with h4 | ⟨h4, h7⟩ | ⟨h4, h7, h6, h1⟩
    all_goals
      first | rw [h1] at e1 | skip
      go_enter Tryd.func41, Tryd.ntmps41
      go_upto_region 1 with fail
      rw [← hW0]
      clear hW0
      obtain ⟨a0, a1, a2, a3, a4, a5, a6, a7, a8⟩ := HBB.out W0 (Quiet0.refl _)
      clear a1 a2 a3 a4 a5 a6 a7 a8
      go_upto_region 2 with fail
      clear a0
      have hqc := Quiet0.refl W0
      have HLO : Hid (w.heap.size ≤ W0.heap.size) := hqc0
      clear hqc0
      go_region_held3 (fun w' => w'.cell? ⟨w.heap.size, 1, none⟩ = some (.string h.nm))
        (((refine HS1.out _ ?_); (repeat (first | with_reducible exact hqc | with_reducible exact Quiet0.refl _ | with_reducible refine Quiet0.trans ?_ (Quiet0.alloc _ _) | with_reducible refine Quiet0.trans ?_ (Quiet0.drew _) | fail))))
        (first
          | ((refine step_strs _ rfl (.tmp 24) (.tmp 25) rfl (.slice (some ⟨W0.heap.size, 0, none⟩) 0 0) [] rfl ?hown o L n c hrl.symm rfl ?hat ?hbd ?hne ?_); (case hown => ((refine str_empty ?_); (repeat (first | ((with_reducible refine blk_new _ _ _ _ ?hbe); (case hbe => (simp; done))) | with_reducible refine blk_after (Quiet0.alloc _ _) ?_ | with_reducible refine blk_drew ?_ | fail)))); (case hat => ((refine HAT.out.stay ?_); (repeat (first | with_reducible exact hqc | with_reducible exact Quiet0.refl _ | with_reducible refine Quiet0.trans ?_ (Quiet0.alloc _ _) | with_reducible refine Quiet0.trans ?_ (Quiet0.drew _) | fail)))); (case hbd => (simp; omega)); (case hne => simp); intro v3 w3 ho3 hf3 hg3 hn3; (refine with_fr2 (w0 := W0) ?hch hf3 ?hlo ?_); (case hch => (repeat (first | with_reducible exact hqc | with_reducible exact Quiet0.refl _ | with_reducible refine Quiet0.trans ?_ (Quiet0.alloc _ _) | with_reducible refine Quiet0.trans ?_ (Quiet0.drew _) | fail))); (case hlo => (intro k hk; simp [Value.ownBlock] at hk; omega)); intro hqc hw3)
          | ((refine step_strs _ rfl (.tmp 24) (.tmp 25) rfl (.slice (some ⟨W0.heap.size + 1, 0, none⟩) 0 0) [] rfl ?hown o L n c hrl.symm rfl ?hat ?hbd ?hne ?_); (case hown => ((refine str_empty ?_); (repeat (first | ((with_reducible refine blk_new _ _ _ _ ?hbe); (case hbe => (simp; done))) | with_reducible refine blk_after (Quiet0.alloc _ _) ?_ | with_reducible refine blk_drew ?_ | fail)))); (case hat => ((refine HAT.out.stay ?_); (repeat (first | with_reducible exact hqc | with_reducible exact Quiet0.refl _ | with_reducible refine Quiet0.trans ?_ (Quiet0.alloc _ _) | with_reducible refine Quiet0.trans ?_ (Quiet0.drew _) | fail)))); (case hbd => (simp; omega)); (case hne => simp); intro v3 w3 ho3 hf3 hg3 hn3; (refine with_fr2 (w0 := W0) ?hch hf3 ?hlo ?_); (case hch => (repeat (first | with_reducible exact hqc | with_reducible exact Quiet0.refl _ | with_reducible refine Quiet0.trans ?_ (Quiet0.alloc _ _) | with_reducible refine Quiet0.trans ?_ (Quiet0.drew _) | fail))); (case hlo => (intro k hk; simp [Value.ownBlock] at hk; omega)); intro hqc hw3)
          | ((refine step_strs _ rfl (.tmp 26) (.tmp 29) rfl v3 ([] ++ L) rfl ?hown (some ⟨W0.heap.size, 0, none⟩) [h.nm] 1 1 rfl rfl ?hat ?hbd hn3 ?_); (case hown => (first | with_reducible exact ho3 | with_reducible exact ho3.alloc _ | fail)); (case hat => ((refine str_one ?_); (repeat (first | ((with_reducible refine blk_new _ _ _ _ ?hbe); (case hbe => (simp; done))) | with_reducible refine blk_after (Quiet0.alloc _ _) ?_ | with_reducible refine blk_drew ?_ | ((with_reducible refine blk_fr hf3 ?hbo ?_); (case hbo => (simp [Value.ownBlock]; done))) | ((with_reducible refine blk_fr hf3 ?hbo ?_); (case hbo => (simp [Value.ownBlock]; omega))) | fail)))); (case hbd => (simp; omega)); intro v4 w4 ho4 hf4 hg4 hn4; (refine with_fr2 (w0 := W0) ?hch hf4 ?hlo ?_); (case hch => (repeat (first | with_reducible exact hqc | with_reducible exact Quiet0.refl _ | with_reducible refine Quiet0.trans ?_ (Quiet0.alloc _ _) | with_reducible refine Quiet0.trans ?_ (Quiet0.drew _) | fail))); (case hlo => (intro k hk; rcases hg3 k hk with h | h; (simp [Value.ownBlock] at h; omega); (simp at h; omega))); intro hqc hw4)
          | ((refine step_strs _ rfl (.tmp 26) (.tmp 29) rfl v3 ([] ++ L) rfl ?hown (some ⟨W0.heap.size + 1, 0, none⟩) [h.nm] 1 1 rfl rfl ?hat ?hbd hn3 ?_); (case hown => (first | with_reducible exact ho3 | with_reducible exact ho3.alloc _ | fail)); (case hat => ((refine str_one ?_); (repeat (first | ((with_reducible refine blk_new _ _ _ _ ?hbe); (case hbe => (simp; done))) | with_reducible refine blk_after (Quiet0.alloc _ _) ?_ | with_reducible refine blk_drew ?_ | ((with_reducible refine blk_fr hf3 ?hbo ?_); (case hbo => (simp [Value.ownBlock]; done))) | ((with_reducible refine blk_fr hf3 ?hbo ?_); (case hbo => (simp [Value.ownBlock]; omega))) | fail)))); (case hbd => (simp; omega)); intro v4 w4 ho4 hf4 hg4 hn4; (refine with_fr2 (w0 := W0) ?hch hf4 ?hlo ?_); (case hch => (repeat (first | with_reducible exact hqc | with_reducible exact Quiet0.refl _ | with_reducible refine Quiet0.trans ?_ (Quiet0.alloc _ _) | with_reducible refine Quiet0.trans ?_ (Quiet0.drew _) | fail))); (case hlo => (intro k hk; rcases hg3 k hk with h | h; (simp [Value.ownBlock] at h; omega); (simp at h; omega))); intro hqc hw4)
          | ((refine step_strs _ rfl (.tmp 26) (.tmp 29) rfl v3 ([] ++ L) rfl ?hown (some ⟨w3.heap.size, 0, none⟩) [h.nm] 1 1 rfl rfl ?hat ?hbd hn3 ?_); (case hown => (first | with_reducible exact ho3 | with_reducible exact ho3.alloc _ | fail)); (case hat => ((refine str_one ?_); (repeat (first | ((with_reducible refine blk_new _ _ _ _ ?hbe); (case hbe => (simp; done))) | with_reducible refine blk_after (Quiet0.alloc _ _) ?_ | with_reducible refine blk_drew ?_ | ((with_reducible refine blk_fr hf3 ?hbo ?_); (case hbo => (simp [Value.ownBlock]; done))) | ((with_reducible refine blk_fr hf3 ?hbo ?_); (case hbo => (simp [Value.ownBlock]; omega))) | fail)))); (case hbd => (simp; omega)); intro v4 w4 ho4 hf4 hg4 hn4; (refine with_fr2 (w0 := W0) ?hch hf4 ?hlo ?_); (case hch => (repeat (first | with_reducible exact hqc | with_reducible exact Quiet0.refl _ | with_reducible refine Quiet0.trans ?_ (Quiet0.alloc _ _) | with_reducible refine Quiet0.trans ?_ (Quiet0.drew _) | fail))); (case hlo => (intro k hk; rcases hg3 k hk with h | h; (simp [Value.ownBlock] at h; omega); (simp at h; omega))); intro hqc hw4)
          | fail)
      all_goals
        go_wp2_with fail
        go_ret
        have hl0 := HLO.out
        exact nm_end ho4 HRL.out (fun g hg => by
          rcases hg4 g hg with h | h
          · rcases hg3 g h with h | h
            · simp [Value.ownBlock] at h; omega
            · first | omega | (simp at h; omega)
          · first | omega | (simp at h; omega)) (HQ0.out.trans hqc) (by have := HLEN.out; omega)
end Sc
end Go.Proofs.YtnfodiedalhlhaaDoor
end
