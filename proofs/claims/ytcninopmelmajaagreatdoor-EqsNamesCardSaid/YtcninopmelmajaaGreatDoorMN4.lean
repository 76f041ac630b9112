/-
  Texts laid together (TyChange, TyArrow, Step, EqStep, ScPlain, ScNm, TyAux, TeRef, ScStr, EqEnv, CnPlain, CnUsPlain): laws and walks, with their conditions.
-/
import Derived.Handy
import Derived.Deep.RegionLaw
import Derived.Deep.RegionLawGrows
import Derived.ArgAppend
import Derived.Deep.QuietTactic
import Derived.Test.YtcninopmelmajaaGreatDoorMN3
set_option maxHeartbeats 8000000
set_option maxRecDepth 1000000
namespace Go.Proofs.YtcninopmelmajaaGreatDoor
open Go.Lib (hid)
section
open Go.RowKit Go.Shelf
theorem elemTy : Elem Tryz.prog 22 24 (.agg #[.int .i64 0, .int .i64 0, .slice none 0 0]) 3 40 :=
 ⟨Tryz.underlying22, by kernel_rfl, by decide, by decide⟩
def DoK (g : Nat) (lb : Array Value) (w0 : World) (G : Int -> Prop) (p : Int -> Int) : Prop := ∀ (n : Int) (W : World), G n -> Quiet0 w0 W ->
 Calls Tryz.prog g (#[.int .i64 n] ++ lb) W fun e W' => e = .returned (.int .i64 (p n)) /\ Quiet0 W W'
def newN (p : Int -> Int) (k n : Int) : Int := if k == 1 then p n else n
def TChange (g : Nat) (lb : Array Value) (w0 : World) (G : Int -> Prop) (p : Int -> Int) (k n : Int) (ps : Fo) : Prop :=
 ∀ (w : World) (o : Option Addr) (len cap : Nat), Quiet0 w0 w -> Slc w o len ps -> ps.size <= 1000000 -> G n -> allF G ps ->
  Calls Tryz.prog 90 #[tyv k n o len cap, .func (.func g) #[] lb] w fun e w' => ∃ o' cap', e = .returned (tyv k (newN p k n) o' len cap') /\ SlcIn (fun b => w.heap.size <= b) w' o' len (ps.change p) /\ Quiet0 w w'
theorem box_after {w W : World} {a b c : Value} {t : TypeId} {B : Nat} (h : w.heap[B]? = some (.cells #[a, b, c] t (0, 0))) (hq : Quiet0 w W) : W.heap[B]? = some (.cells #[a, b, c] t (0, 0)) := by
 rw [hq.block B (lt_of_block h) (fun h => h)]; exact h
theorem box_cells3 {w : World} {a b c : Value} {t : TypeId} {B : Nat} (h : w.heap[B]? = some (.cells #[a, b, c] t (0, 0))) : w.cell? ⟨B, 0, none⟩ = some a /\ w.cell? ⟨B, 1, none⟩ = some b /\ w.cell? ⟨B, 2, none⟩ = some c /\ w.frozen? ⟨B, 0, none⟩ = false /\ w.frozen? ⟨B, 1, none⟩ = false /\ w.frozen? ⟨B, 2, none⟩ = false := by
 refine ⟨?_, ?_, ?_, ?_, ?_, ?_⟩
 ·rw [cell_of_row _ _ _ _ _ (0, 0) h]; rfl
 ·rw [cell_of_row _ _ _ _ _ (0, 0) h]; rfl
 ·rw [cell_of_row _ _ _ _ _ (0, 0) h]; rfl
 ·simp [World.frozen?, h]
 ·simp [World.frozen?, h]
 ·simp [World.frozen?, h]
theorem box_set1 {w : World} {a b c u : Value} {t : TypeId} {B : Nat} (h : w.heap[B]? = some (.cells #[a, b, c] t (0, 0))) : (w.setCell ⟨B, 1, none⟩ u).heap[B]? = some (.cells #[a, u, c] t (0, 0)) := by
 have hlt := lt_of_block h
 have h' : w.heap[B] = .cells #[a, b, c] t (0, 0) := by simpa [Array.getElem?_eq_getElem hlt] using h
 show (w.heap.modify B _)[B]? = _
 rw [Array.getElem?_eq_getElem (by simpa using hlt), Array.getElem_modify_self, h']
 rfl
theorem box_set0 {w : World} {a b c u : Value} {t : TypeId} {B : Nat} (h : w.heap[B]? = some (.cells #[a, b, c] t (0, 0))) : (w.setCell ⟨B, 0, none⟩ u).heap[B]? = some (.cells #[u, b, c] t (0, 0)) := by
 have hlt := lt_of_block h
 have h' : w.heap[B] = .cells #[a, b, c] t (0, 0) := by simpa [Array.getElem?_eq_getElem hlt] using h
 show (w.heap.modify B _)[B]? = _
 rw [Array.getElem?_eq_getElem (by simpa using hlt), Array.getElem_modify_self, h']
 rfl
theorem box_set2 {w : World} {a b c u : Value} {t : TypeId} {B : Nat} (h : w.heap[B]? = some (.cells #[a, b, c] t (0, 0))) : (w.setCell ⟨B, 2, none⟩ u).heap[B]? = some (.cells #[a, b, u] t (0, 0)) := by
 have hlt := lt_of_block h
 have h' : w.heap[B] = .cells #[a, b, c] t (0, 0) := by simpa [Array.getElem?_eq_getElem hlt] using h
 show (w.heap.modify B _)[B]? = _
 rw [Array.getElem?_eq_getElem (by simpa using hlt), Array.getElem_modify_self, h']
 rfl
theorem change_any {g : Nat} {lb : Array Value} {w0 : World} {G : Int -> Prop} {p : Int -> Int} (eg : ∀ args w, (callFunc g args).run Tryz.prog w = .ok (.enter g args) w) (hK : DoK g lb w0 G p) (k n : Int) (ps : Fo) : TChange g lb w0 G p k n ps := by
 refine Fo.ind' (T := TChange g lb w0 G p) ?_ k n ps
 intro k n ps ih w o len cap hw hs hsz hgn hgp
 have HGN := hid hgn
 have HGP := hid hgp
 clear hgn hgp
 have HS := hid hs
 have IH := hid ih
 have HL := hid hs.1
 have hmx := hs.2.1
 have hll := Fo.length_le ps
 rw [<- hs.1] at hll
 unfold maxLen at hmx
 have HK := hid hK
 have HW := hid hw
 have hb0 : ((w.alloc (.cells #[.int .i64 k, .int .i64 n, .slice o len cap] 24)).alloc (.cells #[.int .i64 0, .int .i64 0, .slice none 0 0] 24)).heap[w.heap.size]? = some (.cells #[.int .i64 k, .int .i64 n, .slice o len cap] 24 (0, 0)) := by
  rw [Below.heap_alloc _ _ _ (by simp)]; exact heap_alloc_new w _
 have hb1 : ((w.alloc (.cells #[.int .i64 k, .int .i64 n, .slice o len cap] 24)).alloc (.cells #[.int .i64 0, .int .i64 0, .slice none 0 0] 24)).heap[w.heap.size + 1]? = some (.cells #[.int .i64 0, .int .i64 0, .slice none 0 0] 24 (0, 0)) := by
  have := heap_alloc_new (w.alloc (.cells #[.int .i64 k, .int .i64 n, .slice o len cap] 24)) (.cells #[.int .i64 0, .int .i64 0, .slice none 0 0] 24)
  simpa using this
 have HB0 := hid hb0
 have HB1 := hid hb1
 clear hs ih hK hw hb0 hb1
 unfold tyv
 cases hk : (k == 1)
 ·go_enter Tryz.func90, Tryz.ntmps90
  go_wp2_with fail
  obtain ⟨W0, hW0⟩ : ∃ W0, W0 = ((w.alloc (.cells #[.int .i64 k, .int .i64 n, .slice o len cap] 24)).alloc (.cells #[.int .i64 0, .int .i64 0, .slice none 0 0] 24)) := ⟨_, rfl⟩
  change Code.wp _ _ _ _ ((w.alloc (.cells #[.int .i64 k, .int .i64 n, .slice o len cap] 24)).alloc (.cells #[.int .i64 0, .int .i64 0, .slice none 0 0] 24))
  have HQ0 : Hid (Quiet0 w W0) := by rw [hW0]; exact (Quiet0.alloc _ _).trans (Quiet0.alloc _ _)
  have hz0 : w.heap.size + 2 <= W0.heap.size := by rw [hW0]; simp
  have HN : Hid (newN p k n = n) := by show _ = _; unfold newN; rw [hk]; rfl
  rw [<- hW0] at HB0 HB1 ⊢
  clear hW0 hk
  generalize hnn : newN p k n = n' at *
  generalize hB : w.heap.size = B at *
  have HBE := hid hB
  clear hB
  go_loopw [5, 19] (fun v t wr => ∃ (i : Nat) (f : Fo) (xs : List Value) (vo : Option Addr) (vc : Nat), t = .int .i64 i /\ i <= len /\ v = .slice vo i vc /\ f.length = i /\ f.app ((ps.drop i).change p) = ps.change p /\ TyRow wr W0.heap.size (.slice vo i vc) f xs /\ Quiet0 W0 wr) (fun _ t _ => len - (intOf t).toNat)
  case atStart => exact ⟨0, .nil, [], none, 0, rfl, Nat.zero_le _, rfl, rfl, by rw [Fo.drop_zero]; rfl, TyRow.nil _ _, Quiet0.refl _⟩
  case round =>
   obtain ⟨i, f, xs, vo, vc, rfl, hi, rfl, hfl, hap, hrow, hq⟩ := hrel
   have HF := hid hfl
   have HAP := hid hap
   have HR := hid hrow
   have HQ := hid hq
   clear hfl hap hrow hq
   by_cases hlt : i < len
   ·have hlt' : (i : Int) < len := by omega
    obtain ⟨b, off, k1, n1, qs, o1, len1, cap1, rfl, hd, hg, e0, e1, e2, hs1⟩ := (HS.out.stay (HQ0.out.trans HQ.out)).nth hlt
    have hsq := Fo.size_get ps i k1 n1 qs hg
    have HC := hid (IH.out i k1 n1 qs hg (wr.alloc (.cells #[.int .i64 k1, .int .i64 n1, .slice o1 len1 cap1] 24)) o1 len1 cap1 (HW.out.trans ((HQ0.out.trans HQ.out).trans (Quiet0.alloc _ _))) (hs1.stay (Quiet0.alloc _ _)) (by omega) (allF_get ps i k1 n1 qs HGP.out hg).1 (allF_get ps i k1 n1 qs HGP.out hg).2)
    have HD : Hid ((f.app (.cons k1 (newN p k1 n1) (qs.change p) .nil)).app ((ps.drop (i + 1)).change p) = ps.change p) := by
     show _ = _
     rw [<- HAP.out, hd, Fo.app_assoc]; rfl
    unfold tyv at HC
    clear hd hg hs1 hsq
    generalize newN p k1 n1 = n2 at *
    go_wp2_with fail
    refine HC.out.mono ?_; rintro e w1 ⟨o2, cap2, rfl, hs2, hq1⟩
    have HS2 := hid hs2
    have HQ1 := hid ((Quiet0.alloc _ _).trans hq1)
    have HR1 := hid (HR.out.stay HQ1.out)
    clear hs2 hq1
    go_wp2_with (at_builtin; go_must (refine wpList_append_one w1 rfl (.tmp 23) (.tmp 27) 22 rfl 24 _ 3 40 elemTy (.slice vo i vc) i xs rfl (HF.out ▸ HR1.out.own) #[.int .i64 k1, .int .i64 n2, .slice o2 len1 cap2] rfl rfl ?c1 ?c2 ?c3 ?_))
    case c1 => simp [Value.oneCell']
    case c2 => unfold maxLen; omega
    case c3 => omega
    intro g2 c' w2 ho hf hg2
    have hlow : W0.heap.size <= w1.heap.size := Nat.le_trans HQ.out.size HQ1.out.size
    have hown : ∀ kk, (Value.slice vo i vc).ownBlock = some kk -> kk < wr.heap.size := fun kk h => (HR.out.own.lt kk h).2
    have HR2 : Hid (TyRow w2 W0.heap.size (.slice (some ⟨g2, 0, none⟩) (i + 1) c') (f.app (.cons k1 n2 (qs.change p) .nil)) (xs ++ [.int .i64 k1, .int .i64 n2, .slice o2 len1 cap2])) := by
     show TyRow _ _ _ _ _
     have hf' := HF.out
     subst hf'
     refine TyRow.snoc HR1.out (HS2.out.fr (Fr.refl (fun _ => False) _) ?_) ho hf hg2 hlow
     intro kk _ hkk
     have hkk' : (wr.alloc (.cells #[.int .i64 k1, .int .i64 n1, .slice o1 len1 cap1] 24)).heap.size <= kk := hkk
     simp at hkk'
     refine ⟨⟨by have := HQ.out.size; omega, fun h => ?_⟩, fun h => h⟩
     have := hown kk h; omega
    have HQ2 : Hid (Quiet0 W0 w2) := by
     show Quiet0 _ _
     exact Fr.trans' (HQ.out.trans HQ1.out) hf (fun kk hkk h => absurd (HR.out.low kk h) (by omega))
    have HL2 : Hid ((f.app (.cons k1 n2 (qs.change p) .nil)).length = i + 1) := by
     show _ = _
     rw [Fo.app_length, HF.out]; rfl
    clear ho hf hg2 hown
    go_wp2_with fail
    go_roundw
    case rel => exact ⟨i + 1, _, _, some ⟨g2, 0, none⟩, c', by go_num, by omega, rfl, HL2.out, HD.out, HR2.out, HQ2.out⟩
    case measure => simp [intOf]; omega
   ·have hlt' : ¬ (i : Int) < len := by omega
    have hb1 := box_after HB1.out HQ.out
    have hb0 := box_after HB0.out HQ.out
    obtain ⟨c0, c1, c2, z0, z1, z2⟩ := box_cells3 hb0
    obtain ⟨d0, d1, d2, y0, y1, y2⟩ := box_cells3 hb1
    have HB0 := hid hb0
    have HB1 := hid hb1
    clear hb0 hb1
    have hil : i = len := by omega
    have HFIN : Hid (∀ u v x y : Value, SlcIn (fun b => w.heap.size <= b) ((((wr.setCell ⟨B, 2, none⟩ u).setCell ⟨B + 1, 0, none⟩ v).setCell ⟨B + 1, 1, none⟩ x).setCell ⟨B + 1, 2, none⟩ y) vo len (ps.change p) /\ Quiet0 w ((((wr.setCell ⟨B, 2, none⟩ u).setCell ⟨B + 1, 0, none⟩ v).setCell ⟨B + 1, 1, none⟩ x).setCell ⟨B + 1, 2, none⟩ y)) := by
     intro u v x y
     have hf : Fr (fun kk => kk = B ∨ kk = B + 1) wr ((((wr.setCell ⟨B, 2, none⟩ u).setCell ⟨B + 1, 0, none⟩ v).setCell ⟨B + 1, 1, none⟩ x).setCell ⟨B + 1, 2, none⟩ y) :=
      (((Fr.setCell _ _ _ _ (.inl rfl)).trans (Fr.setCell _ _ _ _ (.inr rfl))).trans (Fr.setCell _ _ _ _ (.inr rfl))).trans (Fr.setCell _ _ _ _ (.inr rfl))
     have hap := HAP.out
     subst hil
     rw [Fo.drop_end ps i (by have := HL.out; omega)] at hap
     simp only [Fo.change] at hap
     rw [Fo.app_nil] at hap
     refine ⟨?_, ?_⟩
     ·rw [<- hap]
      refine (HR.out.slc HF.out.symm (by unfold maxLen; omega)).fr hf ?_
      intro kk _ hkk
      have hkk' : W0.heap.size <= kk := hkk
      have hz := HBE.out
      exact ⟨by omega, by omega⟩
     ·exact Fr.trans' (HQ0.out.trans HQ.out) hf (fun kk hkk h => by have hz := HBE.out; omega)
    go_wp2_with fail
    have hbf := box_set2 (u := .slice vo len vc) (box_set1 (u := .int .i64 n') (box_set0 (u := .int .i64 k) (B := B + 1) (w := wr.setCell ⟨B, 2, none⟩ (.slice vo len vc)) (by rw [Below.heap_setCell _ _ _ _ (by show B + 1 ≠ B; omega)]; exact HB1.out)))
    obtain ⟨f0, f1, f2, _, _, _⟩ := box_cells3 hbf
    have HFF := HFIN.out (.slice vo len vc) (.int .i64 k) (.int .i64 n') (.slice vo len vc)
    have hn' := HN.out
    clear hbf
    rw [hn'] at f0 f1 f2 HFF ⊢
    generalize ((((wr.setCell ⟨B, 2, none⟩ (.slice vo len vc)).setCell ⟨B + 1, 0, none⟩ (.int .i64 k)).setCell ⟨B + 1, 1, none⟩ (.int .i64 n)).setCell ⟨B + 1, 2, none⟩ (.slice vo len vc)) = wf at *
    refine bodyPost_ret (by simp [results, Tryz.results90, go_sem, f0, f1, f2]; rfl) rfl ?_
    exact ⟨vo, ⟨vc, rfl⟩, HFF⟩
 ·go_enter Tryz.func90, Tryz.ntmps90
  go_wp2_with fail
  refine (HK.out n _ HGN.out (HW.out.trans ((Quiet0.alloc _ _).trans (Quiet0.alloc _ _)))).mono ?_; rintro e w1 ⟨rfl, hq1⟩
  have hb1 := box_after HB1.out hq1
  have hb0 := box_after HB0.out hq1
  obtain ⟨c0, c1, c2, z0, z1, z2⟩ := box_cells3 hb0
  have HB0 := hid hb0
  have HB1 := hid hb1
  clear hb0 hb1
  go_wp2_with fail
  obtain ⟨W0, hW0⟩ : ∃ W0, W0 = w1.setCell ⟨w.heap.size, 1, none⟩ (.int .i64 (p n)) := ⟨_, rfl⟩
  change Code.wp _ _ _ _ (w1.setCell ⟨w.heap.size, 1, none⟩ (.int .i64 (p n)))
  have hsz1 : w.heap.size + 2 <= w1.heap.size := by have := hq1.size; simp at this; omega
  have HQ0 : Hid (Quiet0 w W0) := by
   rw [hW0]
   exact (((Quiet0.alloc _ _).trans (Quiet0.alloc _ _)).trans hq1).trans' (Fr.setCell (fun kk => kk = w.heap.size) _ _ _ rfl) (fun i hi h => by omega)
  have hz0 : w.heap.size + 2 <= W0.heap.size := by rw [hW0]; simpa [World.setCell] using hsz1
  have HN : Hid (newN p k n = p n) := by show _ = _; unfold newN; rw [hk]; rfl
  replace HB0 : Hid (W0.heap[w.heap.size]? = some (.cells #[.int .i64 k, .int .i64 (p n), .slice o len cap] 24 (0, 0))) := by
   rw [hW0]; exact box_set1 HB0.out
  replace HB1 : Hid (W0.heap[w.heap.size + 1]? = some (.cells #[.int .i64 0, .int .i64 0, .slice none 0 0] 24 (0, 0))) := by
   show _ = _
   rw [hW0, Below.heap_setCell _ _ _ _ (by show w.heap.size + 1 ≠ w.heap.size; omega)]; exact HB1.out
  rw [<- hW0]
  clear hW0 hk hsz1 c0 c1 c2 z0 z1 z2 hq1
  generalize hnn : newN p k n = n' at *
  generalize hB : w.heap.size = B at *
  have HBE := hid hB
  clear hB
  go_loopw [5, 19] (fun v t wr => ∃ (i : Nat) (f : Fo) (xs : List Value) (vo : Option Addr) (vc : Nat), t = .int .i64 i /\ i <= len /\ v = .slice vo i vc /\ f.length = i /\ f.app ((ps.drop i).change p) = ps.change p /\ TyRow wr W0.heap.size (.slice vo i vc) f xs /\ Quiet0 W0 wr) (fun _ t _ => len - (intOf t).toNat)
  case atStart => exact ⟨0, .nil, [], none, 0, rfl, Nat.zero_le _, rfl, rfl, by rw [Fo.drop_zero]; rfl, TyRow.nil _ _, Quiet0.refl _⟩
  case round =>
   obtain ⟨i, f, xs, vo, vc, rfl, hi, rfl, hfl, hap, hrow, hq⟩ := hrel
   have HF := hid hfl
   have HAP := hid hap
   have HR := hid hrow
   have HQ := hid hq
   clear hfl hap hrow hq
   by_cases hlt : i < len
   ·have hlt' : (i : Int) < len := by omega
    obtain ⟨b, off, k1, n1, qs, o1, len1, cap1, rfl, hd, hg, e0, e1, e2, hs1⟩ := (HS.out.stay (HQ0.out.trans HQ.out)).nth hlt
    have hsq := Fo.size_get ps i k1 n1 qs hg
    have HC := hid (IH.out i k1 n1 qs hg (wr.alloc (.cells #[.int .i64 k1, .int .i64 n1, .slice o1 len1 cap1] 24)) o1 len1 cap1 (HW.out.trans ((HQ0.out.trans HQ.out).trans (Quiet0.alloc _ _))) (hs1.stay (Quiet0.alloc _ _)) (by omega) (allF_get ps i k1 n1 qs HGP.out hg).1 (allF_get ps i k1 n1 qs HGP.out hg).2)
    have HD : Hid ((f.app (.cons k1 (newN p k1 n1) (qs.change p) .nil)).app ((ps.drop (i + 1)).change p) = ps.change p) := by
     show _ = _
     rw [<- HAP.out, hd, Fo.app_assoc]; rfl
    unfold tyv at HC
    clear hd hg hs1 hsq
    generalize newN p k1 n1 = n2 at *
    go_wp2_with fail
    refine HC.out.mono ?_; rintro e w1 ⟨o2, cap2, rfl, hs2, hq1⟩
    have HS2 := hid hs2
    have HQ1 := hid ((Quiet0.alloc _ _).trans hq1)
    have HR1 := hid (HR.out.stay HQ1.out)
    clear hs2 hq1
    go_wp2_with (at_builtin; go_must (refine wpList_append_one w1 rfl (.tmp 23) (.tmp 27) 22 rfl 24 _ 3 40 elemTy (.slice vo i vc) i xs rfl (HF.out ▸ HR1.out.own) #[.int .i64 k1, .int .i64 n2, .slice o2 len1 cap2] rfl rfl ?c1 ?c2 ?c3 ?_))
    case c1 => simp [Value.oneCell']
    case c2 => unfold maxLen; omega
    case c3 => omega
    intro g2 c' w2 ho hf hg2
    have hlow : W0.heap.size <= w1.heap.size := Nat.le_trans HQ.out.size HQ1.out.size
    have hown : ∀ kk, (Value.slice vo i vc).ownBlock = some kk -> kk < wr.heap.size := fun kk h => (HR.out.own.lt kk h).2
    have HR2 : Hid (TyRow w2 W0.heap.size (.slice (some ⟨g2, 0, none⟩) (i + 1) c') (f.app (.cons k1 n2 (qs.change p) .nil)) (xs ++ [.int .i64 k1, .int .i64 n2, .slice o2 len1 cap2])) := by
     show TyRow _ _ _ _ _
     have hf' := HF.out
     subst hf'
     refine TyRow.snoc HR1.out (HS2.out.fr (Fr.refl (fun _ => False) _) ?_) ho hf hg2 hlow
     intro kk _ hkk
     have hkk' : (wr.alloc (.cells #[.int .i64 k1, .int .i64 n1, .slice o1 len1 cap1] 24)).heap.size <= kk := hkk
     simp at hkk'
     refine ⟨⟨by have := HQ.out.size; omega, fun h => ?_⟩, fun h => h⟩
     have := hown kk h; omega
    have HQ2 : Hid (Quiet0 W0 w2) := by
     show Quiet0 _ _
     exact Fr.trans' (HQ.out.trans HQ1.out) hf (fun kk hkk h => absurd (HR.out.low kk h) (by omega))
    have HL2 : Hid ((f.app (.cons k1 n2 (qs.change p) .nil)).length = i + 1) := by
     show _ = _
     rw [Fo.app_length, HF.out]; rfl
    clear ho hf hg2 hown
    go_wp2_with fail
    go_roundw
    case rel => exact ⟨i + 1, _, _, some ⟨g2, 0, none⟩, c', by go_num, by omega, rfl, HL2.out, HD.out, HR2.out, HQ2.out⟩
    case measure => simp [intOf]; omega
   ·have hlt' : ¬ (i : Int) < len := by omega
    have hb1 := box_after HB1.out HQ.out
    have hb0 := box_after HB0.out HQ.out
    obtain ⟨c0, c1, c2, z0, z1, z2⟩ := box_cells3 hb0
    obtain ⟨d0, d1, d2, y0, y1, y2⟩ := box_cells3 hb1
    have HB0 := hid hb0
    have HB1 := hid hb1
    clear hb0 hb1
    have hil : i = len := by omega
    have HFIN : Hid (∀ u v x y : Value, SlcIn (fun b => w.heap.size <= b) ((((wr.setCell ⟨B, 2, none⟩ u).setCell ⟨B + 1, 0, none⟩ v).setCell ⟨B + 1, 1, none⟩ x).setCell ⟨B + 1, 2, none⟩ y) vo len (ps.change p) /\ Quiet0 w ((((wr.setCell ⟨B, 2, none⟩ u).setCell ⟨B + 1, 0, none⟩ v).setCell ⟨B + 1, 1, none⟩ x).setCell ⟨B + 1, 2, none⟩ y)) := by
     intro u v x y
     have hf : Fr (fun kk => kk = B ∨ kk = B + 1) wr ((((wr.setCell ⟨B, 2, none⟩ u).setCell ⟨B + 1, 0, none⟩ v).setCell ⟨B + 1, 1, none⟩ x).setCell ⟨B + 1, 2, none⟩ y) :=
      (((Fr.setCell _ _ _ _ (.inl rfl)).trans (Fr.setCell _ _ _ _ (.inr rfl))).trans (Fr.setCell _ _ _ _ (.inr rfl))).trans (Fr.setCell _ _ _ _ (.inr rfl))
     have hap := HAP.out
     subst hil
     rw [Fo.drop_end ps i (by have := HL.out; omega)] at hap
     simp only [Fo.change] at hap
     rw [Fo.app_nil] at hap
     refine ⟨?_, ?_⟩
     ·rw [<- hap]
      refine (HR.out.slc HF.out.symm (by unfold maxLen; omega)).fr hf ?_
      intro kk _ hkk
      have hkk' : W0.heap.size <= kk := hkk
      have hz := HBE.out
      exact ⟨by omega, by omega⟩
     ·exact Fr.trans' (HQ0.out.trans HQ.out) hf (fun kk hkk h => by have hz := HBE.out; omega)
    go_wp2_with fail
    have hbf := box_set2 (u := .slice vo len vc) (box_set1 (u := .int .i64 n') (box_set0 (u := .int .i64 k) (B := B + 1) (w := wr.setCell ⟨B, 2, none⟩ (.slice vo len vc)) (by rw [Below.heap_setCell _ _ _ _ (by show B + 1 ≠ B; omega)]; exact HB1.out)))
    obtain ⟨f0, f1, f2, _, _, _⟩ := box_cells3 hbf
    have HFF := HFIN.out (.slice vo len vc) (.int .i64 k) (.int .i64 n') (.slice vo len vc)
    have hn' := HN.out
    clear hbf
    rw [hn'] at f0 f1 f2 HFF ⊢
    generalize ((((wr.setCell ⟨B, 2, none⟩ (.slice vo len vc)).setCell ⟨B + 1, 0, none⟩ (.int .i64 k)).setCell ⟨B + 1, 1, none⟩ (.int .i64 (p n))).setCell ⟨B + 1, 2, none⟩ (.slice vo len vc)) = wf at *
    refine bodyPost_ret (by simp [results, Tryz.results90, go_sem, f0, f1, f2]; rfl) rfl ?_
    exact ⟨vo, ⟨vc, rfl⟩, HFF⟩
end
section
open Go.RowKit Go.Shelf
def put3 (w : World) (B : Nat) (a b c : Value) : World := ((w.setCell ⟨B, 0, none⟩ a).setCell ⟨B, 1, none⟩ b).setCell ⟨B, 2, none⟩ c
theorem put3_fr (w : World) (B : Nat) (a b c : Value) : Fr (fun k => k = B) w (put3 w B a b c) :=
 ((Fr.setCell (fun k => k = B) w ⟨B, 0, none⟩ a rfl).trans (Fr.setCell (fun k => k = B) _ ⟨B, 1, none⟩ b rfl)).trans (Fr.setCell (fun k => k = B) _ ⟨B, 2, none⟩ c rfl)
theorem put3_cells {w : World} {B : Nat} {a b c a' b' c' : Value} {t : TypeId} (h : w.heap[B]? = some (.cells #[a', b', c'] t (0, 0))) :
    (put3 w B a b c).cell? ⟨B, 0, none⟩ = some a /\ (put3 w B a b c).cell? ⟨B, 1, none⟩ = some b /\ (put3 w B a b c).cell? ⟨B, 2, none⟩ = some c := by
 have hbf := box_set2 (u := c) (box_set1 (u := b) (box_set0 (u := a) h))
 obtain ⟨f0, f1, f2, _, _, _⟩ := box_cells3 hbf
 exact ⟨f0, f1, f2⟩
theorem copy1_any (w0 : World) : DoK 91 #[] w0 (fun _ => True) (fun n => n) := by
 intro n W _ _
 go_enter Tryz.func91, Tryz.ntmps91
 go_wp2_with fail
 go_ret
 exact ⟨rfl, Quiet0.refl _⟩
theorem eg_copy : ∀ args w, (callFunc 91 args).run Tryz.prog w = .ok (.enter 91 args) w := enters_of Tryz.func91 (by kernel_rfl) rfl
theorem copy_any (k n : Int) (ps : Fo) (w : World) (o : Option Addr) (len cap : Nat) (hs : Slc w o len ps) (hsz : ps.size <= 1000000) :
    Calls Tryz.prog 62 #[tyv k n o len cap] w fun e w' => ∃ o' cap', e = .returned (tyv k n o' len cap') /\ SlcIn (fun b => w.heap.size <= b) w' o' len ps /\ Quiet0 w w' := by
 have HC := hid (change_any eg_copy (copy1_any w) k n ps ((w.alloc (.cells #[.int .i64 k, .int .i64 n, .slice o len cap] 24)).alloc (.cells #[.int .i64 0, .int .i64 0, .slice none 0 0] 24)) o len cap ((Quiet0.alloc _ _).trans (Quiet0.alloc _ _)) (hs.stay ((Quiet0.alloc _ _).trans (Quiet0.alloc _ _))) hsz trivial (allF_true (fun _ => trivial) ps))
 rw [Fo.change_id, show newN (fun n => n) k n = n from by unfold newN; split <;> rfl] at HC
 have hb1 : ((w.alloc (.cells #[.int .i64 k, .int .i64 n, .slice o len cap] 24)).alloc (.cells #[.int .i64 0, .int .i64 0, .slice none 0 0] 24)).heap[w.heap.size + 1]? = some (.cells #[.int .i64 0, .int .i64 0, .slice none 0 0] 24 (0, 0)) := by
  have := heap_alloc_new (w.alloc (.cells #[.int .i64 k, .int .i64 n, .slice o len cap] 24)) (.cells #[.int .i64 0, .int .i64 0, .slice none 0 0] 24)
  simpa using this
 have HB1 := hid hb1
 clear hs hb1
 unfold tyv at *
 go_enter Tryz.func62, Tryz.ntmps62
 go_wp2_with fail
 refine HC.out.mono ?_; rintro e w1 ⟨o2, cap2, rfl, hs2, hq1⟩
 have hb1 := box_after HB1.out hq1
 have HB2 := hid hb1
 obtain ⟨d0, d1, d2, y0, y1, y2⟩ := box_cells3 hb1
 have HS2 := hid hs2
 have HQ1 := hid hq1
 clear hs2 hq1 hb1
 go_wp2_with fail
 clear d0 d1 d2 y0 y1 y2
 have hf := put3_fr w1 (w.heap.size + 1) (.int .i64 k) (.int .i64 n) (.slice o2 len cap2)
 obtain ⟨f0, f1, f2⟩ := put3_cells (a := .int .i64 k) (b := .int .i64 n) (c := .slice o2 len cap2) HB2.out
 change bodyPost _ _ _ _ _ (put3 w1 (w.heap.size + 1) (.int .i64 k) (.int .i64 n) (.slice o2 len cap2))
 generalize put3 w1 (w.heap.size + 1) (.int .i64 k) (.int .i64 n) (.slice o2 len cap2) = wf at *
 refine bodyPost_ret (by simp [results, Tryz.results62, go_sem, f0, f1, f2]; rfl) rfl ?_
 refine ⟨o2, cap2, rfl, HS2.out.fr hf ?_, (((Quiet0.alloc _ _).trans (Quiet0.alloc _ _)).trans HQ1.out).trans' hf (fun kk hkk h => by omega)⟩
 intro kk _ hkk
 have hkk' : ((w.alloc (.cells #[.int .i64 k, .int .i64 n, .slice o len cap] 24)).alloc (.cells #[.int .i64 0, .int .i64 0, .slice none 0 0] 24)).heap.size <= kk := hkk
 simp at hkk'
 exact ⟨by omega, by omega⟩
theorem var_any (n : Int) (w : World) :
    Calls Tryz.prog 39 #[.int .i64 n] w fun e w' => e = .returned (tyv 1 n none 0 0) /\ Quiet0 w w' := by
 unfold tyv
 go_enter Tryz.func39, Tryz.ntmps39
 go_wp2_with fail
 obtain ⟨f0, f1, f2⟩ := box_cells w 1 n none 0 0 24 _ (Quiet0.refl _)
 have hq := Quiet0.alloc w (.cells #[.int .i64 1, .int .i64 n, .slice none 0 0] 24)
 generalize w.alloc (.cells #[.int .i64 1, .int .i64 n, .slice none 0 0] 24) = wf at *
 refine bodyPost_ret (by simp [results, Tryz.results39, go_sem, f0, f1, f2]; rfl) rfl ?_
 exact ⟨rfl, hq⟩
def arrK : Fo -> Int
 | .nil => 0
 | .cons k _ _ .nil => k
 | .cons _ _ _ (.cons _ _ _ _) => 4
def arrN : Fo -> Int
 | .nil => 0
 | .cons _ n _ .nil => n
 | .cons _ _ _ (.cons _ _ _ _) => 0
def arrP : Fo -> Fo
 | .nil => .nil
 | .cons _ _ ps .nil => ps
 | .cons k n ps (.cons k' n' ps' r) => .cons k n ps (.cons (arrK (.cons k' n' ps' r)) (arrN (.cons k' n' ps' r)) (arrP (.cons k' n' ps' r)) .nil)
def TArrow (f : Fo) : Prop := ∀ (w : World) (o : Option Addr) (len cap : Nat), Slc w o len f -> len <= cap -> f.size <= 1000000 ->
    Calls Tryz.prog 40 #[.slice o len cap] w fun e w' => ∃ o' len' cap', e = .returned (tyv (arrK f) (arrN f) o' len' cap') /\ SlcIn (fun b => w.heap.size <= b) w' o' len' (arrP f) /\ Quiet0 w w'
theorem arrow_nil : TArrow .nil := by
 intro w o len cap hs hc hsz
 have hl : len = 0 := hs.1
 subst hl
 unfold tyv arrK arrN
 go_enter Tryz.func40, Tryz.ntmps40
 go_wp2_with fail
 obtain ⟨f0, f1, f2⟩ := box_cells w 0 0 none 0 0 24 _ (Quiet0.refl _)
 have hq := Quiet0.alloc w (.cells #[.int .i64 0, .int .i64 0, .slice none 0 0] 24)
 generalize w.alloc (.cells #[.int .i64 0, .int .i64 0, .slice none 0 0] 24) = wf at *
 refine bodyPost_ret (by simp [results, Tryz.results40, go_sem, f0, f1, f2]; rfl) rfl ?_
 exact ⟨none, 0, 0, rfl, SlcIn.nil _ _ _, hq⟩
theorem arrow_one (k n : Int) (ps : Fo) : TArrow (.cons k n ps .nil) := by
 intro w o len cap hs hc hsz
 have hl : len = 1 := hs.1
 subst hl
 obtain ⟨b, off, k', n', qs, o1, len1, cap1, rfl, hd, hg, e0, e1, e2, hs1⟩ := hs.nth (i := 0) (by omega)
 simp only [Fo.get] at hg
 cases hg
 have hsq : ps.size <= 1000000 := by simp only [Fo.size] at hsz; omega
 have HC := hid (copy_any k n ps (w.alloc (.cells #[.int .i64 0, .int .i64 0, .slice none 0 0] 24)) o1 len1 cap1 (hs1.stay (Quiet0.alloc _ _)) hsq)
 have HB1 := hid (heap_alloc_new w (.cells #[.int .i64 0, .int .i64 0, .slice none 0 0] 24))
 rw [Nat.zero_mul, Nat.add_zero] at e0 e1 e2
 have hbl := World.block_lt_of_cell? w _ e0
 clear hd hs hs1 hsz
 unfold tyv at *
 simp only [arrK, arrN, arrP]
 go_enter Tryz.func40, Tryz.ntmps40
 go_wp2_with fail
 refine HC.out.mono ?_; rintro e w1 ⟨o2, cap2, rfl, hs2, hq1⟩
 have hb1 := box_after HB1.out hq1
 have HB2 := hid hb1
 obtain ⟨d0, d1, d2, y0, y1, y2⟩ := box_cells3 hb1
 have HS2 := hid hs2
 have HQ1 := hid hq1
 clear hs2 hq1 hb1
 go_wp2_with fail
 clear d0 d1 d2 y0 y1 y2
 have hf := put3_fr w1 w.heap.size (.int .i64 k) (.int .i64 n) (.slice o2 len1 cap2)
 obtain ⟨f0, f1, f2⟩ := put3_cells (a := .int .i64 k) (b := .int .i64 n) (c := .slice o2 len1 cap2) HB2.out
 change bodyPost _ _ _ _ _ (put3 w1 w.heap.size (.int .i64 k) (.int .i64 n) (.slice o2 len1 cap2))
 generalize put3 w1 w.heap.size (.int .i64 k) (.int .i64 n) (.slice o2 len1 cap2) = wf at *
 refine bodyPost_ret (by simp [results, Tryz.results40, go_sem, f0, f1, f2]; rfl) rfl ?_
 refine ⟨o2, len1, cap2, rfl, HS2.out.fr hf ?_, ((Quiet0.alloc _ _).trans HQ1.out).trans' hf (fun kk hkk h => by omega)⟩
 intro kk _ hkk
 have hkk' : (w.alloc (.cells #[.int .i64 0, .int .i64 0, .slice none 0 0] 24)).heap.size <= kk := hkk
 simp at hkk'
 exact ⟨by omega, by omega⟩
theorem arrow_more (k n : Int) (ps : Fo) (k2 n2 : Int) (ps2 r : Fo) (ih : TArrow (.cons k2 n2 ps2 r)) : TArrow (.cons k n ps (.cons k2 n2 ps2 r)) := by
 intro w o len cap hs hc hsz
 have hl : len = r.length + 1 + 1 := hs.1
 have hmx := hs.2.1
 unfold maxLen at hmx
 obtain ⟨b, off, k', n', qs, o1, len1, cap1, rfl, hd, hg, e0, e1, e2, hs1⟩ := hs.nth (i := 0) (by omega)
 simp only [Fo.get] at hg
 cases hg
 have hsq : ps.size <= 1000000 := by simp only [Fo.size] at hsz; omega
 have HC := hid (copy_any k n ps)
 have hs2 : Slc w (some ⟨b, off + 3, none⟩) (len - 1) (.cons k2 n2 ps2 r) := by
  refine ⟨by simp only [Fo.length]; omega, by unfold maxLen; omega, fun _ => ⟨b, off + 3, rfl, ?_⟩⟩
  obtain ⟨b', off', he, ha⟩ := hs.2.2 (by omega)
  cases he
  exact ha.2.2.2
 have HB1 := hid (heap_alloc_new w (.cells #[.int .i64 0, .int .i64 0, .slice none 0 0] 24))
 rw [Nat.zero_mul, Nat.add_zero] at e0 e1 e2
 have hsz2 : (Fo.cons k2 n2 ps2 r).size <= 1000000 := by simp only [Fo.size] at hsz ⊢; omega
 have HS1 := hid hs1
 have HS2 := hid hs2
 have hlen2 : 2 <= len := by omega
 unfold TArrow at ih
 have IH := hid ih
 have j0 : (0 : Int) < (len : Int) := by omega
 have jn : 0 < len := by omega
 have j1 : (1 : Int) <= (len : Int) := by omega
 have j2 : (len : Int) <= (cap : Int) := by omega
 clear hd hs hs1 hs2 hsz hl ih
 unfold tyv at *
 have e4 : arrK (.cons k n ps (.cons k2 n2 ps2 r)) = 4 := rfl
 have e0' : arrN (.cons k n ps (.cons k2 n2 ps2 r)) = 0 := rfl
 have eP : arrP (.cons k n ps (.cons k2 n2 ps2 r)) = .cons k n ps (.cons (arrK (.cons k2 n2 ps2 r)) (arrN (.cons k2 n2 ps2 r)) (arrP (.cons k2 n2 ps2 r)) .nil) := rfl
 rw [e4, e0', eP]
 clear e4 e0' eP
 generalize arrP (.cons k2 n2 ps2 r) = pa at *
 generalize arrK (.cons k2 n2 ps2 r) = ka at *
 generalize arrN (.cons k2 n2 ps2 r) = na at *
 go_enter Tryz.func40, Tryz.ntmps40
 go_wp2_with fail
 obtain ⟨W0, hW0⟩ : ∃ W0, W0 = w.alloc (.cells #[.int .i64 0, .int .i64 0, .slice none 0 0] 24) := ⟨_, rfl⟩
 change Code.wp _ _ _ _ (w.alloc (.cells #[.int .i64 0, .int .i64 0, .slice none 0 0] 24))
 have HQ0 : Hid (Quiet0 w W0) := by rw [hW0]; exact Quiet0.alloc _ _
 have hz0 : w.heap.size + 1 = W0.heap.size := by rw [hW0]; simp
 have HZ := hid hz0
 rw [<- hW0] at HB1 ⊢
 have g0 := HQ0.out.at e0
 have g1 := HQ0.out.at e1
 have g2 := HQ0.out.at e2
 have hbB : ¬ b = w.heap.size := by have := World.block_lt_of_cell? w _ e0; simp at this; omega
 clear hW0 e0 e1 e2 hz0
 generalize hB : w.heap.size = B at *
 have HBE := hid hB
 clear hB
 go_region_held3 (fun w' => w'.cell? ⟨b, off, none⟩ = some (.int .i64 k) /\ w'.cell? ⟨b, off + 1, none⟩ = some (.int .i64 n) /\ w'.cell? ⟨b, off + 2, none⟩ = some (.slice o1 len1 cap1))
  (first
   | (go_keep; done)
   | (exact ⟨h0, h1, h2⟩)
   | (exact ⟨f0, f1, f2⟩)
   | (exact ⟨g0, g1, g2⟩)
   | (have hp := put3_fr w4 B (.int .i64 4) (.int .i64 0) (.slice (some ⟨w4.heap.size, 0, none⟩) 2 2); exact ⟨(Quiet0.alloc _ _).at ((hp.cellb hb4l hbB).trans h0), (Quiet0.alloc _ _).at ((hp.cellb hb4l hbB).trans h1), (Quiet0.alloc _ _).at ((hp.cellb hb4l hbB).trans h2)⟩))
  (first
   | (go_at_call 62; refine (HC.out _ _ _ _ (HS1.out.stay (HQ0.out.trans (Quiet0.drew _))) hsq).mono ?_; rintro e w3 ⟨o2, cap2, rfl, hs3, hq3⟩; have f3 := (Quiet0.drew W0).trans hq3; have f0 := f3.at g0; have f1 := f3.at g1; have f2 := f3.at g2; have HQ3 := hid hq3; have HS3 := hid hs3; have HF3 := hid f3; clear hq3 hs3)
   | (go_at_call 40; refine (IH.out _ _ _ _ (HS2.out.stay (HQ0.out.trans HF3.out)) (by omega) hsz2).mono ?_; rintro e w4 ⟨o3, len3, cap3, rfl, hs4, hq4⟩; have h3 := HF3.out.trans hq4; have h0 := h3.at g0; have hb4l := World.block_lt_of_cell? w4 _ h0; have h1 := h3.at g1; have h2 := h3.at g2; have hb4 := box_after HB1.out h3; have hlt4 := lt_of_block hb4; obtain ⟨d0, d1, d2, y0, y1, y2⟩ := box_cells3 hb4; have HB4 := hid hb4; have HQ4 := hid hq4; have HS4 := hid hs4; have HF4 := hid h3; clear hq4 hs4 hb4))
 all_goals
  go_wp2_with fail
  clear d0 d1 d2 y0 y1 y2
  have hf := put3_fr w4 B (.int .i64 4) (.int .i64 0) (.slice (some ⟨w4.heap.size, 0, none⟩) 2 2)
  obtain ⟨p0, p1, p2⟩ := put3_cells (a := .int .i64 4) (b := .int .i64 0) (c := .slice (some ⟨w4.heap.size, 0, none⟩) 2 2) HB4.out
  have hps : (put3 w4 B (.int .i64 4) (.int .i64 0) (.slice (some ⟨w4.heap.size, 0, none⟩) 2 2)).heap.size = w4.heap.size := by simp [put3, World.setCell]
  change bodyPost _ _ _ _ _ ((put3 w4 B (.int .i64 4) (.int .i64 0) (.slice (some ⟨w4.heap.size, 0, none⟩) 2 2)).alloc (.cells #[.int .i64 k, .int .i64 n, .slice o2 len1 cap2, .int .i64 ka, .int .i64 na, .slice o3 len3 cap3] 24))
  generalize put3 w4 B (.int .i64 4) (.int .i64 0) (.slice (some ⟨w4.heap.size, 0, none⟩) 2 2) = w5 at *
  have hnew := heap_alloc_new w5 (.cells #[.int .i64 k, .int .i64 n, .slice o2 len1 cap2, .int .i64 ka, .int .i64 na, .slice o3 len3 cap3] 24)
  have hqa := Quiet0.alloc w5 (.cells #[.int .i64 k, .int .i64 n, .slice o2 len1 cap2, .int .i64 ka, .int .i64 na, .slice o3 len3 cap3] 24)
  generalize w5.alloc (.cells #[.int .i64 k, .int .i64 n, .slice o2 len1 cap2, .int .i64 ka, .int .i64 na, .slice o3 len3 cap3] 24) = wf at *
  rw [hps] at hnew
  have q0 := hqa.at p0
  have q1 := hqa.at p1
  have q2 := hqa.at p2
  refine bodyPost_ret (by simp [results, Tryz.results40, go_sem, q0, q1, q2]; rfl) rfl ?_
  have hbe := HBE.out
  have hz := HZ.out
  have hw3 := HF3.out.size
  have hw4 := HF4.out.size
  have hfa : Fr (fun kk => kk = B) w4 wf := hf.trans (hqa.mono (fun _ _ h => h.elim))
  refine ⟨some ⟨w4.heap.size, 0, none⟩, 2, 2, rfl, ⟨rfl, by decide, fun _ => ⟨w4.heap.size, 0, rfl, ?_⟩⟩, ((HQ0.out.trans HF4.out).trans' hfa (fun kk hkk h => by omega))⟩
  have hsa : SlcIn (fun kk => w.heap.size <= kk) wf o2 len1 ps := by
   refine (HS3.out.fr (T := fun kk => W0.heap.size <= kk) HQ4.out (fun kk _ h => ⟨h, fun h => h⟩)).fr hfa ?_
   intro kk _ h
   have h' : W0.heap.size <= kk := h
   exact ⟨by omega, by omega⟩
  have hsb : SlcIn (fun kk => w.heap.size <= kk) wf o3 len3 pa := by
   refine HS4.out.fr hfa ?_
   intro kk _ h
   have h' : w3.heap.size <= kk := h
   exact ⟨by omega, by omega⟩
  have hR : w.heap.size <= w4.heap.size := by omega
  exact ⟨hR, by rw [cell_of_row _ _ _ _ _ (0, 0) hnew]; rfl, by rw [cell_of_row _ _ _ _ _ (0, 0) hnew]; rfl, ⟨o2, len1, cap2, by rw [cell_of_row _ _ _ _ _ (0, 0) hnew]; rfl, hsa.1, hsa.2.1, hsa.2.2⟩,
   hR, by rw [cell_of_row _ _ _ _ _ (0, 0) hnew]; rfl, by rw [cell_of_row _ _ _ _ _ (0, 0) hnew]; rfl, ⟨o3, len3, cap3, by rw [cell_of_row _ _ _ _ _ (0, 0) hnew]; rfl, hsb.1, hsb.2.1, hsb.2.2⟩, trivial⟩
theorem arrow_any : ∀ f : Fo, TArrow f
 | .nil => arrow_nil
 | .cons k n ps .nil => arrow_one k n ps
 | .cons k n ps (.cons k2 n2 ps2 r) => arrow_more k n ps k2 n2 ps2 r (arrow_any (.cons k2 n2 ps2 r))
end
section
open Go.RowKit
def Qn (K : Act -> World -> Prop) (e : Exit) (a : Act) (w : World) : Prop := match e with
 | .normal => K a w
 | _ => False
theorem Qn_out (K : Act -> World -> Prop) : ¬ LetsOut (Qn K) := fun ⟨_, _, h⟩ => h
theorem wp_of_Qn {P : Program} {o : Oper} {a : Act} {w : World} {K : Act -> World -> Prop} {Q : Exit -> Act -> World -> Prop} {next : Act -> World -> Prop} (h : o.wp P a w next (Qn K)) : o.wp P a w next Q := by
 unfold Oper.wp at *
 generalize (execOp a.eval o).run P w = r at *
 cases r with
 | ok n w' =>
  cases n <;> simp only [Oper.upon] at h ⊢ <;>
   first
    | exact h
    | exact Calls.mono h (fun e w'' he => by cases e <;> first | exact he | exact he.elim | exact (Qn_out K he).elim)
    | exact Rows.mono h (fun _ _ he => he)
 | halt x w' => cases x <;> simp only [Oper.upon] at h ⊢ <;> exact h.elim
theorem step_of_list {P : Program} {ops : Array Oper} {o : Oper} {a : Act} {w : World} {K : Act -> World -> Prop} {Q : Exit -> Act -> World -> Prop} {E : Prop}
    (hw : Region.wanted o (yielded ops a.tmps) = true) (h : wpList P ops (Qn K) [o] a w) : if Region.wanted o (yielded ops a.tmps) = true then Oper.wp P o a w K Q else E := by
 rw [if_pos hw]
 unfold wpList at h
 rw [if_pos hw] at h
 rcases h with h | ⟨_, h⟩
 ·exact wp_of_Qn h
 ·exact (Qn_out K h).elim
theorem of_nil {P : Program} {ops : Array Oper} {a : Act} {w : World} {K : Act -> World -> Prop} (h : K a w) : wpList P ops (Qn K) [] a w := h
end
section
open Go.RowKit
namespace Em
theorem step_append_st {P : Program} (W : World) {ops : Array Oper} {o : Oper} {a : Act} {K : Act -> World -> Prop} {Q : Exit -> Act -> World -> Prop} {E : Prop}
    (hg : o.guard = none) (s x : Operand) (t : TypeId) (hop : o.op = Op.call { callee := Callee.builtin Builtin.append, args := #[s, x], argTypes := #[t, t] })
    (e : TypeId) (z : Value) (size bytes : Nat) (he : Elem P t e z size bytes)
    (v : Value) (n : Nat) (xs : List Value) (hs : a.eval s = v) (hown : W.ownsRow 0 e size v n xs)
    (news : Array Value) (hx : a.eval x = .slice (some ⟨W.heap.size, 0, none⟩) 1 1) (hn : news.size = size) (h1c : ∀ u ∈ news.toList, u.oneCell' = true)
    (b1 : n + 1 <= maxLen) (b2 : (n + 1) * bytes <= 140737488355328)
    (hK : ∀ g c w', w'.ownsRow 0 e size (.slice (some ⟨g, 0, none⟩) (n + 1) c) (n + 1) (xs ++ news.toList) -> Fr (fun k => v.ownBlock = some k) W w' -> (v.ownBlock = some g ∨ (W.heap.size <= g /\ Quiet0 W w')) -> K (a.put o.dst (.slice (some ⟨g, 0, none⟩) (n + 1) c)) w') :
    if Region.wanted o (yielded ops a.tmps) = true then Oper.wp P o a (W.alloc (.cells news e)) K Q else E := by
 obtain ⟨i0, hi, hz0, hz1, hz2⟩ := info_parts he.info
 have hw : Region.wanted o (yielded ops a.tmps) = true := by simp [Region.wanted, hg]
 have hc : ∀ j u, news.toList[j]? = some u -> (W.alloc (.cells news e)).cell? ((⟨W.heap.size, 0, none⟩ : Addr).add j) = some u := by
  intro j u hu
  rw [Addr.add_lit, cell_of_row (W.alloc (.cells news e)) W.heap.size (0 + j) news e (0, 0) (heap_alloc_new W _)]
  simpa using hu
 have hown' := hown
 rcases hown.2 with ⟨rfl, rfl⟩ | ⟨g, cap, cur, rfl, hbg, hgg, hnc, hcm, hcs, htake⟩
 ·refine step_append_lies (w := W.alloc (.cells news e)) hg s x t hop 0 e i0 z size bytes he.under hi hz0 hz1 hz2 he.cells he.pos (.slice none 0 0) 0 xs hs (hown.alloc _) ⟨W.heap.size, 0, none⟩ 1 1 news.toList hx (by simpa using hn) hc h1c (by omega) b1 b2 (Nat.zero_le _) _ rfl ?_
  intro g cap w' ho hgr hg' _
  rcases hg' with h | h
  ·cases h
  ·have hq : Quiet0 W w' := (Quiet0.alloc W _).trans (Fr.grown hgr (fun k hk => by cases hk))
   exact hK g cap w' ho (hq.mono (fun _ _ h => h.elim)) (.inr ⟨by simp at h; omega, hq⟩)
 ·by_cases hroom : n + 1 <= cap
  ·refine step_of_list hw (wpList_append_fits (W.alloc (.cells news e)) hg s x t hop 0 e i0 size he.under hi hz1 g n cap xs hs (hown'.alloc _) ⟨W.heap.size, 0, none⟩ 1 1 news.toList hx (by simpa using hn) hc h1c hroom ?_)
   intro w' ho hgr
   exact of_nil (hK g cap w' ho ((Fr.alloc _ W _).trans (Fr.grown hgr (fun k hk => hk))) (.inl rfl))
  ·refine step_append_grows hg s x t hop e i0 z size bytes he.under hi hz0 hz1 hz2 he.cells he.pos (some ⟨g, 0, none⟩) n cap xs hs (fun h => by cases h) hown'.1 (fun b hb j u hu => by cases hb; exact (hown'.alloc _).cells (g := g) rfl j u hu) ⟨W.heap.size, 0, none⟩ 1 1 news.toList hx (by simpa using hn) hc h1c (by omega) b1 b2 ?_
   intro v' w' ho hgr
   obtain ⟨g', cap', rfl, hb, _⟩ := ho.form (by omega)
   have hq : Quiet0 W w' := (Quiet0.alloc W _).trans (Fr.grown hgr (fun k hk => by cases hk))
   exact hK g' cap' w' (ownsRow_base ho (fun _ _ => Nat.zero_le _)) (hq.mono (fun _ _ h => h.elim)) (.inr ⟨by simp at hb; omega, hq⟩)
theorem wpList_append_st {P : Program} (W : World) {ops : Array Oper} {rest : List Oper} {o : Oper} {a : Act} {Q : Exit -> Act -> World -> Prop}
    (hg : o.guard = none) (s x : Operand) (t : TypeId) (hop : o.op = Op.call { callee := Callee.builtin Builtin.append, args := #[s, x], argTypes := #[t, t] })
    (e : TypeId) (z : Value) (size bytes : Nat) (he : Elem P t e z size bytes)
    (v : Value) (n : Nat) (xs : List Value) (hs : a.eval s = v) (hown : W.ownsRow 0 e size v n xs)
    (news : Array Value) (hx : a.eval x = .slice (some ⟨W.heap.size, 0, none⟩) 1 1) (hn : news.size = size) (h1c : ∀ u ∈ news.toList, u.oneCell' = true)
    (b1 : n + 1 <= maxLen) (b2 : (n + 1) * bytes <= 140737488355328)
    (hK : ∀ g c w', w'.ownsRow 0 e size (.slice (some ⟨g, 0, none⟩) (n + 1) c) (n + 1) (xs ++ news.toList) -> Fr (fun k => v.ownBlock = some k) W w' -> (v.ownBlock = some g ∨ (W.heap.size <= g /\ Quiet0 W w')) -> wpList P ops Q rest (a.put o.dst (.slice (some ⟨g, 0, none⟩) (n + 1) c)) w') :
    wpList P ops Q (o :: rest) a (W.alloc (.cells news e)) := by
 obtain ⟨i0, hi, hz0, hz1, hz2⟩ := info_parts he.info
 have hc : ∀ j u, news.toList[j]? = some u -> (W.alloc (.cells news e)).cell? ((⟨W.heap.size, 0, none⟩ : Addr).add j) = some u := by
  intro j u hu
  rw [Addr.add_lit, cell_of_row (W.alloc (.cells news e)) W.heap.size (0 + j) news e (0, 0) (heap_alloc_new W _)]
  simpa using hu
 have hown' := hown
 rcases hown.2 with ⟨rfl, rfl⟩ | ⟨g, cap, cur, rfl, hbg, hgg, hnc, hcm, hcs, htake⟩
 ·have hx0 : xs = [] := List.eq_nil_of_length_eq_zero (by simpa using hown.1)
  subst hx0
  refine wpList_append_grows (W.alloc (.cells news e)) hg s x t hop e i0 z size bytes he.under hi hz0 hz1 hz2 he.cells he.pos none 0 0 [] hs (fun _ => ⟨rfl, rfl⟩) (by simp) (fun b hb => by cases hb) ⟨W.heap.size, 0, none⟩ 1 1 news.toList hx (by simpa using hn) hc h1c (by omega) b1 b2 ?_
  intro v' w' ho hgr
  obtain ⟨g', cap', rfl, hb, _⟩ := ho.form (by omega)
  have hq : Quiet0 W w' := (Quiet0.alloc W _).trans (Fr.grown hgr (fun k hk => by cases hk))
  exact hK g' cap' w' (ownsRow_base ho (fun _ _ => Nat.zero_le _)) (hq.mono (fun _ _ h => h.elim)) (.inr ⟨by simp at hb; omega, hq⟩)
 ·by_cases hroom : n + 1 <= cap
  ·refine wpList_append_fits (W.alloc (.cells news e)) hg s x t hop 0 e i0 size he.under hi hz1 g n cap xs hs (hown'.alloc _) ⟨W.heap.size, 0, none⟩ 1 1 news.toList hx (by simpa using hn) hc h1c hroom ?_
   intro w' ho hgr
   exact hK g cap w' ho ((Fr.alloc _ W _).trans (Fr.grown hgr (fun k hk => hk))) (.inl rfl)
  ·refine wpList_append_grows (W.alloc (.cells news e)) hg s x t hop e i0 z size bytes he.under hi hz0 hz1 hz2 he.cells he.pos (some ⟨g, 0, none⟩) n cap xs hs (fun h => by cases h) hown'.1 (fun b hb j u hu => by cases hb; exact (hown'.alloc _).cells (g := g) rfl j u hu) ⟨W.heap.size, 0, none⟩ 1 1 news.toList hx (by simpa using hn) hc h1c (by omega) b1 b2 ?_
   intro v' w' ho hgr
   obtain ⟨g', cap', rfl, hb, _⟩ := ho.form (by omega)
   have hq : Quiet0 W w' := (Quiet0.alloc W _).trans (Fr.grown hgr (fun k hk => by cases hk))
   exact hK g' cap' w' (ownsRow_base ho (fun _ _ => Nat.zero_le _)) (hq.mono (fun _ _ h => h.elim)) (.inr ⟨by simp at hb; omega, hq⟩)
theorem elemQ : Elem Tryz.prog 42 74 (.agg #[.int .i64 0, .int .i64 0, .slice none 0 0, .int .i64 0, .int .i64 0, .slice none 0 0, .int .i64 0, .int .i64 0]) 8 96 :=
 ⟨Tryz.underlying42, by kernel_rfl, by decide, by decide⟩
theorem take_any {X : Nat -> Prop} {most : Int} {pb : Nat} {W : World} {k : Mk} (h : MkE X most pb W k) (hn : k.next <= 1000000000) :
    Calls Tryz.prog 65 #[.pointer (some ⟨pb, 0, none⟩)] W (MkQ X most pb W (takeP k)) := by
 obtain ⟨o, c, xs, h⟩ := h
 obtain ⟨W0, hW0⟩ : ∃ W0, W0 = W.alloc (.cells #[.int .i64 0, .int .i64 0, .slice none 0 0] 24) := ⟨_, rfl⟩
 have hq0 : Quiet0 W W0 := by rw [hW0]; exact Quiet0.alloc _ _
 have HB0 : Hid (W0.heap[W.heap.size]? = some (.cells #[.int .i64 0, .int .i64 0, .slice none 0 0] 24 (0, 0))) := by show _ = _; rw [hW0]; exact heap_alloc_new W _
 have h0 := h.more hq0 (fun i => i = W.heap.size) (fun i hi => ⟨by omega, by rw [hW0]; simp; omega⟩)
 have hp := h.lt
 obtain ⟨h1, hl1⟩ := h0.box_set (k' := { k with next := k.next + 1 }) 1 (.int .i64 ((k.next : Int) + 1)) (by decide) rfl rfl
 obtain ⟨c0, c1, c2, c3⟩ := mk_cells h0.box
 obtain ⟨f0, f1, f2, f3⟩ := mk_free h0.box
 have HQ0 := hid hq0
 have HP := hid hp
 have HH := hid h1
 have HL := hid hl1
 have hpn : ¬ pb = W.heap.size := by omega
 clear h h0 h1 hl1 hp hq0
 unfold tyv at *
 go_enter Tryz.func65, Tryz.ntmps65
 go_upto_region 1 with fail
 rw [<- hW0]
 clear hW0
 go_upto_region 2 with fail
 obtain ⟨W1, hW1⟩ : ∃ W1, W1 = W0.setCell ⟨pb, 1, none⟩ (.int .i64 ((k.next : Int) + 1)) := ⟨_, rfl⟩
 have HB1 : Hid (W1.heap[W.heap.size]? = some (.cells #[.int .i64 0, .int .i64 0, .slice none 0 0] 24 (0, 0))) := by
  show _ = _; rw [hW1]; exact blk_fr (Fr.setCell (fun i => i = pb) _ ⟨pb, 1, none⟩ _ rfl) (fun e => hpn e.symm) HB0.out
 change Code.wp _ _ _ _ (W0.setCell ⟨pb, 1, none⟩ (.int .i64 ((k.next : Int) + 1)))
 rw [<- hW1] at HH HL ⊢
 clear hW1 c0 c1 c2 c3 f0 f1 f2 f3
 obtain ⟨c0, c1, c2, c3⟩ := mk_cells HH.out.box
 replace c1 : W1.cell? ⟨pb, 1, none⟩ = some (.int .i64 ((k.next : Int) + 1)) := c1
 go_wp2_with fail
 refine (var_any (k.next : Int) _).mono ?_; rintro e w2 ⟨rfl, hq2⟩
 have HQ2 := hid hq2
 have hb2 := box_after HB1.out hq2
 have HB2 := hid hb2
 obtain ⟨d0, d1, d2, y0, y1, y2⟩ := box_cells3 hb2
 clear hq2 hb2 c0 c1 c2 c3
 unfold tyv
 go_wp2_with fail
 clear d0 d1 d2 y0 y1 y2
 generalize hB : W.heap.size = B at *
 have hf := put3_fr w2 B (.int .i64 1) (.int .i64 k.next) (.slice none 0 0)
 obtain ⟨f0, f1, f2⟩ := put3_cells (a := .int .i64 1) (b := .int .i64 k.next) (c := .slice none 0 0) HB2.out
 change bodyPost _ _ _ _ _ (put3 w2 B (.int .i64 1) (.int .i64 k.next) (.slice none 0 0))
 generalize put3 w2 B (.int .i64 1) (.int .i64 k.next) (.slice none 0 0) = wf at *
 refine bodyPost_ret (by simp [results, Tryz.results65, go_sem, f0, f1, f2]; rfl) rfl ?_
 have hp : pb < W.heap.size := by rw [hB]; exact HP.out
 have hl := ((Later.of_quiet HQ0.out hp).trans (HL.out.quiet HQ2.out (Nat.lt_of_lt_of_le hp HQ0.out.size))).put hf hp (fun i hi => by omega)
 exact ⟨k.next, none, 0, rfl, rfl, (MkE.put ⟨o, c, xs, HH.out.stay HQ2.out⟩ (hf.mono (fun _ _ e => .inr e))).less (fun i hi => .inl hi), hl⟩
theorem eq_end {X : Nat -> Prop} {most : Int} {pb : Nat} {W W1 w' : World} {k : Mk} {o : Option Addr} {c : Nat} {xs : List Value} (h : MkAt X most pb W1 k o c xs) (hl : Later pb W W1) (hp : pb < W.heap.size) {t : Eqn} {o1 : Option Addr} {l1 c1 : Nat} {o2 : Option Addr} {l2 c2 : Nat} (s1 : SlcIn (TF X pb W1) W1 o1 l1 t.1.2.2) (s2 : SlcIn (TF X pb W1) W1 o2 l2 t.2.1.2.2) {g c' : Nat}
    (ho : w'.ownsRow 0 74 8 (.slice (some ⟨g, 0, none⟩) (k.eqs.length + 1) c') (k.eqs.length + 1) (xs ++ (ec t o1 l1 c1 o2 l2 c2).toList)) (hf : Fr (fun i => (Value.slice o k.eqs.length c).ownBlock = some i) W1.drew w') (hg : (Value.slice o k.eqs.length c).ownBlock = some g ∨ (W1.drew.heap.size <= g /\ Quiet0 W1.drew w'))
    (hz : k.eqs.length + 1 <= 4096) (hs : t.1.2.2.size <= 100000 /\ t.2.1.2.2.size <= 100000) :
    MkE X most pb (w'.setCell ⟨pb, 0, none⟩ (.slice (some ⟨g, 0, none⟩) (k.eqs.length + 1) c')) { k with eqs := k.eqs ++ [t] } /\ Later pb W (w'.setCell ⟨pb, 0, none⟩ (.slice (some ⟨g, 0, none⟩) (k.eqs.length + 1) c')) := by
 have hd := Later.of_quiet (Quiet0.drew W1) h.lt
 obtain ⟨h1, h2⟩ := (h.stay (Quiet0.drew W1)).snoc (slc_later s1 hd) (slc_later s2 hd) ho hf hg hz hs
 exact ⟨⟨_, _, _, h1⟩, (hl.quiet (Quiet0.drew W1) hp).trans h2⟩
theorem two_cells {W : World} {b : Nat} {v0 v1 : Value} {t : TypeId} (h : W.heap[b]? = some (.cells #[v0, v1] t (0, 0))) : W.cell? ⟨b, 0, none⟩ = some v0 /\ W.cell? ⟨b, 1, none⟩ = some v1 := by
 refine ⟨?_, ?_⟩ <;> (rw [cell_of_row _ _ _ _ _ (0, 0) h]; rfl)
theorem equate_any {X : Nat -> Prop} {most : Int} {pb : Nat} {W : World} {k : Mk} (h : MkE X most pb W k) (hm : most <= 4096) (l r : Ty) (fr en : Int) {o1 : Option Addr} {l1 c1 : Nat} {o2 : Option Addr} {l2 c2 : Nat} (s1 : SlcIn (TF X pb W) W o1 l1 l.2.2) (s2 : SlcIn (TF X pb W) W o2 l2 r.2.2) (z1 : l.2.2.size <= 100000) (z2 : r.2.2.size <= 100000) :
    Calls Tryz.prog 66 #[.pointer (some ⟨pb, 0, none⟩), tyv l.1 l.2.1 o1 l1 c1, tyv r.1 r.2.1 o2 l2 c2, .agg #[.int .i64 fr, .int .i64 en]] W (MkU X most pb W (eqP most l r fr en k).2) := by
 obtain ⟨o, c, xs, h⟩ := h
 obtain ⟨W0, hW0⟩ : ∃ W0, W0 = ((W.alloc (.cells #[.int .i64 l.1, .int .i64 l.2.1, .slice o1 l1 c1] 24)).alloc (.cells #[.int .i64 r.1, .int .i64 r.2.1, .slice o2 l2 c2] 24)).alloc (.cells #[.int .i64 fr, .int .i64 en] 27) := ⟨_, rfl⟩
 have hq0 : Quiet0 W W0 := by rw [hW0]; exact ((Quiet0.alloc _ _).trans (Quiet0.alloc _ _)).trans (Quiet0.alloc _ _)
 have HBl : Hid (W0.heap[W.heap.size]? = some (.cells #[.int .i64 l.1, .int .i64 l.2.1, .slice o1 l1 c1] 24 (0, 0))) := by
  show _ = _; rw [hW0]; exact box_after (heap_alloc_new W _) ((Quiet0.alloc _ _).trans (Quiet0.alloc _ _))
 have HBr : Hid (W0.heap[W.heap.size + 1]? = some (.cells #[.int .i64 r.1, .int .i64 r.2.1, .slice o2 l2 c2] 24 (0, 0))) := by
  show _ = _; rw [hW0]; refine box_after ?_ (Quiet0.alloc _ _)
  have := heap_alloc_new (W.alloc (.cells #[.int .i64 l.1, .int .i64 l.2.1, .slice o1 l1 c1] 24)) (.cells #[.int .i64 r.1, .int .i64 r.2.1, .slice o2 l2 c2] 24)
  simpa using this
 have HBs : Hid (W0.heap[W.heap.size + 1 + 1]? = some (.cells #[.int .i64 fr, .int .i64 en] 27 (0, 0))) := by
  show _ = _; rw [hW0]
  have := heap_alloc_new ((W.alloc (.cells #[.int .i64 l.1, .int .i64 l.2.1, .slice o1 l1 c1] 24)).alloc (.cells #[.int .i64 r.1, .int .i64 r.2.1, .slice o2 l2 c2] 24)) (.cells #[.int .i64 fr, .int .i64 en] 27)
  simpa using this
 have h0 := h.stay hq0
 have HP := hid h.lt
 have hl0 := Later.of_quiet hq0 h.lt
 have HL0 := hid hl0
 have HS1 := hid (slc_later s1 hl0)
 have HS2 := hid (slc_later s2 hl0)
 have HH := hid h0
 have HQ0 := hid hq0
 obtain ⟨q0, q1, q2, q3⟩ := mk_cells h0.box
 obtain ⟨f0, f1, f2, f3⟩ := mk_free h0.box
 have hfew := h.few
 have HM := hid hm
 clear h h0 hq0 hl0 s1 s2 hm
 by_cases hlt : most <= k.eqs.length
 ·have hge : decide (most <= (k.eqs.length : Int)) = true := by simp [hlt]
  have HE : Hid ((eqP most l r fr en k).2 = { k with many := true }) := by show _ = _; unfold eqP; rw [if_pos hlt]
  rw [HE.out]
  unfold tyv
  go_enter Tryz.func66, Tryz.ntmps66
  go_upto_region 1 with fail
  rw [<- hW0]
  clear hW0
  go_quiet (fail)
  have hqn := Quiet0.drewN W0 nq
  have h1 := HH.out.stay hqn
  have hl1 := HL0.out.quiet hqn HP.out
  clear q0 q1 q2 q3 f0 f1 f2 f3 hqn
  generalize W0.drewN nq = W1 at *
  obtain ⟨q0, q1, q2, q3⟩ := mk_cells h1.box
  obtain ⟨f0, f1, f2, f3⟩ := mk_free h1.box
  obtain ⟨h2, hl2⟩ := h1.box_set (k' := { k with many := true }) 3 (.bool true) (by decide) rfl rfl
  have H2 := hid h2
  have HL2 := hid (hl1.trans hl2)
  clear h1 hl1 h2 hl2
  go_wp2_with fail
  go_end0
  exact ⟨rfl, ⟨o, c, xs, H2.out⟩, HL2.out⟩
 ·have hge : decide (most <= (k.eqs.length : Int)) = false := by simp [hlt]
  have HE : Hid ((eqP most l r fr en k).2 = { k with eqs := k.eqs ++ [(l, r, fr, en)] }) := by show _ = _; unfold eqP; rw [if_neg hlt]
  rw [HE.out]
  unfold tyv
  go_enter Tryz.func66, Tryz.ntmps66
  go_upto_region 1 with fail
  rw [<- hW0]
  clear hW0
  go_quiet (fail)
  have hqn := Quiet0.drewN W0 nq
  have h1 := HH.out.stay hqn
  have hl1 := HL0.out.quiet hqn HP.out
  have H1 := hid h1
  have HL1 := hid hl1
  have ht1 := slc_later HS1.out (Later.of_quiet hqn HH.out.lt)
  have ht2 := slc_later HS2.out (Later.of_quiet hqn HH.out.lt)
  have HT1 := hid ht1
  have HT2 := hid ht2
  have hbl := box_after HBl.out hqn
  have hbr := box_after HBr.out hqn
  have hbs := blk_after hqn HBs.out
  clear q0 q1 q2 q3 f0 f1 f2 f3 hqn ht1 ht2 hl1 HS1 HS2 HBl HBr HBs HL0 HH HQ0
  generalize W0.drewN nq = W1 at *
  clear W0
  obtain ⟨q0, q1, q2, q3⟩ := mk_cells h1.box
  obtain ⟨f0, f1, f2, f3⟩ := mk_free h1.box
  go_upto_region 3 with fail
  have hA := Quiet0.alloc W1 (.cells (ec (l, r, fr, en) o1 l1 c1 o2 l2 c2) 74)
  have qA := (mk_cells (blk_after hA h1.box)).1
  obtain ⟨x0, x1, x2, _, _, _⟩ := box_cells3 hbl
  obtain ⟨y0, y1, y2, _, _, _⟩ := box_cells3 hbr
  obtain ⟨u0, u1⟩ := two_cells hbs
  clear h1 hbl hbr hbs
  have hn : k.eqs.length + 1 <= 4096 := by have := HM.out; omega
  clear hA
  go_region_law ((refine step_append_st W1.drew rfl (.tmp 25) (.tmp 30) 42 rfl 74 _ 8 96 elemQ (.slice o k.eqs.length c) k.eqs.length xs rfl ?hown (ec (l, r, fr, en) o1 l1 c1 o2 l2 c2) rfl rfl ?c1 ?c2 ?c3 ?_); (case hown => exact H1.out.own); (case c1 => simp [Value.oneCell']); (case c2 => (unfold maxLen; omega)); (case c3 => omega); intro g4 c4 w4 ho4 hf4 hg4; have hb4 := blk_fr hf4 (fun e => by have := (H1.out.low pb e).1; omega) (show W1.drew.heap[pb]? = _ from H1.out.box); obtain ⟨r0, r1, r2, r3⟩ := mk_cells hb4; obtain ⟨s0, s1, s2, s3⟩ := mk_free hb4; have HFIN : Hid (MkE X most pb (w4.setCell ⟨pb, 0, none⟩ (.slice (some ⟨g4, 0, none⟩) (k.eqs.length + 1) c4)) { k with eqs := k.eqs ++ [(l, r, fr, en)] } /\ Later pb W (w4.setCell ⟨pb, 0, none⟩ (.slice (some ⟨g4, 0, none⟩) (k.eqs.length + 1) c4))) := eq_end (t := (l, r, fr, en)) H1.out HL1.out HP.out HT1.out HT2.out ho4 hf4 hg4 hn ⟨z1, z2⟩; clear ho4 hf4 hg4 hb4)
  all_goals
   go_wp2_with fail
   go_end0
   first
    | with_reducible exact mku_of HFIN.out.1 HFIN.out.2
    | with_reducible exact mku_of (HFIN.out.1.stay (Quiet0.drew _)) (HFIN.out.2.quiet (Quiet0.drew _) HP.out)
end Em
end
section
namespace Sc
def ixE : List ByteArray -> ByteArray -> Nat -> Int
 | [], _, _ => -1
 | a :: r, s, k => if a = s then (k : Int) else ixE r s (k + 1)
def ix (e : List ByteArray) (s : ByteArray) : Int := ixE e s 0
theorem ixE_spec : ∀ (e : List ByteArray) (s : ByteArray) (k : Nat), (ixE e s k = -1 /\ s ∉ e) ∨ ∃ j, ixE e s k = ((k + j : Nat) : Int) /\ e[j]? = some s /\ s ∉ e.take j
 | [], s, k => .inl ⟨rfl, by simp⟩
 | a :: r, s, k => by
  unfold ixE
  by_cases h : a = s
  ·rw [if_pos h]; exact .inr ⟨0, by simp, by simp [h], by simp⟩
  ·rw [if_neg h]
   rcases ixE_spec r s (k + 1) with ⟨h1, h2⟩ | ⟨j, h1, h2, h3⟩
   ·refine .inl ⟨h1, ?_⟩
    simp only [List.mem_cons, not_or]; exact ⟨fun e => h e.symm, h2⟩
   ·refine .inr ⟨j + 1, by rw [h1]; congr 1; omega, by simpa using h2, ?_⟩
    simp only [List.take_succ_cons, List.mem_cons, not_or]; exact ⟨fun e => h e.symm, h3⟩
theorem ix_ge (e : List ByteArray) (s : ByteArray) : -1 <= ix e s /\ ix e s < e.length := by
 unfold ix
 rcases ixE_spec e s 0 with ⟨h1, _⟩ | ⟨j, h1, h2, _⟩
 ·omega
 ·have := (List.getElem?_eq_some_iff.1 h2).1; omega
theorem ixE_hit {e : List ByteArray} {s : ByteArray} {i : Nat} (h : e[i]? = some s) (hn : s ∉ e.take i) : ix e s = i := by
 unfold ix
 rcases ixE_spec e s 0 with ⟨_, h2⟩ | ⟨j, h1, h2, h3⟩
 ·exact absurd (List.mem_of_getElem? h) h2
 ·rcases Nat.lt_trichotomy i j with hl | he | hl
  ·exact absurd (List.mem_of_getElem? (by rw [List.getElem?_take, if_pos hl]; exact h)) h3
  ·subst he; simpa using h1
  ·exact absurd (List.mem_of_getElem? (by rw [List.getElem?_take, if_pos hl]; exact h2)) hn
theorem ixE_miss {e : List ByteArray} {s : ByteArray} (h : s ∉ e) : ix e s = -1 := by
 unfold ix
 rcases ixE_spec e s 0 with ⟨h1, _⟩ | ⟨j, _, h2, _⟩
 ·exact h1
 ·exact absurd (List.mem_of_getElem? h2) h
def bindsB (k : Int) (i : Nat) : Bool := k == 4 || k == 7 || (k == 6 && i == 1)
def envOf (k : Int) (nm : ByteArray) (i : Nat) (e : List ByteArray) : List ByteArray := if bindsB k i then nm :: e else e
def bindK (k : Int) : Bool := k == 4 || k == 6 || k == 7
section
variable {σ : Type} (stp : σ -> Nd -> List ByteArray -> σ) (out : Nd -> List ByteArray -> Nd)
def wk : Int -> ByteArray -> Nat -> σ -> List ByteArray -> To -> σ × To
 | _, _, _, s, _, .nil => (s, .nil)
 | bk, nm, i, s, e, .cons h ps r =>
  let q : σ × Nd × To := if h.k = 1 then (stp s h (envOf bk nm i e), out h (envOf bk nm i e), ps) else
   ((wk h.k h.nm 0 s (envOf bk nm i e) ps).1, h, (wk h.k h.nm 0 s (envOf bk nm i e) ps).2)
  ((wk bk nm (i + 1) q.1 e r).1, .cons q.2.1 q.2.2 (wk bk nm (i + 1) q.1 e r).2)
def wk1 (s : σ) (e : List ByteArray) (h : Nd) (ps : To) : σ × Nd × To :=
 if h.k = 1 then (stp s h e, out h e, ps) else ((wk stp out h.k h.nm 0 s e ps).1, h, (wk stp out h.k h.nm 0 s e ps).2)
theorem wk_cons (bk : Int) (nm : ByteArray) (i : Nat) (s : σ) (e : List ByteArray) (h : Nd) (ps r : To) : wk stp out bk nm i s e (.cons h ps r) =
    ((wk stp out bk nm (i + 1) (wk1 stp out s (envOf bk nm i e) h ps).1 e r).1, .cons (wk1 stp out s (envOf bk nm i e) h ps).2.1 (wk1 stp out s (envOf bk nm i e) h ps).2.2 (wk stp out bk nm (i + 1) (wk1 stp out s (envOf bk nm i e) h ps).1 e r).2) := rfl
end
def fr (e : List ByteArray) : Nd -> To -> List (Nd × To) := fun h ps => (wk1 (fun s x e => if ix e x.nm < 0 then s ++ [(x, To.nil)] else s) (fun x _ => x) [] e h ps).1
def rsO (x : Nd) (e : List ByteArray) : Nd := if 0 <= ix e x.nm then { x with n := ix e x.nm } else x
end Sc
end
section
open Go.RowKit
namespace Sc
def NmIn (T : Nat -> Prop) (w : World) (o : Option Addr) (n : Nat) (e : List ByteArray) : Prop :=
 n = e.length /\ n <= maxLen /\ (0 < n -> ∃ b, o = some ⟨b, 0, none⟩ /\ T b /\ ∀ i s, e.reverse[i]? = some s -> w.cell? ⟨b, i, none⟩ = some (.string s))
theorem NmIn.nil (T : Nat -> Prop) (w : World) (o : Option Addr) : NmIn T w o 0 [] := ⟨rfl, Nat.zero_le _, fun h => absurd h (Nat.lt_irrefl _)⟩
theorem NmIn.lt {T : Nat -> Prop} {w : World} {b n : Nat} {e : List ByteArray} (h : NmIn T w (some ⟨b, 0, none⟩) n e) (hn : 0 < n) : b < w.heap.size /\ T b := by
 obtain ⟨b', he, ht, hc⟩ := h.2.2 hn
 injection he with he; injection he with he
 subst he
 have hl : 0 < e.reverse.length := by simp; have := h.1; omega
 exact ⟨World.block_lt_of_cell? w _ (hc 0 _ (List.getElem?_eq_getElem hl)), ht⟩
theorem NmIn.fr {T T' S : Nat -> Prop} {w w' : World} {o : Option Addr} {n : Nat} {e : List ByteArray} (h : NmIn T w o n e) (hf : Fr S w w') (hT : ∀ k, k < w.heap.size -> T k -> T' k /\ ¬ S k) : NmIn T' w' o n e := by
 refine ⟨h.1, h.2.1, fun hn => ?_⟩
 obtain ⟨b, he, ht, hc⟩ := h.2.2 hn
 subst he
 have hl := (h.lt hn).1
 obtain ⟨h1, h2⟩ := hT b hl ht
 exact ⟨b, rfl, h1, fun i s hi => (hf.cellb hl h2).trans (hc i s hi)⟩
theorem NmIn.stay {T : Nat -> Prop} {w w' : World} {o : Option Addr} {n : Nat} {e : List ByteArray} (h : NmIn T w o n e) (hq : Quiet0 w w') : NmIn T w' o n e := h.fr hq (fun _ _ hk => ⟨hk, fun h => h⟩)
theorem NmIn.at {T : Nat -> Prop} {w : World} {o : Option Addr} {n : Nat} {e : List ByteArray} (h : NmIn T w o n e) {i : Nat} {s : ByteArray} (hi : e[i]? = some s) : ∃ b, o = some ⟨b, 0, none⟩ /\ w.cell? ⟨b, n - 1 - i, none⟩ = some (.string s) := by
 have hl := (List.getElem?_eq_some_iff.1 hi).1
 obtain ⟨b, he, _, hc⟩ := h.2.2 (by have := h.1; omega)
 refine ⟨b, he, hc _ s ?_⟩
 rw [List.getElem?_reverse (by have := h.1; omega), h.1]
 rw [<- hi]; congr 1; omega
theorem NmIn.of_own {T : Nat -> Prop} {w : World} {base g n c : Nat} {e : List ByteArray} {s : ByteArray} (ho : w.ownsRow base 9 1 (.slice (some ⟨g, 0, none⟩) n c) n (e.reverse.map Value.string ++ [.string s])) (hn : n = e.length + 1) (hm : n <= maxLen) (ht : T g) : NmIn T w (some ⟨g, 0, none⟩) n (s :: e) := by
 refine ⟨by simpa using hn, hm, fun _ => ⟨g, rfl, ht, fun i u hi => ?_⟩⟩
 have hx : (e.reverse.map Value.string ++ [.string s])[i]? = some (.string u) := by
  have : e.reverse.map Value.string ++ [Value.string s] = ((s :: e).reverse).map Value.string := by simp
  rw [this, List.getElem?_map, hi]; rfl
 have := ho.cells (g := g) rfl i (.string u) hx
 simpa [Addr.add_lit] using this
theorem elemStr : Elem Tryz.prog 49 9 (.string ⟨#[]⟩) 1 16 :=
 ⟨Tryz.underlying49, by kernel_rfl, by decide, by decide⟩
theorem NmIn.none {T : Nat -> Prop} {w : World} {n : Nat} {e : List ByteArray} (h : NmIn T w none n e) : n = 0 := by
 rcases Nat.eq_zero_or_pos n with h0 | h0
 ·exact h0
 ·obtain ⟨b, he, _⟩ := h.2.2 h0; cases he
theorem names_cells {T : Nat -> Prop} {w : World} {o : Option Addr} {n : Nat} {e : List ByteArray} (h : NmIn T w o n e) : ∀ b, o = some b -> ∀ j u, (e.reverse.map Value.string)[j]? = some u -> w.cell? (b.add j) = some u := by
 rintro b rfl j u hj
 have hl := (List.getElem?_eq_some_iff.1 hj).1
 obtain ⟨b', he, _, hc⟩ := h.2.2 (by have := h.1; simp at hl; omega)
 injection he with he
 subst he
 rw [List.getElem?_map] at hj
 obtain ⟨s, hs, rfl⟩ := Option.map_eq_some_iff.1 hj
 rw [Addr.add_lit, Nat.zero_add]
 exact hc j s hs
theorem ix_take {e : List ByteArray} {s : ByteArray} {i : Nat} (hn : s ∉ e.take i) (hi : e.length <= i) : ix e s = -1 := ixE_miss (by rwa [List.take_of_length_le hi] at hn)
theorem take_no {e : List ByteArray} {s a : ByteArray} {i : Nat} (hn : s ∉ e.take i) (hi : e[i]? = some a) (ha : a ≠ s) : s ∉ e.take (i + 1) := by
 rw [List.take_add_one, hi]
 simp only [Option.toList_some, List.mem_append, List.mem_singleton, not_or]
 exact ⟨hn, fun h => ha h.symm⟩
theorem str_eq {a s : ByteArray} : (a.toList == s.toList) = true ↔ a = s := by
 rw [beq_iff_eq]
 constructor
 ·intro h
  rw [ByteArray.toList_eq, ByteArray.toList_eq] at h
  exact ByteArray.ext (Array.toList_inj.1 h)
 ·intro h; rw [h]
end Sc
end
section
open Go.RowKit
theorem slc1 {W : World} {b : Nat} {k n : Int} {o : Option Addr} {len cap : Nat} {ps : Fo} (hb : W.heap[b]? = some (.cells #[.int .i64 k, .int .i64 n, .slice o len cap] 24 (0, 0))) (h1 : Slc W o len ps) : Slc W (some ⟨b, 0, none⟩) 1 (.cons k n ps .nil) :=
 ⟨rfl, by decide, fun _ => ⟨_, 0, rfl, by rw [cell_of_row _ _ _ _ _ (0, 0) hb]; rfl, by rw [cell_of_row _ _ _ _ _ (0, 0) hb]; rfl, ⟨o, len, cap, by rw [cell_of_row _ _ _ _ _ (0, 0) hb]; rfl, h1.1, h1.2.1, h1.2.2⟩, trivial⟩⟩
theorem box5_use {w : World} {b : Nat} {a0 a1 a2 a3 a4 : Value} {t : TypeId} {G : Prop} (h : w.heap[b]? = some (.cells #[a0, a1, a2, a3, a4] t (0, 0)))
    (k : w.cell? ⟨b, 0, none⟩ = some a0 -> w.cell? ⟨b, 1, none⟩ = some a1 -> w.cell? ⟨b, 2, none⟩ = some a2 -> w.cell? ⟨b, 3, none⟩ = some a3 -> w.cell? ⟨b, 4, none⟩ = some a4 ->
     w.frozen? ⟨b, 0, none⟩ = false -> w.frozen? ⟨b, 1, none⟩ = false -> w.frozen? ⟨b, 2, none⟩ = false -> w.frozen? ⟨b, 3, none⟩ = false -> w.frozen? ⟨b, 4, none⟩ = false -> w.heap[b]? = some (.cells #[a0, a1, a2, a3, a4] t (0, 0)) -> G) : G := by
 refine k ?_ ?_ ?_ ?_ ?_ ?_ ?_ ?_ ?_ ?_ h
 all_goals first | (rw [cell_of_row _ _ _ _ _ (0, 0) h]; rfl) | simp [World.frozen?, h]
end
section
open Go.RowKit
theorem box9 (w : World) (h : Nd) (o1 : Option Addr) (l1 c1 : Nat) (o2 : Option Addr) (l2 c2 : Nat) (t : TypeId) (W : World) (hq : Quiet0 (w.alloc (.cells (cells9 h o1 l1 c1 o2 l2 c2) t)) W) : Cells9 W w.heap.size 0 h o1 l1 c1 o2 l2 c2 :=
 (cells9_new w h o1 l1 c1 o2 l2 c2 t).fr hq (fun h => h)
end
section
open Go.RowKit Go.Shelf
namespace Sc
def StrAt (w : World) (o : Option Addr) (l : List ByteArray) : Prop := ∀ j s, l[j]? = some s -> ∃ b off, o = some ⟨b, off, none⟩ /\ w.cell? ⟨b, off + j, none⟩ = some (.string s)
theorem StrAt.stay {w w' : World} {o : Option Addr} {l : List ByteArray} (h : StrAt w o l) (hq : Quiet0 w w') : StrAt w' o l := by
 intro j s hs
 obtain ⟨b, off, h0, h1⟩ := h j s hs
 exact ⟨b, off, h0, hq.at h1⟩
def strs (l : List ByteArray) : List Value := l.map .string
end Sc
end
section
open Go.RowKit Go.Shelf
namespace Em
abbrev FEnv := List (ByteArray × Value)
def cellsF (e : FEnv) : List Value := e.reverse.flatMap (fun x => [.string x.1, x.2])
def BfIn (T : Nat -> Prop) (w : World) (o : Option Addr) (n : Nat) (e : FEnv) : Prop :=
 n = e.length /\ n <= maxLen /\ (0 < n -> ∃ b, o = some ⟨b, 0, none⟩ /\ T b /\ b < w.heap.size /\ ∀ j u, (cellsF e)[j]? = some u -> w.cell? ⟨b, j, none⟩ = some u)
theorem BfIn.nil (T : Nat -> Prop) (w : World) (o : Option Addr) : BfIn T w o 0 [] := ⟨rfl, Nat.zero_le _, fun h => absurd h (Nat.lt_irrefl _)⟩
theorem BfIn.fr {T T' S : Nat -> Prop} {w w' : World} {o : Option Addr} {n : Nat} {e : FEnv} (h : BfIn T w o n e) (hf : Fr S w w') (hT : ∀ k, k < w.heap.size -> T k -> T' k /\ ¬ S k) : BfIn T' w' o n e := by
 refine ⟨h.1, h.2.1, fun hn => ?_⟩
 obtain ⟨b, he, ht, hl, hc⟩ := h.2.2 hn
 obtain ⟨h1, h2⟩ := hT b hl ht
 exact ⟨b, he, h1, Nat.lt_of_lt_of_le hl hf.size, fun j u hj => (hf.cellb hl h2).trans (hc j u hj)⟩
theorem BfIn.stay {T : Nat -> Prop} {w w' : World} {o : Option Addr} {n : Nat} {e : FEnv} (h : BfIn T w o n e) (hq : Quiet0 w w') : BfIn T w' o n e := h.fr hq (fun _ _ hk => ⟨hk, fun h => h⟩)
theorem BfIn.later {X : Nat -> Prop} {pb : Nat} {w w' : World} {o : Option Addr} {n : Nat} {e : FEnv} (h : BfIn (TF X pb w) w o n e) (hl : Later pb w w') : BfIn (TF X pb w') w' o n e :=
 h.fr hl.fr (fun _ hk ht => ⟨hl.tf hk ht, fun e => e.elim ht.1 ht.2.1⟩)
theorem BfIn.nothing {T : Nat -> Prop} {w : World} {n : Nat} {e : FEnv} (h : BfIn T w none n e) : n = 0 := by
 rcases Nat.eq_zero_or_pos n with h0 | h0
 ·exact h0
 ·obtain ⟨b, he, _⟩ := h.2.2 h0; cases he
theorem cellsF_len : ∀ l : FEnv, (l.flatMap (fun x => [Value.string x.1, x.2])).length = l.length * 2
 | [] => rfl
 | x :: l => by simp only [List.flatMap_cons, List.length_append, List.length_cons, List.length_nil]; rw [cellsF_len l]; omega
theorem cellsF_get : ∀ (l : FEnv) (i : Nat) (x : ByteArray × Value), l[i]? = some x -> (l.flatMap (fun x => [Value.string x.1, x.2]))[i * 2]? = some (.string x.1) /\ (l.flatMap (fun x => [Value.string x.1, x.2]))[i * 2 + 1]? = some x.2
 | [], i, x, h => by simp at h
 | y :: l, 0, x, h => by simp at h; subst h; simp
 | y :: l, i + 1, x, h => by
  have ih := cellsF_get l i x (by simpa using h)
  rw [show (i + 1) * 2 = i * 2 + 1 + 1 by omega]
  simpa [List.flatMap_cons] using ih
theorem BfIn.at {T : Nat -> Prop} {w : World} {o : Option Addr} {n : Nat} {e : FEnv} (h : BfIn T w o n e) {i : Nat} {x : ByteArray × Value} (hi : e.reverse[i]? = some x) : ∃ b, o = some ⟨b, 0, none⟩ /\ w.cell? ⟨b, i * 2, none⟩ = some (.string x.1) /\ w.cell? ⟨b, i * 2 + 1, none⟩ = some x.2 := by
 have hl := (List.getElem?_eq_some_iff.1 hi).1
 simp at hl
 obtain ⟨b, he, _, _, hc⟩ := h.2.2 (by have := h.1; omega)
 obtain ⟨c1, c2⟩ := cellsF_get e.reverse i x hi
 exact ⟨b, he, hc _ _ c1, hc _ _ c2⟩
theorem elemBf : Elem Tryz.prog 114 144 (.agg #[.string ⟨#[]⟩, .nilFunc]) 2 24 :=
 ⟨Tryz.underlying114, by kernel_rfl, by decide, by decide⟩
theorem bf_cells {T : Nat -> Prop} {w : World} {o : Option Addr} {n : Nat} {e : FEnv} (h : BfIn T w o n e) : ∀ b, o = some b -> ∀ j u, (cellsF e)[j]? = some u -> w.cell? (b.add j) = some u := by
 rintro b rfl j u hj
 have hl := (List.getElem?_eq_some_iff.1 hj).1
 have hlen : (cellsF e).length = e.length * 2 := by unfold cellsF; rw [cellsF_len]; simp
 obtain ⟨b', he, _, _, hc⟩ := h.2.2 (by have := h.1; omega)
 injection he with he
 subst he
 rw [Addr.add_lit, Nat.zero_add]
 exact hc j u hj
theorem BfIn.of_own {T : Nat -> Prop} {w : World} {base g n c : Nat} {e : FEnv} {s : ByteArray} {v : Value} (ho : w.ownsRow base 144 2 (.slice (some ⟨g, 0, none⟩) n c) n (cellsF e ++ [.string s, v])) (hn : n = e.length + 1) (hm : n <= maxLen) (ht : T g) : BfIn T w (some ⟨g, 0, none⟩) n ((s, v) :: e) := by
 refine ⟨by simpa using hn, hm, fun _ => ⟨g, rfl, ht, (ho.lt g rfl).2, fun j u hj => ?_⟩⟩
 have hx : (cellsF e ++ [.string s, v])[j]? = some u := by
  have : cellsF ((s, v) :: e) = cellsF e ++ [.string s, v] := by unfold cellsF; simp
  rw [<- this]; exact hj
 have := ho.cells (g := g) rfl j u hx
 simpa [Addr.add_lit] using this
theorem wpList_append_bf {ops : Array Oper} {rest : List Oper} {o : Oper} {a : Act} {Q : Exit -> Act -> World -> Prop} (W : World) (hgd : o.guard = none) (s x : Operand)
    (hop : o.op = Op.call { callee := Callee.builtin Builtin.append, args := #[s, x], argTypes := #[114, 114] }) {T : Nat -> Prop} {ao : Option Addr} {n : Nat} {e : FEnv} (hN : BfIn T W ao n e) (str : ByteArray) (v : Value) (hv : v.oneCell' = true)
    (hs : a.eval s = .slice ao n n) (hx : a.eval x = .slice (some ⟨W.heap.size, 0, none⟩) 1 1) (b1 : n + 1 <= 1000000)
    (hK : ∀ g c w', BfIn (fun k => W.heap.size <= k) w' (some ⟨g, 0, none⟩) (n + 1) ((str, v) :: e) -> n + 1 <= c -> Quiet0 W w' -> wpList Tryz.prog ops Q rest (a.put o.dst (.slice (some ⟨g, 0, none⟩) (n + 1) c)) w') :
    wpList Tryz.prog ops Q (o :: rest) a (W.alloc (.cells #[.string str, v] 144)) := by
 obtain ⟨i0, hi, hz0, hz1, hz2⟩ := info_parts elemBf.info
 have hN2 := hN.stay (Quiet0.alloc W (.cells #[.string str, v] 144))
 have hlen : (cellsF e).length = e.length * 2 := by unfold cellsF; rw [cellsF_len]; simp
 refine wpList_append_grows (W.alloc (.cells #[.string str, v] 144)) hgd s x 114 hop 144 i0 (.agg #[.string ⟨#[]⟩, .nilFunc]) 2 24 elemBf.under hi hz0 hz1 hz2 elemBf.cells elemBf.pos ao n n (cellsF e) hs
  (fun h => by subst h; exact ⟨hN.nothing, hN.nothing⟩) (by rw [hlen, hN.1]) (bf_cells hN2) ⟨W.heap.size, 0, none⟩ 1 1 [.string str, v] hx rfl ?_ (by intro u hu; simp at hu; rcases hu with rfl | rfl; rfl; exact hv) (by omega) (by unfold maxLen; omega) (by omega) ?_
 ·intro j u hu
  rw [Addr.add_lit, cell_of_row (W.alloc (.cells #[.string str, v] 144)) W.heap.size (0 + j) #[.string str, v] 144 (0, 0) (heap_alloc_new W _)]
  simpa using hu
 ·intro v' w' hown hgr
  obtain ⟨g, c, rfl, hb, _⟩ := hown.form (by omega)
  have hcap : n + 1 <= c := by
   rcases hown.2 with ⟨h1, h0⟩ | ⟨g', cap, cur, he, _, _, hc, _⟩
   ·cases h1
   ·injection he with _ _ h3; omega
  simp at hb
  exact hK g c w' (BfIn.of_own hown (by rw [hN.1]) (by unfold maxLen; omega) (by omega)) hcap ((Quiet0.alloc _ _).trans (Fr.grown hgr (fun k hk => by cases hk)))
theorem clipF_any (o : Option Addr) (n c : Nat) (w : World) (hc : n <= c) (_ : o = none -> n = 0) : Calls Tryz.prog 97 #[.slice o n c] w fun e w' => e = .returned (.slice o n n) /\ w = w' := by
 go_enter Tryz.func97, Tryz.ntmps97
 go_wp2_with fail
 go_ret
 exact ⟨rfl, rfl⟩
def BfPost (W : World) (e : FEnv) (x : Ending) (w' : World) : Prop := ∃ o c, x = .returned (.slice o e.length c) /\ BfIn (fun k => W.heap.size <= k) w' o e.length e /\ e.length <= c /\ Quiet0 W w'
theorem withF_any (T : Nat -> Prop) (e : FEnv) (s : ByteArray) (f : Fn) (bs ls : Array Value) (o : Option Addr) (n c : Nat) (w : World) (h : BfIn T w o n e) (hc : n <= c) (hn : n <= 900000) :
    Calls Tryz.prog 68 #[.slice o n c, .string s, .func f bs ls] w (BfPost w ((s, .func f bs ls) :: e)) := by
 have HN := hid h
 have HCL := hid (clipF_any o n c w hc (fun hx => by subst hx; exact h.nothing))
 have HL := hid h.1
 clear h
 go_enter Tryz.func68, Tryz.ntmps68
 go_wp2_with fail
 refine HCL.out.mono ?_; rintro x w1 ⟨rfl, rfl⟩
 go_wp2_with (at_builtin; go_must (refine wpList_append_bf w rfl (.tmp 8) (.tmp 12) rfl HN.out s (.func f bs ls) rfl rfl rfl (by omega) ?_))
 intro g c' w2 hb hcap hq
 have HB := hid hb
 have HQ := hid hq
 clear hb hq
 go_wp2_with fail
 go_ret
 exact ⟨some ⟨g, 0, none⟩, c', by rw [List.length_cons, <- HL.out]; rfl, by rw [List.length_cons, <- HL.out]; exact HB.out, by rw [List.length_cons, <- HL.out]; exact hcap, HQ.out⟩
end Em
end
section
namespace Cn
abbrev Env := List (ByteArray × Int)
end Cn
end
section
namespace Cn
def bump (out : List Int) (n : Nat) : List Int := out.modify n (· + 1)
end Cn
end
end Go.Proofs.YtcninopmelmajaaGreatDoor
