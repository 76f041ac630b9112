/-
  Texts laid together (CnNames0, ScRAlk, ScRCall1, ScRCall2): laws and walks, with their conditions.
-/
import Derived.Test.YtcninopmelmajaaGreatDoorMN24
set_option maxHeartbeats 8000000
set_option maxRecDepth 1000000
namespace Go.Proofs.YtcninopmelmajaaGreatDoor
open Go.Lib (hid)
section
open Go.RowKit Go.Shelf
namespace Sc
theorem callR_small {G : ByteArray -> Prop} (ok : ByteArray -> Bool) (hz : G ByteArray.empty) : ∀ (f : To) (bk : Int) (nm nm2 : ByteArray) (i : Nat) (x y l : List ByteArray), (∀ s ∈ y, G s) -> (∀ s ∈ l, G s) -> G nm2 -> allT (fun h => G h.nm) f -> allT (fun h => G h.nm) (callR ok bk nm nm2 i x y l f).1
 | .nil, _, _, _, _, _, _, _, _, _, _, _ => trivial
 | .cons h ps r, bk, nm, nm2, i, x, y, l, hy, hl, hn, ⟨h1, h2, h3⟩ => by
  have hy' : ∀ s ∈ envOf bk nm2 i y, G s := by
   unfold envOf; split
   ·intro s hs; rcases List.mem_cons.1 hs with rfl | h
    ·exact hn
    ·exact hy s h
   ·exact hy
  have hnew : G (newNm ok h l) := by
   unfold newNm; split
   ·exact h1
   ·split
    ·exact hl _ (by simp)
    ·exact h1
  rw [callR_cons]
  refine ⟨?_, ?_, callR_small ok hz r _ _ _ _ _ _ _ hy (fun s hs => hl s ((call1_rest ok _ _ l h ps).2 s hs)) hn h3⟩
  ·unfold call1; split
   ·show G (varNm _ _ _)
    unfold varNm; split
    ·rw [List.getD_eq_getElem?_getD]
     cases hg : (envOf bk nm2 i y)[(ix (envOf bk nm i x) h.nm).toNat]? with
     | none => exact hz
     | some s => exact hy' s (List.mem_of_getElem? hg)
    ·exact h1
   ·exact hnew
  ·unfold call1; split
   ·exact h2
   ·exact callR_small ok hz ps _ _ _ _ _ _ _ hy' (fun s hs => hl s (restNm_mem hs)) hnew h2
theorem cn_and {G H : Nd -> Prop} : ∀ f : To, allT G f -> allT H f -> allT (fun h => G h /\ H h) f
 | .nil, _, _ => trivial
 | .cons _ ps r, e, e' => ⟨⟨e.1, e'.1⟩, cn_and ps e.2.1 e'.2.1, cn_and r e.2.2 e'.2.2⟩
theorem ren_good {h : Nd} {ps : To} {l : List ByteArray} (hg : allT GoodH (.cons h ps .nil)) (hl : ∀ s ∈ l, s.size <= 1000) : allT GoodH (.cons (renN h ps l).1 (renN h ps l).2 .nil) := by
 have hc : allT GoodH (.cons (call1 okN [] [] l h ps).1 (call1 okN [] [] l h ps).2.1 .nil) := by
  have h1 := callR_small (G := fun s => s.size <= 100000) okN (Nat.zero_le _) (.cons h ps .nil) 0 ByteArray.empty ByteArray.empty 0 [] [] l (fun s hs => by cases hs) (fun s hs => by have := hl s hs; omega) (Nat.zero_le _) (allT_mono (fun h hh => hh.1) _ hg)
  have h2 := callR_all (G := fun h => h.tp.size <= 100000 /\ wfI h.tn /\ wfF h.tp) okN (fun h s hh => hh) (.cons h ps .nil) 0 ByteArray.empty ByteArray.empty 0 [] [] l (allT_mono (fun h hh => hh.2) _ hg)
  have h3 := cn_and _ h1 h2
  rw [callR_cons] at h3
  exact ⟨h3.1, h3.2.1, trivial⟩
 unfold renN
 split
 ·exact hc
 ·exact hg
theorem ren_size (h : Nd) (ps : To) (l : List ByteArray) : (renN h ps l).2.size = ps.size := by
 unfold renN
 split
 ·unfold call1; split
  ·rfl
  ·exact callR_size okN ps _ _ _ _ _ _ _
 ·rfl
end Sc
namespace Cn
end Cn
end
section
open Go.RowKit Go.Shelf
namespace Sc
theorem with_nm {T : Nat -> Prop} {w W w3 : World} {o : Option Addr} {n : Nat} {e : List ByteArray} {G : Prop} (h : NmIn T w o n e) (hq : Quiet0 w W) (hqx : Quiet0 W w3) (k : NmIn T w3 o n e -> G) : G := k (h.stay (hq.trans hqx))
def RAlkT (h : Nd) (ps : To) : Prop := ∀ (h' : Nd) (ps' : To) (w : World) (R T T' : Nat -> Prop) (o1 : Option Addr) (l1 c1 : Nat) (o2 : Option Addr) (l2 c2 : Nat) (p1 : Option Addr) (m1 d1 : Nat) (p2 : Option Addr) (m2 d2 : Nat) (no : Option Addr) (nn nc : Nat) (x : List ByteArray) (no' : Option Addr) (nn' nc' : Nat) (y : List ByteArray),
 SlcIn R w o1 l1 h.tp -> TSlc R w o2 l2 ps -> SlcIn R w p1 m1 h'.tp -> TSlc R w p2 m2 ps' -> NmIn T w no nn x -> NmIn T' w no' nn' y -> nn + ps.size <= 200000 -> nn' + ps.size <= 200000 ->
 Calls Tryz.prog 44 #[tmv h o1 l1 c1 o2 l2 c2, tmv h' p1 m1 d1 p2 m2 d2, .slice no nn nc, .slice no' nn' nc'] w fun e w' => e = .returned (.bool (refA1 x y h ps h' ps')) /\ Quiet0 w w'
theorem ref8Alike_any (h : Nd) (ps : To) : RAlkT h ps := by
 refine To.ind' (T := RAlkT) ?_ h ps
 intro h ps ih h' ps' w R T T' o1 l1 c1 o2 l2 c2 p1 m1 d1 p2 m2 d2 no nn nc x no' nn' nc' y hs1 hs hs1' hs' hN hN' hsz hsz'
 have IH := hid ih
 have HS := hid hs
 have HS' := hid hs'
 have HN := hid hN
 have HN' := hid hN'
 have HL := hid hs.1
 have HL' := hid hs'.1
 have hll := To.length_le ps
 rw [<- hs.1] at hll
 have hmx := hs.2.1
 have hmx' := hs'.2.1
 unfold maxLen at hmx hmx'
 obtain ⟨W0, hW0⟩ : ∃ W0, W0 = (w.alloc (.cells (cells9 h o1 l1 c1 o2 l2 c2) 29)).alloc (.cells (cells9 h' p1 m1 d1 p2 m2 d2) 29) := ⟨_, rfl⟩
 have HB : Hid (∀ W, Quiet0 W0 W -> Cells9 W w.heap.size 0 h o1 l1 c1 o2 l2 c2 /\ Cells9 W (w.heap.size + 1) 0 h' p1 m1 d1 p2 m2 d2) := by
  intro W hq; rw [hW0] at hq; exact box92 w h o1 l1 c1 o2 l2 c2 h' p1 m1 d1 p2 m2 d2 _ W hq
 have HQ0 : Hid (Quiet0 w W0) := by rw [hW0]; exact (Quiet0.alloc _ _).trans (Quiet0.alloc _ _)
 have HC := hid (fun (W : World) (hq : Quiet0 W0 W) => refSame_any h.tk h.tn h.tp h'.tk h'.tn h'.tp W o1 l1 c1 p1 m1 d1 (hs1.slc.stay (HQ0.out.trans hq)) (hs1'.slc.stay (HQ0.out.trans hq)))
 have HI1 : Hid (∀ W, Quiet0 W0 W -> Calls Tryz.prog 35 #[.slice no nn nc, .string h.nm] W fun z w' => z = .returned (.int .i64 (ix x h.nm)) /\ W = w') := fun W hq => refIndex_any T x h.nm no nn nc W (hN.stay (HQ0.out.trans hq)) (by omega)
 have HI2 : Hid (∀ W, Quiet0 W0 W -> Calls Tryz.prog 35 #[.slice no' nn' nc', .string h'.nm] W fun z w' => z = .returned (.int .i64 (ix y h'.nm)) /\ W = w') := fun W hq => refIndex_any T' y h'.nm no' nn' nc' W (hN'.stay (HQ0.out.trans hq)) (by omega)
 have HNL := hid hN.1
 have HNL' := hid hN'.1
 unfold tyv at HC
 have HRA : Hid (refA1 x y h ps h' ps' = ((h.k == h'.k) && (l2 == m2) && sameT h.tk h.tn h.tp h'.tk h'.tn h'.tp && (if h.k = 1 then (ix x h.nm == ix y h'.nm) && (decide (0 <= ix x h.nm) || h.nm.toList == h'.nm.toList)
       else (h.n == h'.n) && refAR h.k h.nm h'.k h'.nm 0 x y ps ps'))) := by show _ = _; rw [hs.1, hs'.1]; rfl
 obtain ⟨res, hres⟩ : ∃ res, res = refA1 x y h ps h' ps' := ⟨_, rfl⟩
 rw [<- hres]
 rw [<- hres] at HRA
 clear hs1 hs hs1' hs' hN hN' ih hres
 generalize sameT h.tk h.tn h.tp h'.tk h'.tn h'.tp = sb at *
 have e1 : ∀ a b : Nat, ((a : Int) != (b : Int)) = !(a == b) := fun a b => by
  rw [bne]; congr 1; rw [Bool.eq_iff_iff, beq_iff_eq, beq_iff_eq]; omega
 have E1 := hid e1
 clear e1
 unfold tmv
 cases hk : (h.k == h'.k)
 case false =>
  have hk' : (h.k != h'.k) = true := by simp [bne, hk]
  have HR : Hid (res = false) := by show _ = _; rw [HRA.out, hk]; rfl
  clear HRA
  rw [HR.out]
  go_enter Tryz.func44, Tryz.ntmps44
  go_upto_region 1 with fail
  rw [<- hW0]
  clear hW0
  generalize hnb : w.heap.size = nb at *
  have HNB := hid hnb
  clear hnb
  obtain ⟨⟨a0, a1, a2, a3, a4, a5, a6, a7, a8⟩, b0, b1, b2, b3, b4, b5, b6, b7, b8⟩ := HB.out W0 (Quiet0.refl _)
  go_wp2_with fail
  go_ret
  exact ⟨rfl, HQ0.out⟩
 have hk' : (h.k != h'.k) = false := by simp [bne, hk]
 cases hl : (l2 == m2)
 case false =>
  have hl' : ((l2 : Int) != (m2 : Int)) = true := by rw [E1.out, hl]; rfl
  have HR : Hid (res = false) := by show _ = _; rw [HRA.out, hk, hl]; rfl
  clear HRA
  rw [HR.out]
  go_enter Tryz.func44, Tryz.ntmps44
  go_upto_region 1 with fail
  rw [<- hW0]
  clear hW0
  generalize hnb : w.heap.size = nb at *
  have HNB := hid hnb
  clear hnb
  obtain ⟨⟨a0, a1, a2, a3, a4, a5, a6, a7, a8⟩, b0, b1, b2, b3, b4, b5, b6, b7, b8⟩ := HB.out W0 (Quiet0.refl _)
  go_wp2_with fail
  go_ret
  exact ⟨rfl, HQ0.out⟩
 have hl' : ((l2 : Int) != (m2 : Int)) = false := by rw [E1.out, hl]; rfl
 have HLM : Hid (l2 = m2) := by show _ = _; simpa using hl
 cases sb
 case false =>
  have HR : Hid (res = false) := by show _ = _; rw [HRA.out, hk, hl]; rfl
  clear HRA
  rw [HR.out]
  go_enter Tryz.func44, Tryz.ntmps44
  go_upto_region 1 with fail
  rw [<- hW0]
  clear hW0
  generalize hnb : w.heap.size = nb at *
  have HNB := hid hnb
  clear hnb
  obtain ⟨⟨a0, a1, a2, a3, a4, a5, a6, a7, a8⟩, b0, b1, b2, b3, b4, b5, b6, b7, b8⟩ := HB.out W0 (Quiet0.refl _)
  go_wp2_with fail
  refine (HC.out _ (Quiet0.refl _)).mono ?_; rintro e w1 ⟨rfl, hq1⟩
  go_wp2_with fail
  go_ret
  exact ⟨rfl, HQ0.out.trans hq1⟩
 by_cases hk1 : h.k = 1
 ·have hk1' : (h.k == 1) = true := by simp [hk1]
  have HR : Hid (res = ((ix x h.nm == ix y h'.nm) && (decide (0 <= ix x h.nm) || h.nm.toList == h'.nm.toList))) := by show _ = _; rw [HRA.out, hk, hl, if_pos hk1]; rfl
  clear HRA hk1 IH
  generalize ix x h.nm = r1 at *
  generalize ix y h'.nm = r2 at *
  go_enter Tryz.func44, Tryz.ntmps44
  go_upto_region 1 with fail
  rw [<- hW0]
  clear hW0
  generalize hnb : w.heap.size = nb at *
  have HNB := hid hnb
  clear hnb
  obtain ⟨⟨a0, a1, a2, a3, a4, a5, a6, a7, a8⟩, b0, b1, b2, b3, b4, b5, b6, b7, b8⟩ := HB.out W0 (Quiet0.refl _)
  go_wp2_with fail
  refine (HC.out _ (Quiet0.refl _)).mono ?_; rintro e w1 ⟨rfl, hq1⟩
  clear a0 a1 a2 a3 a4 a5 a6 a7 a8 b0 b1 b2 b3 b4 b5 b6 b7 b8
  obtain ⟨⟨a0, a1, a2, a3, a4, a5, a6, a7, a8⟩, b0, b1, b2, b3, b4, b5, b6, b7, b8⟩ := HB.out w1 hq1
  have HQ1 := hid hq1
  clear hq1
  go_upto_region 4 with fail
  have HJ1 : Hid (∀ n, Calls Tryz.prog 35 #[.slice no nn nc, .string h.nm] (w1.drewN n) fun z w' => z = .returned (.int .i64 r1) /\ ∃ m, w' = w1.drewN m) := fun n => (HI1.out _ (HQ1.out.trans (Quiet0.drewN _ _))).mono (fun _ _ hh => ⟨hh.1, n, hh.2.symm⟩)
  have HJ2 : Hid (∀ n, Calls Tryz.prog 35 #[.slice no' nn' nc', .string h'.nm] (w1.drewN n) fun z w' => z = .returned (.int .i64 r2) /\ ∃ m, w' = w1.drewN m) := fun n => (HI2.out _ (HQ1.out.trans (Quiet0.drewN _ _))).mono (fun _ _ hh => ⟨hh.1, n, hh.2.symm⟩)
  go_quiet ((go_at_call 35; first | with_reducible exact HJ1.out _ | with_reducible exact HJ2.out _))
  have HQ2 : Hid (Quiet0 w (w1.drewN nq)) := HQ0.out.trans (HQ1.out.trans (Quiet0.drewN _ _))
  clear HJ1 HJ2 HI1 HI2
  cases he : (r1 == r2)
  ·have HE : Hid (res = false) := by show _ = _; rw [HR.out, he]; rfl
   go_wp2_with fail
   go_ret
   exact ⟨by rw [HE.out]; rfl, HQ2.out⟩
  ·by_cases h0 : r1 ≥ 0
   ·have h0' : decide (r1 ≥ 0) = true := by simp [h0]
    have HE : Hid (res = true) := by show _ = _; rw [HR.out, he]; have : decide (0 <= r1) = true := h0'; rw [this]; rfl
    go_wp2_with fail
    go_ret
    exact ⟨by rw [HE.out]; rfl, HQ2.out⟩
   ·have h0' : decide (r1 ≥ 0) = false := by simp [h0]
    have HE : Hid (res = (h.nm.toList == h'.nm.toList)) := by show _ = _; rw [HR.out, he]; have : decide (0 <= r1) = false := h0'; rw [this]; rfl
    go_wp2_with fail
    go_ret
    exact ⟨by rw [HE.out]; rfl, HQ2.out⟩
 ·have hk1' : (h.k == 1) = false := by simp [hk1]
  have hlm := HLM.out
  subst hlm
  have HR : Hid (res = ((h.n == h'.n) && refAR h.k h.nm h'.k h'.nm 0 x y ps ps')) := by show _ = _; rw [HRA.out, hk, hl, if_neg hk1]; rfl
  rw [HR.out]
  clear HRA HR hk1
  obtain ⟨RES, hres⟩ : ∃ RES, RES = refAR h.k h.nm h'.k h'.nm 0 x y ps ps' := ⟨_, rfl⟩
  rw [<- hres]
  have HRES := hid hres
  clear hres HI1 HI2
  cases hn : (h.n == h'.n)
  case false =>
   have hn' : (h.n != h'.n) = true := by simp [bne, hn]
   go_enter Tryz.func44, Tryz.ntmps44
   go_upto_region 1 with fail
   rw [<- hW0]
   clear hW0
   generalize hnb : w.heap.size = nb at *
   have HNB := hid hnb
   clear hnb
   obtain ⟨⟨a0, a1, a2, a3, a4, a5, a6, a7, a8⟩, b0, b1, b2, b3, b4, b5, b6, b7, b8⟩ := HB.out W0 (Quiet0.refl _)
   go_wp2_with fail
   refine (HC.out _ (Quiet0.refl _)).mono ?_; rintro e w1 ⟨rfl, hq1⟩
   clear a0 a1 a2 a3 a4 a5 a6 a7 a8 b0 b1 b2 b3 b4 b5 b6 b7 b8
   obtain ⟨⟨a0, a1, a2, a3, a4, a5, a6, a7, a8⟩, b0, b1, b2, b3, b4, b5, b6, b7, b8⟩ := HB.out w1 hq1
   go_wp2_with fail
   go_ret
   exact ⟨rfl, HQ0.out.trans hq1⟩
  have hn' : (h.n != h'.n) = false := by simp [bne, hn]
  go_enter Tryz.func44, Tryz.ntmps44
  go_upto_region 1 with fail
  rw [<- hW0]
  clear hW0
  generalize hnb : w.heap.size = nb at *
  have HNB := hid hnb
  clear hnb
  obtain ⟨⟨a0, a1, a2, a3, a4, a5, a6, a7, a8⟩, b0, b1, b2, b3, b4, b5, b6, b7, b8⟩ := HB.out W0 (Quiet0.refl _)
  go_wp2_with fail
  refine (HC.out _ (Quiet0.refl _)).mono ?_; rintro e w1 ⟨rfl, hq1⟩
  clear a0 a1 a2 a3 a4 a5 a6 a7 a8 b0 b1 b2 b3 b4 b5 b6 b7 b8
  obtain ⟨⟨a0, a1, a2, a3, a4, a5, a6, a7, a8⟩, b0, b1, b2, b3, b4, b5, b6, b7, b8⟩ := HB.out w1 hq1
  have HQ1 := hid hq1
  clear hq1
  go_wp2_with fail
  clear a0 a1 a2 a3 a4 a5 a6 a7 a8 b0 b1 b2 b3 b4 b5 b6 b7 b8 hk' hl' hn' hk hl hn hk1'
  go_loopw [8, 11] (fun s t wr => ∃ (i : Nat), s = .bool false /\ t = .int .i64 i /\ i <= l2 /\ refAR h.k h.nm h'.k h'.nm i x y (ps.drop i) (ps'.drop i) = RES /\ Quiet0 W0 wr) (fun _ t _ => l2 - (intOf t).toNat)
  case atStart => exact ⟨0, rfl, rfl, Nat.zero_le _, by rw [To.drop_zero, To.drop_zero, HRES.out], HQ1.out⟩
  case round =>
   obtain ⟨i, rfl, rfl, hi, hpe, hq⟩ := hrel
   have HPE := hid hpe
   have HQ := hid hq
   clear hpe hq
   obtain ⟨⟨a0, a1, a2, a3, a4, a5, a6, a7, a8⟩, b0, b1, b2, b3, b4, b5, b6, b7, b8⟩ := HB.out wr HQ.out
   by_cases hlt : i < l2
   ·have hlt' : (i : Int) < l2 := by omega
    have hq0r := HQ0.out.trans HQ.out
    obtain ⟨b, off, hd, qs, p3, m3, d3, p4, m4, d4, rfl, hd1, hg, _, hc9, hs3, ht3⟩ := (HS.out).nth hlt
    obtain ⟨b', off', hd', qs', p5, m5, d5, p6, m6, d6, rfl, hd1', hg', _, hc9', hs5, ht5⟩ := (HS'.out).nth hlt
    have hsq := To.size_get ps i hd qs hg
    have HKP : Hid (∀ W, Quiet0 wr W -> (W.cell? ⟨nb, 0, none⟩ = some (.int .i64 h.k) /\ W.cell? ⟨nb, 1, none⟩ = some (.string h.nm) /\ W.cell? ⟨nb, 2, none⟩ = some (.int .i64 h.n) /\ W.cell? ⟨nb, 3, none⟩ = some (.int .i64 h.tk) /\ W.cell? ⟨nb, 4, none⟩ = some (.int .i64 h.tn) /\ W.cell? ⟨nb, 5, none⟩ = some (.slice o1 l1 c1) /\ W.cell? ⟨nb, 6, none⟩ = some (.slice (some ⟨b, off, none⟩) l2 c2) /\ W.cell? ⟨nb, 7, none⟩ = some (.int .i64 h.fr) /\ W.cell? ⟨nb, 8, none⟩ = some (.int .i64 h.en)) /\ (W.cell? ⟨nb + 1, 0, none⟩ = some (.int .i64 h'.k) /\ W.cell? ⟨nb + 1, 1, none⟩ = some (.string h'.nm) /\ W.cell? ⟨nb + 1, 2, none⟩ = some (.int .i64 h'.n) /\ W.cell? ⟨nb + 1, 3, none⟩ = some (.int .i64 h'.tk) /\ W.cell? ⟨nb + 1, 4, none⟩ = some (.int .i64 h'.tn) /\ W.cell? ⟨nb + 1, 5, none⟩ = some (.slice p1 m1 d1) /\ W.cell? ⟨nb + 1, 6, none⟩ = some (.slice (some ⟨b', off', none⟩) l2 d2) /\ W.cell? ⟨nb + 1, 7, none⟩ = some (.int .i64 h'.fr) /\ W.cell? ⟨nb + 1, 8, none⟩ = some (.int .i64 h'.en)) /\ (W.cell? ⟨b, off + i * 9, none⟩ = some (.int .i64 hd.k) /\ W.cell? ⟨b, off + i * 9 + 1, none⟩ = some (.string hd.nm) /\ W.cell? ⟨b, off + i * 9 + 2, none⟩ = some (.int .i64 hd.n) /\ W.cell? ⟨b, off + i * 9 + 3, none⟩ = some (.int .i64 hd.tk) /\ W.cell? ⟨b, off + i * 9 + 4, none⟩ = some (.int .i64 hd.tn) /\ W.cell? ⟨b, off + i * 9 + 5, none⟩ = some (.slice p3 m3 d3) /\ W.cell? ⟨b, off + i * 9 + 6, none⟩ = some (.slice p4 m4 d4) /\ W.cell? ⟨b, off + i * 9 + 7, none⟩ = some (.int .i64 hd.fr) /\ W.cell? ⟨b, off + i * 9 + 8, none⟩ = some (.int .i64 hd.en)) /\ (W.cell? ⟨b', off' + i * 9, none⟩ = some (.int .i64 hd'.k) /\ W.cell? ⟨b', off' + i * 9 + 1, none⟩ = some (.string hd'.nm) /\ W.cell? ⟨b', off' + i * 9 + 2, none⟩ = some (.int .i64 hd'.n) /\ W.cell? ⟨b', off' + i * 9 + 3, none⟩ = some (.int .i64 hd'.tk) /\ W.cell? ⟨b', off' + i * 9 + 4, none⟩ = some (.int .i64 hd'.tn) /\ W.cell? ⟨b', off' + i * 9 + 5, none⟩ = some (.slice p5 m5 d5) /\ W.cell? ⟨b', off' + i * 9 + 6, none⟩ = some (.slice p6 m6 d6) /\ W.cell? ⟨b', off' + i * 9 + 7, none⟩ = some (.int .i64 hd'.fr) /\ W.cell? ⟨b', off' + i * 9 + 8, none⟩ = some (.int .i64 hd'.en))) := fun W hq => ⟨(HB.out W (HQ.out.trans hq)).1, (HB.out W (HQ.out.trans hq)).2, hc9.fr (hq0r.trans hq) (fun h => h), hc9'.fr (hq0r.trans hq) (fun h => h)⟩
    have HAR1 : Hid (∀ W, Quiet0 wr W -> Calls Tryz.prog 36 #[tmv h o1 l1 c1 (some ⟨b, off, none⟩) l2 c2, .int .i64 (i : Nat), .slice no nn nc] W (NmPost T W (envOf h.k h.nm i x))) := fun W hq => around_any h o1 l1 c1 _ l2 c2 i T x no nn nc W (HN.out.stay (hq0r.trans hq)) (by omega)
    have HAR2 : Hid (∀ W, Quiet0 wr W -> Calls Tryz.prog 36 #[tmv h' p1 m1 d1 (some ⟨b', off', none⟩) l2 d2, .int .i64 (i : Nat), .slice no' nn' nc'] W (NmPost T' W (envOf h'.k h'.nm i y))) := fun W hq => around_any h' p1 m1 d1 _ l2 d2 i T' y no' nn' nc' W (HN'.out.stay (hq0r.trans hq)) (by omega)
    have henv : (envOf h.k h.nm i x).length <= nn + 1 := by have := HNL.out; unfold envOf; split <;> simp <;> omega
    have henv' : (envOf h'.k h'.nm i y).length <= nn' + 1 := by have := HNL'.out; unfold envOf; split <;> simp <;> omega
    have HFR : Hid (∀ (W : World) (T T' : Nat -> Prop) (no : Option Addr) (nc : Nat) (no' : Option Addr) (nc' : Nat), NmIn T W no (envOf h.k h.nm i x).length (envOf h.k h.nm i x) -> NmIn T' W no' (envOf h'.k h'.nm i y).length (envOf h'.k h'.nm i y) -> Quiet0 wr W -> Calls Tryz.prog 44 #[tmv hd p3 m3 d3 p4 m4 d4, tmv hd' p5 m5 d5 p6 m6 d6, .slice no (envOf h.k h.nm i x).length nc, .slice no' (envOf h'.k h'.nm i y).length nc'] W (fun e w' => e = .returned (.bool (refA1 (envOf h.k h.nm i x) (envOf h'.k h'.nm i y) hd qs hd' qs')) /\ Quiet0 W w')) := fun W T T' no nc no' nc' hN hN' hq => IH.out i hd qs hg hd' qs' W R T T' p3 m3 d3 p4 m4 d4 p5 m5 d5 p6 m6 d6 no _ nc _ no' _ nc' _ (hs3.stay (hq0r.trans hq)) (ht3.stay (hq0r.trans hq)) (hs5.stay (hq0r.trans hq)) (ht5.stay (hq0r.trans hq)) hN hN' (by omega) (by omega)
    have HD : Hid ((refA1 (envOf h.k h.nm i x) (envOf h'.k h'.nm i y) hd qs hd' qs' && refAR h.k h.nm h'.k h'.nm (i + 1) x y (ps.drop (i + 1)) (ps'.drop (i + 1))) = RES) := by
     have := HPE.out; rw [hd1, hd1', refAR_cons] at this; exact this
    unfold tmv at HAR1 HAR2 HFR
    generalize envOf h.k h.nm i x = E at *
    generalize envOf h'.k h'.nm i y = E' at *
    generalize refA1 E E' hd qs hd' qs' = rb at *
    clear hd1 hd1' hg hg' hs3 ht3 hs5 ht5 hsq hc9 hc9' henv henv'
    go_upto_region 11 with fail
    clear a0 a1 a2 a3 a4 a5 a6 a7 a8 b0 b1 b2 b3 b4 b5 b6 b7 b8
    have hqc := Quiet0.refl wr
    go_region_held3 (fun W => (W.cell? ⟨nb, 0, none⟩ = some (.int .i64 h.k) /\ W.cell? ⟨nb, 1, none⟩ = some (.string h.nm) /\ W.cell? ⟨nb, 2, none⟩ = some (.int .i64 h.n) /\ W.cell? ⟨nb, 3, none⟩ = some (.int .i64 h.tk) /\ W.cell? ⟨nb, 4, none⟩ = some (.int .i64 h.tn) /\ W.cell? ⟨nb, 5, none⟩ = some (.slice o1 l1 c1) /\ W.cell? ⟨nb, 6, none⟩ = some (.slice (some ⟨b, off, none⟩) l2 c2) /\ W.cell? ⟨nb, 7, none⟩ = some (.int .i64 h.fr) /\ W.cell? ⟨nb, 8, none⟩ = some (.int .i64 h.en)) /\ (W.cell? ⟨nb + 1, 0, none⟩ = some (.int .i64 h'.k) /\ W.cell? ⟨nb + 1, 1, none⟩ = some (.string h'.nm) /\ W.cell? ⟨nb + 1, 2, none⟩ = some (.int .i64 h'.n) /\ W.cell? ⟨nb + 1, 3, none⟩ = some (.int .i64 h'.tk) /\ W.cell? ⟨nb + 1, 4, none⟩ = some (.int .i64 h'.tn) /\ W.cell? ⟨nb + 1, 5, none⟩ = some (.slice p1 m1 d1) /\ W.cell? ⟨nb + 1, 6, none⟩ = some (.slice (some ⟨b', off', none⟩) l2 d2) /\ W.cell? ⟨nb + 1, 7, none⟩ = some (.int .i64 h'.fr) /\ W.cell? ⟨nb + 1, 8, none⟩ = some (.int .i64 h'.en)) /\ (W.cell? ⟨b, off + i * 9, none⟩ = some (.int .i64 hd.k) /\ W.cell? ⟨b, off + i * 9 + 1, none⟩ = some (.string hd.nm) /\ W.cell? ⟨b, off + i * 9 + 2, none⟩ = some (.int .i64 hd.n) /\ W.cell? ⟨b, off + i * 9 + 3, none⟩ = some (.int .i64 hd.tk) /\ W.cell? ⟨b, off + i * 9 + 4, none⟩ = some (.int .i64 hd.tn) /\ W.cell? ⟨b, off + i * 9 + 5, none⟩ = some (.slice p3 m3 d3) /\ W.cell? ⟨b, off + i * 9 + 6, none⟩ = some (.slice p4 m4 d4) /\ W.cell? ⟨b, off + i * 9 + 7, none⟩ = some (.int .i64 hd.fr) /\ W.cell? ⟨b, off + i * 9 + 8, none⟩ = some (.int .i64 hd.en)) /\ (W.cell? ⟨b', off' + i * 9, none⟩ = some (.int .i64 hd'.k) /\ W.cell? ⟨b', off' + i * 9 + 1, none⟩ = some (.string hd'.nm) /\ W.cell? ⟨b', off' + i * 9 + 2, none⟩ = some (.int .i64 hd'.n) /\ W.cell? ⟨b', off' + i * 9 + 3, none⟩ = some (.int .i64 hd'.tk) /\ W.cell? ⟨b', off' + i * 9 + 4, none⟩ = some (.int .i64 hd'.tn) /\ W.cell? ⟨b', off' + i * 9 + 5, none⟩ = some (.slice p5 m5 d5) /\ W.cell? ⟨b', off' + i * 9 + 6, none⟩ = some (.slice p6 m6 d6) /\ W.cell? ⟨b', off' + i * 9 + 7, none⟩ = some (.int .i64 hd'.fr) /\ W.cell? ⟨b', off' + i * 9 + 8, none⟩ = some (.int .i64 hd'.en)))
     (((refine HKP.out _ ?_); (repeat with_reducible first | exact hqc | exact Quiet0.refl _ | refine jq ?_ | refine jr ?_)))
     (first
      | (go_at_call 36; (with_reducible refine Calls.mono (HAR1.out _ ?hq) ?_); (case hq => (repeat with_reducible first | exact hqc | exact Quiet0.refl _ | refine jq ?_ | refine jr ?_)); rintro e wx ⟨no2, nc2, rfl, hn1, hqx⟩; (try (refine with_nm hn2 ?hq3 hqx ?_; (case hq3 => (repeat with_reducible first | exact Quiet0.refl _ | refine jq ?_ | refine jr ?_)); intro hn2)); (refine with_q (w0 := wr) ?hq2 hqx ?_); (case hq2 => (repeat with_reducible first | exact hqc | exact Quiet0.refl _ | refine jq ?_ | refine jr ?_)); intro hqc)
      | (go_at_call 36; (with_reducible refine Calls.mono (HAR2.out _ ?hq) ?_); (case hq => (repeat with_reducible first | exact hqc | exact Quiet0.refl _ | refine jq ?_ | refine jr ?_)); rintro e wx ⟨no3, nc3, rfl, hn2, hqx⟩; (try (refine with_nm hn1 ?hq3 hqx ?_; (case hq3 => (repeat with_reducible first | exact Quiet0.refl _ | refine jq ?_ | refine jr ?_)); intro hn1)); (refine with_q (w0 := wr) ?hq2 hqx ?_); (case hq2 => (repeat with_reducible first | exact hqc | exact Quiet0.refl _ | refine jq ?_ | refine jr ?_)); intro hqc)
      | ((go_at_call 44; (with_reducible refine Calls.mono (HFR.out _ _ _ _ _ _ _ (hn1.stay ?hq3) (hn2.stay ?hq4) ?hq) ?_)); (case hq3 => (repeat with_reducible first | exact Quiet0.refl _ | refine jq ?_ | refine jr ?_)); (case hq4 => (repeat with_reducible first | exact Quiet0.refl _ | refine jq ?_ | refine jr ?_)); (case hq => (repeat with_reducible first | exact hqc | exact Quiet0.refl _ | refine jq ?_ | refine jr ?_)); rintro e wx ⟨rfl, hqx⟩; (refine with_q (w0 := wr) ?hq2 hqx ?_); (case hq2 => (repeat with_reducible first | exact hqc | exact Quiet0.refl _ | refine jq ?_ | refine jr ?_)); intro hqc)
      | fail)
    all_goals
     have HQ3 : Hid (Quiet0 W0 _) := HQ.out.trans hqc
     clear hqc hqx hn1 hn2
     cases rb
     ·have HE : Hid (RES = false) := by show _ = _; rw [<- HD.out]; rfl
      go_wp2_with fail
      go_ret
      exact ⟨by rw [HE.out]; rfl, HQ0.out.trans HQ3.out⟩
     ·have HE : Hid (refAR h.k h.nm h'.k h'.nm (i + 1) x y (ps.drop (i + 1)) (ps'.drop (i + 1)) = RES) := by show _ = _; rw [<- HD.out]; rfl
      go_wp2_with fail
      go_roundw
      case rel => exact ⟨i + 1, rfl, by go_num, by omega, HE.out, HQ3.out⟩
      case measure => simp [intOf]; omega
   ·have hlt' : ¬ (i : Int) < l2 := by omega
    have HE : Hid (RES = true) := by
     have := HPE.out
     rw [To.drop_end ps i (by have := HL.out; omega), To.drop_end ps' i (by have := HL'.out; omega)] at this
     show _ = _
     rw [<- this]; rfl
    go_wp2_with fail
    go_ret
    exact ⟨by rw [HE.out]; rfl, HQ0.out.trans HQ.out⟩
end Sc
end
section
open Go.RowKit Go.Shelf
namespace Sc
theorem box_after {W wx : World} {cs : Array Value} {t : TypeId} (h : Quiet0 (W.alloc (.cells cs t)) wx) : wx.heap[W.heap.size]? = some (.cells cs t (0, 0)) := blk_after h (heap_alloc_new W _)
theorem box_after_drew {W wx : World} {cs : Array Value} {t : TypeId} (h : Quiet0 (W.alloc (.cells cs t)).drew wx) : wx.heap[W.heap.size]? = some (.cells cs t (0, 0)) := blk_after h (blk_drew (heap_alloc_new W _))
def RCallT (h : Nd) (ps : To) : Prop := ∀ (w : World) (R T T' L : Nat -> Prop) (o1 : Option Addr) (l1 c1 : Nat) (o2 : Option Addr) (l2 c2 : Nat) (no : Option Addr) (nn nc : Nat) (x : List ByteArray) (no' : Option Addr) (nc' : Nat) (y : List ByteArray) (lo : Option Addr) (lc : Nat) (l : List ByteArray),
 SlcIn R w o1 l1 h.tp -> TSlc R w o2 l2 ps -> NmIn T w no nn x -> NmIn T' w no' nn y -> StrT L w lo l -> l.length <= lc -> l.length <= 1000 -> (∀ s ∈ l, s.size <= 1000) -> nn + ps.size <= 200000 -> (∀ k, R k -> k < w.heap.size) -> (∀ k, L k -> k < w.heap.size) ->
 Calls Tryz.prog 43 #[tmv h o1 l1 c1 o2 l2 c2, .slice no nn nc, .slice no' nn nc', .slice lo l.length lc] w (RcQ okN R L w x y l h ps o1 l1 c1 l2)
theorem rcall_var (h : Nd) (ps : To) (hk : h.k = 1) : RCallT h ps := by
 intro w R T T' L o1 l1 c1 o2 l2 c2 no nn nc x no' nc' y lo lc l hs1 hs hN hN' hL hlc hll hls hsz hRl hLl
 obtain ⟨W0, hW0⟩ : ∃ W0, W0 = (w.alloc (.cells (cells9 h o1 l1 c1 o2 l2 c2) 29)).alloc (.cells zero9 29) := ⟨_, rfl⟩
 have HQ0 : Hid (Quiet0 w W0) := by rw [hW0]; exact (Quiet0.alloc _ _).trans (Quiet0.alloc _ _)
 have HB0 : Hid (W0.heap[w.heap.size]? = some (.cells (cells9 h o1 l1 c1 o2 l2 c2) 29 (0, 0))) := by
  show _ = _; rw [hW0, Below.heap_alloc _ _ _ (by simp)]; exact heap_alloc_new w _
 have HB1 : Hid (W0.heap[w.heap.size + 1]? = some (.cells zero9 29 (0, 0))) := by
  show _ = _; rw [hW0]
  have := heap_alloc_new (w.alloc (.cells (cells9 h o1 l1 c1 o2 l2 c2) 29)) (.cells zero9 29)
  simpa using this
 have HZ : Hid (W0.heap.size = w.heap.size + 2) := by show _ = _; rw [hW0]; simp
 have HI := hid (refIndex_any T x h.nm no nn nc W0 (hN.stay HQ0.out) (by omega))
 have hk' : (h.k == 1) = true := by simp [hk]
 have HC1 : Hid (call1 okN x y l h ps = ({ h with nm := varNm x y h.nm }, ps, l)) := by show _ = _; unfold call1; rw [if_pos hk]
 have HTS := hid (hs.stay HQ0.out)
 have HLL := hid (hL.stay HQ0.out)
 have hge := ix_ge x h.nm
 have hnx : ix x h.nm < nn := by rw [hN.1]; exact hge.2
 replace hge := hge.1
 have HV : Hid (varNm x y h.nm = if 0 <= ix x h.nm then y.getD (ix x h.nm).toNat ByteArray.empty else h.nm) := rfl
 generalize ix x h.nm = r at *
 generalize varNm x y h.nm = nm2 at *
 have HLC := hid hlc
 have HRL := hid hRl
 have HLW := hid hLl
 have HFIN0 : Hid (∀ (W1 wf : World) (gg : Nd), gg = { h with nm := nm2 } -> Fr (fun k => k = w.heap.size) W0 W1 -> Fr (fun k => k = w.heap.size + 1) W1 wf -> RcQ okN R L w x y l h ps o1 l1 c1 l2 (.returned (.tuple #[tmv gg o1 l1 c1 o2 l2 c2, .slice lo l.length lc])) wf) := by
  intro W1 wf gg hgg hf1 hf2
  subst hgg
  have hz := HZ.out
  have h1 := hf1.size
  refine ⟨o2, c2, lo, lc, by rw [HC1.out], ?_, ?_, by rw [HC1.out]; exact hlc, (HQ0.out.trans' hf1 (fun k hk h => by omega)).trans' hf2 (fun k hk h => by omega)⟩
  ·rw [HC1.out]
   have h1 := HTS.out.fr (T := R) hf1 (fun k _ hk => ⟨hk, fun e => by have := hRl k hk; omega⟩)
   exact h1.fr hf2 (fun k _ hk => ⟨.inl hk, fun e => by have := hRl k hk; omega⟩)
  ·rw [HC1.out]
   have h1 := HLL.out.fr (T' := L) hf1 (fun k _ hk => ⟨hk, fun e => by have := hLl k hk; omega⟩)
   exact h1.fr hf2 (fun k _ hk => ⟨hk, fun e => by have := hLl k hk; omega⟩)
 clear hk hlc hRl hLl hll HC1 HTS HLL HRL HLW HLC
 generalize l.length = ln at *
 unfold tmv at HFIN0
 unfold tmv
 go_enter Tryz.func43, Tryz.ntmps43
 go_upto_region 1 with fail
 rw [<- hW0]
 clear hW0
 generalize hB : w.heap.size = B at *
 clear hB
 obtain ⟨⟨x0, x1, x2, x3, x4, x5, x6, x7, x8⟩, y0, y1, y2, y3, y4, y5, y6, y7, y8⟩ := block9 HB0.out
 go_upto_region 2 with fail
 go_wp2_with fail
 refine HI.out.mono ?_; rintro x w2 ⟨rfl, rfl⟩
 by_cases hx : r ≥ 0
 ·obtain ⟨k, rfl⟩ : ∃ k : Nat, r = k := ⟨r.toNat, by omega⟩
  obtain ⟨b, rfl, g0⟩ := nm_at (hN'.stay HQ0.out) k (by omega)
  have hidx : ((nn : Int) - 1 - (k : Int)).toNat = nn - 1 - k := by omega
  have hb1 : (0 : Int) <= (nn : Int) - 1 - (k : Int) := by omega
  have hb2 : (nn : Int) - 1 - (k : Int) < nn := by omega
  have hnn : nn <= 200000 := by omega
  have HNM : Hid (y.getD k ByteArray.empty = nm2) := by
   have h := HV.out
   rw [if_pos (by omega)] at h
   rw [h]; rfl
  rw [HNM.out] at g0
  clear HV
  go_upto_region 5 with fail
  have HBA : Hid ((W0.setCell ⟨B, 1, none⟩ (.string nm2)).heap[B]? = some (.cells (cells9 { h with nm := nm2 } o1 l1 c1 o2 l2 c2) 29 (0, 0))) := set_block (i := 1) (u := .string nm2) HB0.out
  have HFX : Hid (Fr (fun k => k = B) W0 (W0.setCell ⟨B, 1, none⟩ (.string nm2))) := Fr.setCell _ _ _ _ rfl
  clear x0 x1 x2 x3 x4 x5 x6 x7 x8 y0 y1 y2 y3 y4 y5 y6 y7 y8
  generalize W0.setCell ⟨B, 1, none⟩ (.string nm2) = W1 at *
  have HBZ : Hid (W1.heap[B + 1]? = some (.cells zero9 29 (0, 0))) := blk_fr HFX.out (by omega) HB1.out
  obtain ⟨⟨x0, x1, x2, x3, x4, x5, x6, x7, x8⟩, _⟩ := block9 HBA.out
  obtain ⟨⟨z0, z1, z2, z3, z4, z5, z6, z7, z8⟩, t0, t1, t2, t3, t4, t5, t6, t7, t8⟩ := block9 HBZ.out
  go_wp2_with fail
  have hff := put9_fr W1 (B + 1) (.int .i64 h.k) (.string nm2) (.int .i64 h.n) (.int .i64 h.tk) (.int .i64 h.tn) (.slice o1 l1 c1) (.slice o2 l2 c2) (.int .i64 h.fr) (.int .i64 h.en)
  have hbf := put9_block (a0 := .int .i64 h.k) (a1 := .string nm2) (a2 := .int .i64 h.n) (a3 := .int .i64 h.tk) (a4 := .int .i64 h.tn) (a5 := .slice o1 l1 c1) (a6 := .slice o2 l2 c2) (a7 := .int .i64 h.fr) (a8 := .int .i64 h.en) HBZ.out
  change bodyPost _ _ _ _ _ (put9 W1 (B + 1) (.int .i64 h.k) (.string nm2) (.int .i64 h.n) (.int .i64 h.tk) (.int .i64 h.tn) (.slice o1 l1 c1) (.slice o2 l2 c2) (.int .i64 h.fr) (.int .i64 h.en))
  clear x0 x1 x2 x3 x4 x5 x6 x7 x8 z0 z1 z2 z3 z4 z5 z6 z7 z8 t0 t1 t2 t3 t4 t5 t6 t7 t8
  generalize put9 W1 (B + 1) (.int .i64 h.k) (.string nm2) (.int .i64 h.n) (.int .i64 h.tk) (.int .i64 h.tn) (.slice o1 l1 c1) (.slice o2 l2 c2) (.int .i64 h.fr) (.int .i64 h.en) = wf at *
  obtain ⟨⟨x0, x1, x2, x3, x4, x5, x6, x7, x8⟩, _⟩ := block9 hbf
  have HFIN : Hid (RcQ okN R L w x y l h ps o1 l1 c1 l2 (.returned (.tuple #[.agg #[.int .i64 h.k, .string nm2, .int .i64 h.n, .int .i64 h.tk, .int .i64 h.tn, .slice o1 l1 c1, .slice o2 l2 c2, .int .i64 h.fr, .int .i64 h.en], .slice lo ln lc])) wf) := by
   exact HFIN0.out W1 wf _ rfl HFX.out hff
  clear hff hbf
  refine bodyPost_ret (by simp [results, Tryz.results43, go_sem, x0, x1, x2, x3, x4, x5, x6, x7, x8]; rfl) rfl ?_
  exact HFIN.out
 ·have HNM : Hid (nm2 = h.nm) := by
    have h := HV.out
    rw [if_neg (by omega)] at h
    exact h
  clear HV y0 y1 y2 y3 y4 y5 y6 y7 y8
  obtain ⟨⟨z0, z1, z2, z3, z4, z5, z6, z7, z8⟩, t0, t1, t2, t3, t4, t5, t6, t7, t8⟩ := block9 HB1.out
  go_wp2_with fail
  have hff := put9_fr W0 (B + 1) (.int .i64 h.k) (.string h.nm) (.int .i64 h.n) (.int .i64 h.tk) (.int .i64 h.tn) (.slice o1 l1 c1) (.slice o2 l2 c2) (.int .i64 h.fr) (.int .i64 h.en)
  have hbf := put9_block (a0 := .int .i64 h.k) (a1 := .string h.nm) (a2 := .int .i64 h.n) (a3 := .int .i64 h.tk) (a4 := .int .i64 h.tn) (a5 := .slice o1 l1 c1) (a6 := .slice o2 l2 c2) (a7 := .int .i64 h.fr) (a8 := .int .i64 h.en) HB1.out
  change bodyPost _ _ _ _ _ (put9 W0 (B + 1) (.int .i64 h.k) (.string h.nm) (.int .i64 h.n) (.int .i64 h.tk) (.int .i64 h.tn) (.slice o1 l1 c1) (.slice o2 l2 c2) (.int .i64 h.fr) (.int .i64 h.en))
  clear x0 x1 x2 x3 x4 x5 x6 x7 x8 z0 z1 z2 z3 z4 z5 z6 z7 z8 t0 t1 t2 t3 t4 t5 t6 t7 t8
  generalize put9 W0 (B + 1) (.int .i64 h.k) (.string h.nm) (.int .i64 h.n) (.int .i64 h.tk) (.int .i64 h.tn) (.slice o1 l1 c1) (.slice o2 l2 c2) (.int .i64 h.fr) (.int .i64 h.en) = wf at *
  obtain ⟨⟨x0, x1, x2, x3, x4, x5, x6, x7, x8⟩, _⟩ := block9 hbf
  have HFIN : Hid (RcQ okN R L w x y l h ps o1 l1 c1 l2 (.returned (.tuple #[.agg #[.int .i64 h.k, .string h.nm, .int .i64 h.n, .int .i64 h.tk, .int .i64 h.tn, .slice o1 l1 c1, .slice o2 l2 c2, .int .i64 h.fr, .int .i64 h.en], .slice lo ln lc])) wf) := by
   exact HFIN0.out W0 wf h (by rw [HNM.out]) (Fr.refl _ _) hff
  clear hff hbf
  refine bodyPost_ret (by simp [results, Tryz.results43, go_sem, x0, x1, x2, x3, x4, x5, x6, x7, x8]; rfl) rfl ?_
  exact HFIN.out
def RcI (R L : Nat -> Prop) (B : Nat) (W1 : World) (x y : List ByteArray) (h : Nd) (ps : To) (o1 : Option Addr) (l1 c1 l2 : Nat) (nm2 : ByteArray) (FP : To) (FL : List ByteArray) (s t : Value) (wr : World) : Prop :=
 ∃ (i : Nat) (f : To) (xs : List Value) (vo : Option Addr) (vc : Nat) (ro : Option Addr) (rc : Nat) (lr : List ByteArray), t = .int .i64 i /\ s = .slice ro lr.length rc /\ i <= l2 /\ f.length = i /\ f.app (callR okN h.k h.nm nm2 i x y lr (ps.drop i)).1 = FP /\ (callR okN h.k h.nm nm2 i x y lr (ps.drop i)).2 = FL /\
  TmRowT wr (fun k => R k ∨ B + 3 <= k) (.slice vo i vc) f xs /\ (∀ k, (Value.slice vo i vc).ownBlock = some k -> B + 3 <= k) /\
  wr.heap[B]? = some (.cells (cells9 { h with nm := nm2 } o1 l1 c1 vo i vc) 29 (0, 0)) /\ Fr (fun k => k = B) W1 wr /\ (StrT L wr ro lr /\ lr.length <= rc /\ lr.length <= 1000 /\ ∀ s ∈ lr, s.size <= 1000)
def RcM (R L : Nat -> Prop) (wr : World) (g : Nd) (gp : To) (ls : List ByteArray) (p1 : Option Addr) (m1 d1 m2 : Nat) (v13 v14 : Value) (wx : World) : Prop :=
 ∃ (b : Nat) (r2 : Option Addr) (e2 : Nat) (ro : Option Addr) (rc : Nat), v13 = .pointer (some ⟨b, 0, none⟩) /\ v14 = .slice ro ls.length rc /\ wx.heap[b]? = some (.cells (cells9 g p1 m1 d1 r2 m2 e2) 29 (0, 0)) /\ wr.heap.size <= b /\
  TSlc (fun k => R k ∨ wr.heap.size <= k) wx r2 m2 gp /\ StrT L wx ro ls /\ ls.length <= rc /\ Quiet0 wr wx
theorem RcM.drew {R L : Nat -> Prop} {wr : World} {g : Nd} {gp : To} {ls : List ByteArray} {p1 : Option Addr} {m1 d1 m2 : Nat} {v13 v14 : Value} {wx : World} (h : RcM R L wr g gp ls p1 m1 d1 m2 v13 v14 wx) : RcM R L wr g gp ls p1 m1 d1 m2 v13 v14 wx.drew := by
  obtain ⟨b, r2, e2, ro, rc, h1, h2, h3, h4, h5, h6, h7, h8⟩ := h
  exact ⟨b, r2, e2, ro, rc, h1, h2, blk_after (Quiet0.drew _) h3, h4, h5.stay (Quiet0.drew _), h6.stay (Quiet0.drew _), h7, h8.trans (Quiet0.drew _)⟩
theorem rcm_new {R L : Nat -> Prop} {wr W w3 : World} {g : Nd} {gp : To} {ls : List ByteArray} {p1 : Option Addr} {m1 d1 m2 : Nat} {r2 : Option Addr} {e2 : Nat} {ro : Option Addr} {rc : Nat} (hq : Quiet0 wr w3) (hW : wr.heap.size <= W.heap.size) (ht : TSlc (fun k => R k ∨ W.heap.size <= k) w3 r2 m2 gp) (hs : StrT L w3 ro ls) (hc : ls.length <= rc) :
    RcM R L wr g gp ls p1 m1 d1 m2 (.pointer (some ⟨w3.heap.size, 0, none⟩)) (.slice ro ls.length rc) (w3.alloc (.cells (cells9 g p1 m1 d1 r2 m2 e2) 29)) :=
 ⟨_, r2, e2, ro, rc, rfl, rfl, heap_alloc_new w3 _, Fr.size hq, (ht.mono (fun _ _ hk => hk.imp id (fun h => Nat.le_trans hW h))).stay (Quiet0.alloc _ _), hs.stay (Quiet0.alloc _ _), hc, hq.trans (Quiet0.alloc _ _)⟩
theorem rcm_old {R L : Nat -> Prop} {wr W w3 : World} {b : Nat} {g : Nd} {gp : To} {ls : List ByteArray} {p1 : Option Addr} {m1 d1 m2 : Nat} {r2 : Option Addr} {e2 : Nat} {ro : Option Addr} {rc : Nat} (hb : w3.heap[b]? = some (.cells zero9 29 (0, 0))) (hwb : wr.heap.size <= b) (hbW : b < W.heap.size) (hR : ∀ k, R k -> k < wr.heap.size) (hL : ∀ k, L k -> k < wr.heap.size) (hq : Quiet0 wr w3) (hW : wr.heap.size <= W.heap.size) (ht : TSlc (fun k => R k ∨ W.heap.size <= k) w3 r2 m2 gp) (hs : StrT L w3 ro ls) (hc : ls.length <= rc) :
    RcM R L wr g gp ls p1 m1 d1 m2 (.pointer (some ⟨b, 0, none⟩)) (.slice ro ls.length rc) (put9 w3 b (.int .i64 g.k) (.string g.nm) (.int .i64 g.n) (.int .i64 g.tk) (.int .i64 g.tn) (.slice p1 m1 d1) (.slice r2 m2 e2) (.int .i64 g.fr) (.int .i64 g.en)) := by
 have hff := put9_fr w3 b (.int .i64 g.k) (.string g.nm) (.int .i64 g.n) (.int .i64 g.tk) (.int .i64 g.tn) (.slice p1 m1 d1) (.slice r2 m2 e2) (.int .i64 g.fr) (.int .i64 g.en)
 refine ⟨b, r2, e2, ro, rc, rfl, rfl, put9_block hb, hwb, ht.fr hff (fun k _ hk => ?_), hs.fr hff (fun k _ hk => ⟨hk, fun e => by have := hL k hk; omega⟩), hc, Fr.trans' hq hff (fun k hk e => by omega)⟩
 rcases hk with h | h
 ·exact ⟨.inl h, fun e => by have := hR k h; omega⟩
 ·exact ⟨.inr (Nat.le_trans hW h), fun e => by omega⟩
theorem nine_fr (n : Nat) (W : World) (b : Nat) (v0 v1 v2 v3 v4 v5 v6 v7 v8 : Value) (hb : n <= b) : Fr (fun j => n <= j) W (((((((((W.setCell ⟨b, 0, none⟩ v0).setCell ⟨b, 1, none⟩ v1).setCell ⟨b, 2, none⟩ v2).setCell ⟨b, 3, none⟩ v3).setCell ⟨b, 4, none⟩ v4).setCell ⟨b, 5, none⟩ v5).setCell ⟨b, 6, none⟩ v6).setCell ⟨b, 7, none⟩ v7).setCell ⟨b, 8, none⟩ v8) :=
 (put9_fr W b v0 v1 v2 v3 v4 v5 v6 v7 v8).mono (fun k _ h => by subst h; exact hb)
theorem nine_keep {wr wx : World} {b : Nat} {v0 v1 v2 v3 v4 v5 v6 v7 v8 : Value} (hq : Quiet0 wr wx) (hb : wr.heap.size <= b) : Fr (fun j => wr.heap.size <= j) wr (((((((((wx.setCell ⟨b, 0, none⟩ v0).setCell ⟨b, 1, none⟩ v1).setCell ⟨b, 2, none⟩ v2).setCell ⟨b, 3, none⟩ v3).setCell ⟨b, 4, none⟩ v4).setCell ⟨b, 5, none⟩ v5).setCell ⟨b, 6, none⟩ v6).setCell ⟨b, 7, none⟩ v7).setCell ⟨b, 8, none⟩ v8) :=
 hq.fr.trans (nine_fr _ _ _ _ _ _ _ _ _ _ _ _ hb)
theorem rcI_next {R L : Nat -> Prop} {B : Nat} {W1 wr w2 w4 : World} {x y : List ByteArray} {h : Nd} {ps : To} {o1 : Option Addr} {l1 c1 l2 : Nat} {nm2 : ByteArray} {FP : To} {FL : List ByteArray} {i : Nat} {f : To} {xs : List Value} {vo : Option Addr} {vc g4 c4 : Nat} {gh : Nd} {gp : To} {p1 : Option Addr} {m1 d1 : Nat} {r2 : Option Addr} {m2 e2 : Nat} {ro : Option Addr} {rc : Nat} {ls : List ByteArray}
    (hi : i < l2) (hfl : f.length = i) (hap : (f.app (.cons gh gp .nil)).app (callR okN h.k h.nm nm2 (i + 1) x y ls (ps.drop (i + 1))).1 = FP) (hal : (callR okN h.k h.nm nm2 (i + 1) x y ls (ps.drop (i + 1))).2 = FL) (hrow : TmRowT wr (fun k => R k ∨ B + 3 <= k) (.slice vo i vc) f xs) (hlow : ∀ k, (Value.slice vo i vc).ownBlock = some k -> B + 3 <= k)
    (hb : wr.heap[B]? = some (.cells (cells9 { h with nm := nm2 } o1 l1 c1 vo i vc) 29 (0, 0))) (hf : Fr (fun k => k = B) W1 wr) (hq : Quiet0 wr w2) (hsl : SlcIn R wr p1 m1 gh.tp) (ht : TSlc (fun k => R k ∨ wr.heap.size <= k) w2 r2 m2 gp) (hRl : ∀ k, R k -> k < B) (hLl : ∀ k, L k -> k < B) (hB : W1.heap.size = B + 3)
    (ho : w4.ownsRow 0 29 9 (.slice (some ⟨g4, 0, none⟩) (i + 1) c4) (i + 1) (xs ++ (cells9 gh p1 m1 d1 r2 m2 e2).toList)) (hf4 : Fr (fun k => (Value.slice vo i vc).ownBlock = some k) w2 w4) (hg4 : (Value.slice vo i vc).ownBlock = some g4 ∨ w2.heap.size <= g4)
    (hst : StrT L w2 ro ls) (hrc : ls.length <= rc) (hl1 : ls.length <= 1000) (hl2 : ∀ s ∈ ls, s.size <= 1000) :
    RcI R L B W1 x y h ps o1 l1 c1 l2 nm2 FP FL (.slice ro ls.length rc) (.int .i64 ((i : Int) + 1)) (w4.setCell ⟨B, 6, none⟩ (.slice (some ⟨g4, 0, none⟩) (i + 1) c4)) := by
 subst hfl
 have hwr := hf.size
 have hw2 := hq.size
 have hown : ∀ k, (Value.slice vo f.length vc).ownBlock = some k -> k < wr.heap.size := fun k hk => (hrow.own.lt k hk).2
 have hr2 := TmRowT.snoc (c1 := d1) (c2 := e2) (hrow.stay hq) ((hsl.stay hq).mono (fun k _ hk => ⟨.inl hk, fun e => by have := hlow k e; have := hRl k hk; omega⟩)) (ht.mono (fun k _ hk => by
  rcases hk with h | h
  ·exact ⟨.inl h, fun e => by have := hlow k e; have := hRl k h; omega⟩
  ·exact ⟨.inr (by omega), fun e => by have := hown k e; omega⟩)) ho hf4 hg4 (fun k hk => .inr (by omega))
 have hfs := Fr.setCell (fun k => k = B) w4 ⟨B, 6, none⟩ (.slice (some ⟨g4, 0, none⟩) (f.length + 1) c4) rfl
 have hb4 := blk_fr hf4 (fun e => by have := hlow B e; omega) (blk_after hq hb)
 have hst4 : StrT L w4 ro ls := hst.fr hf4 (fun k _ hk => ⟨hk, fun e => by have := hlow k e; have := hLl k hk; omega⟩)
 refine ⟨f.length + 1, _, _, some ⟨g4, 0, none⟩, c4, ro, rc, ls, by go_num, rfl, by omega, by rw [To.app_length]; rfl, hap, hal, hr2.fr hfs (fun k hk e => by
  rcases hk with h | h
  ·have := hRl k h; omega
  ·omega), ?_, set_block (i := 6) (u := .slice (some ⟨g4, 0, none⟩) (f.length + 1) c4) hb4, ?_, hst4.fr hfs (fun k _ hk => ⟨hk, fun e => by have := hLl k hk; omega⟩), hrc, hl1, hl2⟩
 ·intro k hk
  simp [Value.ownBlock] at hk
  subst hk
  rcases hg4 with h | h
  ·exact hlow _ h
  ·omega
 ·exact ((hf.trans hq.fr).trans' hf4 (fun k hk e => by have := hlow k e; omega)).trans hfs
theorem rc_asz (w : World) (o : Obj) : (w.alloc o).heap.size = w.heap.size + 1 := by simp
theorem rc_dsz (w : World) : w.drew.heap.size = w.heap.size := rfl
end Sc
end
section
open Go.RowKit Go.Shelf
namespace Sc
theorem rcall_any (h : Nd) (ps : To) : RCallT h ps := by
 refine To.ind' (T := RCallT) ?_ h ps
 intro h ps ih
 by_cases hk : h.k = 1
 ·exact rcall_var h ps hk
 intro w R T T' L o1 l1 c1 o2 l2 c2 no nn nc x no' nc' y lo lc l hs1 hs hN hN' hL hlc hll hls hsz hRl hLl
 have hk' : (h.k == 1) = false := by simp [hk]
 obtain ⟨W0, hW0⟩ : ∃ W0, W0 = (w.alloc (.cells (cells9 h o1 l1 c1 o2 l2 c2) 29)).alloc (.cells zero9 29) := ⟨_, rfl⟩
 have HQ0 : Hid (Quiet0 w W0) := by rw [hW0]; exact (Quiet0.alloc _ _).trans (Quiet0.alloc _ _)
 have HB0 : Hid (W0.heap[w.heap.size]? = some (.cells (cells9 h o1 l1 c1 o2 l2 c2) 29 (0, 0))) := by
  show _ = _; rw [hW0, Below.heap_alloc _ _ _ (by simp)]; exact heap_alloc_new w _
 have HB1 : Hid (W0.heap[w.heap.size + 1]? = some (.cells zero9 29 (0, 0))) := by
  show _ = _; rw [hW0]
  have := heap_alloc_new (w.alloc (.cells (cells9 h o1 l1 c1 o2 l2 c2) 29)) (.cells zero9 29)
  simpa using this
 have HZ : Hid (W0.heap.size = w.heap.size + 2) := by show _ = _; rw [hW0]; simp
 have HS1 := hid hs1
 have HS := hid hs
 have HN := hid hN
 have HN' := hid hN'
 have HXY : Hid (x.length = y.length) := by show _ = _; rw [<- hN.1, <- hN'.1]
 have HNL := hid hN.1
 have IH := hid ih
 have HLL := hid (hL.stay HQ0.out)
 have HLS := hid hls
 have HRL := hid hRl
 have HLW := hid hLl
 have HL := hid hs.1
 have hps := To.length_le ps
 rw [<- hs.1] at hps
 obtain ⟨FP, hFP⟩ : ∃ FP, (callR okN h.k h.nm (newNm okN h l) 0 x y (restNm h l) ps).1 = FP := ⟨_, rfl⟩
 obtain ⟨FL, hFL⟩ : ∃ FL, (callR okN h.k h.nm (newNm okN h l) 0 x y (restNm h l) ps).2 = FL := ⟨_, rfl⟩
 have HC1 : Hid (call1 okN x y l h ps = ({ h with nm := newNm okN h l }, FP, FL)) := by show _ = _; unfold call1; rw [if_neg hk, hFP, hFL]
 have HFP := hid hFP
 have HFL := hid hFL
 clear hs1 hs hN hN' ih hL hls hRl hLl hFP hFL hk
 obtain ⟨ln, hln⟩ : ∃ ln, l.length = ln := ⟨_, rfl⟩
 have HLN := hid hln
 rw [hln] at hlc hll ⊢
 clear hln
 unfold tmv
 go_enter Tryz.func43, Tryz.ntmps43
 go_upto_region 1 with fail
 rw [<- hW0]
 clear hW0
 generalize hB : w.heap.size = B at *
 have HBE := hid hB
 clear hB
 obtain ⟨⟨x0, x1, x2, x3, x4, x5, x6, x7, x8⟩, y0, y1, y2, y3, y4, y5, y6, y7, y8⟩ := block9 HB0.out
 go_upto_region 7 with fail
 obtain ⟨W1, hW1⟩ : ∃ W1, W1 = W0.alloc (.cells (cells9 h o1 l1 c1 o2 l2 c2) 29) := ⟨_, rfl⟩
 change Code.wp _ _ _ _ (W0.alloc (.cells (cells9 h o1 l1 c1 o2 l2 c2) 29))
 have hz0 := HZ.out
 rw [hz0, <- hW1]
 have HQ1 : Hid (Quiet0 W0 W1) := by rw [hW1]; exact Quiet0.alloc _ _
 have HZ1 : Hid (W1.heap.size = B + 3) := by show _ = _; rw [hW1]; simp [hz0]
 have HD0 : Hid (W1.heap[B]? = some (.cells (cells9 h o1 l1 c1 o2 l2 c2) 29 (0, 0))) := blk_after HQ1.out HB0.out
 have HD1 : Hid (W1.heap[B + 1]? = some (.cells zero9 29 (0, 0))) := blk_after HQ1.out HB1.out
 have HD2 : Hid (W1.heap[B + 2]? = some (.cells (cells9 h o1 l1 c1 o2 l2 c2) 29 (0, 0))) := by
  show _ = _; rw [hW1, <- hz0]; exact heap_alloc_new W0 _
 clear hW1 hz0 x0 x1 x2 x3 x4 x5 x6 x7 x8 y0 y1 y2 y3 y4 y5 y6 y7 y8
 obtain ⟨⟨x0, x1, x2, x3, x4, x5, x6, x7, x8⟩, y0, y1, y2, y3, y4, y5, y6, y7, y8⟩ := block9 HD0.out
 go_cut [53] (fun v wx => v = .bool (bindK h.k && decide ((ln : Int) > 0)) /\ W1 = wx)
 case first =>
  have HBK : Hid (∀ b, (bindK h.k && b) = ((h.k == 4 || h.k == 6 || h.k == 7) && b)) := fun b => rfl
  cases h4 : (h.k == 4)
  ·cases h6 : (h.k == 6)
   ·cases h7 : (h.k == 7)
    ·go_wp2_with fail
     go_meet
     exact ⟨by rw [HBK.out, h4, h6, h7]; simp, rfl⟩
    ·go_wp2_with fail
     go_meet
     exact ⟨by rw [HBK.out, h4, h6, h7]; simp, rfl⟩
   ·go_wp2_with fail
    go_meet
    exact ⟨by rw [HBK.out, h4, h6]; simp, rfl⟩
  ·go_wp2_with fail
   go_meet
   exact ⟨by rw [HBK.out, h4]; simp, rfl⟩
 case rest =>
  obtain ⟨rfl, rfl⟩ := hcut
  go_upto_if 53 with fail
  go_cut [3] (fun v wx => ∃ (ro : Option Addr) (rc : Nat), v = .slice ro (restNm h l).length rc /\ (restNm h l).length <= rc /\ StrT L wx ro (restNm h l) /\ wx.heap[B]? = some (.cells (cells9 { h with nm := newNm okN h l } o1 l1 c1 o2 l2 c2) 29 (0, 0)) /\ Fr (fun k => k = B) W1 wx)
  case first =>
   cases hb : (bindK h.k && decide ((ln : Int) > 0))
   case false =>
    have HE : Hid (restNm h l = l /\ newNm okN h l = h.nm) := by
     show _ /\ _
     unfold restNm newNm
     cases hbk : bindK h.k
     ·refine ⟨by simp, ?_⟩
      cases l <;> simp
     ·rw [hbk] at hb
      have : ln = 0 := by simpa using hb
      have hl0 : l = [] := List.eq_nil_of_length_eq_zero (by rw [HLN.out]; exact this)
      rw [hl0]; exact ⟨rfl, rfl⟩
    clear hb
    go_wp2_with fail
    go_meet
    rw [HE.out.1, HE.out.2]
    exact ⟨lo, lc, by rw [HLN.out], by rw [HLN.out]; exact hlc, HLL.out.stay HQ1.out, HD0.out, Fr.refl _ _⟩
   case true =>
    have hbk : bindK h.k = true := by
     cases hbk : bindK h.k
     ·rw [hbk] at hb; exact absurd hb (by simp)
     ·rfl
    have hpos : 0 < ln := by rw [hbk] at hb; simpa using hb
    obtain ⟨a, l', rfl⟩ : ∃ a l', l = a :: l' := by
     cases l with
     | nil => have := HLN.out; simp at this; omega
     | cons a l' => exact ⟨a, l', rfl⟩
    have HE : Hid (restNm h (a :: l') = l' /\ newNm okN h (a :: l') = if okN a then a else h.nm) := by
     show _ /\ _
     unfold restNm newNm
     rw [hbk]; exact ⟨rfl, by simp⟩
    obtain ⟨bl, ol, rfl, hLb, g0⟩ := (HLL.out.stay HQ1.out).head
    have hpos' : (0 : Int) < ln := by omega
    have hlm : (1 : Int) <= ln := by omega
    have HNA := hid (Lx.refName_any a (by have := HLS.out a (by simp); omega) W1)
    have HTL := hid ((HLL.out.stay HQ1.out).tail)
    have HLN' : Hid (l'.length = ln - 1) := by have := HLN.out; simp at this; show _ = _; omega
    change Hid (Calls _ _ _ _ (fun e w' => e = .returned (.bool (okN a)) /\ _)) at HNA
    clear hb hbk hLb
    go_wp2_with fail
    refine HNA.out.mono ?_; rintro z w2 ⟨rfl, hq2⟩
    have HQ2 := hid hq2
    clear hq2 g0 x0 x1 x2 x3 x4 x5 x6 x7 x8 y0 y1 y2 y3 y4 y5 y6 y7 y8
    obtain ⟨⟨x0, x1, x2, x3, x4, x5, x6, x7, x8⟩, y0, y1, y2, y3, y4, y5, y6, y7, y8⟩ := block9 (blk_after HQ2.out HD0.out)
    obtain ⟨_, _, he, _, g0⟩ := ((HLL.out.stay HQ1.out).stay HQ2.out).head
    cases he
    have HTL2 := hid (HTL.out.stay HQ2.out)
    have HDB := hid (blk_after HQ2.out HD0.out)
    have HFS := hid (Fr.setCell (fun k => k = B) w2 ⟨B, 1, none⟩ (.string a) rfl)
    have HBS : Hid ((w2.setCell ⟨B, 1, none⟩ (.string a)).heap[B]? = some (.cells (cells9 { h with nm := a } o1 l1 c1 o2 l2 c2) 29 (0, 0))) := set_block (i := 1) (u := .string a) HDB.out
    cases ho : okN a
    ·go_wp2_with fail
     all_goals
      go_meet
      rw [HE.out.1, HE.out.2, ho]
      have hlen := HLN'.out
      first
       | exact ⟨_, _, by rw [hlen], by omega, HTL2.out, HDB.out, HQ2.out.fr⟩
       | (have h0 : l' = [] := List.eq_nil_of_length_eq_zero (by omega); subst h0; exact ⟨_, _, by rw [hlen], Nat.zero_le _, StrT.nil _ _ _, HDB.out, HQ2.out.fr⟩)
    ·go_wp2_with fail
     all_goals
      go_meet
      rw [HE.out.1, HE.out.2, ho]
      have hlen := HLN'.out
      first
       | exact ⟨_, _, by rw [hlen], by omega, HTL2.out.fr HFS.out (fun k _ hk => ⟨hk, fun e => by have := HLW.out k hk; omega⟩), HBS.out, HQ2.out.fr.trans HFS.out⟩
       | (have h0 : l' = [] := List.eq_nil_of_length_eq_zero (by omega); subst h0; exact ⟨_, _, by rw [hlen], Nat.zero_le _, StrT.nil _ _ _, HBS.out, HQ2.out.fr.trans HFS.out⟩)
  case rest =>
   rename World => wx
   obtain ⟨ro0, rc0, rfl, hrc0, hst0, hbx, hfx⟩ := hcut
   have hrl := restNm_len h l
   have HMM : Hid (∀ s ∈ restNm h l, s.size <= 1000) := fun s hs => HLS.out s (restNm_mem hs)
   have HLR : Hid ((restNm h l).length <= 1000) := by show _ <= _; have := HLN.out; omega
   have HRC0 := hid hrc0
   generalize newNm okN h l = nm2 at *
   generalize restNm h l = lr0 at *
   clear x0 x1 x2 x3 x4 x5 x6 x7 x8 y0 y1 y2 y3 y4 y5 y6 y7 y8 hrc0 hrl
   have HBX := hid hbx
   have HFX := hid hfx
   have HST := hid hst0
   obtain ⟨⟨x0, x1, x2, x3, x4, x5, x6, x7, x8⟩, y0, y1, y2, y3, y4, y5, y6, y7, y8⟩ := block9 hbx
   clear hbx hfx hst0
   go_upto_region 12 with fail
   have hfs := Fr.setCell (fun k => k = B) wx ⟨B, 6, none⟩ (.slice none 0 0) rfl
   have HBY : Hid ((wx.setCell ⟨B, 6, none⟩ (.slice none 0 0)).heap[B]? = some (.cells (cells9 { h with nm := nm2 } o1 l1 c1 none 0 0) 29 (0, 0))) := set_block (i := 6) (u := .slice none 0 0) HBX.out
   have HFY := hid (HFX.out.trans hfs)
   have HSY : Hid (StrT L (wx.setCell ⟨B, 6, none⟩ (.slice none 0 0)) ro0 lr0) := HST.out.fr hfs (fun k _ hk => ⟨hk, fun e => by have := HLW.out k hk; omega⟩)
   clear hfs x0 x1 x2 x3 x4 x5 x6 x7 x8 y0 y1 y2 y3 y4 y5 y6 y7 y8
   generalize wx.setCell ⟨B, 6, none⟩ (.slice none 0 0) = wy at *
   go_wp2_with fail
   go_loopw [3, 12] (fun s t wr => RcI R L B W1 x y h ps o1 l1 c1 l2 nm2 FP FL s t wr) (fun _ t _ => l2 - (intOf t).toNat)
   case atStart => exact ⟨0, .nil, [], none, 0, ro0, rc0, lr0, rfl, rfl, Nat.zero_le _, rfl, by rw [To.drop_zero]; exact HFP.out, by rw [To.drop_zero]; exact HFL.out, TmRowT.nil _ _, by simp [Value.ownBlock], HBY.out, HFY.out, HSY.out, HRC0.out, HLR.out, HMM.out⟩
   case round =>
    obtain ⟨i, f, xs, vo, vc, ro, rc, lr, rfl, rfl, hi, hfl, hap, hal, hrow, hlow, hb, hf, hst, hrc, hl1, hl2⟩ := hrel
    have HFLN := hid hfl
    have HAP := hid hap
    have HAL := hid hal
    have HROW := hid hrow
    have HLOW := hid hlow
    have HBB := hid hb
    have HF := hid hf
    have HST2 := hid hst
    have HRC := hid hrc
    have HL1 := hid hl1
    have HL2 := hid hl2
    have HOB : Hid (wr.heap[B + 2]? = some (.cells (cells9 h o1 l1 c1 o2 l2 c2) 29 (0, 0))) := blk_fr hf (by omega) HD2.out
    clear hfl hap hal hrow hlow hb hf hst hrc hl1 hl2
    obtain ⟨⟨x0, x1, x2, x3, x4, x5, x6, x7, x8⟩, _⟩ := block9 HBB.out
    obtain ⟨⟨u0, u1, u2, u3, u4, u5, u6, u7, u8⟩, _⟩ := block9 HOB.out
    by_cases hlt : i < l2
    ·have hlt' : (i : Int) < l2 := by omega
     obtain ⟨b9, off, hd, qs, p1, m1, d1, p2, m2, d2, rfl, hd1, hg, hRb, hc9, hsl, ht1⟩ := HS.out.nth hlt
     have hsq := To.size_get ps i hd qs hg
     have hbl := HRL.out b9 hRb
     have hfw : Fr (fun k => k = B) w wr := (HQ0.out.trans HQ1.out).fr.trans HF.out
     have hnl : ∀ k, k < w.heap.size -> ¬ k = B := fun k hk h => by have := HBE.out; omega
     have hc9w := hc9.fr hfw (hnl _ (by have := HBE.out; omega))
     have hslw := hsl.fr hfw (T := R) (fun k hk hr => ⟨hr, hnl k hk⟩)
     have ht1w := ht1.fr hfw (T := R) (fun k hk hr => ⟨hr, hnl k hk⟩)
     have hNw := HN.out.fr (T' := T) hfw (fun k hk ht => ⟨ht, hnl k hk⟩)
     have hNw' := HN'.out.fr (T' := T') hfw (fun k hk ht => ⟨ht, hnl k hk⟩)
     have hwr := hfw.size
     have henv : (envOf h.k h.nm i x).length <= nn + 1 := by have := HNL.out; unfold envOf; split <;> simp <;> omega
     have hee := env_len h.k h.nm nm2 i HXY.out
     have HAR1 : Hid (∀ W, Quiet0 wr W -> Calls Tryz.prog 36 #[tmv h o1 l1 c1 (some ⟨b9, off, none⟩) l2 c2, .int .i64 (i : Nat), .slice no nn nc] W (NmPost T W (envOf h.k h.nm i x))) := fun W hq => around_any h o1 l1 c1 _ l2 c2 i T x no nn nc W (hNw.stay hq) (by omega)
     have HAR2 : Hid (∀ W, Quiet0 wr W -> Calls Tryz.prog 36 #[tmv { h with nm := nm2 } o1 l1 c1 vo i vc, .int .i64 (i : Nat), .slice no' nn nc'] W (NmPost T' W (envOf h.k nm2 i y))) := fun W hq => around_any { h with nm := nm2 } o1 l1 c1 vo i vc i T' y no' nn nc' W (hNw'.stay hq) (by omega)
     have HFR : Hid (∀ (W : World) (T T' : Nat -> Prop) (no : Option Addr) (nc : Nat) (no' : Option Addr) (nc' : Nat), NmIn T W no (envOf h.k h.nm i x).length (envOf h.k h.nm i x) -> NmIn T' W no' (envOf h.k nm2 i y).length (envOf h.k nm2 i y) -> Quiet0 wr W -> Calls Tryz.prog 43 #[tmv hd p1 m1 d1 p2 m2 d2, .slice no (envOf h.k h.nm i x).length nc, .slice no' (envOf h.k nm2 i y).length nc', .slice ro lr.length rc] W (RcQ okN R L W (envOf h.k h.nm i x) (envOf h.k nm2 i y) lr hd qs p1 m1 d1 m2)) := fun W T T' no nc no' nc' hN hN' hq => by
      have hWz := hq.size
      have hw0 := HQ0.out.size
      rw [<- hee] at hN' ⊢
      exact IH.out i hd qs hg W R T T' L p1 m1 d1 p2 m2 d2 no _ nc _ no' nc' _ ro rc lr (hslw.stay hq) (ht1w.stay hq) hN hN' (HST2.out.stay hq) HRC.out HL1.out HL2.out (by omega) (fun k hk => by have := HRL.out k hk; have := HBE.out; omega) (fun k hk => by have := HLW.out k hk; have := HBE.out; omega)
     have hcr := call1_rest okN (envOf h.k h.nm i x) (envOf h.k nm2 i y) lr hd qs
     have HD : Hid ((f.app (.cons (call1 okN (envOf h.k h.nm i x) (envOf h.k nm2 i y) lr hd qs).1 (call1 okN (envOf h.k h.nm i x) (envOf h.k nm2 i y) lr hd qs).2.1 .nil)).app (callR okN h.k h.nm nm2 (i + 1) x y (call1 okN (envOf h.k h.nm i x) (envOf h.k nm2 i y) lr hd qs).2.2 (ps.drop (i + 1))).1 = FP) := by
      have := HAP.out; rw [hd1, callR_cons] at this; show _ = _; rw [<- this]; exact (to_app_assoc' f _ _ _).symm
     have HDL : Hid ((callR okN h.k h.nm nm2 (i + 1) x y (call1 okN (envOf h.k h.nm i x) (envOf h.k nm2 i y) lr hd qs).2.2 (ps.drop (i + 1))).2 = FL) := by
      have := HAL.out; rw [hd1, callR_cons] at this; exact this
     have HSL : Hid (SlcIn R wr p1 m1 (call1 okN (envOf h.k h.nm i x) (envOf h.k nm2 i y) lr hd qs).1.tp) := by
      obtain ⟨s, hs⟩ := call1_head okN (envOf h.k h.nm i x) (envOf h.k nm2 i y) lr hd qs
      show SlcIn _ _ _ _ _; rw [hs]; exact hslw
     have HC9 := hid hc9w
     have HCR : Hid ((call1 okN (envOf h.k h.nm i x) (envOf h.k nm2 i y) lr hd qs).2.2.length <= 1000 /\ ∀ s ∈ (call1 okN (envOf h.k h.nm i x) (envOf h.k nm2 i y) lr hd qs).2.2, s.size <= 1000) := ⟨Nat.le_trans hcr.1 HL1.out, fun s hs => HL2.out s (hcr.2 s hs)⟩
     obtain ⟨nb, hnb⟩ : ∃ nb : Nd, nb = { h with nm := nm2 } := ⟨_, rfl⟩
     rw [<- hnb] at HAR2 HBB
     have HNB := hid hnb
     clear hnb
     unfold tmv at HAR1 HAR2 HFR
     unfold RcQ at HFR
     generalize call1 okN (envOf h.k h.nm i x) (envOf h.k nm2 i y) lr hd qs = q at *
     obtain ⟨gh, gp, lq⟩ := q
     dsimp only at HD HDL HSL HCR HFR
     unfold tmv at HFR
     generalize envOf h.k h.nm i x = E at *
     generalize envOf h.k nm2 i y = E' at *
     have HCB : Hid (∀ W, Fr (fun j => wr.heap.size <= j) wr W -> (W.cell? ⟨B, 0, none⟩ = some (.int .i64 nb.k) /\ W.cell? ⟨B, 1, none⟩ = some (.string nb.nm) /\ W.cell? ⟨B, 2, none⟩ = some (.int .i64 nb.n) /\ W.cell? ⟨B, 3, none⟩ = some (.int .i64 nb.tk) /\ W.cell? ⟨B, 4, none⟩ = some (.int .i64 nb.tn) /\ W.cell? ⟨B, 5, none⟩ = some (.slice o1 l1 c1) /\ W.cell? ⟨B, 6, none⟩ = some (.slice vo i vc) /\ W.cell? ⟨B, 7, none⟩ = some (.int .i64 nb.fr) /\ W.cell? ⟨B, 8, none⟩ = some (.int .i64 nb.en)) /\ (W.cell? ⟨B + 2, 0, none⟩ = some (.int .i64 h.k) /\ W.cell? ⟨B + 2, 1, none⟩ = some (.string h.nm) /\ W.cell? ⟨B + 2, 2, none⟩ = some (.int .i64 h.n) /\ W.cell? ⟨B + 2, 3, none⟩ = some (.int .i64 h.tk) /\ W.cell? ⟨B + 2, 4, none⟩ = some (.int .i64 h.tn) /\ W.cell? ⟨B + 2, 5, none⟩ = some (.slice o1 l1 c1) /\ W.cell? ⟨B + 2, 6, none⟩ = some (.slice (some ⟨b9, off, none⟩) l2 c2) /\ W.cell? ⟨B + 2, 7, none⟩ = some (.int .i64 h.fr) /\ W.cell? ⟨B + 2, 8, none⟩ = some (.int .i64 h.en)) /\ (W.cell? ⟨b9, off + i * 9, none⟩ = some (.int .i64 hd.k) /\ W.cell? ⟨b9, off + i * 9 + 1, none⟩ = some (.string hd.nm) /\ W.cell? ⟨b9, off + i * 9 + 2, none⟩ = some (.int .i64 hd.n) /\ W.cell? ⟨b9, off + i * 9 + 3, none⟩ = some (.int .i64 hd.tk) /\ W.cell? ⟨b9, off + i * 9 + 4, none⟩ = some (.int .i64 hd.tn) /\ W.cell? ⟨b9, off + i * 9 + 5, none⟩ = some (.slice p1 m1 d1) /\ W.cell? ⟨b9, off + i * 9 + 6, none⟩ = some (.slice p2 m2 d2) /\ W.cell? ⟨b9, off + i * 9 + 7, none⟩ = some (.int .i64 hd.fr) /\ W.cell? ⟨b9, off + i * 9 + 8, none⟩ = some (.int .i64 hd.en))) := fun W hq => ⟨(cells9_block HBB.out).fr hq (by have := lt_of_block HBB.out; omega), (cells9_block HOB.out).fr hq (by have := lt_of_block HOB.out; omega), HC9.out.fr hq (by have := HC9.out.lt; omega)⟩
     have HRW : Hid (∀ k, R k -> k < wr.heap.size) := fun k hk => by have := HRL.out k hk; have := HBE.out; omega
     have HLW2 : Hid (∀ k, L k -> k < wr.heap.size) := fun k hk => by have := HLW.out k hk; have := HBE.out; omega
     clear hd1 hg hsl hslw ht1 ht1w hsq hRb hc9 hc9w henv hNw hNw' hfw hnl hbl hee hcr
     go_upto_region 15 with fail
     clear x0 x1 x2 x3 x4 x5 x6 x7 x8 u0 u1 u2 u3 u4 u5 u6 u7 u8
     go_cut [13, 14] (fun v13 v14 wx => RcM R L wr gh gp lq p1 m1 d1 m2 v13 v14 wx)
     case first =>
      try clear HQ0
      try clear HB0
      try clear HB1
      try clear HZ
      try clear HS1
      try clear HS
      try clear HN
      try clear HN'
      try clear HXY
      try clear HNL
      try clear IH
      try clear HLL
      try clear HLS
      try clear HRL
      try clear HLW
      try clear HL
      try clear HC1
      try clear HFP
      try clear HFL
      try clear HLN
      try clear HD1
      try clear HD2
      try clear HQ1
      try clear HBE
      try clear HBK
      try clear HBX
      try clear HFX
      try clear HST
      try clear HBY
      try clear HFY
      try clear HSY
      try clear HRC0
      try clear HLR
      try clear HMM
      try clear HFLN
      try clear HAP
      try clear HAL
      try clear HROW
      try clear HLOW
      try clear HBB
      try clear HF
      try clear HST2
      try clear HRC
      try clear HL1
      try clear HL2
      try clear HOB
      try clear HD
      try clear HDL
      try clear HSL
      try clear HC9
      try clear HCR
      try clear HNB
      try clear hps
      try clear hwr
      try clear hll
      have hqc := Quiet0.refl wr
      go_region_held3 (fun W => (W.cell? ⟨B, 0, none⟩ = some (.int .i64 nb.k) /\ W.cell? ⟨B, 1, none⟩ = some (.string nb.nm) /\ W.cell? ⟨B, 2, none⟩ = some (.int .i64 nb.n) /\ W.cell? ⟨B, 3, none⟩ = some (.int .i64 nb.tk) /\ W.cell? ⟨B, 4, none⟩ = some (.int .i64 nb.tn) /\ W.cell? ⟨B, 5, none⟩ = some (.slice o1 l1 c1) /\ W.cell? ⟨B, 6, none⟩ = some (.slice vo i vc) /\ W.cell? ⟨B, 7, none⟩ = some (.int .i64 nb.fr) /\ W.cell? ⟨B, 8, none⟩ = some (.int .i64 nb.en)) /\ (W.cell? ⟨B + 2, 0, none⟩ = some (.int .i64 h.k) /\ W.cell? ⟨B + 2, 1, none⟩ = some (.string h.nm) /\ W.cell? ⟨B + 2, 2, none⟩ = some (.int .i64 h.n) /\ W.cell? ⟨B + 2, 3, none⟩ = some (.int .i64 h.tk) /\ W.cell? ⟨B + 2, 4, none⟩ = some (.int .i64 h.tn) /\ W.cell? ⟨B + 2, 5, none⟩ = some (.slice o1 l1 c1) /\ W.cell? ⟨B + 2, 6, none⟩ = some (.slice (some ⟨b9, off, none⟩) l2 c2) /\ W.cell? ⟨B + 2, 7, none⟩ = some (.int .i64 h.fr) /\ W.cell? ⟨B + 2, 8, none⟩ = some (.int .i64 h.en)) /\ (W.cell? ⟨b9, off + i * 9, none⟩ = some (.int .i64 hd.k) /\ W.cell? ⟨b9, off + i * 9 + 1, none⟩ = some (.string hd.nm) /\ W.cell? ⟨b9, off + i * 9 + 2, none⟩ = some (.int .i64 hd.n) /\ W.cell? ⟨b9, off + i * 9 + 3, none⟩ = some (.int .i64 hd.tk) /\ W.cell? ⟨b9, off + i * 9 + 4, none⟩ = some (.int .i64 hd.tn) /\ W.cell? ⟨b9, off + i * 9 + 5, none⟩ = some (.slice p1 m1 d1) /\ W.cell? ⟨b9, off + i * 9 + 6, none⟩ = some (.slice p2 m2 d2) /\ W.cell? ⟨b9, off + i * 9 + 7, none⟩ = some (.int .i64 hd.fr) /\ W.cell? ⟨b9, off + i * 9 + 8, none⟩ = some (.int .i64 hd.en)))
       (first
        | ((have hzz := z0); (clear hzz); (with_reducible refine HCB.out _ ?_); (with_reducible refine nine_keep hqc ?hb9); (case hb9 => (first | with_reducible assumption | omega)))
        | ((with_reducible refine HCB.out _ ?_); (repeat (first | with_reducible exact Quiet0.fr hqc | with_reducible exact Fr.refl _ _ | with_reducible refine Fr.trans ?_ (Fr.alloc _ _ _) | with_reducible refine Fr.trans ?_ (Fr.drew _ _) | fail)); done)
        | fail)
       (first
        | (go_at_call 36; (with_reducible refine Calls.mono (HAR1.out _ ?hq) ?_); (case hq => (repeat (first | with_reducible exact hqc | with_reducible exact Quiet0.refl _ | with_reducible refine Quiet0.trans ?_ (Quiet0.alloc _ _) | with_reducible refine Quiet0.trans ?_ (Quiet0.drew _) | fail))); rintro e wx ⟨no2, nc2, rfl, hn1, hqx⟩; (try (refine with_nm hn2 ?hq3 hqx ?_; (case hq3 => (repeat (first | with_reducible exact Quiet0.refl _ | with_reducible refine Quiet0.trans ?_ (Quiet0.alloc _ _) | with_reducible refine Quiet0.trans ?_ (Quiet0.drew _) | fail))); intro hn2)); (first | (with_reducible have hbz := box_after hqx) | (with_reducible have hbz := box_after_drew hqx) | (with_reducible replace hbz := blk_after hqx hbz) | (with_reducible replace hbz := blk_after hqx (blk_drew hbz)) | skip); (refine with_q (w0 := wr) ?hq2 hqx ?_); (case hq2 => (repeat (first | with_reducible exact hqc | with_reducible exact Quiet0.refl _ | with_reducible refine Quiet0.trans ?_ (Quiet0.alloc _ _) | with_reducible refine Quiet0.trans ?_ (Quiet0.drew _) | fail))); intro hqc; have hszk := Fr.size hqc; have hszx := Fr.size hqx; (try simp only [rc_asz, rc_dsz] at hszx))
        | (go_at_call 36; (with_reducible refine Calls.mono (HAR2.out _ ?hq) ?_); (case hq => (repeat (first | with_reducible exact hqc | with_reducible exact Quiet0.refl _ | with_reducible refine Quiet0.trans ?_ (Quiet0.alloc _ _) | with_reducible refine Quiet0.trans ?_ (Quiet0.drew _) | fail))); rintro e wx ⟨no3, nc3, rfl, hn2, hqx⟩; (try (refine with_nm hn1 ?hq3 hqx ?_; (case hq3 => (repeat (first | with_reducible exact Quiet0.refl _ | with_reducible refine Quiet0.trans ?_ (Quiet0.alloc _ _) | with_reducible refine Quiet0.trans ?_ (Quiet0.drew _) | fail))); intro hn1)); (first | (with_reducible have hbz := box_after hqx) | (with_reducible have hbz := box_after_drew hqx) | (with_reducible replace hbz := blk_after hqx hbz) | (with_reducible replace hbz := blk_after hqx (blk_drew hbz)) | skip); (refine with_q (w0 := wr) ?hq2 hqx ?_); (case hq2 => (repeat (first | with_reducible exact hqc | with_reducible exact Quiet0.refl _ | with_reducible refine Quiet0.trans ?_ (Quiet0.alloc _ _) | with_reducible refine Quiet0.trans ?_ (Quiet0.drew _) | fail))); intro hqc; have hszk := Fr.size hqc; have hszx := Fr.size hqx; (try simp only [rc_asz] at hszx))
        | (go_at_call 43; (with_reducible refine Calls.mono (HFR.out _ _ _ _ _ _ _ (hn1.stay ?hq3) (hn2.stay ?hq4) ?hq) ?_); (case hq3 => (repeat (first | with_reducible exact Quiet0.refl _ | with_reducible refine Quiet0.trans ?_ (Quiet0.alloc _ _) | with_reducible refine Quiet0.trans ?_ (Quiet0.drew _) | fail))); (case hq4 => (repeat (first | with_reducible exact Quiet0.refl _ | with_reducible refine Quiet0.trans ?_ (Quiet0.alloc _ _) | with_reducible refine Quiet0.trans ?_ (Quiet0.drew _) | fail))); (case hq => (repeat (first | with_reducible exact hqc | with_reducible exact Quiet0.refl _ | with_reducible refine Quiet0.trans ?_ (Quiet0.alloc _ _) | with_reducible refine Quiet0.trans ?_ (Quiet0.drew _) | fail))); rintro e wx ⟨r2, e2, rs, rt, rfl, ht2, hst2, hrc2, hqx⟩; (first | (with_reducible have hbz := box_after hqx) | (with_reducible have hbz := box_after_drew hqx) | (with_reducible replace hbz := blk_after hqx hbz) | (with_reducible replace hbz := blk_after hqx (blk_drew hbz)) | fail); (refine with_q (w0 := wr) ?hq2 hqx ?_); (case hq2 => (repeat (first | with_reducible exact hqc | with_reducible exact Quiet0.refl _ | with_reducible refine Quiet0.trans ?_ (Quiet0.alloc _ _) | with_reducible refine Quiet0.trans ?_ (Quiet0.drew _) | fail))); intro hqc; have hszk := Fr.size hqc; have hszx := Fr.size hqx; (try simp only [rc_asz] at hszx); obtain ⟨⟨z0, z1, z2, z3, z4, z5, z6, z7, z8⟩, t0, t1, t2, t3, t4, t5, t6, t7, t8⟩ := block9 hbz)
        | (go_at_call 43; (with_reducible refine Calls.mono (HFR.out _ _ _ _ _ _ _ (hn1.stay ?hq3) (hn2.stay ?hq4) ?hq) ?_); (case hq3 => (repeat (first | with_reducible exact Quiet0.refl _ | with_reducible refine Quiet0.trans ?_ (Quiet0.alloc _ _) | with_reducible refine Quiet0.trans ?_ (Quiet0.drew _) | fail))); (case hq4 => (repeat (first | with_reducible exact Quiet0.refl _ | with_reducible refine Quiet0.trans ?_ (Quiet0.alloc _ _) | with_reducible refine Quiet0.trans ?_ (Quiet0.drew _) | fail))); (case hq => (repeat (first | with_reducible exact hqc | with_reducible exact Quiet0.refl _ | with_reducible refine Quiet0.trans ?_ (Quiet0.alloc _ _) | with_reducible refine Quiet0.trans ?_ (Quiet0.drew _) | fail))); rintro e wx ⟨r2, e2, rs, rt, rfl, ht2, hst2, hrc2, hqx⟩; (refine with_q (w0 := wr) ?hq2 hqx ?_); (case hq2 => (repeat (first | with_reducible exact hqc | with_reducible exact Quiet0.refl _ | with_reducible refine Quiet0.trans ?_ (Quiet0.alloc _ _) | with_reducible refine Quiet0.trans ?_ (Quiet0.drew _) | fail))); intro hqc; have hszk := Fr.size hqc; have hszx := Fr.size hqx; (try simp only [rc_asz, rc_dsz] at hszx))
        | fail)
      all_goals
       go_wp2_with fail
       go_meet
       first
        | (with_reducible exact rcm_new hqc (by first | omega | (simp only [rc_asz]; omega)) ht2 hst2 hrc2)
        | (refine rcm_old hbz ?_ ?_ HRW.out HLW2.out hqc ?_ ht2 hst2 hrc2 <;> first | omega | (simp only [rc_asz]; omega))
        | (exact (rcm_new hqc (by first | omega | (simp only [rc_asz, rc_dsz]; omega)) ht2 hst2 hrc2).drew)
        | (refine (rcm_old hbz ?_ ?_ HRW.out HLW2.out hqc ?_ ht2 hst2 hrc2).drew <;> first | omega | (simp only [rc_asz, rc_dsz]; omega))
     case rest =>
      rename World => wm
      obtain ⟨b, r2, e2, rs, rt, rfl, rfl, hbp, hwb, ht2, hst2, hrc2, hqm⟩ := hcut
      have HT2 := hid ht2
      have HST3 := hid hst2
      have HRC3 := hid hrc2
      have HQM := hid hqm
      obtain ⟨⟨x0, x1, x2, x3, x4, x5, x6, x7, x8⟩, _⟩ := block9 (blk_after hqm HBB.out)
      obtain ⟨⟨u0, u1, u2, u3, u4, u5, u6, u7, u8⟩, _⟩ := block9 hbp
      have HOWN : Hid (wm.ownsRow 0 29 9 (.slice vo i vc) i xs) := by have := (HROW.out.stay hqm).own; rw [HFLN.out] at this; exact this
      clear hbp ht2 hst2 hrc2 hqm
      go_wp2_with (at_builtin; go_must (refine wpList_append_one wm rfl (.tmp 91) (.tmp 93) 25 rfl 29 _ 9 112 elemTm (.slice vo i vc) i xs rfl HOWN.out (cells9 gh p1 m1 d1 r2 m2 e2) rfl rfl ?c1 ?c2 ?c3 ?_))
      case c1 => simp [Value.oneCell']
      case c2 => unfold maxLen; omega
      case c3 => omega
      intro g4 c4 w4 ho4 hf4 hg4
      have hqf := HQM.out.fr.trans hf4
      have HO4 := hid ho4
      have HF4 := hid hf4
      have HG4 : Hid ((Value.slice vo i vc).ownBlock = some g4 ∨ wm.heap.size <= g4) := hg4
      clear ho4 hf4 hg4 x0 x1 x2 x3 x4 x5 x6 x7 x8 u0 u1 u2 u3 u4 u5 u6 u7 u8
      obtain ⟨⟨_, _, _, _, _, _, xf6, _, _⟩, _, _, _, _, _, _, yf6, _, _⟩ := block9 (blk_fr hqf (fun e => by have := HLOW.out _ e; omega) HBB.out)
      clear hqf
      go_wp2_with fail
      go_roundw
      case rel =>
       exact rcI_next hlt HFLN.out HD.out HDL.out HROW.out HLOW.out (by rw [HBB.out, HNB.out]) HF.out HQM.out HSL.out HT2.out (fun k hk => by have := HRL.out k hk; have := HBE.out; omega) (fun k hk => by have := HLW.out k hk; have := HBE.out; omega) HZ1.out HO4.out HF4.out HG4.out HST3.out HRC3.out HCR.out.1 HCR.out.2
      case measure => simp [intOf] <;> omega
    ·have hlt' : ¬ (i : Int) < l2 := by omega
     have hil : i = l2 := by omega
     subst hil
     have hb1 := blk_fr HF.out (by omega) HD1.out
     have HK1 := hid hb1
     obtain ⟨⟨z0, z1, z2, z3, z4, z5, z6, z7, z8⟩, t0, t1, t2, t3, t4, t5, t6, t7, t8⟩ := block9 hb1
     clear hb1
     go_wp2_with fail
     clear u0 u1 u2 u3 u4 u5 u6 u7 u8
     have hff := put9_fr wr (B + 1) (.int .i64 h.k) (.string nm2) (.int .i64 h.n) (.int .i64 h.tk) (.int .i64 h.tn) (.slice o1 l1 c1) (.slice vo i vc) (.int .i64 h.fr) (.int .i64 h.en)
     have hbf := put9_block (a0 := .int .i64 h.k) (a1 := .string nm2) (a2 := .int .i64 h.n) (a3 := .int .i64 h.tk) (a4 := .int .i64 h.tn) (a5 := .slice o1 l1 c1) (a6 := .slice vo i vc) (a7 := .int .i64 h.fr) (a8 := .int .i64 h.en) HK1.out
     change bodyPost _ _ _ _ _ (put9 wr (B + 1) (.int .i64 h.k) (.string nm2) (.int .i64 h.n) (.int .i64 h.tk) (.int .i64 h.tn) (.slice o1 l1 c1) (.slice vo i vc) (.int .i64 h.fr) (.int .i64 h.en))
     clear x0 x1 x2 x3 x4 x5 x6 x7 x8 z0 z1 z2 z3 z4 z5 z6 z7 z8 t0 t1 t2 t3 t4 t5 t6 t7 t8
     generalize put9 wr (B + 1) (.int .i64 h.k) (.string nm2) (.int .i64 h.n) (.int .i64 h.tk) (.int .i64 h.tn) (.slice o1 l1 c1) (.slice vo i vc) (.int .i64 h.fr) (.int .i64 h.en) = wf at *
     obtain ⟨⟨x0, x1, x2, x3, x4, x5, x6, x7, x8⟩, _⟩ := block9 hbf
     have HFIN : Hid (RcQ okN R L w x y l h ps o1 l1 c1 i (.returned (.tuple #[.agg #[.int .i64 h.k, .string nm2, .int .i64 h.n, .int .i64 h.tk, .int .i64 h.tn, .slice o1 l1 c1, .slice vo i vc, .int .i64 h.fr, .int .i64 h.en], .slice ro lr.length rc])) wf) := by
      have hB := HBE.out
      have hz := HZ1.out
      have hdr := To.drop_end ps i (by have := HL.out; omega)
      have hfe : f = FP := by
       have := HAP.out
       rw [hdr] at this
       rw [<- this]; show f = f.app .nil; rw [To.app_nil]
      have hle : lr = FL := by
       have := HAL.out
       rw [hdr] at this
       exact this
      subst hfe
      subst hle
      refine ⟨vo, vc, ro, rc, by rw [HC1.out]; rfl, ?_, ?_, by rw [HC1.out]; exact HRC.out, ?_⟩
      ·rw [HC1.out]
       exact (HROW.out.slc HFLN.out.symm (by unfold maxLen; omega)).fr hff (fun k _ hk => by
        rcases hk with h | h
        ·exact ⟨.inl h, fun e => by have := HRL.out k h; omega⟩
        ·exact ⟨.inr (by omega), fun e => by omega⟩)
      ·rw [HC1.out]
       exact HST2.out.fr hff (fun k _ hk => ⟨hk, fun e => by have := HLW.out k hk; omega⟩)
      ·exact (((HQ0.out.trans HQ1.out)).trans' HF.out (fun k hk h => by omega)).trans' hff (fun k hk h => by omega)
     clear hff hbf
     refine bodyPost_ret (by simp [results, Tryz.results43, go_sem, x0, x1, x2, x3, x4, x5, x6, x7, x8]; rfl) rfl ?_
     exact HFIN.out
end Sc
end
end Go.Proofs.YtcninopmelmajaaGreatDoor
