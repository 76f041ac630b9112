/-
  Texts laid together (EqAwake, EqSame, TeRoom, Law, TyOpen, TeOpen, ScResLaw0, TeList, CnGreat, EqMany, TeLaid): laws and walks, with their conditions.
-/
import Derived.ProofKit
import Derived.OpenShut
import Derived.Deep.Slices
import Derived.Deep.RegionWith
import Derived.LaidMore
import Derived.Stop.Joined
import Derived.LaidLaws
import Derived.Lib.LaidTab
import Derived.Stop.LaidErr
import Derived.Test.YtcninopmelmajaaGreatDoorRows
import Derived.Test.YtcninopmelmajaaGreatDoorMN16
import Derived.Test.YtcninopmelmajaaGreatDoorMN23
set_option maxHeartbeats 8000000
set_option maxRecDepth 1000000
namespace Go.Proofs.YtcninopmelmajaaGreatDoor
open Go.Lib (hid)
section
open Go.RowKit Go.Shelf Lx Pa
namespace Em
abbrev txt17 : ByteArray := ⟨#[102, 117, 110, 32, 120, 32, 45, 62, 32, 120]⟩
def h17 : Nd := ⟨4, ⟨#[120]⟩, 0, 0, 0, .nil, 0, 10⟩
def p17 : To := .cons ⟨1, ⟨#[120]⟩, 0, 0, 0, .nil, 9, 10⟩ .nil .nil
theorem t17 : termQ txt17.data.toList 9 = .inl (h17, p17) := by kernel_rfl
theorem n17 : ofN h17 p17 9 = ([(tv 2, tv 1, 9, 10), (tv 0, arrT (tv 1) (tv 2), 0, 10)], 0) := by kernel_rfl
theorem g17 : allT GoodH (.cons h17 p17 .nil) := by
 have h : ∀ k nm a b, nm.size <= 100000 -> GoodH ⟨k, nm, 0, 0, 0, .nil, a, b⟩ := fun k nm a b hn => ⟨hn, Nat.zero_le _, (by decide : (Lit.int .i64 0).wf = true), trivial⟩
 exact ⟨h _ _ _ _ (by decide), ⟨h _ _ _ _ (by decide), trivial, trivial⟩, trivial⟩
theorem z17 : p17.size <= 50000 := by decide
def A17 (w : World) (x : Ending) (w' : World) : Prop := ∃ b off c p1 k1 p2 k2 p3 k3, x = .returned (.tuple #[.slice (some ⟨b, off, none⟩) 2 c, .int .i64 0]) /\ 2 <= c /\ Slc w' p3 2 (arrT (tv 1) (tv 2)).2.2 /\ Quiet0 w w' /\ (w'.cell? ⟨b, off, none⟩ = some (.int .i64 1) /\ w'.cell? ⟨b, off + 1, none⟩ = some (.int .i64 2) /\ w'.cell? ⟨b, off + 2, none⟩ = some (.slice p1 0 k1) /\ w'.cell? ⟨b, off + 3, none⟩ = some (.int .i64 1) /\ w'.cell? ⟨b, off + 4, none⟩ = some (.int .i64 1) /\ w'.cell? ⟨b, off + 5, none⟩ = some (.slice p2 0 k2) /\ w'.cell? ⟨b, off + 8 + 3, none⟩ = some (.int .i64 4) /\ w'.cell? ⟨b, off + 8 + 4, none⟩ = some (.int .i64 0) /\ w'.cell? ⟨b, off + 8 + 5, none⟩ = some (.slice p3 2 k3))
theorem with_slq {w0 W w' : World} {o : Option Addr} {n : Nat} {f : Fo} {G : Prop} (hq : Quiet0 w0 W) (h : SlcIn (fun i => W.heap.size <= i) w' o n f) (k : SlcIn (fun i => w0.heap.size <= i) w' o n f -> G) : G := k (h.mono (fun _ _ hi => Nat.le_trans hq.size hi))
theorem awake17_any (w : World) (ht : Lx.Spaces w) : Calls Tryz.prog 18 #[] w fun e w' => e = .returned (.bool true) /\ Quiet0 w w' := by
 have HC := hid (term_any txt17 (by decide) 9 9 rfl (by decide) (by decide) w)
 rw [t17] at HC
 have HN := n17
 have HG := g17
 have HZ := z17
 have HT := hid ht
 clear ht
 generalize h17 = h at *
 generalize p17 = ps at *
 have HE : Hid (∀ (W : World) (o1 : Option Addr) (l1 c1 : Nat) (o2 : Option Addr) (l2 c2 : Nat), SlcIn (fun b => w.heap.size <= b) W o1 l1 h.tp -> TSlc (fun b => w.heap.size <= b) W o2 l2 ps -> Quiet0 w W -> Calls Tryz.prog 19 #[tmv h o1 l1 c1 o2 l2 c2, .int .i64 9] W (A17 W)) := fun W o1 l1 c1 o2 l2 c2 k1 k2 hq => by
  have k := of_any h ps 9 W _ o1 l1 c1 o2 l2 c2 k1 k2 HZ HG (HT.out.stay hq)
  rw [HN] at k
  refine k.mono ?_
  rintro x w' ⟨o, c, rfl, hc, ⟨_, _, hq'⟩, hqq⟩
  rcases hq' with e | ⟨b, off, rfl, hqa⟩
  ·cases e
  ·obtain ⟨p1, n1, k1, p2, n2, k2, s1, s2, a0, a1, a2, a3, a4, a5, _⟩ := hqa 0 _ rfl
   obtain ⟨_, _, _, p3, n3, k3, _, s3, _, _, _, b3, b4, b5, _⟩ := hqa 1 _ rfl
   obtain rfl : n1 = 0 := s1.1
   obtain rfl : n2 = 0 := s2.1
   obtain rfl : n3 = 2 := s3.1
   exact ⟨b, off, c, p1, k1, p2, k2, p3, k3, rfl, hc, s3.slc, hqq, a0, a1, a2, a3, a4, a5, b3, b4, b5⟩
 unfold tmv at HE
 clear HN HG HZ HT
 go_enter Tryz.func18, Tryz.ntmps18
 go_wp2_with fail
 refine HC.out.mono ?_; rintro x w1 ⟨o1, l1, c1, o2, l2, c2, rfl, hs1, hs2, hq1⟩
 unfold tmv
 obtain ⟨W2, hW2⟩ : ∃ W2, W2 = (w1.alloc (.cells (cells9 h o1 l1 c1 o2 l2 c2) 29)).alloc (.cells #[.int .i64 0, .int .i64 0] 27) := ⟨_, rfl⟩
 have hqa : Quiet0 w1 W2 := by rw [hW2]; exact (Quiet0.alloc _ _).trans (Quiet0.alloc _ _)
 have hb2 : W2.heap[w1.heap.size]? = some (.cells (cells9 h o1 l1 c1 o2 l2 c2) 29 (0, 0)) := by
  rw [hW2, Below.heap_alloc _ _ _ (by simp)]; exact heap_alloc_new w1 _
 have HQ2 := hid (hq1.trans hqa)
 have HE2 := hid (HE.out W2 o1 l1 c1 o2 l2 c2 (hs1.stay hqa) (hs2.stay hqa) HQ2.out)
 go_upto_region 2 with fail
 change Code.wp _ _ _ _ ((w1.alloc (.cells (cells9 h o1 l1 c1 o2 l2 c2) 29)).alloc (.cells #[.int .i64 0, .int .i64 0] 27))
 rw [<- hW2]
 clear hW2 hqa hq1 hs1 hs2
 generalize w1.heap.size = tb at *
 obtain ⟨a0, a1, a2, a3, a4, a5, a6, a7, a8⟩ := cells9_block hb2
 clear hb2
 go_wp2_with fail
 refine HE2.out.mono ?_; rintro x w3 ⟨b, off, c, p1, k1, p2, k2, p3, k3, rfl, hc, hs3, hq3, hcells⟩
 have HQ3 := hid (HQ2.out.trans hq3)
 have HS3 := hid hs3
 have HCL := hid hcells
 have HSS : Hid (∀ W, Quiet0 w3 W -> (W.cell? ⟨b, off, none⟩ = some (.int .i64 1) /\ W.cell? ⟨b, off + 1, none⟩ = some (.int .i64 2) /\ W.cell? ⟨b, off + 2, none⟩ = some (.slice p1 0 k1) /\ W.cell? ⟨b, off + 3, none⟩ = some (.int .i64 1) /\ W.cell? ⟨b, off + 4, none⟩ = some (.int .i64 1) /\ W.cell? ⟨b, off + 5, none⟩ = some (.slice p2 0 k2) /\ W.cell? ⟨b, off + 8 + 3, none⟩ = some (.int .i64 4) /\ W.cell? ⟨b, off + 8 + 4, none⟩ = some (.int .i64 0) /\ W.cell? ⟨b, off + 8 + 5, none⟩ = some (.slice p3 2 k3))) := fun W hq => by
  obtain ⟨e0, e1, e2, e3, e4, e5, e6, e7, e8⟩ := HCL.out
  exact ⟨hq.at e0, hq.at e1, hq.at e2, hq.at e3, hq.at e4, hq.at e5, hq.at e6, hq.at e7, hq.at e8⟩
 have HV : Hid (∀ (n : Int) (W : World), Calls Tryz.prog 39 #[.int .i64 n] W fun e w' => e = .returned (.agg #[.int .i64 1, .int .i64 n, .slice none 0 0]) /\ Quiet0 W w') := fun n W => var_any n W
 have HS1 : Hid (∀ W, Calls Tryz.prog 38 #[.agg #[.int .i64 1, .int .i64 2, .slice p1 0 k1], .agg #[.int .i64 1, .int .i64 2, .slice none 0 0]] W fun e w' => e = .returned (.bool true) /\ Quiet0 W w') := fun W => refSame_any 1 2 .nil 1 2 .nil W p1 0 k1 none 0 0 (Slc.nil _ _) (Slc.nil _ _)
 have HS2 : Hid (∀ W, Calls Tryz.prog 38 #[.agg #[.int .i64 1, .int .i64 1, .slice p2 0 k2], .agg #[.int .i64 1, .int .i64 1, .slice none 0 0]] W fun e w' => e = .returned (.bool true) /\ Quiet0 W w') := fun W => refSame_any 1 1 .nil 1 1 .nil W p2 0 k2 none 0 0 (Slc.nil _ _) (Slc.nil _ _)
 have HAR : Hid (∀ (W : World) (g : Nat), W.heap[g]? = some (.cells #[.int .i64 1, .int .i64 1, .slice none 0 0, .int .i64 1, .int .i64 2, .slice none 0 0] 24 (0, 0)) -> Calls Tryz.prog 40 #[.slice (some ⟨g, 0, none⟩) 2 2] W (ArQ W 1 2)) := fun W g hg => arr2_any hg
 have HS4 : Hid (∀ (W : World) (o4 : Option Addr) (c4 : Nat), SlcIn (fun i => w3.heap.size <= i) W o4 2 (arrT (tv 1) (tv 2)).2.2 -> Quiet0 w3 W -> Calls Tryz.prog 38 #[.agg #[.int .i64 4, .int .i64 0, .slice p3 2 k3], .agg #[.int .i64 4, .int .i64 0, .slice o4 2 c4]] W fun e w' => e = .returned (.bool true) /\ Quiet0 W w') := fun W o4 c4 hs hq => refSame_any 4 0 (arrT (tv 1) (tv 2)).2.2 4 0 (arrT (tv 1) (tv 2)).2.2 W p3 2 k3 o4 2 c4 (HS3.out.stay hq) hs.slc
 have hqc := Quiet0.refl w3
 obtain ⟨e0, e1, e2, e3, e4, e5, e6, e7, e8⟩ := hcells
 clear a0 a1 a2 a3 a4 a5 a6 a7 a8 hq3 hs3 HE2 HE
 go_upto_region 3 with fail
 go_region_held3 (fun W => W.cell? ⟨b, off, none⟩ = some (.int .i64 1) /\ W.cell? ⟨b, off + 1, none⟩ = some (.int .i64 2) /\ W.cell? ⟨b, off + 2, none⟩ = some (.slice p1 0 k1) /\ W.cell? ⟨b, off + 3, none⟩ = some (.int .i64 1) /\ W.cell? ⟨b, off + 4, none⟩ = some (.int .i64 1) /\ W.cell? ⟨b, off + 5, none⟩ = some (.slice p2 0 k2) /\ W.cell? ⟨b, off + 8 + 3, none⟩ = some (.int .i64 4) /\ W.cell? ⟨b, off + 8 + 4, none⟩ = some (.int .i64 0) /\ W.cell? ⟨b, off + 8 + 5, none⟩ = some (.slice p3 2 k3))
  (((refine HSS.out _ ?_); (repeat with_reducible first | exact hqc | exact Quiet0.refl _ | refine jq ?_ | refine jr ?_)))
  (first
   | (go_at_call 39; (with_reducible refine Calls.mono (HV.out _ _) ?_); rintro e wx ⟨rfl, hqx⟩; (refine with_q (w0 := w3) ?hq2 hqx ?_); (case hq2 => (repeat with_reducible first | exact hqc | exact Quiet0.refl _ | refine jq ?_ | refine jr ?_)); intro hqc)
   | (go_at_call 38; (with_reducible refine Calls.mono (HS1.out _) ?_); rintro e wx ⟨rfl, hqx⟩; (refine with_q (w0 := w3) ?hq2 hqx ?_); (case hq2 => (repeat with_reducible first | exact hqc | exact Quiet0.refl _ | refine jq ?_ | refine jr ?_)); intro hqc)
   | (go_at_call 38; (with_reducible refine Calls.mono (HS2.out _) ?_); rintro e wx ⟨rfl, hqx⟩; (refine with_q (w0 := w3) ?hq2 hqx ?_); (case hq2 => (repeat with_reducible first | exact hqc | exact Quiet0.refl _ | refine jq ?_ | refine jr ?_)); intro hqc)
   | (go_at_call 40; (with_reducible refine Calls.mono (HAR.out _ _ ?hblk) ?_); (case hblk => (repeat (first | ((with_reducible refine blk_new _ _ _ _ ?hbe); (case hbe => (simp; done))) | with_reducible refine blk_after (Quiet0.alloc _ _) ?_ | with_reducible refine blk_drew ?_ | fail))); rintro e wx ⟨o4, c4, rfl, hs4, hqx⟩; (refine with_slq (w0 := w3) ?hqz hs4 ?_); (case hqz => (repeat with_reducible first | exact hqc | exact Quiet0.refl _ | refine jq ?_ | refine jr ?_)); intro hs4; (refine with_q (w0 := w3) ?hq2 hqx ?_); (case hq2 => (repeat with_reducible first | exact hqc | exact Quiet0.refl _ | refine jq ?_ | refine jr ?_)); intro hqc)
   | (go_at_call 38; (with_reducible refine Calls.mono (HS4.out _ _ _ ?hsz ?hq) ?_); (case hq => (repeat with_reducible first | exact hqc | exact Quiet0.refl _ | refine jq ?_ | refine jr ?_)); (case hsz => (repeat (first | with_reducible exact hs4 | with_reducible refine SlcIn.stay ?_ (Quiet0.drew _) | fail))); rintro e wx ⟨rfl, hqx⟩; (refine with_q (w0 := w3) ?hq2 hqx ?_); (case hq2 => (repeat with_reducible first | exact hqc | exact Quiet0.refl _ | refine jq ?_ | refine jr ?_)); intro hqc)
   | fail)
 all_goals
  go_wp2_with fail
  go_ret
  exact ⟨rfl, HQ3.out.trans hqc⟩
end Em
end
section
open Go.RowKit
namespace Em
theorem same_self : ∀ f : Fo, f.same f = true
 | .nil => rfl
 | .cons k n ps r => by simp [Fo.same, same_self ps, same_self r]
theorem sameT_self (k n : Int) (ps : Fo) : sameT k n ps k n ps = true := by simp [sameT, same_self ps]
theorem EqsAt.get {w : World} {o : Option Addr} {l : List Eqn} (h : EqsAt w o l) {i : Nat} {t : Eqn} (hi : l[i]? = some t) : ∃ b off o1 l1 c1 o2 l2 c2, o = some ⟨b, off, none⟩ /\ Slc w o1 l1 t.1.2.2 /\ Slc w o2 l2 t.2.1.2.2 /\
 w.cell? ⟨b, off + i * 8, none⟩ = some (.int .i64 t.1.1) /\ w.cell? ⟨b, off + i * 8 + 1, none⟩ = some (.int .i64 t.1.2.1) /\ w.cell? ⟨b, off + i * 8 + 2, none⟩ = some (.slice o1 l1 c1) /\
 w.cell? ⟨b, off + i * 8 + 3, none⟩ = some (.int .i64 t.2.1.1) /\ w.cell? ⟨b, off + i * 8 + 4, none⟩ = some (.int .i64 t.2.1.2.1) /\ w.cell? ⟨b, off + i * 8 + 5, none⟩ = some (.slice o2 l2 c2) /\
 w.cell? ⟨b, off + i * 8 + 6, none⟩ = some (.int .i64 t.2.2.1) /\ w.cell? ⟨b, off + i * 8 + 7, none⟩ = some (.int .i64 t.2.2.2) := by
 rcases h.2.2 with e | ⟨b, off, rfl, hq⟩
 ·subst e; simp at hi
 ·obtain ⟨o1, l1, c1, o2, l2, c2, s1, s2, a⟩ := hq i t hi
  exact ⟨b, off, o1, l1, c1, o2, l2, c2, rfl, s1.slc, s2.slc, a⟩
theorem rsame_any (l : List Eqn) (w : World) (pa : Option Addr) (ca : Nat) (pb : Option Addr) (cb : Nat) (h1 : EqsAt w pa l) (h2 : EqsAt w pb l) :
    Calls Tryz.prog 21 #[.slice pa l.length ca, .slice pb l.length cb] w fun e w' => e = .returned (.bool true) /\ Quiet0 w w' := by
 obtain ⟨ln, hln⟩ : ∃ ln, l.length = ln := ⟨_, rfl⟩
 have HL := hid hln
 have H1 := hid h1
 have H2 := hid h2
 have hz : ln <= 4096 := by have := h1.1; omega
 rw [hln]
 clear h1 h2 hln
 go_enter Tryz.func21, Tryz.ntmps21
 go_wp2_with fail
 go_loopw [5] (fun t wr => ∃ i : Nat, t = .int .i64 i /\ i <= ln /\ Quiet0 w wr) (fun t _ => ln - (intOf t).toNat)
 case atStart => exact ⟨0, rfl, Nat.zero_le _, Quiet0.refl _⟩
 case round =>
  obtain ⟨i, rfl, hi, hq⟩ := hrel
  have HQ := hid hq
  by_cases hlt : i < ln
  ·have hlt' : (i : Int) < ln := by omega
   obtain ⟨t, ht⟩ : ∃ t, l[i]? = some t := ⟨_, List.getElem?_eq_getElem (by have := HL.out; omega)⟩
   obtain ⟨ba, oa, po1, pl1, pc1, po2, pl2, pc2, rfl, sa1, sa2, hca⟩ := H1.out.get ht
   obtain ⟨bb, ob, qo1, ql1, qc1, qo2, ql2, qc2, rfl, sb1, sb2, hcb⟩ := H2.out.get ht
   have HCA := hid hca
   have HCB := hid hcb
   have HSS : Hid (∀ W, Quiet0 wr W -> (W.cell? ⟨ba, oa + i * 8, none⟩ = some (.int .i64 t.1.1) /\ W.cell? ⟨ba, oa + i * 8 + 1, none⟩ = some (.int .i64 t.1.2.1) /\ W.cell? ⟨ba, oa + i * 8 + 2, none⟩ = some (.slice po1 pl1 pc1) /\ W.cell? ⟨ba, oa + i * 8 + 3, none⟩ = some (.int .i64 t.2.1.1) /\ W.cell? ⟨ba, oa + i * 8 + 4, none⟩ = some (.int .i64 t.2.1.2.1) /\ W.cell? ⟨ba, oa + i * 8 + 5, none⟩ = some (.slice po2 pl2 pc2) /\ W.cell? ⟨ba, oa + i * 8 + 6, none⟩ = some (.int .i64 t.2.2.1) /\ W.cell? ⟨ba, oa + i * 8 + 7, none⟩ = some (.int .i64 t.2.2.2)) /\ (W.cell? ⟨bb, ob + i * 8, none⟩ = some (.int .i64 t.1.1) /\ W.cell? ⟨bb, ob + i * 8 + 1, none⟩ = some (.int .i64 t.1.2.1) /\ W.cell? ⟨bb, ob + i * 8 + 2, none⟩ = some (.slice qo1 ql1 qc1) /\ W.cell? ⟨bb, ob + i * 8 + 3, none⟩ = some (.int .i64 t.2.1.1) /\ W.cell? ⟨bb, ob + i * 8 + 4, none⟩ = some (.int .i64 t.2.1.2.1) /\ W.cell? ⟨bb, ob + i * 8 + 5, none⟩ = some (.slice qo2 ql2 qc2) /\ W.cell? ⟨bb, ob + i * 8 + 6, none⟩ = some (.int .i64 t.2.2.1) /\ W.cell? ⟨bb, ob + i * 8 + 7, none⟩ = some (.int .i64 t.2.2.2))) := fun W hw => by
    have hq' := HQ.out.trans hw
    obtain ⟨x0, x1, x2, x3, x4, x5, x6, x7⟩ := HCA.out
    obtain ⟨y0, y1, y2, y3, y4, y5, y6, y7⟩ := HCB.out
    exact ⟨⟨hq'.at x0, hq'.at x1, hq'.at x2, hq'.at x3, hq'.at x4, hq'.at x5, hq'.at x6, hq'.at x7⟩, ⟨hq'.at y0, hq'.at y1, hq'.at y2, hq'.at y3, hq'.at y4, hq'.at y5, hq'.at y6, hq'.at y7⟩⟩
   have HSL : Hid (∀ W, Quiet0 wr W -> Calls Tryz.prog 38 #[.agg #[.int .i64 t.1.1, .int .i64 t.1.2.1, .slice po1 pl1 pc1], .agg #[.int .i64 t.1.1, .int .i64 t.1.2.1, .slice qo1 ql1 qc1]] W fun e w' => e = .returned (.bool true) /\ Quiet0 W w') := fun W hw => by
    have k := refSame_any t.1.1 t.1.2.1 t.1.2.2 t.1.1 t.1.2.1 t.1.2.2 W po1 pl1 pc1 qo1 ql1 qc1 (sa1.stay (HQ.out.trans hw)) (sb1.stay (HQ.out.trans hw))
    rw [sameT_self] at k
    exact k
   have HSR : Hid (∀ W, Quiet0 wr W -> Calls Tryz.prog 38 #[.agg #[.int .i64 t.2.1.1, .int .i64 t.2.1.2.1, .slice po2 pl2 pc2], .agg #[.int .i64 t.2.1.1, .int .i64 t.2.1.2.1, .slice qo2 ql2 qc2]] W fun e w' => e = .returned (.bool true) /\ Quiet0 W w') := fun W hw => by
    have k := refSame_any t.2.1.1 t.2.1.2.1 t.2.1.2.2 t.2.1.1 t.2.1.2.1 t.2.1.2.2 W po2 pl2 pc2 qo2 ql2 qc2 (sa2.stay (HQ.out.trans hw)) (sb2.stay (HQ.out.trans hw))
    rw [sameT_self] at k
    exact k
   have hqc := Quiet0.refl wr
   obtain ⟨⟨x0, x1, x2, x3, x4, x5, x6, x7⟩, ⟨y0, y1, y2, y3, y4, y5, y6, y7⟩⟩ := HSS.out wr hqc
   clear hca hcb sa1 sa2 sb1 sb2 ht hq
   go_upto_region 6 with fail
   go_region_held3 (fun W => (W.cell? ⟨ba, oa + i * 8, none⟩ = some (.int .i64 t.1.1) /\ W.cell? ⟨ba, oa + i * 8 + 1, none⟩ = some (.int .i64 t.1.2.1) /\ W.cell? ⟨ba, oa + i * 8 + 2, none⟩ = some (.slice po1 pl1 pc1) /\ W.cell? ⟨ba, oa + i * 8 + 3, none⟩ = some (.int .i64 t.2.1.1) /\ W.cell? ⟨ba, oa + i * 8 + 4, none⟩ = some (.int .i64 t.2.1.2.1) /\ W.cell? ⟨ba, oa + i * 8 + 5, none⟩ = some (.slice po2 pl2 pc2) /\ W.cell? ⟨ba, oa + i * 8 + 6, none⟩ = some (.int .i64 t.2.2.1) /\ W.cell? ⟨ba, oa + i * 8 + 7, none⟩ = some (.int .i64 t.2.2.2)) /\ (W.cell? ⟨bb, ob + i * 8, none⟩ = some (.int .i64 t.1.1) /\ W.cell? ⟨bb, ob + i * 8 + 1, none⟩ = some (.int .i64 t.1.2.1) /\ W.cell? ⟨bb, ob + i * 8 + 2, none⟩ = some (.slice qo1 ql1 qc1) /\ W.cell? ⟨bb, ob + i * 8 + 3, none⟩ = some (.int .i64 t.2.1.1) /\ W.cell? ⟨bb, ob + i * 8 + 4, none⟩ = some (.int .i64 t.2.1.2.1) /\ W.cell? ⟨bb, ob + i * 8 + 5, none⟩ = some (.slice qo2 ql2 qc2) /\ W.cell? ⟨bb, ob + i * 8 + 6, none⟩ = some (.int .i64 t.2.2.1) /\ W.cell? ⟨bb, ob + i * 8 + 7, none⟩ = some (.int .i64 t.2.2.2)))
    (((refine HSS.out _ ?_); (repeat with_reducible first | exact hqc | exact Quiet0.refl _ | refine jq ?_ | refine jr ?_)))
    (first
     | (go_at_call 38; (with_reducible refine Calls.mono (HSL.out _ ?hq) ?_); (case hq => (repeat with_reducible first | exact hqc | exact Quiet0.refl _ | refine jq ?_ | refine jr ?_)); rintro e wx ⟨rfl, hqx⟩; (refine with_q (w0 := wr) ?hq2 hqx ?_); (case hq2 => (repeat with_reducible first | exact hqc | exact Quiet0.refl _ | refine jq ?_ | refine jr ?_)); intro hqc)
     | (go_at_call 38; (with_reducible refine Calls.mono (HSR.out _ ?hq) ?_); (case hq => (repeat with_reducible first | exact hqc | exact Quiet0.refl _ | refine jq ?_ | refine jr ?_)); rintro e wx ⟨rfl, hqx⟩; (refine with_q (w0 := wr) ?hq2 hqx ?_); (case hq2 => (repeat with_reducible first | exact hqc | exact Quiet0.refl _ | refine jq ?_ | refine jr ?_)); intro hqc)
     | fail)
   all_goals
    go_wp2_with fail
    go_roundw
    case rel => exact ⟨i + 1, by go_num, by omega, HQ.out.trans hqc⟩
    case measure => simp [intOf]; omega
  ·have hlt' : ¬ (i : Int) < ln := by omega
   clear hq
   go_wp2_with fail
   go_ret
   exact ⟨rfl, HQ.out⟩
end Em
end
section
open Go.RowKit
def bigH (h : Nd) : Bool := decide (60 < h.nm.size) || greatF h.tp
namespace To
def room : Nat -> Int -> To -> Int
 | _, m, nil => m
 | d, m, cons h ps r => if m < 0 then m else
     match d with
     | 0 => room 0 (-1) r
     | d + 1 => room (d + 1) (if bigH h then -1 else room d (m - 1) ps) r
theorem room_neg : ∀ (f : To) (d : Nat) (m : Int), m < 0 -> room d m f = m
 | nil, _, _, _ => by unfold room; rfl
 | cons h ps r, d, m, e => by unfold room; rw [if_pos e]
theorem room_le : ∀ (f : To) (d : Nat) (m : Int), 0 <= m -> room d m f <= m /\ -1 <= room d m f
 | nil, _, _, _ => by unfold room; omega
 | cons h ps r, d, m, e => by
  unfold room
  rw [if_neg (by omega)]
  cases d with
  | zero => simp only; rw [room_neg r 0 (-1) (by omega)]; omega
  | succ d =>
   simp only
   cases hb : bigH h
   ·simp only [Bool.false_eq_true, if_false]
    by_cases hm : 0 <= m - 1
    ·have h1 := room_le ps d (m - 1) hm
     by_cases h0 : 0 <= room d (m - 1) ps
     ·have h2 := room_le r (d + 1) _ h0; omega
     ·rw [room_neg r _ _ (by omega)]; omega
    ·rw [room_neg ps _ _ (by omega), room_neg r _ _ (by omega)]; omega
   ·simp only [if_true]
    rw [room_neg r _ _ (by omega)]; omega
theorem room_all : ∀ (f : To) (d : Nat) (m : Int), 0 <= room d m f -> room d m f = m - f.size /\ 0 <= m /\ f.depth <= d /\ allT (fun h => bigH h = false) f
 | nil, _, m, h => by unfold room at h ⊢; simp [size, depth, allT]; exact h
 | cons h ps r, d, m, e => by
  unfold room at e ⊢
  by_cases hm : m < 0
  ·rw [if_pos hm] at e; omega
  ·rw [if_neg hm] at e ⊢
   cases d with
   | zero => simp only at e; rw [room_neg r 0 (-1) (by omega)] at e; omega
   | succ d =>
    simp only at e ⊢
    obtain ⟨h1, h2, h3, h4⟩ := room_all r (d + 1) _ e
    cases hb : bigH h
    ·rw [hb] at h1 h2 e
     simp only [Bool.false_eq_true, if_false] at h1 h2 e ⊢
     obtain ⟨g1, g2, g3, g4⟩ := room_all ps d (m - 1) h2
     rw [h1, g1]
     refine ⟨by simp only [size]; omega, by omega, by simp only [depth]; omega, hb, g4, h4⟩
    ·rw [hb] at h2; simp at h2
end To
def roomOne (d : Nat) (m : Int) (h : Nd) (ps : To) : Int := if d = 0 then -1 else if bigH h then -1 else To.room (d - 1) (m - 1) ps
theorem room_cons (d : Nat) (m : Int) (h : Nd) (ps r : To) (hm : 0 <= m) : To.room d m (.cons h ps r) = To.room d (roomOne d m h ps) r := by
 conv => lhs; unfold To.room
 rw [if_neg (by omega)]
 unfold roomOne
 cases d with
 | zero => rfl
 | succ d => rfl
theorem roomOne_le (d : Nat) (m : Int) (h : Nd) (ps : To) (hm : 0 <= m) : -1 <= roomOne d m h ps /\ roomOne d m h ps <= m := by
 unfold roomOne
 split
 ·omega
 ·split
  ·omega
  ·by_cases h1 : 0 <= m - 1
   ·have := To.room_le ps (d - 1) (m - 1) h1; omega
   ·rw [To.room_neg _ _ _ (by omega)]; omega
def LRoomT (h : Nd) (ps : To) : Prop := ∀ (w : World) (R : Nat -> Prop) (o1 : Option Addr) (l1 c1 : Nat) (o2 : Option Addr) (l2 c2 : Nat) (d : Nat) (m : Int) (di : Int), di = d -> SlcIn R w o1 l1 h.tp -> TSlc R w o2 l2 ps -> h.nm.size <= 9223372036854775807 -> allT (fun h => h.nm.size <= 9223372036854775807) ps -> 0 <= m -> m <= 100000 -> d <= 100000 ->
 Calls Tryz.prog 46 #[tmv h o1 l1 c1 o2 l2 c2, .int .i64 m, .int .i64 di] w fun e w' => e = .returned (.int .i64 (roomOne d m h ps)) /\ Quiet0 w w'
theorem roomT_any (h : Nd) (ps : To) : LRoomT h ps := by
 refine To.ind' (T := LRoomT) ?_ h ps
 intro h ps ih w R o1 l1 c1 o2 l2 c2 d m di ed hs1 hs hnm hnms hm0 hm1 hd1
 subst ed
 have HG := hid (fun (W : World) (hq : Quiet0 w W) => great_any h.tk h.tn h.tp W o1 l1 c1 (hs1.slc.stay hq))
 have HS := hid hs
 have IH := hid ih
 have HL := hid hs.1
 have HNM := hid hnms
 have hmx := hs.2.1
 unfold maxLen at hmx
 unfold tyv at HG
 clear hs ih hnms
 by_cases hd0 : d = 0
 ·subst hd0
  unfold tmv roomOne
  go_enter Tryz.func46, Tryz.ntmps46
  go_wp2_with fail
  go_ret
  exact ⟨rfl, Quiet0.alloc _ _⟩
 ·obtain ⟨D, hD⟩ : ∃ D, D = d - 1 := ⟨_, rfl⟩
  have hd0' : ((d : Int) == 0) = false := by simp; omega
  have hdD : d = D + 1 := by omega
  by_cases h60 : 60 < h.nm.size
  ·have h60' : (60 : Int) < (h.nm.size : Int) := by omega
   have HF : Hid (roomOne d m h ps = -1) := by show _ = _; unfold roomOne bigH; rw [if_neg hd0]; simp [h60]
   rw [HF.out]
   clear hd0 hD
   unfold tmv
   go_enter Tryz.func46, Tryz.ntmps46
   go_wp2_with fail
   go_ret
   exact ⟨rfl, Quiet0.alloc _ _⟩
  ·have h60' : ¬ (60 : Int) < (h.nm.size : Int) := by omega
   cases hg : greatF h.tp
   ·obtain ⟨res, hres⟩ : ∃ res, res = To.room D (m - 1) ps := ⟨_, rfl⟩
    have HRES := hid hres
    have HF : Hid (roomOne d m h ps = res) := by show _ = _; unfold roomOne bigH; rw [if_neg hd0, hres, hg, <- hD]; simp [h60]
    rw [HF.out]
    rw [hg] at HG
    have HDD := hid hdD
    have hD1 : D <= 100000 := by omega
    have hd1' : 1 <= d := by omega
    clear hres hd0 hD hdD hg h60
    obtain ⟨W0, hW0⟩ : ∃ W0, W0 = w.alloc (.cells (cells9 h o1 l1 c1 o2 l2 c2) 29) := ⟨_, rfl⟩
    have HB : Hid (∀ W, Quiet0 W0 W -> W.cell? ⟨w.heap.size, 6, none⟩ = some (.slice o2 l2 c2)) := by
     intro W hq; rw [hW0] at hq; exact (box9 w h o1 l1 c1 o2 l2 c2 _ W hq).2.2.2.2.2.2.1
    have HQ0 : Hid (Quiet0 w W0) := by rw [hW0]; exact Quiet0.alloc _ _
    unfold tmv
    go_enter Tryz.func46, Tryz.ntmps46
    go_wp2_with fail
    change Calls _ _ _ (w.alloc (.cells (cells9 h o1 l1 c1 o2 l2 c2) 29)) _
    rw [<- hW0]
    refine (HG.out _ HQ0.out).mono ?_; rintro e w1 ⟨rfl, hq1⟩
    have HQ1 := hid hq1
    clear hW0 hq1
    go_wp2_with fail
    generalize w.heap.size = nb at *
    go_loopw [1, 7] (fun s t wr => ∃ (i : Nat) (x : Int), t = .int .i64 i /\ s = .int .i64 x /\ i <= l2 /\ -1 <= x /\ x <= 100000 /\ res = To.room D x (ps.drop i) /\ Quiet0 W0 wr) (fun _ t _ => l2 - (intOf t).toNat)
    case atStart => exact ⟨0, m - 1, rfl, rfl, Nat.zero_le _, by omega, by omega, by rw [To.drop_zero]; exact HRES.out, HQ1.out⟩
    case round =>
     obtain ⟨i, x, rfl, rfl, hi, hx0, hx1, hr, hq⟩ := hrel
     have HR := hid hr
     have HQ := hid hq
     have g2 := HB.out wr hq
     clear hr hq
     by_cases hlt : i < l2
     ·have hlt' : (i : Int) < l2 := by omega
      by_cases hx : 0 <= x
      ·obtain ⟨b, off, hd, qs, p1, m1, d1, p2, m2, d2, rfl, hdr, hg, hRb, ⟨e0, e1, e2, e3, e4, e5, e6, e7, e8⟩, hsl, ht1⟩ := (HS.out.stay (HQ0.out.trans HQ.out)).nth hlt
       have hna := allT_get ps i hd qs HNM.out hg
       have HC := hid (IH.out i hd qs hg wr R p1 m1 d1 p2 m2 d2 D x ((d : Int) - 1) (by have := HDD.out; omega) hsl ht1 hna.1 hna.2 hx hx1 hD1)
       obtain ⟨y, hy⟩ : ∃ y, y = roomOne D x hd qs := ⟨_, rfl⟩
       have hyb : -1 <= y /\ y <= 100000 := by have := roomOne_le D x hd qs hx; omega
       have HY : Hid (res = To.room D y (ps.drop (i + 1))) := by
        show _ = _
        rw [HR.out, hdr, hy, room_cons _ _ _ _ _ hx]
       rw [<- hy] at HC
       unfold tmv at HC
       clear hdr hg hsl ht1 hy hRb hna
       go_wp2_with fail
       refine HC.out.mono ?_; rintro e w1 ⟨rfl, hq1⟩
       have HQ1 := hid (HQ.out.trans hq1)
       clear hq1
       go_wp2_with fail
       go_roundw
       case rel => exact ⟨i + 1, y, by go_num, rfl, by omega, hyb.1, hyb.2, HY.out, HQ1.out⟩
       case measure => simp [intOf]; omega
      ·have hx' : x < 0 := by omega
       have HY : Hid (res = x) := by show _ = _; rw [HR.out]; exact To.room_neg _ _ _ hx'
       go_wp2_with fail
       go_ret
       exact ⟨by rw [HY.out]; rfl, HQ0.out.trans HQ.out⟩
     ·have hlt' : ¬ (i : Int) < l2 := by omega
      have HY : Hid (res = x) := by
       show _ = _
       rw [HR.out, To.drop_end ps i (by have := HL.out; omega)]
       unfold To.room; rfl
      go_wp2_with fail
      go_ret
      exact ⟨by rw [HY.out]; rfl, HQ0.out.trans HQ.out⟩
   ·have HF : Hid (roomOne d m h ps = -1) := by show _ = _; unfold roomOne bigH; rw [if_neg hd0, hg]; simp
    rw [HF.out]
    rw [hg] at HG
    clear hd0 hD hg h60
    unfold tmv
    go_enter Tryz.func46, Tryz.ntmps46
    go_wp2_with fail
    refine (HG.out _ (Quiet0.alloc _ _)).mono ?_; rintro e w1 ⟨rfl, hq1⟩
    go_wp2_with fail
    go_ret
    exact ⟨rfl, (Quiet0.alloc _ _).trans hq1⟩
def greatTm (h : Nd) (ps : To) : Bool := decide (roomOne 60 200 h ps < 0)
theorem greatTm_no {h : Nd} {ps : To} (e : greatTm h ps = false) : bigH h = false /\ allT (fun h => bigH h = false) ps /\ ps.size + 1 <= 200 /\ ps.depth + 1 <= 60 := by
 unfold greatTm at e
 have h0 : 0 <= roomOne 60 200 h ps := by simpa using e
 unfold roomOne at h0
 rw [if_neg (by omega)] at h0
 cases hb : bigH h
 ·rw [hb] at h0
  simp only [Bool.false_eq_true, if_false] at h0
  obtain ⟨h1, h2, h3, h4⟩ := To.room_all ps _ _ h0
  exact ⟨rfl, h4, by omega, by omega⟩
 ·rw [hb] at h0; simp at h0
theorem bigH_no {h : Nd} (e : bigH h = false) : h.nm.size <= 60 /\ h.tp.size + 1 <= 300 := by
 unfold bigH at e
 rw [Bool.or_eq_false_iff] at e
 exact ⟨by simpa using e.1, great_size e.2⟩
theorem greatTm_any (h : Nd) (ps : To) (w : World) (R : Nat -> Prop) (o1 : Option Addr) (l1 c1 : Nat) (o2 : Option Addr) (l2 c2 : Nat) (hs1 : SlcIn R w o1 l1 h.tp) (hs : TSlc R w o2 l2 ps) (hnm : h.nm.size <= 9223372036854775807) (hnms : allT (fun h => h.nm.size <= 9223372036854775807) ps) :
    Calls Tryz.prog 24 #[tmv h o1 l1 c1 o2 l2 c2] w fun e w' => e = .returned (.bool (greatTm h ps)) /\ Quiet0 w w' := by
 have HC := hid (fun (W : World) (hq : Quiet0 w W) => roomT_any h ps W R o1 l1 c1 o2 l2 c2 60 200 60 rfl (hs1.stay hq) (hs.stay hq) hnm hnms (by omega) (by omega) (by omega))
 unfold greatTm
 generalize roomOne 60 200 h ps = r at *
 clear hs1 hs hnm hnms
 unfold tmv at *
 go_enter Tryz.func24, Tryz.ntmps24
 go_wp2_with fail
 refine (HC.out _ (Quiet0.alloc _ _)).mono ?_; rintro e w1 ⟨rfl, hq⟩
 go_wp2_with fail
 go_ret
 exact ⟨rfl, (Quiet0.alloc _ _).trans hq⟩
end
section
open Go.ChangeShapes Go.WideShapes Go.ChangeAt Go.RowKit
theorem own : ownKnob Tryz.prog.godebug = none := by kernel_rfl
def typesRead (P : Program) (ts : List TypeId) : Bool := ts.all fun t => P.readableRec t && decide (t < P.types.size)
theorem below_trodAll {H : Type} {enc : TypeId × Value -> H} {P : Program} (hl : laidOutB P = true) {W W' : World} (hb : Below W.heap.size W W') :
    ∀ (ts : List TypeId) (vs : List Value) (ds : List (DataW H)) (ps : List MemPlace), typesRead P ts = true -> DataW.TrodAll enc P W 0 (fun _ => true) true ts vs ds ps -> (∀ x ∈ ps, x.block < W.heap.size) ->
     DataW.TrodAll enc P W' 0 (fun b => decide (b < W.heap.size)) true ts vs ds ps
 | [], vs, ds, ps, _, h, _ => by
  obtain ⟨rfl, rfl, rfl⟩ := trodAll_nil h
  exact trodAll_mk0
 | t :: ts, vs, ds, ps, hr, h, hlt => by
  obtain ⟨v, vs', d, ds', p, q, rfl, rfl, rfl, h1, h2⟩ := trodAll_cons h
  simp only [typesRead, List.all_cons, Bool.and_eq_true, decide_eq_true_eq] at hr
  exact trodAll_cons_mk (Below.trod hl hr.1.1 hr.1.2 h1 hb (fun x hx => hlt x (List.mem_append_left _ hx)))
   (below_trodAll hl hb ts vs' ds' q hr.2 h2 (fun x hx => hlt x (List.mem_append_right _ hx)))
theorem law_post {H : Type} {enc : TypeId × Value -> H} {f : Func} {s : ChangeSpec} {W W' : World} {args : Array Value} {ds gs : List (DataW H)} {before : List MemPlace}
    (hW : DataW.Whole enc Tryz.prog f.params.toList s.vars false W args.toList ds gs before) (hv : s.vars = []) (hs : (s.fn H (ds ++ gs)).results = [.lit (.bool true)]) (hs2 : (s.fn H (ds ++ gs)).args = ds) (hs3 : (s.fn H (ds ++ gs)).vars = [])
    (hres : f.resultTypes = #[4]) (hread : typesRead Tryz.prog f.params.toList = true) (hb : Below W.heap.size W W') :
    s.post enc Tryz.prog f false true false false W args (.bool true) W' := by
 have hlt := hW.lt
 have hW' := hW
 obtain ⟨p, q, hA, hV, rfl, hfz, hnd⟩ := hW
 refine ⟨ds, gs, _, [], p, [], hW', ?_, ?_, ?_, hb.frame _, fun h => by cases h⟩
 ·rw [hs, hres]; exact trodAll_cons_mk (shut_bool Tryz.underlying4 _) trodAll_mk0
 ·rw [hs2]; exact below_trodAll (by kernel_rfl) hb _ _ _ _ hread hA (fun x hx => by have := hlt x (List.mem_append_left _ hx); simpa using this)
 ·rw [hs3, hv]; exact rfl
end
section
open Go.ChangeShapes Go.WideShapes Go.ChangeAt Go.RowKit
theorem spot_none {w : World} {a : Addr} {v : Value} (h : w.cell? (a.add 0) = some v) : ∃ b off, a = ⟨b, off, none⟩ := by
 obtain ⟨b, off, s⟩ := a
 cases s with
 | none => exact ⟨b, off, rfl⟩
 | some s =>
  unfold World.cell? Addr.add at h
  simp only [if_true] at h
  split at h <;> simp_all
section
variable {H : Type} {enc : TypeId × Value -> H} {P : Program} {w : World} {base : Nat} {spare : Nat -> Bool} {held : Bool}
theorem at_of_cells {b off len : Nat} (one : ∀ i, i < len -> ∃ k n o l c ps, w.cell? ⟨b, off + i * 3, none⟩ = some (.int .i64 k) /\ w.cell? ⟨b, off + i * 3 + 1, none⟩ = some (.int .i64 n) /\ w.cell? ⟨b, off + i * 3 + 2, none⟩ = some (.slice o l c) /\ Slc w o l ps /\ wfI n /\ wfF ps) :
    ∀ m s, s + m = len -> ∃ f : Fo, f.length = m /\ At w b (off + s * 3) f /\ wfF f
 | 0, s, _ => ⟨.nil, rfl, trivial, trivial⟩
 | m + 1, s, h => by
  obtain ⟨k, n, o, l, c, ps, h1, h2, h3, hs, hw, hwp⟩ := one s (by omega)
  obtain ⟨r, hr, ha, hwr⟩ := at_of_cells one m (s + 1) (by omega)
  refine ⟨.cons k n ps r, by simp [Fo.length, hr], ⟨h1, h2, ⟨o, l, c, h3, hs.1, hs.2.1, hs.2.2⟩, ?_⟩, hw, hwp, hwr⟩
  rw [show off + s * 3 + 3 = off + (s + 1) * 3 from by omega]
  exact ha
theorem open_parts {te : TypeId} {f0 f1 f2 : Field} (he : P.underlying te = some (.struct #[f0, f1, f2])) (ce : P.cellsOf te = 3)
    (o0 : f0.offset = 0) (o1 : f1.offset = 1) (o2 : f2.offset = 2) (c0 : P.cellsOf f0.type = 1) (c1 : P.cellsOf f1.type = 1) (c2 : P.cellsOf f2.type = 1) (k0 : P.underlying f0.type = some (.int .i64)) (k1 : P.underlying f1.type = some (.int .i64)) (k2 : P.underlying f2.type = some (.slice te)) :
    ∀ (fuel : Nat) (ts : TypeId) (cs : List Value) (x : DataW H × List MemPlace), P.underlying ts = some (.slice te) -> DataW.trod enc P w base spare held fuel ts cs = some x -> ∃ o len cap f, cs = [.slice o len cap] /\ Slc w o len f /\ wfF f := by
 intro fuel
 induction fuel using Nat.strongRecOn with
 | _ fuel ih =>
 intro ts cs x hts h
 rcases DataW.trod_slice hts h with ⟨rfl, _⟩ | ⟨a, len, cap, elems, rest, n, hfu, rfl, _, _, hl, hm, hlen, hel, _⟩
 ·exact ⟨_, _, _, .nil, rfl, Slc.nil _ _, trivial⟩
 ·have one : ∀ i, i < len -> ∃ k n o l c ps, w.cell? (a.add (i * 3)) = some (.int .i64 k) /\ w.cell? (a.add (i * 3 + 1)) = some (.int .i64 n) /\ w.cell? (a.add (i * 3 + 2)) = some (.slice o l c) /\ Slc w o l ps /\ wfI n /\ wfF ps := by
    intro i hi
    have h1 := hel i hi
    rw [List.getElem?_eq_getElem (by omega)] at h1
    obtain ⟨cs', h2, h3⟩ := Option.bind_eq_some_iff.1 h1
    rw [ce] at h2
    obtain ⟨_, hcl, hcell⟩ := World.cells?_some h2
    obtain ⟨xs, n', hn', _, _, hxl, hfx⟩ := DataW.trod_struct he h3
    match cs', hcl with
    | [u0, u1, u2], _ =>
     have hxl3 : xs.length = 3 := by simpa using hxl
     have s0 := hfx 0 f0 rfl
     have s1 := hfx 1 f1 rfl
     have s2 := hfx 2 f2 rfl
     rw [c0, o0, show xs[0]? = some (xs[0]'(by omega)) from by simp [hxl3]] at s0
     rw [c1, o1, show xs[1]? = some (xs[1]'(by omega)) from by simp [hxl3]] at s1
     rw [c2, o2, show xs[2]? = some (xs[2]'(by omega)) from by simp [hxl3]] at s2
     obtain ⟨z0, hz0, _, hw0⟩ := DataW.trod_int k0 s0
     obtain ⟨z1, hz1, _, hw1⟩ := DataW.trod_int k1 s1
     obtain ⟨o, l, c, ps, hz2, hps, hwp⟩ := ih n' (by omega) f2.type _ _ k2 s2
     simp at hz0 hz1 hz2
     have e1 := hcell 1 (by omega)
     have e2 := hcell 2 (by omega)
     simp [Deep.add_add] at e1 e2
     refine ⟨z0, z1, o, l, c, ps, ?_, ?_, ?_, hps, hw1, hwp⟩
     ·have : (a.add (i * 3)).add 0 = a.add (i * 3) := by rw [Deep.add_add]; rfl
      rw [<- this, hcell 0 (by omega)]; simp [hz0]
     ·rw [e1, hz1]
     ·rw [e2, hz2]
  by_cases h0 : len = 0
  ·subst h0
   exact ⟨_, _, _, .nil, rfl, Slc.nil _ _, trivial⟩
  ·obtain ⟨k, n, o, l, c, ps, h1, _⟩ := one 0 (by omega)
   rw [Nat.zero_mul] at h1
   obtain ⟨b, off, rfl⟩ := spot_none h1
   obtain ⟨f, hf, hA, hwf⟩ := at_of_cells (b := b) (off := off) (len := len) (w := w) (fun i hi => by
    obtain ⟨k, n, o, l, c, ps, h1, h2, h3, h4⟩ := one i hi
    exact ⟨k, n, o, l, c, ps, by simpa [Addr.add_lit] using h1, by simpa [Addr.add_lit, Nat.add_assoc] using h2, by simpa [Addr.add_lit, Nat.add_assoc] using h3, h4⟩) len 0 (by omega)
   rw [Nat.zero_mul, Nat.add_zero] at hA
   exact ⟨_, _, _, f, rfl, ⟨hf.symm, by omega, fun _ => ⟨b, off, rfl, hA⟩⟩, hwf⟩
theorem open_agg {te : TypeId} {f0 f1 f2 : Field} (he : P.underlying te = some (.struct #[f0, f1, f2])) (ce : P.cellsOf te = 3)
    (o0 : f0.offset = 0) (o1 : f1.offset = 1) (o2 : f2.offset = 2) (c0 : P.cellsOf f0.type = 1) (c1 : P.cellsOf f1.type = 1) (c2 : P.cellsOf f2.type = 1) (k0 : P.underlying f0.type = some (.int .i64)) (k1 : P.underlying f1.type = some (.int .i64)) (k2 : P.underlying f2.type = some (.slice te))
    {fuel : Nat} {cs : List Value} {x : DataW H × List MemPlace} (h : DataW.trod enc P w base spare held fuel te cs = some x) : ∃ k n o len cap f, cs = [.int .i64 k, .int .i64 n, .slice o len cap] /\ Slc w o len f /\ wfI n /\ wfF f := by
 obtain ⟨xs, n', hn', _, hcl, hxl, hfx⟩ := DataW.trod_struct he h
 rw [ce] at hcl
 match cs, hcl with
 | [u0, u1, u2], _ =>
  have hxl3 : xs.length = 3 := by simpa using hxl
  have s0 := hfx 0 f0 rfl
  have s1 := hfx 1 f1 rfl
  have s2 := hfx 2 f2 rfl
  rw [c0, o0, show xs[0]? = some (xs[0]'(by omega)) from by simp [hxl3]] at s0
  rw [c1, o1, show xs[1]? = some (xs[1]'(by omega)) from by simp [hxl3]] at s1
  rw [c2, o2, show xs[2]? = some (xs[2]'(by omega)) from by simp [hxl3]] at s2
  obtain ⟨z0, hz0, _, hw0⟩ := DataW.trod_int k0 s0
  obtain ⟨z1, hz1, _, hw1⟩ := DataW.trod_int k1 s1
  obtain ⟨o, l, c, ps, hz2, hps, hwp⟩ := open_parts he ce o0 o1 o2 c0 c1 c2 k0 k1 k2 n' f2.type _ _ k2 s2
  simp at hz0 hz1 hz2
  exact ⟨z0, z1, o, l, c, ps, by rw [hz0, hz1, hz2], hps, hw1, hwp⟩
end
section
variable {H : Type} {enc : TypeId × Value -> H} {w : World} {base : Nat} {spare : Nat -> Bool} {held : Bool}
end
end
section
open Go.ChangeShapes Go.WideShapes Go.ChangeAt Go.RowKit
theorem At.atIn {w : World} : ∀ (f : Fo) (b off : Nat), At w b off f -> AtIn (fun k => k < w.heap.size) w b off f
 | .nil, _, _, _ => trivial
 | .cons k n ps r, b, off, h => by
  obtain ⟨h1, h2, ⟨o, l, c, h3, h4, h5, h6⟩, h7⟩ := h
  refine ⟨World.block_lt_of_cell? w _ h1, h1, h2, ⟨o, l, c, h3, h4, h5, fun hl => ?_⟩, At.atIn r b (off + 3) h7⟩
  obtain ⟨b', off', ho, ha⟩ := h6 hl
  exact ⟨b', off', ho, At.atIn ps b' off' ha⟩
theorem Slc.slcIn {w : World} {o : Option Addr} {len : Nat} {f : Fo} (h : Slc w o len f) : SlcIn (fun k => k < w.heap.size) w o len f := by
 refine ⟨h.1, h.2.1, fun hl => ?_⟩
 obtain ⟨b, off, ho, ha⟩ := h.2.2 hl
 exact ⟨b, off, ho, ha.atIn⟩
def OkO (h : Nd) : Prop := h.nm.size <= maxLen /\ wfI h.tn /\ wfF h.tp /\ wfI h.n
section
variable {H : Type} {enc : TypeId × Value -> H} {P : Program} {w : World} {base : Nat} {spare : Nat -> Bool} {held : Bool}
abbrev Low (w : World) : Nat -> Prop := fun k => k < w.heap.size
theorem tin_of_cells {b off len : Nat} (hb : Low w b) (one : ∀ i, i < len -> ∃ hd ps o1 l1 c1 o2 l2 c2, Cells9 w b (off + i * 9) hd o1 l1 c1 o2 l2 c2 /\ SlcIn (Low w) w o1 l1 hd.tp /\ TSlc (Low w) w o2 l2 ps /\ OkO hd /\ allT OkO ps) :
    ∀ m s, s + m = len -> ∃ f : To, f.length = m /\ TIn (Low w) w b (off + s * 9) f /\ allT OkO f
 | 0, s, _ => ⟨.nil, rfl, trivial, trivial⟩
 | m + 1, s, h => by
  obtain ⟨hd, ps, o1, l1, c1, o2, l2, c2, hc, hs1, hs2, hw, hwp⟩ := one s (by omega)
  obtain ⟨r, hr, ha, hwr⟩ := tin_of_cells hb one m (s + 1) (by omega)
  refine ⟨.cons hd ps r, by simp [To.length, hr], ⟨hb, ⟨o1, l1, c1, o2, l2, c2, hc, hs1, hs2.1, hs2.2.1, hs2.2.2⟩, ?_⟩, hw, hwp, hwr⟩
  rw [show off + s * 9 + 9 = off + (s + 1) * 9 from by omega]
  exact ha
theorem open_t9 {te : TypeId} {f0 f1 f2 f3 f4 f5 g0 g1 q0 q1 q2 : Field} (he : P.underlying te = some (.struct #[f0, f1, f2, f3, f4, f5])) (ce : P.cellsOf te = 9)
    (o0 : f0.offset = 0) (o1 : f1.offset = 1) (o2 : f2.offset = 2) (o3 : f3.offset = 3) (o4 : f4.offset = 6) (o5 : f5.offset = 7)
    (c0 : P.cellsOf f0.type = 1) (c1 : P.cellsOf f1.type = 1) (c2 : P.cellsOf f2.type = 1) (c3 : P.cellsOf f3.type = 3) (c4 : P.cellsOf f4.type = 1) (c5 : P.cellsOf f5.type = 2)
    (k0 : P.underlying f0.type = some (.int .i64)) (k1 : P.underlying f1.type = some .string) (k2 : P.underlying f2.type = some (.int .i64))
    (k5 : P.underlying f5.type = some (.struct #[g0, g1])) (p0 : g0.offset = 0) (p1 : g1.offset = 1) (d0 : P.cellsOf g0.type = 1) (d1 : P.cellsOf g1.type = 1) (m0 : P.underlying g0.type = some (.int .i64)) (m1 : P.underlying g1.type = some (.int .i64))
    (k3 : P.underlying f3.type = some (.struct #[q0, q1, q2])) (v0 : q0.offset = 0) (v1 : q1.offset = 1) (v2 : q2.offset = 2) (x0 : P.cellsOf q0.type = 1) (x1 : P.cellsOf q1.type = 1) (x2 : P.cellsOf q2.type = 1) (y0 : P.underlying q0.type = some (.int .i64)) (y1 : P.underlying q1.type = some (.int .i64)) (y2 : P.underlying q2.type = some (.slice f3.type))
    {n : Nat} (ih : ∀ m, m < n -> ∀ cs x, DataW.trod enc P w base spare held m f4.type cs = some x -> ∃ o len cap f, cs = [.slice o len cap] /\ TSlc (Low w) w o len f /\ allT OkO f)
    {cs : List Value} {x : DataW H × List MemPlace} (h : DataW.trod enc P w base spare held n te cs = some x) :
    ∃ hd ps o1 l1 c1 o2 l2 c2, cs = (cells9 hd o1 l1 c1 o2 l2 c2).toList /\ SlcIn (Low w) w o1 l1 hd.tp /\ TSlc (Low w) w o2 l2 ps /\ OkO hd /\ allT OkO ps := by
 obtain ⟨xs, n', hn', _, hcl, hxl, hfx⟩ := DataW.trod_struct he h
 rw [ce] at hcl
 match cs, hcl with
 | [u0, u1, u2, u3, u4, u5, u6, u7, u8], _ =>
  have hxl6 : xs.length = 6 := by simpa using hxl
  have s0 := hfx 0 f0 rfl
  have s1 := hfx 1 f1 rfl
  have s2 := hfx 2 f2 rfl
  have s3 := hfx 3 f3 rfl
  have s4 := hfx 4 f4 rfl
  have s5 := hfx 5 f5 rfl
  rw [c0, o0, show xs[0]? = some (xs[0]'(by omega)) from by simp [hxl6]] at s0
  rw [c1, o1, show xs[1]? = some (xs[1]'(by omega)) from by simp [hxl6]] at s1
  rw [c2, o2, show xs[2]? = some (xs[2]'(by omega)) from by simp [hxl6]] at s2
  rw [c3, o3, show xs[3]? = some (xs[3]'(by omega)) from by simp [hxl6]] at s3
  rw [c4, o4, show xs[4]? = some (xs[4]'(by omega)) from by simp [hxl6]] at s4
  rw [c5, o5, show xs[5]? = some (xs[5]'(by omega)) from by simp [hxl6]] at s5
  obtain ⟨z0, hz0, _, hw0⟩ := DataW.trod_int k0 s0
  obtain ⟨z1, hz1, _, hw1⟩ := DataW.trod_string k1 s1
  obtain ⟨z2, hz2, _, hw2⟩ := DataW.trod_int k2 s2
  obtain ⟨tk, tn, tO, tl, tc, tf, hz3, hts, hwt, hwf⟩ := open_agg k3 c3 v0 v1 v2 x0 x1 x2 y0 y1 y2 s3
  obtain ⟨o, l, c, ps, hz4, hps, hwp⟩ := ih n' (by omega) _ _ s4
  obtain ⟨ys, n2, hn2, _, hyc, hyl, hgy⟩ := DataW.trod_struct k5 s5
  have hyl2 : ys.length = 2 := by simpa using hyl
  have t0 := hgy 0 g0 rfl
  have t1 := hgy 1 g1 rfl
  rw [d0, p0, show ys[0]? = some (ys[0]'(by omega)) from by simp [hyl2]] at t0
  rw [d1, p1, show ys[1]? = some (ys[1]'(by omega)) from by simp [hyl2]] at t1
  obtain ⟨z7, hz7, _, _⟩ := DataW.trod_int m0 t0
  obtain ⟨z8, hz8, _, _⟩ := DataW.trod_int m1 t1
  simp at hz0 hz1 hz2 hz3 hz4 hz7 hz8
  obtain ⟨hz3, hz3', hz3''⟩ := hz3
  refine ⟨⟨z0, z1, z2, tk, tn, tf, z7, z8⟩, ps, tO, tl, tc, o, l, c, ?_, hts.slcIn, hps, ⟨hw1, hwt, hwf, hw2⟩, hwp⟩
  subst hz0 hz1 hz2 hz3 hz3' hz3'' hz4 hz7 hz8
  rfl
theorem open_tparts {te : TypeId} {f0 f1 f2 f3 f4 f5 g0 g1 q0 q1 q2 : Field} (he : P.underlying te = some (.struct #[f0, f1, f2, f3, f4, f5])) (ce : P.cellsOf te = 9)
    (o0 : f0.offset = 0) (o1 : f1.offset = 1) (o2 : f2.offset = 2) (o3 : f3.offset = 3) (o4 : f4.offset = 6) (o5 : f5.offset = 7)
    (c0 : P.cellsOf f0.type = 1) (c1 : P.cellsOf f1.type = 1) (c2 : P.cellsOf f2.type = 1) (c3 : P.cellsOf f3.type = 3) (c4 : P.cellsOf f4.type = 1) (c5 : P.cellsOf f5.type = 2)
    (k0 : P.underlying f0.type = some (.int .i64)) (k1 : P.underlying f1.type = some .string) (k2 : P.underlying f2.type = some (.int .i64)) (k4 : P.underlying f4.type = some (.slice te))
    (k5 : P.underlying f5.type = some (.struct #[g0, g1])) (p0 : g0.offset = 0) (p1 : g1.offset = 1) (d0 : P.cellsOf g0.type = 1) (d1 : P.cellsOf g1.type = 1) (m0 : P.underlying g0.type = some (.int .i64)) (m1 : P.underlying g1.type = some (.int .i64))
    (k3 : P.underlying f3.type = some (.struct #[q0, q1, q2])) (v0 : q0.offset = 0) (v1 : q1.offset = 1) (v2 : q2.offset = 2) (x0 : P.cellsOf q0.type = 1) (x1 : P.cellsOf q1.type = 1) (x2 : P.cellsOf q2.type = 1) (y0 : P.underlying q0.type = some (.int .i64)) (y1 : P.underlying q1.type = some (.int .i64)) (y2 : P.underlying q2.type = some (.slice f3.type)) :
    ∀ (fuel : Nat) (cs : List Value) (x : DataW H × List MemPlace), DataW.trod enc P w base spare held fuel f4.type cs = some x -> ∃ o len cap f, cs = [.slice o len cap] /\ TSlc (Low w) w o len f /\ allT OkO f := by
 intro fuel
 induction fuel using Nat.strongRecOn with
 | _ fuel ih =>
 intro cs x h
 rcases DataW.trod_slice k4 h with ⟨rfl, _⟩ | ⟨a, len, cap, elems, rest, n, hfu, rfl, _, _, hl, hm, hlen, hel, _⟩
 ·exact ⟨_, _, _, .nil, rfl, TSlc.nil _ _ _, trivial⟩
 ·have one : ∀ i, i < len -> ∃ hd ps o1 l1 c1 o2 l2 c2, (∀ j, j < 9 -> w.cell? (a.add (i * 9 + j)) = (cells9 hd o1 l1 c1 o2 l2 c2).toList[j]?) /\ SlcIn (Low w) w o1 l1 hd.tp /\ TSlc (Low w) w o2 l2 ps /\ OkO hd /\ allT OkO ps := by
    intro i hi
    have h1 := hel i hi
    rw [List.getElem?_eq_getElem (by omega)] at h1
    obtain ⟨cs', h2, h3⟩ := Option.bind_eq_some_iff.1 h1
    rw [ce] at h2
    obtain ⟨_, hcl, hcell⟩ := World.cells?_some h2
    obtain ⟨hd, ps, r1, l1, e1, r2, l2, e2, rfl, hs1, hs2, hw, hwp⟩ := open_t9 he ce o0 o1 o2 o3 o4 o5 c0 c1 c2 c3 c4 c5 k0 k1 k2 k5 p0 p1 d0 d1 m0 m1 k3 v0 v1 v2 x0 x1 x2 y0 y1 y2 (fun m hm cs x => ih m (by omega) cs x) h3
    refine ⟨hd, ps, r1, l1, e1, r2, l2, e2, ?_, hs1, hs2, hw, hwp⟩
    intro j hj
    rw [<- Deep.add_add]
    exact hcell j hj
  by_cases h0 : len = 0
  ·subst h0
   exact ⟨_, _, _, .nil, rfl, TSlc.nil _ _ _, trivial⟩
  ·obtain ⟨hd, ps, r1, l1, e1, r2, l2, e2, h1, _⟩ := one 0 (by omega)
   have h1' := h1 0 (by omega)
   rw [Nat.zero_mul] at h1'
   obtain ⟨b, off, rfl⟩ := spot_none (v := .int .i64 hd.k) h1'
   have hb : Low w b := World.block_lt_of_cell? w (⟨b, off + 0, none⟩ : Addr) (show w.cell? ⟨b, off + 0, none⟩ = some (.int .i64 hd.k) from h1')
   obtain ⟨f, hf, hA, hwf⟩ := tin_of_cells (b := b) (off := off) (len := len) (w := w) hb (fun i hi => by
    obtain ⟨hd, ps, r1, l1, e1, r2, l2, e2, h1, h4⟩ := one i hi
    refine ⟨hd, ps, r1, l1, e1, r2, l2, e2, ?_, h4⟩
    have g := fun j hj => h1 j hj
    simp only [Addr.add_lit] at g
    exact ⟨g 0 (by omega), g 1 (by omega), g 2 (by omega), g 3 (by omega), g 4 (by omega), g 5 (by omega), g 6 (by omega), g 7 (by omega), g 8 (by omega)⟩) len 0 (by omega)
   rw [Nat.zero_mul, Nat.add_zero] at hA
   exact ⟨_, _, _, f, rfl, ⟨hf.symm, by omega, fun _ => ⟨b, off, rfl, hA⟩⟩, hwf⟩
end
section
variable {H : Type} {enc : TypeId × Value -> H} {w : World} {base : Nat} {spare : Nat -> Bool} {held : Bool}
theorem open_term {v : Value} {d : DataW H} {p : List MemPlace} (hv : ∃ cs, v = .agg cs /\ cs.size = Tryz.prog.cellsOf 29) (h : DataW.Trod enc Tryz.prog w base spare held 29 v d p) : ∃ hd ps o1 l1 c1 o2 l2 c2, v = tmv hd o1 l1 c1 o2 l2 c2 /\ SlcIn (Low w) w o1 l1 hd.tp /\ TSlc (Low w) w o2 l2 ps /\ OkO hd /\ allT OkO ps := by
 obtain ⟨cs, rfl, _⟩ := hv
 obtain ⟨fuel, hf⟩ := h
 obtain ⟨hd, ps, o1, l1, c1, o2, l2, c2, he, h1, h2, h3, h4⟩ := open_t9 Tryz.underlying29 (by kernel_rfl) rfl rfl rfl rfl rfl rfl (by kernel_rfl) (by kernel_rfl) (by kernel_rfl) (by kernel_rfl) (by kernel_rfl) (by kernel_rfl) Tryz.underlying3 Tryz.underlying9 Tryz.underlying3 Tryz.underlying27 rfl rfl (by kernel_rfl) (by kernel_rfl) Tryz.underlying3 Tryz.underlying3 Tryz.underlying24 rfl rfl rfl (by kernel_rfl) (by kernel_rfl) (by kernel_rfl) Tryz.underlying3 Tryz.underlying3 Tryz.underlying22
  (fun m _ cs x hh => open_tparts Tryz.underlying29 (by kernel_rfl) rfl rfl rfl rfl rfl rfl (by kernel_rfl) (by kernel_rfl) (by kernel_rfl) (by kernel_rfl) (by kernel_rfl) (by kernel_rfl) Tryz.underlying3 Tryz.underlying9 Tryz.underlying3 Tryz.underlying25 Tryz.underlying27 rfl rfl (by kernel_rfl) (by kernel_rfl) Tryz.underlying3 Tryz.underlying3 Tryz.underlying24 rfl rfl rfl (by kernel_rfl) (by kernel_rfl) (by kernel_rfl) Tryz.underlying3 Tryz.underlying3 Tryz.underlying22 m cs x hh) hf
 refine ⟨hd, ps, o1, l1, c1, o2, l2, c2, ?_, h1, h2, h3, h4⟩
 unfold tmv
 congr 1
 apply Array.toList_inj.1
 simpa [Value.cells] using he
end
end
section
open Go.RowKit Go.Shelf
namespace Sc
theorem sc_allT_and {G H : Nd -> Prop} : ∀ f : To, allT G f -> allT H f -> allT (fun h => G h /\ H h) f
 | .nil, _, _ => trivial
 | .cons _ ps r, e, e' => ⟨⟨e.1, e'.1⟩, sc_allT_and ps e.2.1 e'.2.1, sc_allT_and r e.2.2 e'.2.2⟩
structure Small (h : Nd) (ps : To) : Prop where
 good : allT GoodH (.cons h ps .nil)
 right : GoodR h /\ allT GoodR ps
 size : ps.size <= 199
theorem small_of {h : Nd} {ps : To} (hg : greatTm h ps = false) (ho : OkO h) (hop : allT OkO ps) : Small h ps := by
 have ga := greatTm_no hg
 have ba := bigH_no ga.1
 have hall := sc_allT_and ps hop (allT_mono (fun h hh => bigH_no hh) _ ga.2.1)
 exact ⟨⟨⟨by omega, by omega, ho.2.1, ho.2.2.1⟩, allT_mono (fun h hh => ⟨by have := hh.2.1; omega, by have := hh.2.2; omega, hh.1.2.1, hh.1.2.2.1⟩) _ hall, trivial⟩,
  ⟨⟨by omega, by omega, ho.2.2.2⟩, allT_mono (fun h hh => ⟨by have := hh.2.1; omega, by have := hh.2.2; omega, hh.1.2.2.2⟩) _ hall⟩, by omega⟩
theorem great8_any (h : Nd) (ps : To) (w W : World) (o1 : Option Addr) (l1 c1 : Nat) (o2 : Option Addr) (l2 c2 : Nat) (h1 : SlcIn (Low w) w o1 l1 h.tp) (h2 : TSlc (Low w) w o2 l2 ps) (ho : OkO h) (hop : allT OkO ps) (hq : Quiet0 w W) :
    Calls Tryz.prog 24 #[tmv h o1 l1 c1 o2 l2 c2] W fun e w' => e = .returned (.bool (greatTm h ps)) /\ Quiet0 W w' :=
 greatTm_any h ps W (Low w) o1 l1 c1 o2 l2 c2 (h1.stay hq) (h2.stay hq) (by have := ho.1; unfold maxLen at this; omega) (allT_mono (fun h hh => by have := hh.1; unfold maxLen at this; omega) _ hop)
end Sc
end
section
open Go.RowKit
def ListRow (B : Nat) (W : World) (o : Option Addr) (n c : Nat) (xs : List Value) : Prop :=
 W.ownsRow 0 29 9 (.slice o n c) n xs /\ (∀ u ∈ xs, u.oneCell' = true) /\ ∀ k, (Value.slice o n c).ownBlock = some k -> B <= k
theorem ListRow.stay {B : Nat} {W W' : World} {o : Option Addr} {n c : Nat} {xs : List Value} (h : ListRow B W o n c xs) (hq : Quiet0 W W') : ListRow B W' o n c xs :=
 ⟨ownsRow_fr h.1 hq (fun _ _ h => h), h.2⟩
def RListT (h : Nd) (ps : To) : Prop := ∀ (w : World) (R : Nat -> Prop) (o1 : Option Addr) (l1 c1 : Nat) (o2 : Option Addr) (l2 c2 : Nat), TSlc R w o2 l2 ps -> ps.size <= 100000 ->
 Calls Tryz.prog 25 #[tmv h o1 l1 c1 o2 l2 c2] w fun e w' => ∃ o c xs, e = .returned (.slice o (ps.size + 1) c) /\ ListRow w.heap.size w' o (ps.size + 1) c xs /\ Quiet0 w w'
theorem refListT_any (h : Nd) (ps : To) : RListT h ps := by
 refine To.ind' (T := RListT) ?_ h ps
 intro h ps ih w R o1 l1 c1 o2 l2 c2 hs hsz
 have HS := hid hs
 have IH := hid ih
 have hl := hs.1
 have hll := To.length_le ps
 rw [<- hl] at hll
 have HL := hid hl
 clear hs ih hl
 unfold tmv
 go_enter Tryz.func25, Tryz.ntmps25
 go_wp2_with fail
 obtain ⟨W0, hW0⟩ : ∃ W0, W0 = w.alloc (.cells (cells9 h o1 l1 c1 o2 l2 c2) 29) := ⟨_, rfl⟩
 have HB : Hid (∀ W, Quiet0 W0 W -> W.cell? ⟨w.heap.size, 6, none⟩ = some (.slice o2 l2 c2)) := by
  intro W hq; rw [hW0] at hq; exact (box9 w h o1 l1 c1 o2 l2 c2 _ W hq).2.2.2.2.2.2.1
 have HQ0 : Hid (Quiet0 w W0) := by rw [hW0]; exact Quiet0.alloc _ _
 have hz0 : W0.heap.size = w.heap.size + 1 := by rw [hW0]; simp
 obtain ⟨W1, hW1⟩ : ∃ W1, W1 = W0.alloc (.cells (cells9 h o1 l1 c1 o2 l2 c2) 29) := ⟨_, rfl⟩
 have hnew := heap_alloc_new W0 (.cells (cells9 h o1 l1 c1 o2 l2 c2) 29)
 rw [<- hW1, hz0] at hnew
 have HQ1 : Hid (Quiet0 W0 W1) := by rw [hW1]; exact Quiet0.alloc _ _
 have HROW : Hid (ListRow (w.heap.size + 1) W1 (some ⟨w.heap.size + 1, 0, none⟩) 1 1 (cells9 h o1 l1 c1 o2 l2 c2).toList) := by
  refine ⟨⟨rfl, .inr ⟨w.heap.size + 1, 1, cells9 h o1 l1 c1 o2 l2 c2, rfl, Nat.zero_le _, hnew, Nat.le_refl _, by decide, rfl, rfl⟩⟩, ?_, ?_⟩
  ·simp [Value.oneCell']
  ·intro k hk
   simp [Value.ownBlock] at hk
   omega
 change Code.wp _ _ _ _ ((w.alloc (.cells (cells9 h o1 l1 c1 o2 l2 c2) 29)).alloc (.cells (cells9 h o1 l1 c1 o2 l2 c2) 29))
 rw [<- hW0, <- hW1]
 clear hW0 hW1 hnew
 have HZ := hid hz0
 clear hz0
 generalize hnb : w.heap.size = nb at *
 have HNB := hid hnb
 clear hnb
 go_loopw [3, 4] (fun s t wr => ∃ (i n c : Nat) (o : Option Addr) (xs : List Value), t = .int .i64 i /\ s = .slice o n c /\ i <= l2 /\ n + (ps.drop i).size = ps.size + 1 /\ ListRow (nb + 1) wr o n c xs /\ Quiet0 W0 wr) (fun _ t _ => l2 - (intOf t).toNat)
 case atStart => exact ⟨0, 1, 1, _, _, rfl, rfl, Nat.zero_le _, by rw [To.drop_zero]; omega, HROW.out, HQ1.out⟩
 case round =>
  obtain ⟨i, n, c, o, xs, rfl, rfl, hi, hn, hrow, hq⟩ := hrel
  have HN := hid hn
  have HR := hid hrow
  have HQ := hid hq
  have cc := HB.out wr hq
  have hnb : n <= 100001 := by omega
  clear hn hrow hq
  by_cases hlt : i < l2
  ·have hlt' : (i : Int) < l2 := by omega
   obtain ⟨b, off, hd, qs, p1, m1, d1, p2, m2, d2, rfl, hd1, hg, hRb, ⟨e0, e1, e2, e3, e4, e5, e6, e7, e8⟩, hs1, ht1⟩ := (HS.out.stay (HQ0.out.trans HQ.out)).nth hlt
   have hsq := To.size_get ps i hd qs hg
   have HC := hid (IH.out i hd qs hg wr R p1 m1 d1 p2 m2 d2 ht1 (by omega))
   have HD : Hid (n + (qs.size + 1) + (ps.drop (i + 1)).size = ps.size + 1) := by
    have := HN.out; rw [hd1] at this; simp only [To.size] at this; show _ = _; omega
   have hqz : qs.size + 1 <= 100001 := by omega
   unfold tmv at HC
   clear hd1 hg hs1 ht1 hsq hRb
   go_wp2_with fail
   refine HC.out.mono ?_; rintro e w1 ⟨q, d, ys, rfl, hrow1, hq1⟩
   have HQ1' := hid (HQ.out.trans hq1)
   have HR1 := hid (HR.out.stay hq1)
   have HR2 := hid hrow1
   have HBZ : Hid (nb + 1 <= w1.heap.size) := by have := HQ1'.out.size; have := HZ.out; show _ <= _; omega
   have HNW : Hid (∀ j u, ys[j]? = some u -> ∃ a, q = some a /\ w1.cell? (a.add j) = some u) := by
    intro j u hu
    rcases hrow1.1.2 with ⟨_, h2⟩ | ⟨g, cap', cur, he, _⟩
    ·omega
    ·injection he with h1 h2 h3
     subst h1
     exact ⟨_, rfl, hrow1.1.cells rfl j u hu⟩
   clear hq1 hrow1 cc
   go_wp2_with (at_builtin; (refine wpList_append_row w1 rfl (.tmp 14) (.tmp 20) 25 rfl 29 _ 9 112 elemTm (.slice o n c) n xs rfl HR1.out.1 q (qs.size + 1) d ys rfl HR2.out.1.1 HNW.out HR2.out.2.1 (by unfold maxLen; omega) (by omega) ?_); intro o3 c3 w3 ho hf hob hnil)
   have HR3 : Hid (ListRow (nb + 1) w3 o3 (n + (qs.size + 1)) c3 (xs ++ ys)) := by
    refine ⟨ho, ?_, ?_⟩
    ·intro u hu
     rcases List.mem_append.1 hu with h | h
     ·exact HR1.out.2.1 u h
     ·exact HR2.out.2.1 u h
    ·intro k hk
     rcases hob with h | h
     ·exact HR1.out.2.2 k (by rw [<- h]; exact hk)
     ·rw [h] at hk; cases hk; exact HBZ.out
   have HQ3 : Hid (Quiet0 W0 w3) := Fr.trans' HQ1'.out hf (fun k hk hs => by have := HR1.out.2.2 k hs; have := HZ.out; omega)
   clear ho hf hob hnil
   go_wp2_with fail
   go_roundw
   case rel => exact ⟨i + 1, n + (qs.size + 1), c3, o3, xs ++ ys, by go_num, rfl, by omega, HD.out, HR3.out, HQ3.out⟩
   case measure => simp [intOf]; omega
  ·have hlt' : ¬ (i : Int) < l2 := by omega
   have HE : Hid (n = ps.size + 1) := by
    have := HN.out
    rw [To.drop_end ps i (by have := HL.out; omega)] at this
    show _ = _
    simpa [To.size] using this
   go_wp2_with fail
   go_ret
   rw [HNB.out, <- HE.out]
   exact ⟨o, c, rfl, ⟨xs, HR.out.1, HR.out.2.1, fun k hk => by have := HR.out.2.2 k hk; omega⟩, HQ0.out.trans HQ.out⟩
end
section
open Go.RowKit Go.Shelf
namespace Cn
def great17 (h : Nd) (ps : To) : Bool := greatTm h ps || decide (60 < ps.size + 1)
theorem great17_any (h : Nd) (ps : To) (w W : World) (o1 : Option Addr) (l1 c1 : Nat) (o2 : Option Addr) (l2 c2 : Nat) (h1 : SlcIn (Low w) w o1 l1 h.tp) (h2 : TSlc (Low w) w o2 l2 ps) (ho : OkO h) (hop : allT OkO ps) (hq : Quiet0 w W) :
    Calls Tryz.prog 8 #[tmv h o1 l1 c1 o2 l2 c2] W fun e w' => e = .returned (.bool (great17 h ps)) /\ Quiet0 W w' := by
 obtain ⟨W0, hW0⟩ : ∃ W0, W0 = W.alloc (.cells (cells9 h o1 l1 c1 o2 l2 c2) 29) := ⟨_, rfl⟩
 have hq0 : Quiet0 W W0 := by rw [hW0]; exact Quiet0.alloc _ _
 have HQ0 := hid hq0
 have HB : Hid (∀ V, Quiet0 W0 V -> (V.cell? ⟨W.heap.size, 0, none⟩ = some (.int .i64 h.k) /\ V.cell? ⟨W.heap.size, 1, none⟩ = some (.string h.nm) /\ V.cell? ⟨W.heap.size, 2, none⟩ = some (.int .i64 h.n) /\ V.cell? ⟨W.heap.size, 3, none⟩ = some (.int .i64 h.tk) /\ V.cell? ⟨W.heap.size, 4, none⟩ = some (.int .i64 h.tn) /\ V.cell? ⟨W.heap.size, 5, none⟩ = some (.slice o1 l1 c1) /\ V.cell? ⟨W.heap.size, 6, none⟩ = some (.slice o2 l2 c2) /\ V.cell? ⟨W.heap.size, 7, none⟩ = some (.int .i64 h.fr) /\ V.cell? ⟨W.heap.size, 8, none⟩ = some (.int .i64 h.en))) := by
  intro V hq; rw [hW0] at hq; exact box9 W h o1 l1 c1 o2 l2 c2 _ V hq
 have HG : Hid (∀ V, Quiet0 W0 V -> Calls Tryz.prog 24 #[tmv h o1 l1 c1 o2 l2 c2] V fun e w' => e = .returned (.bool (greatTm h ps)) /\ Quiet0 V w') := fun V hv => Sc.great8_any h ps w V o1 l1 c1 o2 l2 c2 h1 h2 ho hop (hq.trans (hq0.trans hv))
 have HL : Hid (greatTm h ps = false -> ∀ V, Quiet0 W0 V -> Calls Tryz.prog 25 #[tmv h o1 l1 c1 o2 l2 c2] V fun e w' => ∃ o c xs, e = .returned (.slice o (ps.size + 1) c) /\ ListRow V.heap.size w' o (ps.size + 1) c xs /\ Quiet0 V w') := fun hg V hv => refListT_any h ps V _ o1 l1 c1 o2 l2 c2 (h2.stay (hq.trans (hq0.trans hv))) (by have := (Sc.small_of hg ho hop).size; omega)
 clear h1 h2 ho hop hq0
 unfold tmv at HG HL ⊢
 unfold great17
 generalize greatTm h ps = g at *
 go_enter Tryz.func8, Tryz.ntmps8
 go_upto_region 1 with fail
 rw [<- hW0]
 clear hW0
 generalize hBB : W.heap.size = B at *
 clear hBB
 obtain ⟨a0, a1, a2, a3, a4, a5, a6, a7, a8⟩ := HB.out W0 (Quiet0.refl _)
 go_wp2_with fail
 refine (HG.out _ (Quiet0.refl _)).mono ?_; rintro x w1 ⟨rfl, hq1⟩
 clear a0 a1 a2 a3 a4 a5 a6 a7 a8
 obtain ⟨a0, a1, a2, a3, a4, a5, a6, a7, a8⟩ := HB.out w1 hq1
 have HQ1 := hid hq1
 clear hq1
 cases g
 case true =>
  go_wp2_with fail
  go_ret
  exact ⟨by simp, HQ0.out.trans HQ1.out⟩
 case false =>
  go_wp2_with fail
  refine (HL.out (by trivial) _ HQ1.out).mono ?_; rintro x w2 ⟨o, c, xs, rfl, _, hq2⟩
  have HQ2 := hid hq2
  clear hq2
  go_wp2_with fail
  go_ret
  refine ⟨?_, HQ0.out.trans (HQ1.out.trans HQ2.out)⟩
  first | rfl | (congr 2; simp; omega) | (simp; omega)
theorem great17_no {h : Nd} {ps : To} (hg : great17 h ps = false) : greatTm h ps = false := by
 unfold great17 at hg
 cases h1 : greatTm h ps
 ·rfl
 ·rw [h1] at hg; exact hg
end Cn
end
section
open Go.RowKit Go.Shelf
namespace Em
def PreM (h : Nd) (ps : To) (w : World) (o1 : Option Addr) (l1 : Nat) (o2 : Option Addr) (l2 : Nat) : Prop := SlcIn (Low w) w o1 l1 h.tp /\ TSlc (Low w) w o2 l2 ps /\ OkO h /\ allT OkO ps /\ Lx.Spaces w
def FrQ (W : World) (n : Nat) (e : Ending) (w' : World) : Prop := ∃ o c, e = .returned (.slice o n c) /\ Quiet0 W w'
theorem free_c {h : Nd} {ps : To} {w W : World} {o1 : Option Addr} {l1 c1 : Nat} {o2 : Option Addr} {l2 c2 : Nat} (hp : PreM h ps w o1 l1 o2 l2) (hq : Quiet0 w W) (hg : Cn.great17 h ps = false) (hr : Sc.RT h ps = true) : Calls Tryz.prog 16 #[tmv h o1 l1 c1 o2 l2 c2, .slice none 0 0] W (FrQ W (Sc.free1 [] h ps).length) := by
 have hsm := Sc.small_of (Cn.great17_no hg) hp.2.2.1 hp.2.2.2.1
 have hok := Sc.RT_ok hr
 refine (Sc.refFree_any h ps W _ (fun _ => True) o1 l1 c1 o2 l2 c2 none 0 0 [] (hp.2.1.stay hq) (Sc.NmIn.nil _ _ _) (by have := hsm.size; omega) hok.1 (Sc.okF_allV _ hok.2.1)).mono ?_
 rintro e w' ⟨o, c, xs, rfl, _, h3⟩
 exact ⟨o, c, rfl, h3⟩
theorem of_c {h : Nd} {ps : To} {w W : World} {o1 : Option Addr} {l1 c1 : Nat} {o2 : Option Addr} {l2 c2 : Nat} (hp : PreM h ps w o1 l1 o2 l2) (hq : Quiet0 w W) (hg : Cn.great17 h ps = false) (most : Int) : Calls Tryz.prog 19 #[tmv h o1 l1 c1 o2 l2 c2, .int .i64 most] W (OfQ W (ofN h ps most)) := by
 have hsm := Sc.small_of (Cn.great17_no hg) hp.2.2.1 hp.2.2.2.1
 exact of_any h ps most W _ o1 l1 c1 o2 l2 c2 (hp.1.stay hq) (hp.2.1.stay hq) (by have := hsm.size; omega) hsm.good (hp.2.2.2.2.stay hq)
theorem right_c {h : Nd} {ps : To} {w W : World} {o1 : Option Addr} {l1 c1 : Nat} {o2 : Option Addr} {l2 c2 : Nat} (hp : PreM h ps w o1 l1 o2 l2) (hq : Quiet0 w W) (hg : Cn.great17 h ps = false) : Calls Tryz.prog 13 #[tmv h o1 l1 c1 o2 l2 c2] W fun e w' => e = .returned (.bool (Sc.RT h ps)) /\ Quiet0 W w' := by
 have hsm := Sc.small_of (Cn.great17_no hg) hp.2.2.1 hp.2.2.2.1
 exact refRightT_any h ps W _ o1 l1 c1 o2 l2 c2 (hp.1.stay hq) (hp.2.1.stay hq) hsm.right.1 hsm.right.2
theorem eqsMany_all (h : Nd) (ps : To) (w : World) (o1 : Option Addr) (l1 c1 : Nat) (o2 : Option Addr) (l2 c2 : Nat) (hp : PreM h ps w o1 l1 o2 l2) :
    Calls Tryz.prog 5 #[tmv h o1 l1 c1 o2 l2 c2] w fun e w' => e = .returned (.bool true) /\ Quiet0 w w' := by
 obtain ⟨W0, hW0⟩ : ∃ W0, W0 = w.alloc (.cells (cells9 h o1 l1 c1 o2 l2 c2) 29) := ⟨_, rfl⟩
 have hq0 : Quiet0 w W0 := by rw [hW0]; exact Quiet0.alloc _ _
 have HQ0 := hid hq0
 have HB : Hid (∀ W, Quiet0 W0 W -> (W.cell? ⟨w.heap.size, 0, none⟩ = some (.int .i64 h.k) /\ W.cell? ⟨w.heap.size, 1, none⟩ = some (.string h.nm) /\ W.cell? ⟨w.heap.size, 2, none⟩ = some (.int .i64 h.n) /\ W.cell? ⟨w.heap.size, 3, none⟩ = some (.int .i64 h.tk) /\ W.cell? ⟨w.heap.size, 4, none⟩ = some (.int .i64 h.tn) /\ W.cell? ⟨w.heap.size, 5, none⟩ = some (.slice o1 l1 c1) /\ W.cell? ⟨w.heap.size, 6, none⟩ = some (.slice o2 l2 c2) /\ W.cell? ⟨w.heap.size, 7, none⟩ = some (.int .i64 h.fr) /\ W.cell? ⟨w.heap.size, 8, none⟩ = some (.int .i64 h.en))) := by
  intro W hq; rw [hW0] at hq; exact box9 w h o1 l1 c1 o2 l2 c2 _ W hq
 have HG : Hid (∀ W, Quiet0 W0 W -> Calls Tryz.prog 8 #[tmv h o1 l1 c1 o2 l2 c2] W fun e w' => e = .returned (.bool (Cn.great17 h ps)) /\ Quiet0 W w') := fun W hq => Cn.great17_any h ps w W o1 l1 c1 o2 l2 c2 hp.1 hp.2.1 hp.2.2.1 hp.2.2.2.1 (hq0.trans hq)
 have HA : Hid (∀ W, Quiet0 W0 W -> Calls Tryz.prog 18 #[] W fun e w' => e = .returned (.bool true) /\ Quiet0 W w') := fun W hq => awake17_any W (hp.2.2.2.2.stay (hq0.trans hq))
 have HR : Hid (Cn.great17 h ps = false -> ∀ W, Quiet0 W0 W -> Calls Tryz.prog 13 #[tmv h o1 l1 c1 o2 l2 c2] W fun e w' => e = .returned (.bool (Sc.RT h ps)) /\ Quiet0 W w') := fun hg W hq => right_c hp (hq0.trans hq) hg
 have HF : Hid (Cn.great17 h ps = false -> Sc.RT h ps = true -> ∀ W, Quiet0 W0 W -> Calls Tryz.prog 16 #[tmv h o1 l1 c1 o2 l2 c2, .slice none 0 0] W (FrQ W (Sc.free1 [] h ps).length)) := fun hg hr W hq => free_c hp (hq0.trans hq) hg hr
 have HO : Hid (Cn.great17 h ps = false -> ∀ (most : Int) W, Quiet0 W0 W -> Calls Tryz.prog 19 #[tmv h o1 l1 c1 o2 l2 c2, .int .i64 most] W (OfQ W (ofN h ps most))) := fun hg most W hq => of_c hp (hq0.trans hq) hg most
 have HP : Hid (Sc.RT h ps = true -> Sc.free1 [] h ps = [] -> ofN h ps 300 = ([], 6) ∨ ∃ l, ofN h ps 300 = (l, 0) /\ 1 <= l.length /\ l.length <= 300 /\ ofN h ps (l.length : Nat) = (l, 0) /\ ofN h ps (((l.length : Nat) : Int) - 1) = ([], 6)) := fun hr hf => ofN_300 (rsv_ok hr hf)
 clear hp hq0
 unfold tmv at HG HR HF HO ⊢
 generalize Cn.great17 h ps = g at *
 generalize Sc.RT h ps = r at *
 generalize Sc.free1 [] h ps = fl at *
 generalize ofN h ps = on at *
 go_enter Tryz.func5, Tryz.ntmps5
 go_upto_region 1 with fail
 rw [<- hW0]
 clear hW0
 generalize hBB : w.heap.size = B at *
 clear hBB
 obtain ⟨a0, a1, a2, a3, a4, a5, a6, a7, a8⟩ := HB.out W0 (Quiet0.refl _)
 go_wp2_with fail
 refine (HG.out _ (Quiet0.refl _)).mono ?_; rintro x w1 ⟨rfl, hq1⟩
 clear a0 a1 a2 a3 a4 a5 a6 a7 a8
 obtain ⟨a0, a1, a2, a3, a4, a5, a6, a7, a8⟩ := HB.out w1 hq1
 have HQ1 := hid hq1
 clear hq1
 cases g
 case true =>
  go_wp2_with fail
  refine (HA.out _ HQ1.out).mono ?_; rintro x w2 ⟨rfl, hq2⟩
  have HQ2 := hid hq2
  clear hq2
  go_wp2_with fail
  go_ret
  exact ⟨rfl, HQ0.out.trans (HQ1.out.trans HQ2.out)⟩
 case false =>
  go_wp2_with fail
  refine (HR.out (by trivial) _ HQ1.out).mono ?_; rintro x w2 ⟨rfl, hq2⟩
  have HQ2 := hid (HQ1.out.trans hq2)
  clear hq2 a0 a1 a2 a3 a4 a5 a6 a7 a8
  obtain ⟨a0, a1, a2, a3, a4, a5, a6, a7, a8⟩ := HB.out w2 HQ2.out
  cases r
  case false =>
   go_wp2_with fail
   refine (HA.out _ HQ2.out).mono ?_; rintro x w3 ⟨rfl, hq3⟩
   have HQ3 := hid hq3
   clear hq3
   go_wp2_with fail
   go_ret
   exact ⟨rfl, HQ0.out.trans (HQ2.out.trans HQ3.out)⟩
  case true =>
   go_wp2_with fail
   refine (HF.out (by trivial) (by trivial) _ HQ2.out).mono ?_; rintro x w3 ⟨fo, fc, rfl, hq3⟩
   have HQ3 := hid (HQ2.out.trans hq3)
   clear hq3 a0 a1 a2 a3 a4 a5 a6 a7 a8
   obtain ⟨a0, a1, a2, a3, a4, a5, a6, a7, a8⟩ := HB.out w3 HQ3.out
   cases hfl : fl
   case cons f0 fr =>
    have hlen : (0 : Int) < ((f0 :: fr).length : Nat) := by simp only [List.length_cons]; omega
    generalize (f0 :: fr).length = fn at *
    have hlen2 : 0 < fn := by omega
    go_wp2_with fail
    refine (HA.out _ HQ3.out).mono ?_; rintro x w4 ⟨rfl, hq4⟩
    have HQ4 := hid hq4
    clear hq4
    go_wp2_with fail
    go_ret
    exact ⟨rfl, HQ0.out.trans (HQ3.out.trans HQ4.out)⟩
   case nil =>
    have HP2 := hid (HP.out (by trivial) hfl)
    rw [List.length_nil]
    go_wp2_with fail
    refine (HO.out (by trivial) 300 _ HQ3.out).mono ?_; rintro x w4 ⟨p4, c4, rfl, hc4, he4, hq4⟩
    have HQ4 := hid (HQ3.out.trans hq4)
    have HE4 := hid he4
    clear hq4 he4 a0 a1 a2 a3 a4 a5 a6 a7 a8
    obtain ⟨a0, a1, a2, a3, a4, a5, a6, a7, a8⟩ := HB.out w4 HQ4.out
    rcases HP2.out with hp6 | ⟨l, hp0, hl1, hl2, hp1, hp2⟩
    ·rw [hp6]
     go_wp2_with fail
     refine (HA.out _ HQ4.out).mono ?_; rintro x w5 ⟨rfl, hq5⟩
     have HQ5 := hid hq5
     clear hq5
     go_wp2_with fail
     go_ret
     exact ⟨rfl, HQ0.out.trans (HQ4.out.trans HQ5.out)⟩
    ·rw [hp0] at HE4 ⊢
     dsimp only at HE4 ⊢
     have HO1 := hid (HO.out (by trivial) ((l.length : Nat) : Int))
     have HO2 := hid (HO.out (by trivial) (((l.length : Nat) : Int) - 1))
     have HSM : Hid (∀ W pa ca pb cb, EqsAt W pa l -> EqsAt W pb l -> Calls Tryz.prog 21 #[.slice pa l.length ca, .slice pb l.length cb] W fun e w' => e = .returned (.bool true) /\ Quiet0 W w') := fun W pa ca pb cb k1 k2 => rsame_any l W pa ca pb cb k1 k2
     rw [hp1] at HO1
     rw [hp2] at HO2
     unfold OfQ at HO1 HO2
     dsimp only at HO1 HO2
     clear HO hp0 hp1 hp2 HP HP2
     generalize l.length = ln at *
     have hw : IntKind.i64.wrap ((ln : Int) - 1) = (ln : Int) - 1 := IntWalk.i64_in _ (by omega)
     go_wp2_with fail
     refine (HO1.out _ HQ4.out).mono ?_; rintro x w5 ⟨p5, c5, rfl, hc5, he5, hq5⟩
     have HQ5 := hid (HQ4.out.trans hq5)
     have HE5 := hid he5
     have HE45 := hid (HE4.out.stay hq5)
     clear hq5 he5 a0 a1 a2 a3 a4 a5 a6 a7 a8
     obtain ⟨a0, a1, a2, a3, a4, a5, a6, a7, a8⟩ := HB.out w5 HQ5.out
     go_wp2_with fail
     refine (HO2.out _ HQ5.out).mono ?_; rintro x w6 ⟨p6, c6, rfl, hc6, _, hq6⟩
     have HQ6 := hid (HQ5.out.trans hq6)
     have HE6 := hid (HE5.out.stay hq6)
     have HE46 := hid (HE45.out.stay hq6)
     clear hq6 a0 a1 a2 a3 a4 a5 a6 a7 a8
     go_wp2_with fail
     refine (HSM.out w6 p4 c4 p5 c5 HE46.out HE6.out).mono ?_; rintro x w7 ⟨rfl, hq7⟩
     have HQ7 := hid (HQ6.out.trans hq7)
     clear hq7
     go_wp2_with fail
     refine (HA.out _ HQ7.out).mono ?_; rintro x w8 ⟨rfl, hq8⟩
     have HQ8 := hid hq8
     clear hq8
     go_wp2_with fail
     go_ret
     exact ⟨rfl, HQ0.out.trans (HQ7.out.trans HQ8.out)⟩
end Em
end
section
open Go.ChangeShapes Go.WideShapes Go.ChangeAt Go.RowKit
def doorSteps : Nat := 48
def laidL : List (String × DataW Unit) := [("unicode.White_Space", Rows.laid_unicode_White_Space), ("strings.asciiSpace", Rows.laid_strings_asciiSpace)]
theorem ascii_data : (Rows.laid_strings_asciiSpace : DataW Unit) = Lib.tabData .u8 Lib.asciiSpaceTab := by rfl
theorem door_met (os : Os) (args : Array Value) : laidMetH Tryz.prog laidL ((World.doorLaid Tryz.prog doorSteps os).forCall (fun _ _ => 0) ⟨#[], args, []⟩).memory :=
 laidMetH_of_parts3 (fuel := 8) (laidMet_of_run' 8 (by kernel_rfl) (by kernel_rfl)) (by kernel_rfl) (by kernel_rfl)
theorem spaces_of_laid {W : World} (h : laidMetH Tryz.prog laidL W) : Lx.Spaces W := by
 rw [MakeChecks.laidMetH_plain _ _ _ (by kernel_rfl)] at h
 have h2 := laidMet.tail h
 rw [ascii_data] at h2
 exact Lib.tabIs_of_head (g := 0) (n := 256) (by kernel_rfl) (by kernel_rfl) (t := 163) (e := 5) Tryz.underlying163 Tryz.underlying5 (by kernel_rfl) (by kernel_rfl) h2
end
end Go.Proofs.YtcninopmelmajaaGreatDoor
