/-
  Texts laid together (ScRRen, EqNames, ScOpenS): laws and walks, with their conditions.
-/
import Derived.Test.YtcninopmelmajaaGreatDoorMN25
set_option maxHeartbeats 8000000
set_option maxRecDepth 1000000
namespace Go.Proofs.YtcninopmelmajaaGreatDoor
open Go.Lib (hid)
section
open Go.RowKit Go.Shelf
namespace Sc
def RenQ (R : Nat -> Prop) (w : World) (g : Nd) (gs : To) (o1 : Option Addr) (l1 c1 l2 : Nat) (x : Ending) (w' : World) : Prop :=
 ∃ (o2 : Option Addr) (c2 : Nat), x = .returned (tmv g o1 l1 c1 o2 l2 c2) /\ SlcIn (fun k => R k ∨ w.heap.size <= k) w' o1 l1 g.tp /\ TSlc (fun k => R k ∨ w.heap.size <= k) w' o2 l2 gs /\ Quiet0 w w'
theorem renq_fin {R : Nat -> Prop} {w W0 w3 : World} {g : Nd} {gs : To} {o1 : Option Addr} {l1 c1 l2 : Nat} {o2 : Option Addr} {c2 B : Nat} (hB : w.heap.size = B) (hz : W0.heap.size = B + 2) (hq0 : Quiet0 w W0) (hq : Quiet0 W0 w3) (hR : ∀ k, R k -> k < w.heap.size) (h1 : SlcIn R w o1 l1 g.tp) (h2 : TSlc (fun k => R k ∨ W0.heap.size <= k) w3 o2 l2 gs) :
    RenQ R w g gs o1 l1 c1 l2 (.returned (.agg #[.int .i64 g.k, .string g.nm, .int .i64 g.n, .int .i64 g.tk, .int .i64 g.tn, .slice o1 l1 c1, .slice o2 l2 c2, .int .i64 g.fr, .int .i64 g.en])) (put9 w3 (B + 1) (.int .i64 g.k) (.string g.nm) (.int .i64 g.n) (.int .i64 g.tk) (.int .i64 g.tn) (.slice o1 l1 c1) (.slice o2 l2 c2) (.int .i64 g.fr) (.int .i64 g.en)) := by
 have hff := put9_fr w3 (B + 1) (.int .i64 g.k) (.string g.nm) (.int .i64 g.n) (.int .i64 g.tk) (.int .i64 g.tn) (.slice o1 l1 c1) (.slice o2 l2 c2) (.int .i64 g.fr) (.int .i64 g.en)
 have hqq := hq0.trans hq
 refine ⟨o2, c2, rfl, ?_, ?_, Fr.trans' hqq hff (fun k hk e => by omega)⟩
 ·exact ((h1.fr (T := R) hqq (fun k _ hk => ⟨hk, fun h => h⟩)).fr (T := R) hff (fun k _ hk => ⟨hk, fun e => by have := hR k hk; omega⟩)).mono (fun k _ hk => .inl hk)
 ·exact h2.fr hff (fun k _ hk => ⟨hk.imp id (fun h => by omega), fun e => by
    rcases hk with hk | hk
    ·have := hR k hk; omega
    ·omega⟩)
theorem rrename_any (h : Nd) (ps : To) (w : World) (R L : Nat -> Prop) (o1 : Option Addr) (l1 c1 : Nat) (o2 : Option Addr) (l2 c2 : Nat) (lo : Option Addr) (lc : Nat) (l : List ByteArray) (hs1 : SlcIn R w o1 l1 h.tp) (hs : TSlc R w o2 l2 ps) (hL : StrT L w lo l) (hlc : l.length <= lc) (hll : l.length <= 1000) (hls : ∀ s ∈ l, s.size <= 1000) (hsz : ps.size <= 100000) (hR : ∀ k, R k -> k < w.heap.size) (hLl : ∀ k, L k -> k < w.heap.size) :
    Calls Tryz.prog 22 #[tmv h o1 l1 c1 o2 l2 c2, .slice lo l.length lc] w (RenQ R w (renN h ps l).1 (renN h ps l).2 o1 l1 c1 l2) := by
 obtain ⟨W0, hW0⟩ : ∃ W0, W0 = (w.alloc (.cells (cells9 h o1 l1 c1 o2 l2 c2) 29)).alloc (.cells zero9 29) := ⟨_, rfl⟩
 have HQ0 : Hid (Quiet0 w W0) := by rw [hW0]; exact (Quiet0.alloc _ _).trans (Quiet0.alloc _ _)
 have HB0 : Hid (W0.heap[w.heap.size]? = some (.cells (cells9 h o1 l1 c1 o2 l2 c2) 29 (0, 0))) := by
  show _ = _; rw [hW0, Below.heap_alloc _ _ _ (by simp)]; exact heap_alloc_new w _
 have HB1 : Hid (W0.heap[w.heap.size + 1]? = some (.cells zero9 29 (0, 0))) := by
  show _ = _; rw [hW0]
  have := heap_alloc_new (w.alloc (.cells (cells9 h o1 l1 c1 o2 l2 c2) 29)) (.cells zero9 29)
  simpa using this
 have HZ : Hid (W0.heap.size = w.heap.size + 2) := by show _ = _; rw [hW0]; simp
 have HC : Hid (Calls Tryz.prog 43 #[tmv h o1 l1 c1 o2 l2 c2, .slice none 0 0, .slice none 0 0, .slice lo l.length lc] W0 (RcQ okN R L W0 [] [] l h ps o1 l1 c1 l2)) := by
  have hz := HZ.out
  exact rcall_any h ps W0 R (fun _ => False) (fun _ => False) L o1 l1 c1 o2 l2 c2 none 0 0 [] none 0 [] lo lc l (hs1.stay HQ0.out) (hs.stay HQ0.out) (NmIn.nil _ _ _) (NmIn.nil _ _ _) (hL.stay HQ0.out) hlc hll hls (by omega) (fun k hk => by have := hR k hk; omega) (fun k hk => by have := hLl k hk; omega)
 have HS1 := hid hs1
 have HS := hid hs
 have HR := hid hR
 have HSZ := hid hsz
 have HRN : Hid (renN h ps l = if refA1 [] [] (call1 okN [] [] l h ps).1 (call1 okN [] [] l h ps).2.1 h ps then ((call1 okN [] [] l h ps).1, (call1 okN [] [] l h ps).2.1) else (h, ps)) := rfl
 have HTP : Hid ((call1 okN [] [] l h ps).1.tp = h.tp) := by
  obtain ⟨s, hs⟩ := call1_head okN [] [] l h ps
  show _ = _; rw [hs]
 have HSC : Hid ((call1 okN [] [] l h ps).2.1.size = ps.size) := by
  show _ = _
  unfold call1; split
  ·rfl
  ·exact callR_size okN ps _ _ _ _ _ _ _
 clear hs1 hs hL hlc hll hls hsz hR hLl
 unfold RcQ at HC
 generalize renN h ps l = fin at *
 generalize call1 okN [] [] l h ps = q at *
 obtain ⟨g, gs, lq⟩ := q
 dsimp only at HC HRN HTP HSC
 generalize l.length = ln at *
 unfold tmv at HC
 unfold tmv
 go_enter Tryz.func22, Tryz.ntmps22
 go_upto_region 1 with fail
 rw [<- hW0]
 clear hW0
 generalize hB : w.heap.size = B at *
 have HBE := hid hB
 clear hB
 obtain ⟨⟨x0, x1, x2, x3, x4, x5, x6, x7, x8⟩, _⟩ := block9 HB0.out
 go_wp2_with fail
 refine HC.out.mono ?_; rintro x w1 ⟨o3, c3, ro, rc, rfl, ht, _, _, hq1⟩
 obtain ⟨W2, hW2⟩ : ∃ W2, W2 = w1.alloc (.cells (cells9 g o1 l1 c1 o3 l2 c3) 29) := ⟨_, rfl⟩
 have HQ2 : Hid (Quiet0 W0 W2) := by show Quiet0 _ _; rw [hW2]; exact hq1.trans (Quiet0.alloc _ _)
 have HT2 : Hid (TSlc (fun k => R k ∨ W0.heap.size <= k) W2 o3 l2 gs) := by show TSlc _ _ _ _ _; rw [hW2]; exact ht.stay (Quiet0.alloc _ _)
 have HBU : Hid (W2.heap[w1.heap.size]? = some (.cells (cells9 g o1 l1 c1 o3 l2 c3) 29 (0, 0))) := by show _ = _; rw [hW2]; exact heap_alloc_new w1 _
 clear ht hq1 x0 x1 x2 x3 x4 x5 x6 x7 x8
 go_upto_region 2 with fail
 change Code.wp _ _ _ _ (w1.alloc (.cells (cells9 g o1 l1 c1 o3 l2 c3) 29))
 rw [<- hW2]
 clear hW2
 generalize w1.heap.size = ub at *
 have HA : Hid (Calls Tryz.prog 44 #[tmv g o1 l1 c1 o3 l2 c3, tmv h o1 l1 c1 o2 l2 c2, .slice none 0 0, .slice none 0 0] W2 fun e w' => e = .returned (.bool (refA1 [] [] g gs h ps)) /\ Quiet0 W2 w') := by
  have hsz := HSZ.out
  have hsc := HSC.out
  have hq := HQ0.out.trans HQ2.out
  refine ref8Alike_any g gs h ps W2 (fun k => R k ∨ W0.heap.size <= k) (fun _ => False) (fun _ => False) o1 l1 c1 o3 l2 c3 o1 l1 c1 o2 l2 c2 none 0 0 [] none 0 0 [] ?_ HT2.out ((HS1.out.stay hq).mono (fun k _ hk => .inl hk)) ((HS.out.stay hq).mono (fun k _ hk => .inl hk)) (NmIn.nil _ _ _) (NmIn.nil _ _ _) (by omega) (by omega)
  rw [HTP.out]; exact (HS1.out.stay hq).mono (fun k _ hk => .inl hk)
 unfold tmv at HA
 generalize refA1 [] [] g gs h ps = r at *
 obtain ⟨⟨x0, x1, x2, x3, x4, x5, x6, x7, x8⟩, _⟩ := block9 (blk_after HQ2.out HB0.out)
 obtain ⟨⟨u0, u1, u2, u3, u4, u5, u6, u7, u8⟩, _⟩ := block9 HBU.out
 go_wp2_with fail
 refine HA.out.mono ?_; rintro x w3 ⟨rfl, hq3⟩
 have HQ3 := hid (HQ2.out.trans hq3)
 have HU3 := hid (blk_after hq3 HBU.out)
 have HB3 := hid (blk_after HQ3.out HB0.out)
 have HZ3 := hid (blk_after HQ3.out HB1.out)
 have HT3 := hid (HT2.out.stay hq3)
 clear hq3 x0 x1 x2 x3 x4 x5 x6 x7 x8 u0 u1 u2 u3 u4 u5 u6 u7 u8
 obtain ⟨⟨x0, x1, x2, x3, x4, x5, x6, x7, x8⟩, _⟩ := block9 HB3.out
 obtain ⟨⟨u0, u1, u2, u3, u4, u5, u6, u7, u8⟩, _⟩ := block9 HU3.out
 obtain ⟨⟨z0, z1, z2, z3, z4, z5, z6, z7, z8⟩, t0, t1, t2, t3, t4, t5, t6, t7, t8⟩ := block9 HZ3.out
 cases r
 case true =>
  have HE : Hid (fin = (g, gs)) := by have := HRN.out; show fin = (g, gs); simpa using this
  have HFIN := hid (renq_fin (c1 := c1) (c2 := c3) (g := g) HBE.out HZ.out HQ0.out HQ3.out (fun k hk => by rw [HBE.out]; exact HR.out k hk) (by rw [HTP.out]; exact HS1.out) HT3.out)
  go_wp2_with fail
  have hbf := put9_block (a0 := .int .i64 g.k) (a1 := .string g.nm) (a2 := .int .i64 g.n) (a3 := .int .i64 g.tk) (a4 := .int .i64 g.tn) (a5 := .slice o1 l1 c1) (a6 := .slice o3 l2 c3) (a7 := .int .i64 g.fr) (a8 := .int .i64 g.en) HZ3.out
  change bodyPost _ _ _ _ _ (put9 w3 (B + 1) (.int .i64 g.k) (.string g.nm) (.int .i64 g.n) (.int .i64 g.tk) (.int .i64 g.tn) (.slice o1 l1 c1) (.slice o3 l2 c3) (.int .i64 g.fr) (.int .i64 g.en))
  clear x0 x1 x2 x3 x4 x5 x6 x7 x8 u0 u1 u2 u3 u4 u5 u6 u7 u8 z0 z1 z2 z3 z4 z5 z6 z7 z8 t0 t1 t2 t3 t4 t5 t6 t7 t8
  generalize put9 w3 (B + 1) (.int .i64 g.k) (.string g.nm) (.int .i64 g.n) (.int .i64 g.tk) (.int .i64 g.tn) (.slice o1 l1 c1) (.slice o3 l2 c3) (.int .i64 g.fr) (.int .i64 g.en) = wf at *
  obtain ⟨⟨x0, x1, x2, x3, x4, x5, x6, x7, x8⟩, _⟩ := block9 hbf
  clear hbf
  refine bodyPost_ret (by simp [results, Tryz.results22, go_sem, x0, x1, x2, x3, x4, x5, x6, x7, x8]; rfl) rfl ?_
  rw [HE.out]
  exact HFIN.out
 case false =>
  have HE : Hid (fin = (h, ps)) := by have := HRN.out; show fin = (h, ps); simpa using this
  have HFIN := hid (renq_fin (c1 := c1) (c2 := c2) (g := h) (gs := ps) (o2 := o2) HBE.out HZ.out HQ0.out HQ3.out (fun k hk => by rw [HBE.out]; exact HR.out k hk) HS1.out ((HS.out.stay (HQ0.out.trans HQ3.out)).mono (fun k _ hk => .inl hk)))
  go_wp2_with fail
  have hbf := put9_block (a0 := .int .i64 h.k) (a1 := .string h.nm) (a2 := .int .i64 h.n) (a3 := .int .i64 h.tk) (a4 := .int .i64 h.tn) (a5 := .slice o1 l1 c1) (a6 := .slice o2 l2 c2) (a7 := .int .i64 h.fr) (a8 := .int .i64 h.en) HZ3.out
  change bodyPost _ _ _ _ _ (put9 w3 (B + 1) (.int .i64 h.k) (.string h.nm) (.int .i64 h.n) (.int .i64 h.tk) (.int .i64 h.tn) (.slice o1 l1 c1) (.slice o2 l2 c2) (.int .i64 h.fr) (.int .i64 h.en))
  clear x0 x1 x2 x3 x4 x5 x6 x7 x8 u0 u1 u2 u3 u4 u5 u6 u7 u8 z0 z1 z2 z3 z4 z5 z6 z7 z8 t0 t1 t2 t3 t4 t5 t6 t7 t8
  generalize put9 w3 (B + 1) (.int .i64 h.k) (.string h.nm) (.int .i64 h.n) (.int .i64 h.tk) (.int .i64 h.tn) (.slice o1 l1 c1) (.slice o2 l2 c2) (.int .i64 h.fr) (.int .i64 h.en) = wf at *
  obtain ⟨⟨x0, x1, x2, x3, x4, x5, x6, x7, x8⟩, _⟩ := block9 hbf
  clear hbf
  refine bodyPost_ret (by simp [results, Tryz.results22, go_sem, x0, x1, x2, x3, x4, x5, x6, x7, x8]; rfl) rfl ?_
  rw [HE.out]
  exact HFIN.out
end Sc
end
section
open Go.RowKit Go.Shelf
namespace Em
theorem ofN_ren (most : Int) {h : Nd} {ps : To} (l : List ByteArray) (hr : Sc.RT h ps = true) : ofN (Sc.renN h ps l).1 (Sc.renN h ps l).2 most = ofN h ps most := by
 have k := run_ren (min most 4096) h ps l
 unfold run at k
 unfold ofN
 rw [Sc.ren_rsv l hr, k]
theorem eqsNames_all (h : Nd) (ps : To) (w : World) (o1 : Option Addr) (l1 c1 : Nat) (o2 : Option Addr) (l2 c2 : Nat) (lo : Option Addr) (lc : Nat) (l : List ByteArray) (hp : PreM h ps w o1 l1 o2 l2) (hL : Sc.StrT (Low w) w lo l) (hlc : l.length <= lc) :
    Calls Tryz.prog 6 #[tmv h o1 l1 c1 o2 l2 c2, .slice lo l.length lc] w fun e w' => e = .returned (.bool true) /\ Quiet0 w w' := by
 obtain ⟨W0, hW0⟩ : ∃ W0, W0 = w.alloc (.cells (cells9 h o1 l1 c1 o2 l2 c2) 29) := ⟨_, rfl⟩
 have hq0 : Quiet0 w W0 := by rw [hW0]; exact Quiet0.alloc _ _
 have HQ0 := hid hq0
 have HB : Hid (∀ W, Quiet0 W0 W -> (W.cell? ⟨w.heap.size, 0, none⟩ = some (.int .i64 h.k) /\ W.cell? ⟨w.heap.size, 1, none⟩ = some (.string h.nm) /\ W.cell? ⟨w.heap.size, 2, none⟩ = some (.int .i64 h.n) /\ W.cell? ⟨w.heap.size, 3, none⟩ = some (.int .i64 h.tk) /\ W.cell? ⟨w.heap.size, 4, none⟩ = some (.int .i64 h.tn) /\ W.cell? ⟨w.heap.size, 5, none⟩ = some (.slice o1 l1 c1) /\ W.cell? ⟨w.heap.size, 6, none⟩ = some (.slice o2 l2 c2) /\ W.cell? ⟨w.heap.size, 7, none⟩ = some (.int .i64 h.fr) /\ W.cell? ⟨w.heap.size, 8, none⟩ = some (.int .i64 h.en))) := by
  intro W hq; rw [hW0] at hq; exact box9 w h o1 l1 c1 o2 l2 c2 _ W hq
 have HG : Hid (∀ W, Quiet0 W0 W -> Calls Tryz.prog 8 #[tmv h o1 l1 c1 o2 l2 c2] W fun e w' => e = .returned (.bool (Cn.great17 h ps)) /\ Quiet0 W w') := fun W hq => Cn.great17_any h ps w W o1 l1 c1 o2 l2 c2 hp.1 hp.2.1 hp.2.2.1 hp.2.2.2.1 (hq0.trans hq)
 have HA : Hid (∀ W, Quiet0 W0 W -> Calls Tryz.prog 18 #[] W fun e w' => e = .returned (.bool true) /\ Quiet0 W w') := fun W hq => awake17_any W (hp.2.2.2.2.stay (hq0.trans hq))
 have HR : Hid (Cn.great17 h ps = false -> ∀ W, Quiet0 W0 W -> Calls Tryz.prog 13 #[tmv h o1 l1 c1 o2 l2 c2] W fun e w' => e = .returned (.bool (Sc.RT h ps)) /\ Quiet0 W w') := fun hg W hq => right_c hp (hq0.trans hq) hg
 have HO : Hid (Cn.great17 h ps = false -> ∀ W, Quiet0 W0 W -> Calls Tryz.prog 19 #[tmv h o1 l1 c1 o2 l2 c2, .int .i64 300] W (OfQ W (ofN h ps 300))) := fun hg W hq => of_c hp (hq0.trans hq) hg 300
 have HRN : Hid (Cn.great17 h ps = false -> l.length <= 60 -> (∀ s ∈ l, s.size <= 60) -> ∀ W, Quiet0 W0 W -> Calls Tryz.prog 22 #[tmv h o1 l1 c1 o2 l2 c2, .slice lo l.length lc] W (Sc.RenQ (Low w) W (Sc.renN h ps l).1 (Sc.renN h ps l).2 o1 l1 c1 l2)) := fun hg hl hs W hq => by
  have hsm := Sc.small_of (Cn.great17_no hg) hp.2.2.1 hp.2.2.2.1
  exact Sc.rrename_any h ps W (Low w) (Low w) o1 l1 c1 o2 l2 c2 lo lc l (hp.1.stay (hq0.trans hq)) (hp.2.1.stay (hq0.trans hq)) (hL.stay (hq0.trans hq)) hlc (by omega) (fun s h => by have := hs s h; omega) (by have := hsm.size; omega) (fun k hk => Nat.lt_of_lt_of_le hk (hq0.trans hq).size) (fun k hk => Nat.lt_of_lt_of_le hk (hq0.trans hq).size)
 have HTU : Hid (Cn.great17 h ps = false -> (∀ s ∈ l, s.size <= 60) -> allT GoodH (.cons (Sc.renN h ps l).1 (Sc.renN h ps l).2 .nil) /\ (Sc.renN h ps l).2.size <= 50000) := fun hg hs => by
  have hsm := Sc.small_of (Cn.great17_no hg) hp.2.2.1 hp.2.2.2.1
  exact ⟨Sc.ren_good hsm.good (fun s h => by have := hs s h; omega), by rw [Sc.ren_size]; have := hsm.size; omega⟩
 have HN1 : Hid (Sc.RT h ps = true -> ofN (Sc.renN h ps l).1 (Sc.renN h ps l).2 300 = ofN h ps 300) := fun hr => ofN_ren 300 l hr
 have HL := hid hL
 have HT := hid hp.2.2.2.2
 clear hp hq0 hL hlc
 generalize Sc.renN h ps l = q at *
 obtain ⟨g, gs⟩ := q
 dsimp only at HRN HTU HN1
 unfold Sc.RenQ at HRN
 unfold tmv at HG HR HRN HO ⊢
 generalize ofN h ps 300 = on at *
 obtain ⟨ol, oe⟩ := on
 generalize Cn.great17 h ps = gb at *
 generalize Sc.RT h ps = r at *
 obtain ⟨ln, hln⟩ : ∃ ln, l.length = ln := ⟨_, rfl⟩
 have HLN := hid hln
 rw [hln] at HRN ⊢
 clear hln
 go_enter Tryz.func6, Tryz.ntmps6
 go_upto_region 1 with fail
 rw [<- hW0]
 clear hW0
 generalize hBB : w.heap.size = B at *
 clear hBB
 obtain ⟨a0, a1, a2, a3, a4, a5, a6, a7, a8⟩ := HB.out W0 (Quiet0.refl _)
 go_wp2_with fail
 refine (HG.out _ (Quiet0.refl _)).mono ?_; rintro x w1 ⟨rfl, hq1⟩
 clear a0 a1 a2 a3 a4 a5 a6 a7 a8
 obtain ⟨a0, a1, a2, a3, a4, a5, a6, a7, a8⟩ := HB.out w1 hq1
 have HQ1 := hid hq1
 clear hq1
 cases gb
 case true =>
  go_wp2_with fail
  refine (HA.out _ HQ1.out).mono ?_; rintro x wz ⟨rfl, hqz⟩
  have HQZ := hid hqz
  clear hqz
  go_wp2_with fail
  go_ret
  exact ⟨rfl, HQ0.out.trans (HQ1.out.trans HQZ.out)⟩
 case false =>
  by_cases hl60 : (60 : Int) < (ln : Int)
  ·go_wp2_with fail
   refine (HA.out _ HQ1.out).mono ?_; rintro x wz ⟨rfl, hqz⟩
   have HQZ := hid hqz
   clear hqz
   go_wp2_with fail
   go_ret
   exact ⟨rfl, HQ0.out.trans (HQ1.out.trans HQZ.out)⟩
  ·go_wp2_with fail
   refine (HR.out (by trivial) _ HQ1.out).mono ?_; rintro x w2 ⟨rfl, hq2⟩
   have HQ2 := hid (HQ1.out.trans hq2)
   clear hq2 a0 a1 a2 a3 a4 a5 a6 a7 a8
   cases r
   case false =>
    go_wp2_with fail
    refine (HA.out _ HQ2.out).mono ?_; rintro x wz ⟨rfl, hqz⟩
    have HQZ := hid hqz
    clear hqz
    go_wp2_with fail
    go_ret
    exact ⟨rfl, HQ0.out.trans (HQ2.out.trans HQZ.out)⟩
   case true =>
    go_wp2_with fail
    go_loopw [5] (fun t wr => ∃ (i : Nat), t = .int .i64 i /\ i <= ln /\ (∀ j s, j < i -> l[j]? = some s -> s.size <= 60) /\ Quiet0 W0 wr) (fun t _ => ln - (intOf t).toNat)
    case atStart => exact ⟨0, rfl, Nat.zero_le _, fun j s hj => by omega, HQ2.out⟩
    case round =>
     obtain ⟨i, rfl, hi, hsz, hqr⟩ := hrel
     have HSZ := hid hsz
     have HQR := hid hqr
     clear hsz hqr
     by_cases hlt : i < ln
     ·have hlt' : (i : Int) < ln := by omega
      obtain ⟨s, hs⟩ : ∃ s, l[i]? = some s := ⟨_, List.getElem?_eq_getElem (by have := HLN.out; omega)⟩
      obtain ⟨b, off, rfl, _, g0⟩ := HL.out i s hs
      have g1 := (HQ0.out.trans HQR.out).at g0
      have HS := hid hs
      clear hs g0
      by_cases hs60 : (60 : Int) < (s.size : Int)
      ·go_wp2_with fail
       refine (HA.out _ HQR.out).mono ?_; rintro x wz ⟨rfl, hqz⟩
       have HQZ := hid hqz
       clear hqz
       go_wp2_with fail
       go_ret
       exact ⟨rfl, HQ0.out.trans (HQR.out.trans HQZ.out)⟩
      ·go_wp2_with fail
       go_roundw
       case rel =>
        refine ⟨i + 1, by go_num, hlt, fun j t hj hjt => ?_, HQR.out⟩
        by_cases he : j = i
        ·subst he
         have := HS.out
         rw [this] at hjt
         injection hjt with hjt
         subst hjt
         omega
        ·exact HSZ.out j t (by omega) hjt
       case measure => simp [intOf] <;> omega
     ·have hlt' : ¬ (i : Int) < ln := by omega
      have HALL : Hid (∀ s ∈ l, s.size <= 60) := fun s hs => by
       obtain ⟨j, hj⟩ := List.getElem?_of_mem hs
       have h1 := (List.getElem?_eq_some_iff.1 hj).1
       exact HSZ.out j s (by have := HLN.out; omega) hj
      have hlz : ln <= 60 := by omega
      obtain ⟨a0, a1, a2, a3, a4, a5, a6, a7, a8⟩ := HB.out _ HQR.out
      clear HSZ
      go_wp2_with fail
      refine (HO.out (by trivial) _ HQR.out).mono ?_; rintro x w3 ⟨p3, c3, rfl, hc3, he3, hq3⟩
      have HQ3 := hid (HQR.out.trans hq3)
      have HE3 := hid he3
      clear hq3 he3 a0 a1 a2 a3 a4 a5 a6 a7 a8
      obtain ⟨a0, a1, a2, a3, a4, a5, a6, a7, a8⟩ := HB.out _ HQ3.out
      go_wp2_with fail
      refine (HRN.out (by trivial) hlz HALL.out _ HQ3.out).mono ?_; rintro x w4 ⟨o4, c4, rfl, ht1, ht2, hq4⟩
      have HQ4 := hid (HQ3.out.trans hq4)
      have HTU2 := hid (HTU.out (by trivial) HALL.out)
      have HE34 := hid (HE3.out.stay hq4)
      have HO4 := hid (of_any g gs 300 w4 _ o1 l1 c1 o4 l2 c4 ht1 ht2 HTU2.out.2 HTU2.out.1 (HT.out.stay (HQ0.out.trans HQ4.out)))
      rw [HN1.out (by trivial)] at HO4
      unfold tmv at HO4
      clear ht1 ht2 hq4 a0 a1 a2 a3 a4 a5 a6 a7 a8
      go_wp2_with fail
      refine HO4.out.mono ?_; rintro x w5 ⟨p5, c5, rfl, hc5, he5, hq5⟩
      have HQ5 := hid (HQ4.out.trans hq5)
      have HS5 := hid (rsame_any ol w5 p3 c3 p5 c5 (HE34.out.stay hq5) he5)
      clear hq5 he5
      dsimp only at HS5 ⊢
      generalize ol.length = on at *
      go_wp2_with fail
      refine HS5.out.mono ?_; rintro x w6 ⟨rfl, hq6⟩
      have HQ6 := hid (HQ5.out.trans hq6)
      clear hq6
      go_wp2_with fail
      refine (HA.out _ HQ6.out).mono ?_; rintro x wz ⟨rfl, hqz⟩
      have HQZ := hid hqz
      clear hqz
      go_wp2_with fail
      go_ret
      exact ⟨rfl, HQ0.out.trans (HQ6.out.trans HQZ.out)⟩
end Em
end
section
open Go.ChangeShapes Go.WideShapes Go.ChangeAt Go.RowKit
theorem soSpot {w : World} {a : Addr} {v : Value} (h : w.cell? (a.add 0) = some v) : ∃ b off, a = ⟨b, off, none⟩ := by
 obtain ⟨b, off, s⟩ := a
 cases s with
 | none => exact ⟨b, off, rfl⟩
 | some s =>
  unfold World.cell? Addr.add at h
  simp only [if_true] at h
  split at h <;> simp_all
theorem soList {α : Type} {P : Nat -> α -> Prop} : ∀ len : Nat, (∀ i, i < len -> ∃ t, P i t) -> ∃ l : List α, l.length = len /\ ∀ i t, l[i]? = some t -> P i t
 | 0, _ => ⟨[], rfl, fun i t h => by simp at h⟩
 | len + 1, h => by
  obtain ⟨l, hl, hp⟩ := soList len (fun i hi => h i (by omega))
  obtain ⟨t, ht⟩ := h len (by omega)
  refine ⟨l ++ [t], by simp [hl], fun i u hu => ?_⟩
  by_cases hi : i < len
  ·rw [List.getElem?_append_left (by omega)] at hu
   exact hp i u hu
  ·have h2 : i < (l ++ [t]).length := (List.getElem?_eq_some_iff.1 hu).1
   have h3 : i = len := by simp [hl] at h2; omega
   subst h3
   rw [List.getElem?_append_right (by omega)] at hu
   simp [hl] at hu
   subst hu
   exact ht
section
variable {H : Type} {enc : TypeId × Value -> H} {w : World} {base : Nat} {spare : Nat -> Bool} {held : Bool}
theorem open_strs {v : Value} {d : DataW H} {p : List MemPlace} (hv : ∃ a len cap, v = .slice a len cap) (h : DataW.Trod enc Tryz.prog w base spare held 49 v d p) :
    ∃ o c l, v = .slice o (List.length l) c /\ Sc.StrT (Low w) w o l /\ (∀ s ∈ l, s.size <= maxLen) /\ l.length <= maxLen /\ l.length <= c := by
 obtain ⟨a0, l0, cc0, rfl⟩ := hv
 obtain ⟨fuel, hf⟩ := h
 rcases DataW.trod_slice Tryz.underlying49 hf with ⟨he, _⟩ | ⟨a, len, cap, elems, rest, n, hfu, he, _, _, hl, hm, hlen, hel, _⟩
 ·simp [Value.cells] at he
  obtain ⟨rfl, rfl, rfl⟩ := he
  exact ⟨none, 0, [], rfl, Sc.StrT.nil _ _ _, fun t h => by simp at h, by simp, by simp⟩
 ·simp [Value.cells] at he
  obtain ⟨rfl, rfl, rfl⟩ := he
  have one : ∀ i, i < l0 -> ∃ s : ByteArray, w.cell? (a.add i) = some (.string s) /\ s.size <= maxLen := by
   intro i hi
   have h1 := hel i hi
   rw [List.getElem?_eq_getElem (by omega)] at h1
   obtain ⟨cs', h2, h3⟩ := Option.bind_eq_some_iff.1 h1
   rw [show Tryz.prog.cellsOf 9 = 1 from by kernel_rfl] at h2
   obtain ⟨_, hcl, hcell⟩ := World.cells?_some h2
   obtain ⟨s, rfl, _, hw⟩ := DataW.trod_string Tryz.underlying9 h3
   have e0 := hcell 0 (by omega)
   simp [Deep.add_add] at e0
   exact ⟨s, e0, hw⟩
  obtain ⟨l, hll, hp⟩ := soList l0 one
  subst hll
  refine ⟨some a, _, l, rfl, fun j s hs => ?_, fun t ht => ?_, by omega, hl⟩
  ·obtain ⟨t0, ht0⟩ : ∃ t0, l[0]? = some t0 := ⟨_, List.getElem?_eq_getElem (by have := (List.getElem?_eq_some_iff.1 hs).1; omega)⟩
   obtain ⟨f0, _⟩ := hp 0 t0 ht0
   obtain ⟨b, off, rfl⟩ := soSpot f0
   have h1 := (hp j s hs).1
   exact ⟨b, off, rfl, World.block_lt_of_cell? w _ f0, by simpa [Addr.add_lit] using h1⟩
  ·obtain ⟨i, hi⟩ := List.getElem?_of_mem ht
   exact (hp i t hi).2
end
end
end Go.Proofs.YtcninopmelmajaaGreatDoor
