/-
  Texts laid together (TeRRight, ScRes, ScRsv): laws and walks, with their conditions in their statements.
-/
import Derived.Test.YtnfodiedalhlhaaDoorRN17
section
namespace Go.Proofs.YtnfodiedalhlhaaDoor
open Go.RowKit Go.Shelf
def GoodR (h : Nd) : Prop := h.nm.size ≤ 100000 ∧ h.tp.size ≤ 100000 ∧ wfI h.n
theorem refSoundT_any (h : Nd) (w : World) (R : Nat → Prop) (o1 : Option Addr) (l1 c1 : Nat) (o2 : Option Addr) (l2 c2 : Nat) (hs : SlcIn R w o1 l1 h.tp) (hg : GoodR h) :
    Calls Tryd.prog 43 #[tmv h o1 l1 c1 o2 l2 c2] w fun e w' => e = .returned (.bool (soundB h l2)) ∧ Quiet0 w w' := by
  have SC := sndC_of h w R o1 l1 c1 o2 l2 c2 hs hg.1 hg.2.1
  have hw := hg.2.2
  obtain ⟨k, nm, n, tk, tn, tp, fr, en⟩ := h
  by_cases h1 : k < 1
  · exact refSound_lo k h1 nm n tk tn tp fr en w o1 l1 c1 o2 l2 c2 SC
  · by_cases h2 : 10 < k
    · exact refSound_hi k h2 nm n tk tn tp fr en w o1 l1 c1 o2 l2 c2 SC
    · have hk : k = 1 ∨ k = 2 ∨ k = 3 ∨ k = 4 ∨ k = 5 ∨ k = 6 ∨ k = 7 ∨ k = 8 ∨ k = 9 ∨ k = 10 := by omega
      rcases hk with rfl | rfl | rfl | rfl | rfl | rfl | rfl | rfl | rfl | rfl
      · exact refSound_1 nm n tk tn tp fr en w o1 l1 c1 o2 l2 c2 hw SC
      · exact refSound_2 nm n tk tn tp fr en w o1 l1 c1 o2 l2 c2 hw SC
      · exact refSound_3 nm n tk tn tp fr en w o1 l1 c1 o2 l2 c2 hw SC
      · exact refSound_4 nm n tk tn tp fr en w o1 l1 c1 o2 l2 c2 hw SC
      · exact refSound_5 nm n tk tn tp fr en w o1 l1 c1 o2 l2 c2 hw SC
      · exact refSound_6 nm n tk tn tp fr en w o1 l1 c1 o2 l2 c2 hw SC
      · exact refSound_7 nm n tk tn tp fr en w o1 l1 c1 o2 l2 c2 hw SC
      · exact refSound_8 nm n tk tn tp fr en w o1 l1 c1 o2 l2 c2 hw SC
      · exact refSound_9 nm n tk tn tp fr en w o1 l1 c1 o2 l2 c2 hw SC
      · exact refSound_10 nm n tk tn tp fr en w o1 l1 c1 o2 l2 c2 hw SC
abbrev allS (f : To) : Bool := f.flat.all sndX
theorem allS_cons (h : Nd) (ps r : To) : allS (.cons h ps r) = ((soundB h ps.length && allS ps) && allS r) := by
  simp [allS, To.flat, List.all_append, Bool.and_assoc, sndX]
theorem allS_one (h : Nd) (ps : To) : allS (.cons h ps .nil) = (soundB h ps.length && allS ps) := by
  rw [allS_cons]; simp [allS, To.flat]
def RRightT (h : Nd) (ps : To) : Prop := ∀ (w : World) (R : Nat → Prop) (o1 : Option Addr) (l1 c1 : Nat) (o2 : Option Addr) (l2 c2 : Nat), SlcIn R w o1 l1 h.tp → TSlc R w o2 l2 ps → GoodR h → allT GoodR ps →
  Calls Tryd.prog 16 #[tmv h o1 l1 c1 o2 l2 c2] w fun e w' => e = .returned (.bool (allS (.cons h ps .nil))) ∧ Quiet0 w w'
set_option maxHeartbeats 2000000 in
theorem refRightT_any (h : Nd) (ps : To) : RRightT h ps := by
  refine To.ind' (T := RRightT) ?_ h ps
  intro h ps ih w R o1 l1 c1 o2 l2 c2 hs1 hs hgh hgp
  have HS := Lib.hid hs
  have IH := Lib.hid ih
  have HL := Lib.hid hs.1
  have HG := Lib.hid hgp
  have hmx := hs.2.1
  unfold maxLen at hmx
  obtain ⟨W0, hW0⟩ : ∃ W0, W0 = w.alloc (.cells (cells9 h o1 l1 c1 o2 l2 c2) 30) := ⟨_, rfl⟩
  have HB : Hid (∀ W, Quiet0 W0 W → W.cell? ⟨w.heap.size, 6, none⟩ = some (.slice o2 l2 c2)) := by
    intro W hq; rw [hW0] at hq; exact (box9 w h o1 l1 c1 o2 l2 c2 _ W hq).2.2.2.2.2.2.1
  have hq0 : Quiet0 w W0 := by rw [hW0]; exact Quiet0.alloc _ _
  have HQ0 := Lib.hid hq0
  have HSO := Lib.hid (refSoundT_any h W0 R o1 l1 c1 o2 l2 c2 (hs1.stay hq0) hgh)
  obtain ⟨res, hres⟩ : ∃ res, res = allS (.cons h ps .nil) := ⟨_, rfl⟩
  have HRES : Hid (res = (soundB h l2 && allS ps)) := by show _ = _; rw [hres, allS_one, HL.out]
  rw [← hres]
  clear hs1 hs ih hgh hgp hres hq0
  unfold tmv at HSO ⊢
  go_enter Tryd.func16, Tryd.ntmps16
  go_wp2_with fail
  change Calls _ _ _ (w.alloc (.cells (cells9 h o1 l1 c1 o2 l2 c2) 30)) _
  rw [← hW0]
  clear hW0
  generalize w.heap.size = nb at *
  cases hb : soundB h l2
  · have HR0 : Hid (res = false) := by show _ = _; rw [HRES.out, hb]; rfl
    rw [hb] at HSO
    clear hb
    refine HSO.out.mono ?_; rintro e w1 ⟨rfl, hq1⟩
    go_wp2_with fail
    go_ret
    exact ⟨by rw [HR0.out]; rfl, HQ0.out.trans hq1⟩
  · have HR0 : Hid (res = allS ps) := by show _ = _; rw [HRES.out, hb]; rfl
    rw [hb] at HSO
    clear hb
    refine HSO.out.mono ?_; rintro e w1 ⟨rfl, hq1⟩
    have HQ1 := Lib.hid hq1
    clear hq1
    go_wp2_with fail
    go_loopw [3] (fun t wr => ∃ (i : Nat), t = .int .i64 i ∧ i ≤ l2 ∧ res = allS (ps.drop i) ∧ Quiet0 W0 wr) (fun t _ => l2 - (intOf t).toNat)
    case atStart => exact ⟨0, rfl, Nat.zero_le _, by rw [To.drop_zero]; exact HR0.out, HQ1.out⟩
    case round =>
      obtain ⟨i, rfl, hi, hr, hq⟩ := hrel
      have HR := Lib.hid hr
      have HQ := Lib.hid hq
      have cc := HB.out wr hq
      clear hr hq
      by_cases hlt : i < l2
      · have hlt' : (i : Int) < l2 := by omega
        obtain ⟨b, off, hd, qs, p1, m1, d1, p2, m2, d2, rfl, hd1, hg, hRb, ⟨e0, e1, e2, e3, e4, e5, e6, e7, e8⟩, hs1, ht1⟩ := (HS.out.stay (HQ0.out.trans HQ.out)).nth hlt
        have hgg := allT_get ps i hd qs HG.out hg
        have HC := Lib.hid (IH.out i hd qs hg wr R p1 m1 d1 p2 m2 d2 hs1 ht1 hgg.1 hgg.2)
        have HN : Hid (res = (allS (.cons hd qs .nil) && allS (ps.drop (i + 1)))) := by
          show _ = _
          rw [HR.out, hd1, allS_cons, allS_one]
        unfold tmv at HC
        clear hd1 hg hs1 ht1 hRb hgg
        cases hb : allS (.cons hd qs .nil)
        · have HF : Hid (res = false) := by show _ = _; rw [HN.out, hb]; rfl
          rw [hb] at HC
          clear hb
          go_wp2_with fail
          refine HC.out.mono ?_; rintro e w2 ⟨rfl, hq2⟩
          go_wp2_with fail
          go_ret
          exact ⟨by rw [HF.out]; rfl, HQ0.out.trans (HQ.out.trans hq2)⟩
        · have HF : Hid (res = allS (ps.drop (i + 1))) := by show _ = _; rw [HN.out, hb]; rfl
          rw [hb] at HC
          clear hb
          go_wp2_with fail
          refine HC.out.mono ?_; rintro e w2 ⟨rfl, hq2⟩
          have HQ2 := Lib.hid (HQ.out.trans hq2)
          clear hq2
          go_wp2_with fail
          go_roundw
          case rel => exact ⟨i + 1, by go_num, by omega, HF.out, HQ2.out⟩
          case measure => simp [intOf]; omega
      · have hlt' : ¬ (i : Int) < l2 := by omega
        have HY : Hid (res = true) := by
          show _ = _
          rw [HR.out, To.drop_end ps i (by have := HL.out; omega)]; rfl
        go_wp2_with fail
        go_ret
        exact ⟨by rw [HY.out]; rfl, HQ0.out.trans HQ.out⟩
end Go.Proofs.YtnfodiedalhlhaaDoor
end
section
namespace Go.Proofs.YtnfodiedalhlhaaDoor
open Go.RowKit Go.Shelf
namespace Sc
def resH (h : Nd) (ps : To) : Nd := (wk1 (fun (s : Unit) _ _ => s) rsO () [] h ps).2.1
def resP (h : Nd) (ps : To) : To := (wk1 (fun (s : Unit) _ _ => s) rsO () [] h ps).2.2
theorem resH_tp (h : Nd) (ps : To) : (resH h ps).tp = h.tp := wk1_tp _ _ rsO_tp _ _ _ _
def TmQ (w : World) (g : Nd) (gs : To) (x : Ending) (w' : World) : Prop := ∃ o1 l1 c1 o2 l2 c2, x = .returned (tmv g o1 l1 c1 o2 l2 c2) ∧ SlcIn (fun b => w.heap.size ≤ b) w' o1 l1 g.tp ∧ TSlc (fun b => w.heap.size ≤ b) w' o2 l2 gs ∧ Quiet0 w w'
set_option maxRecDepth 100000 in
set_option maxHeartbeats 2000000 in
theorem resolved_any (h : Nd) (ps : To) (w : World) (R : Nat → Prop) (o1 : Option Addr) (l1 c1 : Nat) (o2 : Option Addr) (l2 c2 : Nat) (hs1 : SlcIn R w o1 l1 h.tp) (hs : TSlc R w o2 l2 ps) (hz : ps.size ≤ 100000) (hv : varOk h ps) (hav : allV ps) (ht : h.tp.size ≤ 1000000) (hat : allT (fun h => h.tp.size ≤ 1000000) ps) :
    Calls Tryd.prog 40 #[tmv h o1 l1 c1 o2 l2 c2] w (TmQ w (resH h ps) (resP h ps)) := by
  obtain ⟨W0, hW0⟩ : ∃ W0, W0 = (w.alloc (.cells (cells9 h o1 l1 c1 o2 l2 c2) 30)).alloc (.cells zero9 30) := ⟨_, rfl⟩
  have HQ0 : Hid (Quiet0 w W0) := by rw [hW0]; exact (Quiet0.alloc _ _).trans (Quiet0.alloc _ _)
  have hb0 : W0.heap[w.heap.size]? = some (.cells (cells9 h o1 l1 c1 o2 l2 c2) 30 (0, 0)) := by
    rw [hW0, Below.heap_alloc _ _ _ (by simp)]; exact heap_alloc_new w _
  have hb1 : W0.heap[w.heap.size + 1]? = some (.cells zero9 30 (0, 0)) := by
    rw [hW0]
    have := heap_alloc_new (w.alloc (.cells (cells9 h o1 l1 c1 o2 l2 c2) 30)) (.cells zero9 30)
    simpa using this
  have hz0 : W0.heap.size = w.heap.size + 2 := by rw [hW0]; simp
  have HB1 := Lib.hid hb1
  have HC := Lib.hid (copyT_any h ps W0 R o1 l1 c1 o2 l2 c2 (hs1.stay HQ0.out) (hs.stay HQ0.out) ht hat (by omega))
  have HW : Hid (∀ (w1 : World) (q1 : Option Addr) (e1 : Nat) (q2 : Option Addr) (e2 : Nat), SlcIn (fun b => W0.heap.size ≤ b) w1 q1 l1 h.tp → TSlc (fun b => W0.heap.size ≤ b) w1 q2 l2 ps → Calls Tryd.prog 71 #[tmv h q1 l1 e1 q2 l2 e2, .slice none 0 0, .func (.func 73) #[] #[]] w1 (WkQ (fun k => W0.heap.size ≤ k ∧ k < w1.heap.size) (fun (s : Unit) _ _ => s) rsO (UJ w1.heap.size) 0 () (fun _ => False) [] h ps q1 l1 e1 l2 w1)) := fun w1 q1 e1 q2 e2 g1 g2 =>
    walkT_any (F := 73) (lb := #[]) (R := fun k => W0.heap.size ≤ k ∧ k < w1.heap.size) (L0 := w1.heap.size) eg_res (resDo_any _ _) (fun k hk => hk.2) rsO_tp h ps 0 () (fun _ => False) w1 (fun _ => False) [] q1 l1 e1 q2 l2 e2 none 0 0 ⟨Nat.le_refl _, fun _ h => h⟩ (NmIn.nil _ _ _) (Nat.le_refl _) (fun _ h => h.elim) (by omega) (g1.mono (fun k hk h => ⟨h, hk⟩)) (g2.mono (fun k hk h => ⟨h, hk⟩)) hv hav
  have HZ0 := Lib.hid hz0
  obtain ⟨⟨a0, a1, a2, a3, a4, a5, a6, a7, a8⟩, _⟩ := block9 hb0
  clear hb0 hb1 hs1 hs hv hav ht hat hz0
  unfold tmv at HC HW ⊢
  go_enter Tryd.func40, Tryd.ntmps40
  go_upto_region 1 with fail
  change Code.wp _ _ _ _ ((w.alloc (.cells (cells9 h o1 l1 c1 o2 l2 c2) 30)).alloc (.cells zero9 30))
  rw [← hW0]
  clear hW0
  generalize hB : w.heap.size = B at *
  have HBE := Lib.hid hB
  clear hB
  go_wp2_with fail
  refine HC.out.mono ?_; rintro x w1 ⟨q1, e1, q2, e2, rfl, hk1, hk2, hq1⟩
  have HWC := Lib.hid (HW.out w1 q1 e1 q2 e2 hk1 hk2)
  have HK1 := Lib.hid hk1
  have HQ1 := Lib.hid hq1
  clear hk1 hk2 hq1 a0 a1 a2 a3 a4 a5 a6 a7 a8
  go_wp2_with fail
  refine HWC.out.mono ?_; rintro x w2 ⟨r2, f2, D2, E2, rfl, hj, hto, hE, hf, _⟩
  have hq2 : Quiet0 w1 w2 := hf
  have hb2 := blk_fr (HQ1.out.trans hq2) (fun h => h) HB1.out
  have HB2 := Lib.hid hb2
  obtain ⟨⟨z0, z1, z2, z3, z4, z5, z6, z7, z8⟩, t0, t1, t2, t3, t4, t5, t6, t7, t8⟩ := block9 hb2
  have HG1 : Hid (SlcIn (fun b => W0.heap.size ≤ b) w2 q1 l1 (resH h ps).tp) := by show SlcIn _ _ _ _ _; rw [resH_tp]; exact HK1.out.stay hq2
  have HG2 : Hid (TSlc (fun b => W0.heap.size ≤ b) w2 r2 l2 (resP h ps)) := hto.tslc (fun k _ hk => hk.1) (fun k hk => by have := (hE k hk).1; have := HQ1.out.size; omega)
  have HQ2 := Lib.hid (HQ0.out.trans (HQ1.out.trans hq2))
  have hgh : (wk1 (fun (s : Unit) _ _ => s) rsO () [] h ps).2.1 = resH h ps := rfl
  rw [hgh]
  clear hj hto hE hf hq2 hb2 hgh
  generalize resH h ps = g at *
  unfold tmv
  go_wp2_with fail
  have hff := put9_fr w2 (B + 1) (.int .i64 g.k) (.string g.nm) (.int .i64 g.n) (.int .i64 g.tk) (.int .i64 g.tn) (.slice q1 l1 e1) (.slice r2 l2 f2) (.int .i64 g.fr) (.int .i64 g.en)
  have hbf := put9_block (a0 := .int .i64 g.k) (a1 := .string g.nm) (a2 := .int .i64 g.n) (a3 := .int .i64 g.tk) (a4 := .int .i64 g.tn) (a5 := .slice q1 l1 e1) (a6 := .slice r2 l2 f2) (a7 := .int .i64 g.fr) (a8 := .int .i64 g.en) HB2.out
  change bodyPost _ _ _ _ _ (put9 w2 (B + 1) (.int .i64 g.k) (.string g.nm) (.int .i64 g.n) (.int .i64 g.tk) (.int .i64 g.tn) (.slice q1 l1 e1) (.slice r2 l2 f2) (.int .i64 g.fr) (.int .i64 g.en))
  clear z0 z1 z2 z3 z4 z5 z6 z7 z8 t0 t1 t2 t3 t4 t5 t6 t7 t8
  generalize put9 w2 (B + 1) (.int .i64 g.k) (.string g.nm) (.int .i64 g.n) (.int .i64 g.tk) (.int .i64 g.tn) (.slice q1 l1 e1) (.slice r2 l2 f2) (.int .i64 g.fr) (.int .i64 g.en) = wf at *
  obtain ⟨⟨x0, x1, x2, x3, x4, x5, x6, x7, x8⟩, _⟩ := block9 hbf
  have HFIN : Hid (TmQ w g (resP h ps) (.returned (.agg #[.int .i64 g.k, .string g.nm, .int .i64 g.n, .int .i64 g.tk, .int .i64 g.tn, .slice q1 l1 e1, .slice r2 l2 f2, .int .i64 g.fr, .int .i64 g.en])) wf) := by
    have hB := HBE.out
    have hz0 := HZ0.out
    have key : ∀ k, W0.heap.size ≤ k → w.heap.size ≤ k ∧ ¬ k = B + 1 := fun k hk => by omega
    exact ⟨q1, l1, e1, r2, l2, f2, rfl, HG1.out.fr hff (fun k _ hk => key k hk), HG2.out.fr hff (fun k _ hk => key k hk), HQ2.out.trans' hff (fun k hk h => by omega)⟩
  clear hff hbf
  refine bodyPost_ret (by simp [results, Tryd.results40, go_sem, x0, x1, x2, x3, x4, x5, x6, x7, x8]; rfl) rfl ?_
  exact HFIN.out
end Sc
end Go.Proofs.YtnfodiedalhlhaaDoor
end
section
namespace Go.Proofs.YtnfodiedalhlhaaDoor
open Go.RowKit Go.Shelf
namespace Sc
def zeroN : Nd := ⟨0, ⟨#[]⟩, 0, 0, 0, .nil, 0, 0⟩
theorem sound_var {h : Nd} {ps : To} (hs : soundB h ps.length = true) : varOk h ps := by
  intro hk
  unfold soundB at hs
  simp only [Bool.and_eq_true, decide_eq_true_eq] at hs
  have h1 := hs.2
  rw [hk] at h1
  have : ps.length = 0 := by have h2 : kMost 1 = 0 := rfl; rw [h2] at h1; omega
  cases ps with
  | nil => rfl
  | cons _ _ _ => simp [To.length] at this
theorem right_okF : ∀ f : To, allS f = true → okF f
  | .nil, _ => trivial
  | .cons h ps r, e => by
    rw [allS_cons, Bool.and_eq_true, Bool.and_eq_true] at e
    refine ⟨sound_var e.1.1, ?_, right_okF ps e.1.2, right_okF r e.2⟩
    intro hk
    have hs := e.1.1
    unfold soundB at hs
    simp only [Bool.and_eq_true, decide_eq_true_eq] at hs
    have hn : namedB h = true := hs.1.1.1.1.1.2
    unfold namedB at hn
    have hkn : kName h.k = false := by unfold namedK bindK at hk; unfold kName; simpa [Bool.or_assoc] using hk
    rw [hkn] at hn
    simp only [Bool.false_eq_true, if_false, List.isEmpty_iff] at hn
    rw [ByteArray.toList_eq] at hn
    apply ByteArray.ext
    apply Array.toList_inj.1
    simpa using hn
def RT (h : Nd) (ps : To) : Bool := allS (.cons h ps .nil)
theorem RT_ok {h : Nd} {ps : To} (hr : RT h ps = true) : varOk h ps ∧ okF ps ∧ (namedK h.k = false → h.nm = ByteArray.empty) := by
  have := right_okF _ hr
  exact ⟨this.1, this.2.2.1, this.2.1⟩
def rsvP (h : Nd) (ps : To) : (Nd × To) × (Int × Int) × Int :=
  if RT h ps then (match free1 [] h ps with
    | [] => ((resH h ps, resP h ps), (0, 0), 0)
    | x :: _ => ((zeroN, .nil), (x.fr, x.en), 5)) else ((zeroN, .nil), (0, 0), 1)
def RsvQ (w : World) (h : Nd) (ps : To) (x : Ending) (w' : World) : Prop := ∃ (g : Nd) (gs : To) (o1 : Option Addr) (l1 c1 : Nat) (o2 : Option Addr) (l2 c2 : Nat) (p : Int × Int) (er : Int), x = .returned (.tuple #[tmv g o1 l1 c1 o2 l2 c2, .agg #[.int .i64 p.1, .int .i64 p.2], .int .i64 er]) ∧ rsvP h ps = ((g, gs), p, er) ∧
  SlcIn (fun b => w.heap.size ≤ b) w' o1 l1 g.tp ∧ TSlc (fun b => w.heap.size ≤ b) w' o2 l2 gs ∧ Quiet0 w w'
def put2 (w : World) (B : Nat) (u v : Value) : World := (w.setCell ⟨B, 0, none⟩ u).setCell ⟨B, 1, none⟩ v
theorem put2_fr (w : World) (B : Nat) (u v : Value) : Fr (fun k => k = B) w (put2 w B u v) := (Fr.setCell (fun k => k = B) w ⟨B, 0, none⟩ u rfl).trans (Fr.setCell (fun k => k = B) _ ⟨B, 1, none⟩ v rfl)
theorem put2_block {w : World} {B : Nat} {u v a b : Value} {t : TypeId} (h : w.heap[B]? = some (.cells #[a, b] t (0, 0))) : (put2 w B u v).heap[B]? = some (.cells #[u, v] t (0, 0)) := set_block (i := 1) (u := v) (set_block (i := 0) (u := u) h)
theorem span_cells {w : World} {B : Nat} {a b : Value} {t : TypeId} (h : w.heap[B]? = some (.cells #[a, b] t (0, 0))) : w.cell? ⟨B, 0, none⟩ = some a ∧ w.cell? ⟨B, 1, none⟩ = some b ∧ w.frozen? ⟨B, 0, none⟩ = false ∧ w.frozen? ⟨B, 1, none⟩ = false := by
  refine ⟨?_, ?_, ?_, ?_⟩
  · rw [cell_of_row _ _ _ _ _ (0, 0) h]; rfl
  · rw [cell_of_row _ _ _ _ _ (0, 0) h]; rfl
  · simp [World.frozen?, h]
  · simp [World.frozen?, h]
set_option maxRecDepth 100000 in
set_option maxHeartbeats 4000000 in
theorem resolve_any (h : Nd) (ps : To) (w : World) (R : Nat → Prop) (o1 : Option Addr) (l1 c1 : Nat) (o2 : Option Addr) (l2 c2 : Nat) (hs1 : SlcIn R w o1 l1 h.tp) (hs : TSlc R w o2 l2 ps) (hz : ps.size ≤ 100000) (hg : allT GoodH (.cons h ps .nil)) (ht : Lx.Spaces w) :
    Calls Tryd.prog 13 #[tmv h o1 l1 c1 o2 l2 c2] w (RsvQ w h ps) := by
  obtain ⟨W0, hW0⟩ : ∃ W0, W0 = ((w.alloc (.cells (cells9 h o1 l1 c1 o2 l2 c2) 30)).alloc (.cells zero9 30)).alloc (.cells #[.int .i64 0, .int .i64 0] 28) := ⟨_, rfl⟩
  have HQ0 : Hid (Quiet0 w W0) := by rw [hW0]; exact ((Quiet0.alloc _ _).trans (Quiet0.alloc _ _)).trans (Quiet0.alloc _ _)
  have HB0 : Hid (W0.heap[w.heap.size]? = some (.cells (cells9 h o1 l1 c1 o2 l2 c2) 30 (0, 0))) := by
    show _ = _; rw [hW0, Below.heap_alloc _ _ _ (by simp; omega), Below.heap_alloc _ _ _ (by simp)]; exact heap_alloc_new w _
  have HB1 : Hid (W0.heap[w.heap.size + 1]? = some (.cells zero9 30 (0, 0))) := by
    show _ = _; rw [hW0, Below.heap_alloc _ _ _ (by simp)]
    have := heap_alloc_new (w.alloc (.cells (cells9 h o1 l1 c1 o2 l2 c2) 30)) (.cells zero9 30)
    simpa using this
  have HB2 : Hid (W0.heap[w.heap.size + 2]? = some (.cells #[.int .i64 0, .int .i64 0] 28 (0, 0))) := by
    show _ = _; rw [hW0]
    have := heap_alloc_new ((w.alloc (.cells (cells9 h o1 l1 c1 o2 l2 c2) 30)).alloc (.cells zero9 30)) (.cells #[.int .i64 0, .int .i64 0] 28)
    simpa using this
  have HR := Lib.hid (rightTm_any h ps W0 R o1 l1 c1 o2 l2 c2 (hs1.stay HQ0.out) (hs.stay HQ0.out) hz hg (ht.stay HQ0.out))
  have HC : Hid (∀ W, Quiet0 W0 W → Cells9 W w.heap.size 0 h o1 l1 c1 o2 l2 c2) := fun W hq => (cells9_block HB0.out).fr hq (fun h => h)
  have HP : Hid (∀ W, Quiet0 W0 W → W.heap[w.heap.size + 1]? = some (.cells zero9 30 (0, 0)) ∧ W.heap[w.heap.size + 2]? = some (.cells #[.int .i64 0, .int .i64 0] 28 (0, 0))) := fun W hq => ⟨blk_after hq HB1.out, blk_after hq HB2.out⟩
  have HFC : Hid (∀ W, Quiet0 W0 W → varOk h ps → allV ps → Calls Tryd.prog 39 #[tmv h o1 l1 c1 o2 l2 c2] W (ListQ W (free1 [] h ps))) := fun W hq h1 h2 => free_any h ps W R o1 l1 c1 o2 l2 c2 (hs1.stay (HQ0.out.trans hq)) (hs.stay (HQ0.out.trans hq)) hz h1 h2
  have HRC : Hid (∀ W, Quiet0 W0 W → varOk h ps → allV ps → Calls Tryd.prog 40 #[tmv h o1 l1 c1 o2 l2 c2] W (TmQ W (resH h ps) (resP h ps))) := fun W hq h1 h2 => resolved_any h ps W R o1 l1 c1 o2 l2 c2 (hs1.stay (HQ0.out.trans hq)) (hs.stay (HQ0.out.trans hq)) hz h1 h2 (by have := hg.1.2.1; omega) (allT_mono (fun h hh => by have := hh.2.1; omega) _ hg.2.1)
  change Hid (Calls _ _ _ _ (fun e w' => e = .returned (.bool (RT h ps)) ∧ _)) at HR
  clear hs1 hs hg ht
  unfold tmv at HR HFC HRC ⊢
  cases hr : RT h ps
  case false =>
    rw [hr] at HR
    have HE : Hid (rsvP h ps = ((zeroN, .nil), (0, 0), 1)) := by show _ = _; unfold rsvP; rw [hr]; rfl
    go_enter Tryd.func13, Tryd.ntmps13
    go_upto_region 1 with fail
    rw [← hW0]
    clear hW0
    generalize hB : w.heap.size = B at *
    have HBE := Lib.hid hB
    clear hB
    obtain ⟨a0, a1, a2, a3, a4, a5, a6, a7, a8⟩ := HC.out W0 (Quiet0.refl _)
    go_wp2_with fail
    refine HR.out.mono ?_; rintro x w1 ⟨rfl, hq1⟩
    obtain ⟨hb1, hb2⟩ := HP.out w1 hq1
    have HK1 := Lib.hid hb1
    have HK2 := Lib.hid hb2
    have HQ1 := Lib.hid (HQ0.out.trans hq1)
    obtain ⟨⟨z0, z1, z2, z3, z4, z5, z6, z7, z8⟩, t0, t1, t2, t3, t4, t5, t6, t7, t8⟩ := block9 hb1
    obtain ⟨p0, p1, p2, p3⟩ := span_cells hb2
    clear hb1 hb2 hq1 a0 a1 a2 a3 a4 a5 a6 a7 a8
    go_wp2_with fail
    clear z0 z1 z2 z3 z4 z5 z6 z7 z8 t0 t1 t2 t3 t4 t5 t6 t7 t8 p0 p1 p2 p3
    have hbf := put9_block (a0 := .int .i64 0) (a1 := .string ⟨#[]⟩) (a2 := .int .i64 0) (a3 := .int .i64 0) (a4 := .int .i64 0) (a5 := .slice none 0 0) (a6 := .slice none 0 0) (a7 := .int .i64 0) (a8 := .int .i64 0) HK1.out
    have hf9 := put9_fr w1 (B + 1) (.int .i64 0) (.string ⟨#[]⟩) (.int .i64 0) (.int .i64 0) (.int .i64 0) (.slice none 0 0) (.slice none 0 0) (.int .i64 0) (.int .i64 0)
    have hb2f := blk_fr hf9 (by omega) HK2.out
    have hf2 := put2_fr (put9 w1 (B + 1) (.int .i64 0) (.string ⟨#[]⟩) (.int .i64 0) (.int .i64 0) (.int .i64 0) (.slice none 0 0) (.slice none 0 0) (.int .i64 0) (.int .i64 0)) (B + 2) (.int .i64 0) (.int .i64 0)
    have hbg := blk_fr hf2 (by omega) hbf
    have hbh := put2_block (u := .int .i64 0) (v := .int .i64 0) hb2f
    have hff : Fr (fun k => k = B + 1 ∨ k = B + 2) w1 (put2 (put9 w1 (B + 1) (.int .i64 0) (.string ⟨#[]⟩) (.int .i64 0) (.int .i64 0) (.int .i64 0) (.slice none 0 0) (.slice none 0 0) (.int .i64 0) (.int .i64 0)) (B + 2) (.int .i64 0) (.int .i64 0)) := (hf9.mono (fun _ _ h => .inl h)).trans (hf2.mono (fun _ _ h => .inr h))
    change bodyPost _ _ _ _ _ (put2 (put9 w1 (B + 1) (.int .i64 0) (.string ⟨#[]⟩) (.int .i64 0) (.int .i64 0) (.int .i64 0) (.slice none 0 0) (.slice none 0 0) (.int .i64 0) (.int .i64 0)) (B + 2) (.int .i64 0) (.int .i64 0))
    clear hbf hf9 hb2f hf2
    generalize (put2 (put9 w1 (B + 1) (.int .i64 0) (.string ⟨#[]⟩) (.int .i64 0) (.int .i64 0) (.int .i64 0) (.slice none 0 0) (.slice none 0 0) (.int .i64 0) (.int .i64 0)) (B + 2) (.int .i64 0) (.int .i64 0)) = wf at *
    obtain ⟨⟨x0, x1, x2, x3, x4, x5, x6, x7, x8⟩, _⟩ := block9 hbg
    have s0 := (cell_of_row _ (B + 2) 0 _ _ (0, 0) hbh).trans (show _ = some (Value.int .i64 0) from rfl)
    have s1 := (cell_of_row _ (B + 2) 1 _ _ (0, 0) hbh).trans (show _ = some (Value.int .i64 0) from rfl)
    have HFIN : Hid (RsvQ w h ps (.returned (.tuple #[.agg #[.int .i64 0, .string ⟨#[]⟩, .int .i64 0, .int .i64 0, .int .i64 0, .slice none 0 0, .slice none 0 0, .int .i64 0, .int .i64 0], .agg #[.int .i64 0, .int .i64 0], .int .i64 1])) wf) := by
      have hB := HBE.out
      exact ⟨zeroN, .nil, none, 0, 0, none, 0, 0, (0, 0), 1, rfl, HE.out, SlcIn.nil _ _ _, TSlc.nil _ _ _, HQ1.out.trans' hff (fun k hk h => by omega)⟩
    clear hff hbg hbh
    refine bodyPost_ret (by simp [results, Tryd.results13, go_sem, x0, x1, x2, x3, x4, x5, x6, x7, x8, s0, s1]; rfl) rfl ?_
    exact HFIN.out
  case true =>
    rw [hr] at HR
    obtain ⟨hv, hok, _⟩ := RT_ok hr
    have hav := okF_allV ps hok
    have HFW : Hid (∀ W, Quiet0 W0 W → Calls Tryd.prog 39 #[.agg #[.int .i64 h.k, .string h.nm, .int .i64 h.n, .int .i64 h.tk, .int .i64 h.tn, .slice o1 l1 c1, .slice o2 l2 c2, .int .i64 h.fr, .int .i64 h.en]] W (ListQ W (free1 [] h ps))) := fun W hq => HFC.out W hq hv hav
    have HRW : Hid (∀ W, Quiet0 W0 W → Calls Tryd.prog 40 #[.agg #[.int .i64 h.k, .string h.nm, .int .i64 h.n, .int .i64 h.tk, .int .i64 h.tn, .slice o1 l1 c1, .slice o2 l2 c2, .int .i64 h.fr, .int .i64 h.en]] W (TmQ W (resH h ps) (resP h ps))) := fun W hq => HRC.out W hq hv hav
    have hE0 : rsvP h ps = (match free1 [] h ps with
      | [] => ((resH h ps, resP h ps), (0, 0), 0)
      | x :: _ => ((zeroN, .nil), (x.fr, x.en), 5)) := by unfold rsvP; rw [hr]; rfl
    have HLZ : Hid ((free1 [] h ps).length ≤ 100001) := by have := free1_len [] h ps; show _ ≤ _; omega
    clear HFC HRC hv hok hav
    generalize free1 [] h ps = L at *
    cases L with
    | nil =>
      have HE : Hid (rsvP h ps = ((resH h ps, resP h ps), (0, 0), 0)) := hE0
      clear hE0
      generalize resH h ps = g at *
      generalize resP h ps = gs at *
      go_enter Tryd.func13, Tryd.ntmps13
      go_upto_region 1 with fail
      rw [← hW0]
      clear hW0
      generalize hB : w.heap.size = B at *
      have HBE := Lib.hid hB
      clear hB
      obtain ⟨a0, a1, a2, a3, a4, a5, a6, a7, a8⟩ := HC.out W0 (Quiet0.refl _)
      go_wp2_with fail
      refine HR.out.mono ?_; rintro x w1 ⟨rfl, hq1⟩
      clear a0 a1 a2 a3 a4 a5 a6 a7 a8
      obtain ⟨a0, a1, a2, a3, a4, a5, a6, a7, a8⟩ := HC.out w1 hq1
      have HQ1 := Lib.hid hq1
      clear hq1
      go_wp2_with fail
      refine (HFW.out w1 HQ1.out).mono ?_; rintro x w2 ⟨o, c, xs, rfl, hl, hq2⟩
      have HQ2 := Lib.hid (HQ1.out.trans hq2)
      clear hl hq2 a0 a1 a2 a3 a4 a5 a6 a7 a8
      obtain ⟨a0, a1, a2, a3, a4, a5, a6, a7, a8⟩ := HC.out w2 HQ2.out
      go_wp2_with fail
      refine (HRW.out w2 HQ2.out).mono ?_; rintro x w3 ⟨q1, m1, d1, q2, m2, d2, rfl, hg1, hg2, hq3⟩
      have HQ3 := Lib.hid (HQ2.out.trans hq3)
      have HG1 := Lib.hid hg1
      have HG2 := Lib.hid hg2
      have hz2 := HQ2.out.size
      have HZ0 : Hid (B + 3 ≤ W0.heap.size) := by show _ ≤ _; have := lt_of_block HB2.out; omega
      clear hq3 hg1 hg2 a0 a1 a2 a3 a4 a5 a6 a7 a8
      unfold tmv
      obtain ⟨hb1, hb2⟩ := HP.out w3 HQ3.out
      have HK1 := Lib.hid hb1
      have HK2 := Lib.hid hb2
      obtain ⟨⟨z0, z1, z2, z3, z4, z5, z6, z7, z8⟩, t0, t1, t2, t3, t4, t5, t6, t7, t8⟩ := block9 hb1
      obtain ⟨p0, p1, p2, p3⟩ := span_cells hb2
      clear hb1 hb2
      go_wp2_with fail
      clear z0 z1 z2 z3 z4 z5 z6 z7 z8 t0 t1 t2 t3 t4 t5 t6 t7 t8 p0 p1 p2 p3
      have hbf := put9_block (a0 := .int .i64 g.k) (a1 := .string g.nm) (a2 := .int .i64 g.n) (a3 := .int .i64 g.tk) (a4 := .int .i64 g.tn) (a5 := .slice q1 m1 d1) (a6 := .slice q2 m2 d2) (a7 := .int .i64 g.fr) (a8 := .int .i64 g.en) HK1.out
      have hf9 := put9_fr w3 (B + 1) (.int .i64 g.k) (.string g.nm) (.int .i64 g.n) (.int .i64 g.tk) (.int .i64 g.tn) (.slice q1 m1 d1) (.slice q2 m2 d2) (.int .i64 g.fr) (.int .i64 g.en)
      have hb2f := blk_fr hf9 (by omega) HK2.out
      have hf2 := put2_fr (put9 w3 (B + 1) (.int .i64 g.k) (.string g.nm) (.int .i64 g.n) (.int .i64 g.tk) (.int .i64 g.tn) (.slice q1 m1 d1) (.slice q2 m2 d2) (.int .i64 g.fr) (.int .i64 g.en)) (B + 2) (.int .i64 0) (.int .i64 0)
      have hbg := blk_fr hf2 (by omega) hbf
      have hbh := put2_block (u := .int .i64 0) (v := .int .i64 0) hb2f
      have hff : Fr (fun k => k = B + 1 ∨ k = B + 2) w3 (put2 (put9 w3 (B + 1) (.int .i64 g.k) (.string g.nm) (.int .i64 g.n) (.int .i64 g.tk) (.int .i64 g.tn) (.slice q1 m1 d1) (.slice q2 m2 d2) (.int .i64 g.fr) (.int .i64 g.en)) (B + 2) (.int .i64 0) (.int .i64 0)) := (hf9.mono (fun _ _ h => .inl h)).trans (hf2.mono (fun _ _ h => .inr h))
      change bodyPost _ _ _ _ _ (put2 (put9 w3 (B + 1) (.int .i64 g.k) (.string g.nm) (.int .i64 g.n) (.int .i64 g.tk) (.int .i64 g.tn) (.slice q1 m1 d1) (.slice q2 m2 d2) (.int .i64 g.fr) (.int .i64 g.en)) (B + 2) (.int .i64 0) (.int .i64 0))
      clear hbf hf9 hb2f hf2
      generalize (put2 (put9 w3 (B + 1) (.int .i64 g.k) (.string g.nm) (.int .i64 g.n) (.int .i64 g.tk) (.int .i64 g.tn) (.slice q1 m1 d1) (.slice q2 m2 d2) (.int .i64 g.fr) (.int .i64 g.en)) (B + 2) (.int .i64 0) (.int .i64 0)) = wf at *
      obtain ⟨⟨x0, x1, x2, x3, x4, x5, x6, x7, x8⟩, _⟩ := block9 hbg
      have s0 := (cell_of_row _ (B + 2) 0 _ _ (0, 0) hbh).trans (show _ = some (Value.int .i64 0) from rfl)
      have s1 := (cell_of_row _ (B + 2) 1 _ _ (0, 0) hbh).trans (show _ = some (Value.int .i64 0) from rfl)
      have HFIN : Hid (RsvQ w h ps (.returned (.tuple #[.agg #[.int .i64 g.k, .string g.nm, .int .i64 g.n, .int .i64 g.tk, .int .i64 g.tn, .slice q1 m1 d1, .slice q2 m2 d2, .int .i64 g.fr, .int .i64 g.en], .agg #[.int .i64 0, .int .i64 0], .int .i64 0])) wf) := by
        have hB := HBE.out
        have hz0 := HZ0.out
        have key : ∀ k, w2.heap.size ≤ k → w.heap.size ≤ k ∧ ¬ (k = B + 1 ∨ k = B + 2) := fun k hk => by omega
        exact ⟨g, gs, q1, m1, d1, q2, m2, d2, (0, 0), 0, rfl, HE.out, HG1.out.fr hff (fun k _ hk => key k hk), HG2.out.fr hff (fun k _ hk => key k hk), (HQ0.out.trans HQ3.out).trans' hff (fun k hk h => by omega)⟩
      clear hff hbg hbh
      refine bodyPost_ret (by simp [results, Tryd.results13, go_sem, x0, x1, x2, x3, x4, x5, x6, x7, x8, s0, s1]; rfl) rfl ?_
      exact HFIN.out
    | cons y L' =>
      have HE : Hid (rsvP h ps = ((zeroN, .nil), (y.fr, y.en), 5)) := hE0
      clear hE0 HRW
      have hpos : ((y :: L').length : Int) > 0 := by simp <;> omega
      have hpos' : (0 : Int) < ((y :: L').length : Int) := hpos
      generalize hn : (y :: L').length = n at *
      have HN := Lib.hid hn
      clear hn
      go_enter Tryd.func13, Tryd.ntmps13
      go_upto_region 1 with fail
      rw [← hW0]
      clear hW0
      generalize hB : w.heap.size = B at *
      have HBE := Lib.hid hB
      clear hB
      obtain ⟨a0, a1, a2, a3, a4, a5, a6, a7, a8⟩ := HC.out W0 (Quiet0.refl _)
      go_wp2_with fail
      refine HR.out.mono ?_; rintro x w1 ⟨rfl, hq1⟩
      clear a0 a1 a2 a3 a4 a5 a6 a7 a8
      obtain ⟨a0, a1, a2, a3, a4, a5, a6, a7, a8⟩ := HC.out w1 hq1
      have HQ1 := Lib.hid hq1
      clear hq1
      go_wp2_with fail
      refine (HFW.out w1 HQ1.out).mono ?_; rintro x w2 ⟨o, c, xs, rfl, hl, hq2⟩
      have HQ2 := Lib.hid (HQ0.out.trans (HQ1.out.trans hq2))
      obtain ⟨g9, off, u1, v1, e1, u2, v2, e2, rfl, ⟨f0, f1, f2, f3, f4, f5, f6, f7, f8⟩⟩ := hl.heads 0 y rfl
      have hg9 := hl.2.2 g9 rfl
      have hz0 := lt_of_block HB2.out
      have hz1 := HQ1.out.size
      have hn1 : B + 1 ≠ g9 := by omega
      have hn2 : B + 2 ≠ g9 := by omega
      have hn3 : g9 ≠ B + 1 := by omega
      have hn4 : g9 ≠ B + 2 := by omega
      obtain ⟨hb1, hb2⟩ := HP.out w2 (HQ1.out.trans hq2)
      have HK1 := Lib.hid hb1
      have HK2 := Lib.hid hb2
      rw [HN.out]
      obtain ⟨⟨z0, z1, z2, z3, z4, z5, z6, z7, z8⟩, t0, t1, t2, t3, t4, t5, t6, t7, t8⟩ := block9 hb1
      obtain ⟨p0, p1, p2, p3⟩ := span_cells hb2
      clear hb1 hb2 hl hq2 a0 a1 a2 a3 a4 a5 a6 a7 a8
      rw [Nat.zero_mul, Nat.add_zero] at f0 f1 f2 f3 f4 f5 f6 f7 f8
      go_upto_region 5 with fail
      go_region
      go_wp2_with fail
      clear z0 z1 z2 z3 z4 z5 z6 z7 z8 t0 t1 t2 t3 t4 t5 t6 t7 t8 p0 p1 p2 p3
      have hbf := put9_block (a0 := .int .i64 0) (a1 := .string ⟨#[]⟩) (a2 := .int .i64 0) (a3 := .int .i64 0) (a4 := .int .i64 0) (a5 := .slice none 0 0) (a6 := .slice none 0 0) (a7 := .int .i64 0) (a8 := .int .i64 0) HK1.out
      have hf9 := put9_fr w2 (B + 1) (.int .i64 0) (.string ⟨#[]⟩) (.int .i64 0) (.int .i64 0) (.int .i64 0) (.slice none 0 0) (.slice none 0 0) (.int .i64 0) (.int .i64 0)
      have hb2f := blk_fr hf9 (by omega) HK2.out
      have hf2 := put2_fr (put9 w2 (B + 1) (.int .i64 0) (.string ⟨#[]⟩) (.int .i64 0) (.int .i64 0) (.int .i64 0) (.slice none 0 0) (.slice none 0 0) (.int .i64 0) (.int .i64 0)) (B + 2) (.int .i64 y.fr) (.int .i64 y.en)
      have hbg := blk_fr hf2 (by omega) hbf
      have hbh := put2_block (u := .int .i64 y.fr) (v := .int .i64 y.en) hb2f
      have hff : Fr (fun k => k = B + 1 ∨ k = B + 2) w2 (put2 (put9 w2 (B + 1) (.int .i64 0) (.string ⟨#[]⟩) (.int .i64 0) (.int .i64 0) (.int .i64 0) (.slice none 0 0) (.slice none 0 0) (.int .i64 0) (.int .i64 0)) (B + 2) (.int .i64 y.fr) (.int .i64 y.en)) := (hf9.mono (fun _ _ h => .inl h)).trans (hf2.mono (fun _ _ h => .inr h))
      replace hbg := blk_drew hbg
      replace hbh := blk_drew hbh
      replace hff := hff.trans (Fr.drew (fun k => k = B + 1 ∨ k = B + 2) (put2 (put9 w2 (B + 1) (.int .i64 0) (.string ⟨#[]⟩) (.int .i64 0) (.int .i64 0) (.int .i64 0) (.slice none 0 0) (.slice none 0 0) (.int .i64 0) (.int .i64 0)) (B + 2) (.int .i64 y.fr) (.int .i64 y.en)))
      change bodyPost _ _ _ _ _ ((put2 (put9 w2 (B + 1) (.int .i64 0) (.string ⟨#[]⟩) (.int .i64 0) (.int .i64 0) (.int .i64 0) (.slice none 0 0) (.slice none 0 0) (.int .i64 0) (.int .i64 0)) (B + 2) (.int .i64 y.fr) (.int .i64 y.en))).drew
      clear hbf hf9 hb2f hf2
      generalize ((put2 (put9 w2 (B + 1) (.int .i64 0) (.string ⟨#[]⟩) (.int .i64 0) (.int .i64 0) (.int .i64 0) (.slice none 0 0) (.slice none 0 0) (.int .i64 0) (.int .i64 0)) (B + 2) (.int .i64 y.fr) (.int .i64 y.en))).drew = wf at *
      obtain ⟨⟨x0, x1, x2, x3, x4, x5, x6, x7, x8⟩, _⟩ := block9 hbg
      have s0 := (cell_of_row _ (B + 2) 0 _ _ (0, 0) hbh).trans (show _ = some (Value.int .i64 y.fr) from rfl)
      have s1 := (cell_of_row _ (B + 2) 1 _ _ (0, 0) hbh).trans (show _ = some (Value.int .i64 y.en) from rfl)
      have HFIN : Hid (RsvQ w h ps (.returned (.tuple #[.agg #[.int .i64 0, .string ⟨#[]⟩, .int .i64 0, .int .i64 0, .int .i64 0, .slice none 0 0, .slice none 0 0, .int .i64 0, .int .i64 0], .agg #[.int .i64 y.fr, .int .i64 y.en], .int .i64 5])) wf) := by
        have hB := HBE.out
        exact ⟨zeroN, .nil, none, 0, 0, none, 0, 0, (y.fr, y.en), 5, rfl, HE.out, SlcIn.nil _ _ _, TSlc.nil _ _ _, HQ2.out.trans' hff (fun k hk h => by omega)⟩
      clear hff hbg hbh
      refine bodyPost_ret (by simp [results, Tryd.results13, go_sem, x0, x1, x2, x3, x4, x5, x6, x7, x8, s0, s1]; rfl) rfl ?_
      exact HFIN.out
end Sc
end Go.Proofs.YtnfodiedalhlhaaDoor
end
