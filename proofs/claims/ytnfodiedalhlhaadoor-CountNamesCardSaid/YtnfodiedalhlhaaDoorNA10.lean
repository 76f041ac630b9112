/-
  Texts laid together (CnCount): laws and walks, with their conditions in their statements.
-/
import Derived.Test.YtnfodiedalhlhaaDoorNA8
section
namespace Go.Proofs.YtnfodiedalhlhaaDoor
open Go.RowKit Go.Shelf
namespace Cn
def okH (h : Nd) (m : Nat) : Prop := (h.k = 4 → 1 ≤ m) ∧ (h.k = 6 → 2 ≤ m) ∧ (h.k = 7 → 2 ≤ m)
def okL : To → Prop
  | .nil => True
  | .cons h ps r => okH h ps.length ∧ okL ps ∧ okL r
theorem okL_get : ∀ (f : To) (i : Nat) (h : Nd) (qs : To), okL f → f.get i = some (h, qs) → okH h qs.length ∧ okL qs
  | .nil, i, h, qs, _, e => by simp [To.get] at e
  | .cons h' ps r, 0, h, qs, k, e => by
    simp [To.get] at e
    obtain ⟨rfl, rfl⟩ := e
    exact ⟨k.1, k.2.1⟩
  | .cons h' ps r, i + 1, h, qs, k, e => okL_get r i h qs k.2.2 e
def OwnT (F : Nat) (own : Int → Int) : Prop := ∀ (W : World) (h : Nd) (o1 : Option Addr) (l1 c1 : Nat) (o2 : Option Addr) (l2 c2 : Nat), Calls Tryd.prog F #[tmv h o1 l1 c1 o2 l2 c2] W fun x w' => x = .returned (.int .i64 (own h.k)) ∧ Quiet0 W w'
abbrev ctr (F : Nat) (rc : Int) : Value := .agg #[.func (.func F) #[] #[], .int .i64 rc]
def CntT (F : Nat) (own : Int → Int) (rc : Int) (h : Nd) (ps : To) : Prop := ∀ (W : World) (R T : Nat → Prop) (o1 : Option Addr) (l1 c1 : Nat) (o2 : Option Addr) (l2 c2 : Nat) (eo : Option Addr) (en ec : Nat) (e : Env), TSlc R W o2 l2 ps → BnIn T W eo en e → en ≤ ec → en + ps.size ≤ 100000 → EnvIn e → okH h ps.length → okL ps →
  Calls Tryd.prog 92 #[ctr F rc, tmv h o1 l1 c1 o2 l2 c2, .slice eo en ec] W fun x w' => x = .returned (.int .i64 (cnt own rc h ps e)) ∧ Quiet0 W w'
theorem addV_any (l : List Int) (cs : Array Value) (b n c : Nat) (w : World) (hn : n = l.length) (hz : n ≤ 1000) (hb : w.heap[b]? = some (.cells cs 3 (0, 0))) (hcs : ∀ (j : Nat) (x : Int), l[j]? = some x → cs[j]? = some (.int .i64 x)) (hl : ∀ x ∈ l, InT x) :
    Calls Tryd.prog 110 #[.slice (some ⟨b, 0, none⟩) n c] w fun x w' => x = .returned (.int .i64 (addL l)) ∧ Quiet0 w w' :=
  (add_any l b n c w hn hz (fun j x hx => by rw [cell_of_row _ _ _ _ _ (0, 0) hb]; exact hcs j x hx) hl).mono (fun e w' h => ⟨h.1, by rw [h.2]; exact Quiet0.refl _⟩)
theorem add2_any (x y : Int) (b : Nat) (w : World) (hb : w.heap[b]? = some (.cells #[.int .i64 x, .int .i64 y] 3 (0, 0))) (hx : InT x) (hy : InT y) :
    Calls Tryd.prog 110 #[.slice (some ⟨b, 0, none⟩) 2 2] w fun e w' => e = .returned (.int .i64 (addL [x, y])) ∧ Quiet0 w w' :=
  addV_any [x, y] _ b 2 2 w rfl (by decide) hb (fun j u hj => by
    match j, hj with
    | 0, hj => cases hj; rfl
    | 1, hj => cases hj; rfl
    | j + 2, hj => simp at hj) (fun u hu => by simp at hu; rcases hu with rfl | rfl <;> assumption)
theorem add3_any (x y z : Int) (b : Nat) (w : World) (hb : w.heap[b]? = some (.cells #[.int .i64 x, .int .i64 y, .int .i64 z] 3 (0, 0))) (hx : InT x) (hy : InT y) (hz : InT z) :
    Calls Tryd.prog 110 #[.slice (some ⟨b, 0, none⟩) 3 3] w fun e w' => e = .returned (.int .i64 (addL [x, y, z])) ∧ Quiet0 w w' :=
  addV_any [x, y, z] _ b 3 3 w rfl (by decide) hb (fun j u hj => by
    match j, hj with
    | 0, hj => cases hj; rfl
    | 1, hj => cases hj; rfl
    | 2, hj => cases hj; rfl
    | j + 3, hj => simp at hj) (fun u hu => by simp at hu; rcases hu with rfl | rfl | rfl <;> assumption)
def BnP (W : World) (m : Nat) (e : Env) (x : Ending) (w' : World) : Prop := ∃ o c, x = .returned (.slice o m c) ∧ BnIn (fun _ => True) w' o m e ∧ m ≤ c ∧ Quiet0 W w'
theorem withP (T : Nat → Prop) (e e' : Env) (s : ByteArray) (v : Int) (o : Option Addr) (n c : Nat) (w : World) (h : BnIn T w o n e) (hc : n ≤ c) (hn : n ≤ 900000) (he : e' = (s, v) :: e) :
    Calls Tryd.prog 63 #[.slice o n c, .string s, .int .i64 v] w (BnP w (n + 1) e') := by
  subst he
  refine (with_any T e s v o n c w h hc hn).mono ?_
  rintro x w' ⟨o', c', rfl, hb, hcc, hq⟩
  have hl : ((s, v) :: e).length = n + 1 := by simp [h.1]
  rw [hl] at hb hcc ⊢
  exact ⟨o', c', rfl, hb.mono (fun _ _ _ => trivial), hcc, hq⟩
set_option maxRecDepth 100000 in
set_option maxHeartbeats 8000000 in
theorem count_var (F : Nat) (own : Int → Int) (rc : Int) (eg : ∀ args w, (callFunc F args).run Tryd.prog w = .ok (.enter F args) w) (ho : OwnT F own) (hin : ∀ k, InT (own k)) (hrc : InT rc) (h : Nd) (ps : To) (ih : ∀ i g qs, ps.get i = some (g, qs) → CntT F own rc g qs) (hk : h.k = 1) : CntT F own rc h ps := by
  intro w R T o1 l1 c1 o2 l2 c2 eo en ec e hs hB hec hz hei hok hokl
  have k1 : (h.k == 1) = true := by simp [hk]
  have HS := Lib.hid hs
  have HBN := Lib.hid hB
  have IH := Lib.hid ih
  have HEI := Lib.hid hei
  have HOK := Lib.hid hok
  have HOKL := Lib.hid hokl
  have HIN := Lib.hid hin
  have HRC := Lib.hid hrc
  have HEC := Lib.hid hec
  have HEN := Lib.hid hB.1
  have HL := Lib.hid hs.1
  obtain ⟨W0, hW0⟩ : ∃ W0, W0 = (w.alloc (.cells #[.func (.func F) #[] #[], .int .i64 rc] 79)).alloc (.cells (cells9 h o1 l1 c1 o2 l2 c2) 30) := ⟨_, rfl⟩
  have HQ0 : Hid (Quiet0 w W0) := by rw [hW0]; exact (Quiet0.alloc _ _).trans (Quiet0.alloc _ _)
  have HB0 : Hid (W0.heap[w.heap.size]? = some (.cells #[.func (.func F) #[] #[], .int .i64 rc] 79 (0, 0))) := by
    show _ = _; rw [hW0, Below.heap_alloc _ _ _ (by simp)]; exact heap_alloc_new w _
  have HB1 : Hid (W0.heap[w.heap.size + 1]? = some (.cells (cells9 h o1 l1 c1 o2 l2 c2) 30 (0, 0))) := by
    show _ = _; rw [hW0]
    have := heap_alloc_new (w.alloc (.cells #[.func (.func F) #[] #[], .int .i64 rc] 79)) (.cells (cells9 h o1 l1 c1 o2 l2 c2) 30)
    simpa using this
  have HCB : Hid (∀ W, Quiet0 W0 W → W.cell? ⟨w.heap.size, 0, none⟩ = some (.func (.func F) #[] #[]) ∧ W.cell? ⟨w.heap.size, 1, none⟩ = some (.int .i64 rc) ∧ Cells9 W (w.heap.size + 1) 0 h o1 l1 c1 o2 l2 c2) := fun W hq => by
    have hb := blk_after hq HB0.out
    exact ⟨by rw [cell_of_row _ _ _ _ _ (0, 0) hb]; rfl, by rw [cell_of_row _ _ _ _ _ (0, 0) hb]; rfl, cells9_block (blk_after hq HB1.out)⟩
  have HOW := Lib.hid (ho W0 h o1 l1 c1 o2 l2 c2)
  obtain ⟨n0, hn0⟩ : ∃ n0, own h.k = n0 := ⟨_, rfl⟩
  have HN0 := Lib.hid hn0
  have HNI : Hid (InT n0) := by show InT n0; rw [← hn0]; exact hin _
  rw [hn0] at HOW
  have HK := Lib.hid hk
  clear hk
  clear hs hB hec hei hok hokl hin hrc ih ho hn0
  unfold tmv at HOW ⊢
  go_enter Tryd.func92, Tryd.ntmps92
  go_upto_region 1 with fail
  rw [← hW0]
  clear hW0
  generalize hBB : w.heap.size = B at *
  have HBE := Lib.hid hBB
  clear hBB
  obtain ⟨b0, b1, a0, a1, a2, a3, a4, a5, a6, a7, a8⟩ := HCB.out W0 (Quiet0.refl _)
  go_wp2_with fail
  refine HOW.out.mono ?_; rintro x w1 ⟨rfl, hq1⟩
  have HQ1 := Lib.hid hq1
  have HC1 : Hid (∀ W, Quiet0 w1 W → W.cell? ⟨B, 0, none⟩ = some (.func (.func F) #[] #[]) ∧ W.cell? ⟨B, 1, none⟩ = some (.int .i64 rc) ∧ Cells9 W (B + 1) 0 h o1 l1 c1 o2 l2 c2) := fun W hq => HCB.out W (HQ1.out.trans hq)
  have HBN1 := Lib.hid (HBN.out.stay (HQ0.out.trans hq1))
  have HS1 := Lib.hid (HS.out.stay (HQ0.out.trans hq1))
  have HQW : Hid (Quiet0 w w1) := HQ0.out.trans hq1
  clear hq1 b0 b1 a0 a1 a2 a3 a4 a5 a6 a7 a8
  obtain ⟨b0, b1, a0, a1, a2, a3, a4, a5, a6, a7, a8⟩ := HC1.out w1 (Quiet0.refl _)
  have HV : Hid (cnt own rc h ps e = addL [n0, brings e h.nm]) := by show oneC own rc h _ e = _; unfold oneC; rw [if_pos HK.out, HN0.out]
  have HBI : Hid (InT (brings e h.nm)) := brings_in e _ HEI.out
  have HBR := Lib.hid (brings_any T e h.nm eo en ec w1 HBN1.out (by omega))
  generalize brings e h.nm = bv at *
  go_wp2_with fail
  refine HBR.out.mono ?_; rintro x w2 ⟨rfl, hq2⟩
  have HQ2 := Lib.hid hq2
  clear hq2
  go_wp2_with fail
  refine (add2_any n0 bv w2.heap.size (w2.alloc (.cells #[.int .i64 n0, .int .i64 bv] 3)) (heap_alloc_new w2 _) HNI.out HBI.out).mono ?_; rintro x w3 ⟨rfl, hq3⟩
  have HQ3 := Lib.hid hq3
  clear hq3
  go_wp2_with fail
  go_ret
  exact ⟨by rw [HV.out]; rfl, HQW.out.trans ((HQ2.out.trans (Quiet0.alloc _ _)).trans HQ3.out)⟩
set_option maxRecDepth 100000 in
set_option maxHeartbeats 8000000 in
theorem count_lam (F : Nat) (own : Int → Int) (rc : Int) (eg : ∀ args w, (callFunc F args).run Tryd.prog w = .ok (.enter F args) w) (ho : OwnT F own) (hin : ∀ k, InT (own k)) (hrc : InT rc) (h : Nd) (ps : To) (ih : ∀ i g qs, ps.get i = some (g, qs) → CntT F own rc g qs) (hk : h.k = 4) : CntT F own rc h ps := by
  intro w R T o1 l1 c1 o2 l2 c2 eo en ec e hs hB hec hz hei hok hokl
  have k1 : (h.k == 1) = false := by simp [hk]
  have k4 : (h.k == 4) = true := by simp [hk]
  obtain ⟨b9, off, u, qu, p1u, m1u, d1u, p2u, m2u, d2u, rfl, _, gu, ru, cu, _, tu⟩ := hs.nth (i := 0) (by rw [hs.1]; have := hok.1 hk; omega)
  have hl2 : 1 ≤ l2 := by rw [hs.1]; exact hok.1 hk
  have hl0 : (0 : Int) < l2 := by omega
  have hl3 : 0 < l2 := hl2
  have hl4 : (l2 : Int) > 0 := hl0
  have hqz := To.size_get ps 0 u qu gu
  have HS := Lib.hid hs
  have HBN := Lib.hid hB
  have IH := Lib.hid ih
  have HEI := Lib.hid hei
  have HOK := Lib.hid hok
  have HOKL := Lib.hid hokl
  have HIN := Lib.hid hin
  have HRC := Lib.hid hrc
  have HEC := Lib.hid hec
  have HEN := Lib.hid hB.1
  have HL := Lib.hid hs.1
  obtain ⟨W0, hW0⟩ : ∃ W0, W0 = (w.alloc (.cells #[.func (.func F) #[] #[], .int .i64 rc] 79)).alloc (.cells (cells9 h o1 l1 c1 (some ⟨b9, off, none⟩) l2 c2) 30) := ⟨_, rfl⟩
  have HQ0 : Hid (Quiet0 w W0) := by rw [hW0]; exact (Quiet0.alloc _ _).trans (Quiet0.alloc _ _)
  have HB0 : Hid (W0.heap[w.heap.size]? = some (.cells #[.func (.func F) #[] #[], .int .i64 rc] 79 (0, 0))) := by
    show _ = _; rw [hW0, Below.heap_alloc _ _ _ (by simp)]; exact heap_alloc_new w _
  have HB1 : Hid (W0.heap[w.heap.size + 1]? = some (.cells (cells9 h o1 l1 c1 (some ⟨b9, off, none⟩) l2 c2) 30 (0, 0))) := by
    show _ = _; rw [hW0]
    have := heap_alloc_new (w.alloc (.cells #[.func (.func F) #[] #[], .int .i64 rc] 79)) (.cells (cells9 h o1 l1 c1 (some ⟨b9, off, none⟩) l2 c2) 30)
    simpa using this
  have HCB : Hid (∀ W, Quiet0 W0 W → W.cell? ⟨w.heap.size, 0, none⟩ = some (.func (.func F) #[] #[]) ∧ W.cell? ⟨w.heap.size, 1, none⟩ = some (.int .i64 rc) ∧ Cells9 W (w.heap.size + 1) 0 h o1 l1 c1 (some ⟨b9, off, none⟩) l2 c2) := fun W hq => by
    have hb := blk_after hq HB0.out
    exact ⟨by rw [cell_of_row _ _ _ _ _ (0, 0) hb]; rfl, by rw [cell_of_row _ _ _ _ _ (0, 0) hb]; rfl, cells9_block (blk_after hq HB1.out)⟩
  have HOW := Lib.hid (ho W0 h o1 l1 c1 (some ⟨b9, off, none⟩) l2 c2)
  obtain ⟨n0, hn0⟩ : ∃ n0, own h.k = n0 := ⟨_, rfl⟩
  have HN0 := Lib.hid hn0
  have HNI : Hid (InT n0) := by show InT n0; rw [← hn0]; exact hin _
  rw [hn0] at HOW
  have HK := Lib.hid hk
  clear hk
  clear hs hB hec hei hok hokl hin hrc ih ho hn0
  unfold tmv at HOW ⊢
  go_enter Tryd.func92, Tryd.ntmps92
  go_upto_region 1 with fail
  rw [← hW0]
  clear hW0
  generalize hBB : w.heap.size = B at *
  have HBE := Lib.hid hBB
  clear hBB
  obtain ⟨b0, b1, a0, a1, a2, a3, a4, a5, a6, a7, a8⟩ := HCB.out W0 (Quiet0.refl _)
  go_wp2_with fail
  refine HOW.out.mono ?_; rintro x w1 ⟨rfl, hq1⟩
  have HQ1 := Lib.hid hq1
  have HC1 : Hid (∀ W, Quiet0 w1 W → W.cell? ⟨B, 0, none⟩ = some (.func (.func F) #[] #[]) ∧ W.cell? ⟨B, 1, none⟩ = some (.int .i64 rc) ∧ Cells9 W (B + 1) 0 h o1 l1 c1 (some ⟨b9, off, none⟩) l2 c2) := fun W hq => HCB.out W (HQ1.out.trans hq)
  have HBN1 := Lib.hid (HBN.out.stay (HQ0.out.trans hq1))
  have HS1 := Lib.hid (HS.out.stay (HQ0.out.trans hq1))
  have HQW : Hid (Quiet0 w w1) := HQ0.out.trans hq1
  clear hq1 b0 b1 a0 a1 a2 a3 a4 a5 a6 a7 a8
  obtain ⟨b0, b1, a0, a1, a2, a3, a4, a5, a6, a7, a8⟩ := HC1.out w1 (Quiet0.refl _)
  obtain ⟨e1, he1⟩ : ∃ e1, e1 = (h.nm, (0 : Int)) :: e := ⟨_, rfl⟩
  have He1 := Lib.hid he1
  have HIe1 : Hid (EnvIn e1) := by show EnvIn e1; rw [he1]; exact HEI.out.cons in0
  obtain ⟨v1, hv1⟩ : ∃ v1, cnt own rc u qu e1 = v1 := ⟨_, rfl⟩
  have Hv1 := Lib.hid hv1
  have HIv1 : Hid (InT v1) := by show InT v1; rw [← hv1]; exact cnt_in HIN.out HRC.out u qu HIe1.out
  have HV : Hid (cnt own rc h ps e = addL [n0, v1]) := by
    show oneC own rc h _ e = _
    unfold oneC
    rw [if_neg (by rw [HK.out]; decide), if_pos HK.out, HN0.out, ← hv1, List.getD_eq_getElem?_getD, valsC_get own rc ps 0 u qu gu, he1]; rfl
  clear he1 hv1
  have HEu : Hid (∀ W, Quiet0 w1 W → (W.cell? ⟨b9, off, none⟩ = some (.int .i64 u.k) ∧ W.cell? ⟨b9, off + 1, none⟩ = some (.string u.nm) ∧ W.cell? ⟨b9, off + 2, none⟩ = some (.int .i64 u.n) ∧ W.cell? ⟨b9, off + 3, none⟩ = some (.int .i64 u.tk) ∧ W.cell? ⟨b9, off + 4, none⟩ = some (.int .i64 u.tn) ∧ W.cell? ⟨b9, off + 5, none⟩ = some (.slice p1u m1u d1u) ∧ W.cell? ⟨b9, off + 6, none⟩ = some (.slice p2u m2u d2u) ∧ W.cell? ⟨b9, off + 7, none⟩ = some (.int .i64 u.fr) ∧ W.cell? ⟨b9, off + 8, none⟩ = some (.int .i64 u.en))) := fun W hq => by
    have k := (cu.fr HQW.out (fun h => h)).fr hq (fun h => h)
    rw [Nat.zero_mul, Nat.add_zero] at k
    exact k
  have HTu := Lib.hid (tu.stay HQW.out)
  clear cu tu
  have HKP : Hid (∀ W, Quiet0 w1 W → W.cell? ⟨B, 0, none⟩ = some (.func (.func F) #[] #[]) ∧ W.cell? ⟨B, 1, none⟩ = some (.int .i64 rc) ∧ (W.cell? ⟨B + 1, 0, none⟩ = some (.int .i64 h.k) ∧ W.cell? ⟨B + 1, 1, none⟩ = some (.string h.nm) ∧ W.cell? ⟨B + 1, 2, none⟩ = some (.int .i64 h.n) ∧ W.cell? ⟨B + 1, 3, none⟩ = some (.int .i64 h.tk) ∧ W.cell? ⟨B + 1, 4, none⟩ = some (.int .i64 h.tn) ∧ W.cell? ⟨B + 1, 5, none⟩ = some (.slice o1 l1 c1) ∧ W.cell? ⟨B + 1, 6, none⟩ = some (.slice (some ⟨b9, off, none⟩) l2 c2) ∧ W.cell? ⟨B + 1, 7, none⟩ = some (.int .i64 h.fr) ∧ W.cell? ⟨B + 1, 8, none⟩ = some (.int .i64 h.en)) ∧ (W.cell? ⟨b9, off, none⟩ = some (.int .i64 u.k) ∧ W.cell? ⟨b9, off + 1, none⟩ = some (.string u.nm) ∧ W.cell? ⟨b9, off + 2, none⟩ = some (.int .i64 u.n) ∧ W.cell? ⟨b9, off + 3, none⟩ = some (.int .i64 u.tk) ∧ W.cell? ⟨b9, off + 4, none⟩ = some (.int .i64 u.tn) ∧ W.cell? ⟨b9, off + 5, none⟩ = some (.slice p1u m1u d1u) ∧ W.cell? ⟨b9, off + 6, none⟩ = some (.slice p2u m2u d2u) ∧ W.cell? ⟨b9, off + 7, none⟩ = some (.int .i64 u.fr) ∧ W.cell? ⟨b9, off + 8, none⟩ = some (.int .i64 u.en))) := fun W hq => ⟨(HC1.out W (hq)).1, (HC1.out W (hq)).2.1, (HC1.out W (hq)).2.2, HEu.out W (hq)⟩
  have HWT : Hid (∀ W, Quiet0 w1 W → Calls Tryd.prog 63 #[.slice eo en ec, .string h.nm, .int .i64 0] W (BnP W (en + 1) e1)) := fun W hq => withP T e e1 h.nm 0 eo en ec W (HBN1.out.stay (hq)) HEC.out (by omega) He1.out
  have HCT : Hid (∀ (W : World) (wo : Option Addr) (wc : Nat), BnIn (fun _ => True) W wo (en + 1) e1 → en + 1 ≤ wc → Quiet0 w1 W → Calls Tryd.prog 92 #[ctr F rc, tmv u p1u m1u d1u p2u m2u d2u, .slice wo (en + 1) wc] W fun x w' => x = .returned (.int .i64 v1) ∧ Quiet0 W w') := fun W wo wc hb hc hq => by
    have k := IH.out _ u qu gu W R (fun _ => True) p1u m1u d1u p2u m2u d2u wo (en + 1) wc e1 (HTu.out.stay (hq)) hb hc (by omega) HIe1.out (okL_get _ _ _ _ HOKL.out gu).1 (okL_get _ _ _ _ HOKL.out gu).2
    rw [Hv1.out] at k
    exact k
  unfold tmv at HCT
  clear gu
  go_upto_region 6 with fail
  have hqc := Quiet0.refl w1
  go_region_held3 (fun W => W.cell? ⟨B, 0, none⟩ = some (.func (.func F) #[] #[]) ∧ W.cell? ⟨B, 1, none⟩ = some (.int .i64 rc) ∧ (W.cell? ⟨B + 1, 0, none⟩ = some (.int .i64 h.k) ∧ W.cell? ⟨B + 1, 1, none⟩ = some (.string h.nm) ∧ W.cell? ⟨B + 1, 2, none⟩ = some (.int .i64 h.n) ∧ W.cell? ⟨B + 1, 3, none⟩ = some (.int .i64 h.tk) ∧ W.cell? ⟨B + 1, 4, none⟩ = some (.int .i64 h.tn) ∧ W.cell? ⟨B + 1, 5, none⟩ = some (.slice o1 l1 c1) ∧ W.cell? ⟨B + 1, 6, none⟩ = some (.slice (some ⟨b9, off, none⟩) l2 c2) ∧ W.cell? ⟨B + 1, 7, none⟩ = some (.int .i64 h.fr) ∧ W.cell? ⟨B + 1, 8, none⟩ = some (.int .i64 h.en)) ∧ (W.cell? ⟨b9, off, none⟩ = some (.int .i64 u.k) ∧ W.cell? ⟨b9, off + 1, none⟩ = some (.string u.nm) ∧ W.cell? ⟨b9, off + 2, none⟩ = some (.int .i64 u.n) ∧ W.cell? ⟨b9, off + 3, none⟩ = some (.int .i64 u.tk) ∧ W.cell? ⟨b9, off + 4, none⟩ = some (.int .i64 u.tn) ∧ W.cell? ⟨b9, off + 5, none⟩ = some (.slice p1u m1u d1u) ∧ W.cell? ⟨b9, off + 6, none⟩ = some (.slice p2u m2u d2u) ∧ W.cell? ⟨b9, off + 7, none⟩ = some (.int .i64 u.fr) ∧ W.cell? ⟨b9, off + 8, none⟩ = some (.int .i64 u.en)))
    (((refine HKP.out _ ?_); (repeat (first | with_reducible exact hqc | with_reducible exact Quiet0.refl _ | with_reducible refine Quiet0.trans ?_ (Quiet0.alloc _ _) | with_reducible refine Quiet0.trans ?_ (Quiet0.drew _) | fail))))
    (first
      | (go_at_call 63; (with_reducible refine Calls.mono (HWT.out _ ?hq) ?_); (case hq => (repeat (first | with_reducible exact hqc | with_reducible exact Quiet0.refl _ | with_reducible refine Quiet0.trans ?_ (Quiet0.alloc _ _) | with_reducible refine Quiet0.trans ?_ (Quiet0.drew _) | fail))); rintro e wx ⟨wo, wc, rfl, hbn, hcap, hqx⟩; (refine with_q (w0 := w1) ?hq2 hqx ?_); (case hq2 => (repeat (first | with_reducible exact hqc | with_reducible exact Quiet0.refl _ | with_reducible refine Quiet0.trans ?_ (Quiet0.alloc _ _) | with_reducible refine Quiet0.trans ?_ (Quiet0.drew _) | fail))); intro hqc)
      | ((go_at_call 92; (with_reducible refine Calls.mono (HCT.out _ _ _ (hbn.stay ?h1) hcap ?hq) ?_)); (case h1 => (repeat (first | with_reducible exact Quiet0.refl _ | with_reducible refine Quiet0.trans ?_ (Quiet0.alloc _ _) | with_reducible refine Quiet0.trans ?_ (Quiet0.drew _) | fail))); (case hq => (repeat (first | with_reducible exact hqc | with_reducible exact Quiet0.refl _ | with_reducible refine Quiet0.trans ?_ (Quiet0.alloc _ _) | with_reducible refine Quiet0.trans ?_ (Quiet0.drew _) | fail))); rintro x wx ⟨rfl, hqx⟩; (refine with_q (w0 := w1) ?hq2 hqx ?_); (case hq2 => (repeat (first | with_reducible exact hqc | with_reducible exact Quiet0.refl _ | with_reducible refine Quiet0.trans ?_ (Quiet0.alloc _ _) | with_reducible refine Quiet0.trans ?_ (Quiet0.drew _) | fail))); intro hqc)
      | ((go_at_call 110; (with_reducible refine Calls.mono (add2_any _ _  _ _ ?hb HNI.out HIv1.out) ?_)); (case hb => (repeat (first | ((with_reducible refine blk_new _ _ _ _ ?hbe); (case hbe => (simp; done))) | with_reducible refine blk_after (Quiet0.alloc _ _) ?_ | with_reducible refine blk_drew ?_ | with_reducible refine blk_after hqx ?_ | fail))); rintro x wx ⟨rfl, hqx⟩; (refine with_q (w0 := w1) ?hq2 hqx ?_); (case hq2 => (repeat (first | with_reducible exact hqc | with_reducible exact Quiet0.refl _ | with_reducible refine Quiet0.trans ?_ (Quiet0.alloc _ _) | with_reducible refine Quiet0.trans ?_ (Quiet0.drew _) | fail))); intro hqc)
      | fail)
  all_goals
    go_wp2_with fail
    go_ret
    exact ⟨by rw [HV.out]; rfl, HQW.out.trans hqc⟩
set_option maxRecDepth 100000 in
set_option maxHeartbeats 8000000 in
theorem count_let (F : Nat) (own : Int → Int) (rc : Int) (eg : ∀ args w, (callFunc F args).run Tryd.prog w = .ok (.enter F args) w) (ho : OwnT F own) (hin : ∀ k, InT (own k)) (hrc : InT rc) (h : Nd) (ps : To) (ih : ∀ i g qs, ps.get i = some (g, qs) → CntT F own rc g qs) (hk : h.k = 6) : CntT F own rc h ps := by
  intro w R T o1 l1 c1 o2 l2 c2 eo en ec e hs hB hec hz hei hok hokl
  have k1 : (h.k == 1) = false := by simp [hk]
  have k4 : (h.k == 4) = false := by simp [hk]
  have k6 : (h.k == 6) = true := by simp [hk]
  obtain ⟨b9, off, u, qu, p1u, m1u, d1u, p2u, m2u, d2u, rfl, _, gu, ru, cu, _, tu⟩ := hs.nth (i := 0) (by rw [hs.1]; have := hok.2.1 hk; omega)
  obtain ⟨b9', off', v, qv, p1v, m1v, d1v, p2v, m2v, d2v, e9v, _, gv, rv, cv, _, tv⟩ := hs.nth (i := 1) (by rw [hs.1]; have := hok.2.1 hk; omega)
  injection e9v with e9v; injection e9v with e8v e7v
  subst e8v e7v
  have hl2 : 2 ≤ l2 := by rw [hs.1]; exact hok.2.1 hk
  have hl0 : (0 : Int) < l2 := by omega
  have hl1 : (1 : Int) < l2 := by omega
  have hl3 : 0 < l2 := by omega
  have hl4 : 1 < l2 := by omega
  have hl5 : (l2 : Int) > 0 := hl0
  have hl6 : (l2 : Int) > 1 := hl1
  have hqz := To.size_get ps 0 u qu gu
  have hqz2 := To.size_get ps 1 v qv gv
  have HS := Lib.hid hs
  have HBN := Lib.hid hB
  have IH := Lib.hid ih
  have HEI := Lib.hid hei
  have HOK := Lib.hid hok
  have HOKL := Lib.hid hokl
  have HIN := Lib.hid hin
  have HRC := Lib.hid hrc
  have HEC := Lib.hid hec
  have HEN := Lib.hid hB.1
  have HL := Lib.hid hs.1
  obtain ⟨W0, hW0⟩ : ∃ W0, W0 = (w.alloc (.cells #[.func (.func F) #[] #[], .int .i64 rc] 79)).alloc (.cells (cells9 h o1 l1 c1 (some ⟨b9, off, none⟩) l2 c2) 30) := ⟨_, rfl⟩
  have HQ0 : Hid (Quiet0 w W0) := by rw [hW0]; exact (Quiet0.alloc _ _).trans (Quiet0.alloc _ _)
  have HB0 : Hid (W0.heap[w.heap.size]? = some (.cells #[.func (.func F) #[] #[], .int .i64 rc] 79 (0, 0))) := by
    show _ = _; rw [hW0, Below.heap_alloc _ _ _ (by simp)]; exact heap_alloc_new w _
  have HB1 : Hid (W0.heap[w.heap.size + 1]? = some (.cells (cells9 h o1 l1 c1 (some ⟨b9, off, none⟩) l2 c2) 30 (0, 0))) := by
    show _ = _; rw [hW0]
    have := heap_alloc_new (w.alloc (.cells #[.func (.func F) #[] #[], .int .i64 rc] 79)) (.cells (cells9 h o1 l1 c1 (some ⟨b9, off, none⟩) l2 c2) 30)
    simpa using this
  have HCB : Hid (∀ W, Quiet0 W0 W → W.cell? ⟨w.heap.size, 0, none⟩ = some (.func (.func F) #[] #[]) ∧ W.cell? ⟨w.heap.size, 1, none⟩ = some (.int .i64 rc) ∧ Cells9 W (w.heap.size + 1) 0 h o1 l1 c1 (some ⟨b9, off, none⟩) l2 c2) := fun W hq => by
    have hb := blk_after hq HB0.out
    exact ⟨by rw [cell_of_row _ _ _ _ _ (0, 0) hb]; rfl, by rw [cell_of_row _ _ _ _ _ (0, 0) hb]; rfl, cells9_block (blk_after hq HB1.out)⟩
  have HOW := Lib.hid (ho W0 h o1 l1 c1 (some ⟨b9, off, none⟩) l2 c2)
  obtain ⟨n0, hn0⟩ : ∃ n0, own h.k = n0 := ⟨_, rfl⟩
  have HN0 := Lib.hid hn0
  have HNI : Hid (InT n0) := by show InT n0; rw [← hn0]; exact hin _
  rw [hn0] at HOW
  have HK := Lib.hid hk
  clear hk
  clear hs hB hec hei hok hokl hin hrc ih ho hn0
  unfold tmv at HOW ⊢
  go_enter Tryd.func92, Tryd.ntmps92
  go_upto_region 1 with fail
  rw [← hW0]
  clear hW0
  generalize hBB : w.heap.size = B at *
  have HBE := Lib.hid hBB
  clear hBB
  obtain ⟨b0, b1, a0, a1, a2, a3, a4, a5, a6, a7, a8⟩ := HCB.out W0 (Quiet0.refl _)
  go_wp2_with fail
  refine HOW.out.mono ?_; rintro x w1 ⟨rfl, hq1⟩
  have HQ1 := Lib.hid hq1
  have HC1 : Hid (∀ W, Quiet0 w1 W → W.cell? ⟨B, 0, none⟩ = some (.func (.func F) #[] #[]) ∧ W.cell? ⟨B, 1, none⟩ = some (.int .i64 rc) ∧ Cells9 W (B + 1) 0 h o1 l1 c1 (some ⟨b9, off, none⟩) l2 c2) := fun W hq => HCB.out W (HQ1.out.trans hq)
  have HBN1 := Lib.hid (HBN.out.stay (HQ0.out.trans hq1))
  have HS1 := Lib.hid (HS.out.stay (HQ0.out.trans hq1))
  have HQW : Hid (Quiet0 w w1) := HQ0.out.trans hq1
  clear hq1 b0 b1 a0 a1 a2 a3 a4 a5 a6 a7 a8
  obtain ⟨b0, b1, a0, a1, a2, a3, a4, a5, a6, a7, a8⟩ := HC1.out w1 (Quiet0.refl _)
  have HIE0 := HEI
  obtain ⟨v1, hv1⟩ : ∃ v1, cnt own rc u qu e = v1 := ⟨_, rfl⟩
  have Hv1 := Lib.hid hv1
  have HIv1 : Hid (InT v1) := by show InT v1; rw [← hv1]; exact cnt_in HIN.out HRC.out u qu HIE0.out
  obtain ⟨e2, he2⟩ : ∃ e2, e2 = (h.nm, (v1 : Int)) :: e := ⟨_, rfl⟩
  have He2 := Lib.hid he2
  have HIe2 : Hid (EnvIn e2) := by show EnvIn e2; rw [he2]; exact HEI.out.cons HIv1.out
  obtain ⟨v2, hv2⟩ : ∃ v2, cnt own rc v qv e2 = v2 := ⟨_, rfl⟩
  have Hv2 := Lib.hid hv2
  have HIv2 : Hid (InT v2) := by show InT v2; rw [← hv2]; exact cnt_in HIN.out HRC.out v qv HIe2.out
  have HV : Hid (cnt own rc h ps e = addL [n0, v1, v2]) := by
    show oneC own rc h _ e = _
    unfold oneC
    rw [if_neg (by rw [HK.out]; decide), if_neg (by rw [HK.out]; decide), if_pos HK.out, HN0.out, List.getD_eq_getElem?_getD, List.getD_eq_getElem?_getD, valsC_get own rc ps 0 u qu gu, valsC_get own rc ps 1 v qv gv]
    show addL [n0, cnt own rc u qu e, cnt own rc v qv ((h.nm, cnt own rc u qu e) :: e)] = _
    rw [hv1, ← he2, hv2]
  clear hv1 he2 hv2
  have HEu : Hid (∀ W, Quiet0 w1 W → (W.cell? ⟨b9, off, none⟩ = some (.int .i64 u.k) ∧ W.cell? ⟨b9, off + 1, none⟩ = some (.string u.nm) ∧ W.cell? ⟨b9, off + 2, none⟩ = some (.int .i64 u.n) ∧ W.cell? ⟨b9, off + 3, none⟩ = some (.int .i64 u.tk) ∧ W.cell? ⟨b9, off + 4, none⟩ = some (.int .i64 u.tn) ∧ W.cell? ⟨b9, off + 5, none⟩ = some (.slice p1u m1u d1u) ∧ W.cell? ⟨b9, off + 6, none⟩ = some (.slice p2u m2u d2u) ∧ W.cell? ⟨b9, off + 7, none⟩ = some (.int .i64 u.fr) ∧ W.cell? ⟨b9, off + 8, none⟩ = some (.int .i64 u.en))) := fun W hq => by
    have k := (cu.fr HQW.out (fun h => h)).fr hq (fun h => h)
    rw [Nat.zero_mul, Nat.add_zero] at k
    exact k
  have HTu := Lib.hid (tu.stay HQW.out)
  clear cu tu
  have HEv : Hid (∀ W, Quiet0 w1 W → (W.cell? ⟨b9, off + 9, none⟩ = some (.int .i64 v.k) ∧ W.cell? ⟨b9, off + 9 + 1, none⟩ = some (.string v.nm) ∧ W.cell? ⟨b9, off + 9 + 2, none⟩ = some (.int .i64 v.n) ∧ W.cell? ⟨b9, off + 9 + 3, none⟩ = some (.int .i64 v.tk) ∧ W.cell? ⟨b9, off + 9 + 4, none⟩ = some (.int .i64 v.tn) ∧ W.cell? ⟨b9, off + 9 + 5, none⟩ = some (.slice p1v m1v d1v) ∧ W.cell? ⟨b9, off + 9 + 6, none⟩ = some (.slice p2v m2v d2v) ∧ W.cell? ⟨b9, off + 9 + 7, none⟩ = some (.int .i64 v.fr) ∧ W.cell? ⟨b9, off + 9 + 8, none⟩ = some (.int .i64 v.en))) := fun W hq => by
    have k := (cv.fr HQW.out (fun h => h)).fr hq (fun h => h)
    rw [Nat.one_mul] at k
    exact k
  have HTv := Lib.hid (tv.stay HQW.out)
  clear cv tv
  have HKP : Hid (∀ W, Quiet0 w1 W → W.cell? ⟨B, 0, none⟩ = some (.func (.func F) #[] #[]) ∧ W.cell? ⟨B, 1, none⟩ = some (.int .i64 rc) ∧ (W.cell? ⟨B + 1, 0, none⟩ = some (.int .i64 h.k) ∧ W.cell? ⟨B + 1, 1, none⟩ = some (.string h.nm) ∧ W.cell? ⟨B + 1, 2, none⟩ = some (.int .i64 h.n) ∧ W.cell? ⟨B + 1, 3, none⟩ = some (.int .i64 h.tk) ∧ W.cell? ⟨B + 1, 4, none⟩ = some (.int .i64 h.tn) ∧ W.cell? ⟨B + 1, 5, none⟩ = some (.slice o1 l1 c1) ∧ W.cell? ⟨B + 1, 6, none⟩ = some (.slice (some ⟨b9, off, none⟩) l2 c2) ∧ W.cell? ⟨B + 1, 7, none⟩ = some (.int .i64 h.fr) ∧ W.cell? ⟨B + 1, 8, none⟩ = some (.int .i64 h.en)) ∧ (W.cell? ⟨b9, off, none⟩ = some (.int .i64 u.k) ∧ W.cell? ⟨b9, off + 1, none⟩ = some (.string u.nm) ∧ W.cell? ⟨b9, off + 2, none⟩ = some (.int .i64 u.n) ∧ W.cell? ⟨b9, off + 3, none⟩ = some (.int .i64 u.tk) ∧ W.cell? ⟨b9, off + 4, none⟩ = some (.int .i64 u.tn) ∧ W.cell? ⟨b9, off + 5, none⟩ = some (.slice p1u m1u d1u) ∧ W.cell? ⟨b9, off + 6, none⟩ = some (.slice p2u m2u d2u) ∧ W.cell? ⟨b9, off + 7, none⟩ = some (.int .i64 u.fr) ∧ W.cell? ⟨b9, off + 8, none⟩ = some (.int .i64 u.en))) := fun W hq => ⟨(HC1.out W (hq)).1, (HC1.out W (hq)).2.1, (HC1.out W (hq)).2.2, HEu.out W (hq)⟩
  have HKQ : Hid (∀ W, Quiet0 w1 W → W.cell? ⟨B, 0, none⟩ = some (.func (.func F) #[] #[]) ∧ W.cell? ⟨B, 1, none⟩ = some (.int .i64 rc) ∧ (W.cell? ⟨B + 1, 0, none⟩ = some (.int .i64 h.k) ∧ W.cell? ⟨B + 1, 1, none⟩ = some (.string h.nm) ∧ W.cell? ⟨B + 1, 2, none⟩ = some (.int .i64 h.n) ∧ W.cell? ⟨B + 1, 3, none⟩ = some (.int .i64 h.tk) ∧ W.cell? ⟨B + 1, 4, none⟩ = some (.int .i64 h.tn) ∧ W.cell? ⟨B + 1, 5, none⟩ = some (.slice o1 l1 c1) ∧ W.cell? ⟨B + 1, 6, none⟩ = some (.slice (some ⟨b9, off, none⟩) l2 c2) ∧ W.cell? ⟨B + 1, 7, none⟩ = some (.int .i64 h.fr) ∧ W.cell? ⟨B + 1, 8, none⟩ = some (.int .i64 h.en)) ∧ (W.cell? ⟨b9, off + 9, none⟩ = some (.int .i64 v.k) ∧ W.cell? ⟨b9, off + 9 + 1, none⟩ = some (.string v.nm) ∧ W.cell? ⟨b9, off + 9 + 2, none⟩ = some (.int .i64 v.n) ∧ W.cell? ⟨b9, off + 9 + 3, none⟩ = some (.int .i64 v.tk) ∧ W.cell? ⟨b9, off + 9 + 4, none⟩ = some (.int .i64 v.tn) ∧ W.cell? ⟨b9, off + 9 + 5, none⟩ = some (.slice p1v m1v d1v) ∧ W.cell? ⟨b9, off + 9 + 6, none⟩ = some (.slice p2v m2v d2v) ∧ W.cell? ⟨b9, off + 9 + 7, none⟩ = some (.int .i64 v.fr) ∧ W.cell? ⟨b9, off + 9 + 8, none⟩ = some (.int .i64 v.en))) := fun W hq => ⟨(HC1.out W (hq)).1, (HC1.out W (hq)).2.1, (HC1.out W (hq)).2.2, HEv.out W (hq)⟩
  have HCU : Hid (∀ W, Quiet0 w1 W → Calls Tryd.prog 92 #[ctr F rc, tmv u p1u m1u d1u p2u m2u d2u, .slice eo en ec] W fun x w' => x = .returned (.int .i64 v1) ∧ Quiet0 W w') := fun W hq => by
    have k := IH.out _ u qu gu W R T p1u m1u d1u p2u m2u d2u eo en ec e (HTu.out.stay hq) (HBN1.out.stay hq) HEC.out (by omega) HEI.out (okL_get _ _ _ _ HOKL.out gu).1 (okL_get _ _ _ _ HOKL.out gu).2
    rw [Hv1.out] at k
    exact k
  have HWT : Hid (∀ W, Quiet0 w1 W → Calls Tryd.prog 63 #[.slice eo en ec, .string h.nm, .int .i64 v1] W (BnP W (en + 1) e2)) := fun W hq => withP T e e2 h.nm v1 eo en ec W (HBN1.out.stay (hq)) HEC.out (by omega) He2.out
  have HCT : Hid (∀ (W : World) (wo : Option Addr) (wc : Nat), BnIn (fun _ => True) W wo (en + 1) e2 → en + 1 ≤ wc → Quiet0 w1 W → Calls Tryd.prog 92 #[ctr F rc, tmv v p1v m1v d1v p2v m2v d2v, .slice wo (en + 1) wc] W fun x w' => x = .returned (.int .i64 v2) ∧ Quiet0 W w') := fun W wo wc hb hc hq => by
    have k := IH.out _ v qv gv W R (fun _ => True) p1v m1v d1v p2v m2v d2v wo (en + 1) wc e2 (HTv.out.stay (hq)) hb hc (by omega) HIe2.out (okL_get _ _ _ _ HOKL.out gv).1 (okL_get _ _ _ _ HOKL.out gv).2
    rw [Hv2.out] at k
    exact k
  unfold tmv at HCU HCT
  clear gu gv
  go_upto_region 8 with fail
  go_cut [8] (fun v wx => v = .int .i64 v1 ∧ Quiet0 w1 wx)
  case first =>
    have hqc := Quiet0.refl w1
    go_region_held3 (fun W => W.cell? ⟨B, 0, none⟩ = some (.func (.func F) #[] #[]) ∧ W.cell? ⟨B, 1, none⟩ = some (.int .i64 rc) ∧ (W.cell? ⟨B + 1, 0, none⟩ = some (.int .i64 h.k) ∧ W.cell? ⟨B + 1, 1, none⟩ = some (.string h.nm) ∧ W.cell? ⟨B + 1, 2, none⟩ = some (.int .i64 h.n) ∧ W.cell? ⟨B + 1, 3, none⟩ = some (.int .i64 h.tk) ∧ W.cell? ⟨B + 1, 4, none⟩ = some (.int .i64 h.tn) ∧ W.cell? ⟨B + 1, 5, none⟩ = some (.slice o1 l1 c1) ∧ W.cell? ⟨B + 1, 6, none⟩ = some (.slice (some ⟨b9, off, none⟩) l2 c2) ∧ W.cell? ⟨B + 1, 7, none⟩ = some (.int .i64 h.fr) ∧ W.cell? ⟨B + 1, 8, none⟩ = some (.int .i64 h.en)) ∧ (W.cell? ⟨b9, off, none⟩ = some (.int .i64 u.k) ∧ W.cell? ⟨b9, off + 1, none⟩ = some (.string u.nm) ∧ W.cell? ⟨b9, off + 2, none⟩ = some (.int .i64 u.n) ∧ W.cell? ⟨b9, off + 3, none⟩ = some (.int .i64 u.tk) ∧ W.cell? ⟨b9, off + 4, none⟩ = some (.int .i64 u.tn) ∧ W.cell? ⟨b9, off + 5, none⟩ = some (.slice p1u m1u d1u) ∧ W.cell? ⟨b9, off + 6, none⟩ = some (.slice p2u m2u d2u) ∧ W.cell? ⟨b9, off + 7, none⟩ = some (.int .i64 u.fr) ∧ W.cell? ⟨b9, off + 8, none⟩ = some (.int .i64 u.en)))
      (((refine HKP.out _ ?_); (repeat (first | with_reducible exact hqc | with_reducible exact Quiet0.refl _ | with_reducible refine Quiet0.trans ?_ (Quiet0.alloc _ _) | with_reducible refine Quiet0.trans ?_ (Quiet0.drew _) | fail))))
      (first
        | ((go_at_call 92; (with_reducible refine Calls.mono (HCU.out _ ?hq) ?_)); (case hq => (repeat (first | with_reducible exact hqc | with_reducible exact Quiet0.refl _ | with_reducible refine Quiet0.trans ?_ (Quiet0.alloc _ _) | with_reducible refine Quiet0.trans ?_ (Quiet0.drew _) | fail))); rintro x wx ⟨rfl, hqx⟩; (refine with_q (w0 := w1) ?hq2 hqx ?_); (case hq2 => (repeat (first | with_reducible exact hqc | with_reducible exact Quiet0.refl _ | with_reducible refine Quiet0.trans ?_ (Quiet0.alloc _ _) | with_reducible refine Quiet0.trans ?_ (Quiet0.drew _) | fail))); intro hqc)
        | fail)
    all_goals
      go_wp2_with fail
      go_meet
      exact ⟨rfl, hqc⟩
  case rest =>
    rename World => w2
    obtain ⟨rfl, hq12⟩ := hcut
    have HQ12 := Lib.hid hq12
    have HQW2 : Hid (Quiet0 w w2) := HQW.out.trans hq12
    have HWT2 := Lib.hid (fun W hq => HWT.out W (HQ12.out.trans hq))
    have HCT2 := Lib.hid (fun W wo wc h1 h2 hq => HCT.out W wo wc h1 h2 (HQ12.out.trans hq))
    have HKQ2 := Lib.hid (fun W hq => HKQ.out W (HQ12.out.trans hq))
    clear hq12
    clear b0 b1 a0 a1 a2 a3 a4 a5 a6 a7 a8
    obtain ⟨b0, b1, ⟨a0, a1, a2, a3, a4, a5, a6, a7, a8⟩, _⟩ := HKQ2.out w2 (Quiet0.refl _)
    go_upto_region 9 with fail
    have hqc := Quiet0.refl w2
    go_region_held3 (fun W => W.cell? ⟨B, 0, none⟩ = some (.func (.func F) #[] #[]) ∧ W.cell? ⟨B, 1, none⟩ = some (.int .i64 rc) ∧ (W.cell? ⟨B + 1, 0, none⟩ = some (.int .i64 h.k) ∧ W.cell? ⟨B + 1, 1, none⟩ = some (.string h.nm) ∧ W.cell? ⟨B + 1, 2, none⟩ = some (.int .i64 h.n) ∧ W.cell? ⟨B + 1, 3, none⟩ = some (.int .i64 h.tk) ∧ W.cell? ⟨B + 1, 4, none⟩ = some (.int .i64 h.tn) ∧ W.cell? ⟨B + 1, 5, none⟩ = some (.slice o1 l1 c1) ∧ W.cell? ⟨B + 1, 6, none⟩ = some (.slice (some ⟨b9, off, none⟩) l2 c2) ∧ W.cell? ⟨B + 1, 7, none⟩ = some (.int .i64 h.fr) ∧ W.cell? ⟨B + 1, 8, none⟩ = some (.int .i64 h.en)) ∧ (W.cell? ⟨b9, off + 9, none⟩ = some (.int .i64 v.k) ∧ W.cell? ⟨b9, off + 9 + 1, none⟩ = some (.string v.nm) ∧ W.cell? ⟨b9, off + 9 + 2, none⟩ = some (.int .i64 v.n) ∧ W.cell? ⟨b9, off + 9 + 3, none⟩ = some (.int .i64 v.tk) ∧ W.cell? ⟨b9, off + 9 + 4, none⟩ = some (.int .i64 v.tn) ∧ W.cell? ⟨b9, off + 9 + 5, none⟩ = some (.slice p1v m1v d1v) ∧ W.cell? ⟨b9, off + 9 + 6, none⟩ = some (.slice p2v m2v d2v) ∧ W.cell? ⟨b9, off + 9 + 7, none⟩ = some (.int .i64 v.fr) ∧ W.cell? ⟨b9, off + 9 + 8, none⟩ = some (.int .i64 v.en)))
      (((refine HKQ2.out _ ?_); (repeat (first | with_reducible exact hqc | with_reducible exact Quiet0.refl _ | with_reducible refine Quiet0.trans ?_ (Quiet0.alloc _ _) | with_reducible refine Quiet0.trans ?_ (Quiet0.drew _) | fail))))
      (first
        | (go_at_call 63; (with_reducible refine Calls.mono (HWT2.out _ ?hq) ?_); (case hq => (repeat (first | with_reducible exact hqc | with_reducible exact Quiet0.refl _ | with_reducible refine Quiet0.trans ?_ (Quiet0.alloc _ _) | with_reducible refine Quiet0.trans ?_ (Quiet0.drew _) | fail))); rintro e wx ⟨wo, wc, rfl, hbn, hcap, hqx⟩; (refine with_q (w0 := w2) ?hq2 hqx ?_); (case hq2 => (repeat (first | with_reducible exact hqc | with_reducible exact Quiet0.refl _ | with_reducible refine Quiet0.trans ?_ (Quiet0.alloc _ _) | with_reducible refine Quiet0.trans ?_ (Quiet0.drew _) | fail))); intro hqc)
        | ((go_at_call 92; (with_reducible refine Calls.mono (HCT2.out _ _ _ (hbn.stay ?h1) hcap ?hq) ?_)); (case h1 => (repeat (first | with_reducible exact Quiet0.refl _ | with_reducible refine Quiet0.trans ?_ (Quiet0.alloc _ _) | with_reducible refine Quiet0.trans ?_ (Quiet0.drew _) | fail))); (case hq => (repeat (first | with_reducible exact hqc | with_reducible exact Quiet0.refl _ | with_reducible refine Quiet0.trans ?_ (Quiet0.alloc _ _) | with_reducible refine Quiet0.trans ?_ (Quiet0.drew _) | fail))); rintro x wx ⟨rfl, hqx⟩; (refine with_q (w0 := w2) ?hq2 hqx ?_); (case hq2 => (repeat (first | with_reducible exact hqc | with_reducible exact Quiet0.refl _ | with_reducible refine Quiet0.trans ?_ (Quiet0.alloc _ _) | with_reducible refine Quiet0.trans ?_ (Quiet0.drew _) | fail))); intro hqc)
        | ((go_at_call 110; (with_reducible refine Calls.mono (add3_any _ _ _  _ _ ?hb HNI.out HIv1.out HIv2.out) ?_)); (case hb => (repeat (first | ((with_reducible refine blk_new _ _ _ _ ?hbe); (case hbe => (simp; done))) | with_reducible refine blk_after (Quiet0.alloc _ _) ?_ | with_reducible refine blk_drew ?_ | with_reducible refine blk_after hqx ?_ | fail))); rintro x wx ⟨rfl, hqx⟩; (refine with_q (w0 := w2) ?hq2 hqx ?_); (case hq2 => (repeat (first | with_reducible exact hqc | with_reducible exact Quiet0.refl _ | with_reducible refine Quiet0.trans ?_ (Quiet0.alloc _ _) | with_reducible refine Quiet0.trans ?_ (Quiet0.drew _) | fail))); intro hqc)
        | fail)
    all_goals
      go_wp2_with fail
      go_ret
      exact ⟨by rw [HV.out]; rfl, HQW2.out.trans hqc⟩
set_option maxRecDepth 100000 in
set_option maxHeartbeats 8000000 in
theorem count_rec (F : Nat) (own : Int → Int) (rc : Int) (eg : ∀ args w, (callFunc F args).run Tryd.prog w = .ok (.enter F args) w) (ho : OwnT F own) (hin : ∀ k, InT (own k)) (hrc : InT rc) (h : Nd) (ps : To) (ih : ∀ i g qs, ps.get i = some (g, qs) → CntT F own rc g qs) (hk : h.k = 7) : CntT F own rc h ps := by
  intro w R T o1 l1 c1 o2 l2 c2 eo en ec e hs hB hec hz hei hok hokl
  have k1 : (h.k == 1) = false := by simp [hk]
  have k4 : (h.k == 4) = false := by simp [hk]
  have k6 : (h.k == 6) = false := by simp [hk]
  have k7 : (h.k == 7) = true := by simp [hk]
  obtain ⟨b9, off, u, qu, p1u, m1u, d1u, p2u, m2u, d2u, rfl, _, gu, ru, cu, _, tu⟩ := hs.nth (i := 0) (by rw [hs.1]; have := hok.2.2 hk; omega)
  obtain ⟨b9', off', v, qv, p1v, m1v, d1v, p2v, m2v, d2v, e9v, _, gv, rv, cv, _, tv⟩ := hs.nth (i := 1) (by rw [hs.1]; have := hok.2.2 hk; omega)
  injection e9v with e9v; injection e9v with e8v e7v
  subst e8v e7v
  have hl2 : 2 ≤ l2 := by rw [hs.1]; exact hok.2.2 hk
  have hl0 : (0 : Int) < l2 := by omega
  have hl1 : (1 : Int) < l2 := by omega
  have hl3 : 0 < l2 := by omega
  have hl4 : 1 < l2 := by omega
  have hl5 : (l2 : Int) > 0 := hl0
  have hl6 : (l2 : Int) > 1 := hl1
  have hqz := To.size_get ps 0 u qu gu
  have hqz2 := To.size_get ps 1 v qv gv
  have HS := Lib.hid hs
  have HBN := Lib.hid hB
  have IH := Lib.hid ih
  have HEI := Lib.hid hei
  have HOK := Lib.hid hok
  have HOKL := Lib.hid hokl
  have HIN := Lib.hid hin
  have HRC := Lib.hid hrc
  have HEC := Lib.hid hec
  have HEN := Lib.hid hB.1
  have HL := Lib.hid hs.1
  obtain ⟨W0, hW0⟩ : ∃ W0, W0 = (w.alloc (.cells #[.func (.func F) #[] #[], .int .i64 rc] 79)).alloc (.cells (cells9 h o1 l1 c1 (some ⟨b9, off, none⟩) l2 c2) 30) := ⟨_, rfl⟩
  have HQ0 : Hid (Quiet0 w W0) := by rw [hW0]; exact (Quiet0.alloc _ _).trans (Quiet0.alloc _ _)
  have HB0 : Hid (W0.heap[w.heap.size]? = some (.cells #[.func (.func F) #[] #[], .int .i64 rc] 79 (0, 0))) := by
    show _ = _; rw [hW0, Below.heap_alloc _ _ _ (by simp)]; exact heap_alloc_new w _
  have HB1 : Hid (W0.heap[w.heap.size + 1]? = some (.cells (cells9 h o1 l1 c1 (some ⟨b9, off, none⟩) l2 c2) 30 (0, 0))) := by
    show _ = _; rw [hW0]
    have := heap_alloc_new (w.alloc (.cells #[.func (.func F) #[] #[], .int .i64 rc] 79)) (.cells (cells9 h o1 l1 c1 (some ⟨b9, off, none⟩) l2 c2) 30)
    simpa using this
  have HCB : Hid (∀ W, Quiet0 W0 W → W.cell? ⟨w.heap.size, 0, none⟩ = some (.func (.func F) #[] #[]) ∧ W.cell? ⟨w.heap.size, 1, none⟩ = some (.int .i64 rc) ∧ Cells9 W (w.heap.size + 1) 0 h o1 l1 c1 (some ⟨b9, off, none⟩) l2 c2) := fun W hq => by
    have hb := blk_after hq HB0.out
    exact ⟨by rw [cell_of_row _ _ _ _ _ (0, 0) hb]; rfl, by rw [cell_of_row _ _ _ _ _ (0, 0) hb]; rfl, cells9_block (blk_after hq HB1.out)⟩
  have HOW := Lib.hid (ho W0 h o1 l1 c1 (some ⟨b9, off, none⟩) l2 c2)
  obtain ⟨n0, hn0⟩ : ∃ n0, own h.k = n0 := ⟨_, rfl⟩
  have HN0 := Lib.hid hn0
  have HNI : Hid (InT n0) := by show InT n0; rw [← hn0]; exact hin _
  rw [hn0] at HOW
  have HK := Lib.hid hk
  clear hk
  clear hs hB hec hei hok hokl hin hrc ih ho hn0
  unfold tmv at HOW ⊢
  go_enter Tryd.func92, Tryd.ntmps92
  go_upto_region 1 with fail
  rw [← hW0]
  clear hW0
  generalize hBB : w.heap.size = B at *
  have HBE := Lib.hid hBB
  clear hBB
  obtain ⟨b0, b1, a0, a1, a2, a3, a4, a5, a6, a7, a8⟩ := HCB.out W0 (Quiet0.refl _)
  go_wp2_with fail
  refine HOW.out.mono ?_; rintro x w1 ⟨rfl, hq1⟩
  have HQ1 := Lib.hid hq1
  have HC1 : Hid (∀ W, Quiet0 w1 W → W.cell? ⟨B, 0, none⟩ = some (.func (.func F) #[] #[]) ∧ W.cell? ⟨B, 1, none⟩ = some (.int .i64 rc) ∧ Cells9 W (B + 1) 0 h o1 l1 c1 (some ⟨b9, off, none⟩) l2 c2) := fun W hq => HCB.out W (HQ1.out.trans hq)
  have HBN1 := Lib.hid (HBN.out.stay (HQ0.out.trans hq1))
  have HS1 := Lib.hid (HS.out.stay (HQ0.out.trans hq1))
  have HQW : Hid (Quiet0 w w1) := HQ0.out.trans hq1
  clear hq1 b0 b1 a0 a1 a2 a3 a4 a5 a6 a7 a8
  obtain ⟨b0, b1, a0, a1, a2, a3, a4, a5, a6, a7, a8⟩ := HC1.out w1 (Quiet0.refl _)
  obtain ⟨e1, he1⟩ : ∃ e1, e1 = (h.nm, (0 : Int)) :: e := ⟨_, rfl⟩
  have He1 := Lib.hid he1
  have HIe1 : Hid (EnvIn e1) := by show EnvIn e1; rw [he1]; exact HEI.out.cons in0
  obtain ⟨v1, hv1⟩ : ∃ v1, cnt own rc u qu e1 = v1 := ⟨_, rfl⟩
  have Hv1 := Lib.hid hv1
  have HIv1 : Hid (InT v1) := by show InT v1; rw [← hv1]; exact cnt_in HIN.out HRC.out u qu HIe1.out
  obtain ⟨kp, hkp⟩ : ∃ kp, addL [rc, v1] = kp := ⟨_, rfl⟩
  have HKPV := Lib.hid hkp
  have HIkp : Hid (InT kp) := by show InT kp; rw [← hkp]; exact addL_in (by intro x hx; simp at hx; rcases hx with rfl | rfl; exact HRC.out; exact HIv1.out)
  obtain ⟨e2, he2⟩ : ∃ e2, e2 = (h.nm, (kp : Int)) :: e := ⟨_, rfl⟩
  have He2 := Lib.hid he2
  have HIe2 : Hid (EnvIn e2) := by show EnvIn e2; rw [he2]; exact HEI.out.cons HIkp.out
  obtain ⟨v2, hv2⟩ : ∃ v2, cnt own rc v qv e2 = v2 := ⟨_, rfl⟩
  have Hv2 := Lib.hid hv2
  have HIv2 : Hid (InT v2) := by show InT v2; rw [← hv2]; exact cnt_in HIN.out HRC.out v qv HIe2.out
  have HV : Hid (cnt own rc h ps e = addL [n0, kp, v2]) := by
    show oneC own rc h _ e = _
    unfold oneC
    rw [if_neg (by rw [HK.out]; decide), if_neg (by rw [HK.out]; decide), if_neg (by rw [HK.out]; decide), if_pos HK.out, HN0.out, List.getD_eq_getElem?_getD, List.getD_eq_getElem?_getD, valsC_get own rc ps 0 u qu gu, valsC_get own rc ps 1 v qv gv]
    show addL [n0, addL [rc, cnt own rc u qu ((h.nm, 0) :: e)], cnt own rc v qv ((h.nm, addL [rc, cnt own rc u qu ((h.nm, 0) :: e)]) :: e)] = _
    rw [← he1, hv1, hkp, ← he2, hv2]
  clear hv1 he2 hv2 he1 hkp
  have HEu : Hid (∀ W, Quiet0 w1 W → (W.cell? ⟨b9, off, none⟩ = some (.int .i64 u.k) ∧ W.cell? ⟨b9, off + 1, none⟩ = some (.string u.nm) ∧ W.cell? ⟨b9, off + 2, none⟩ = some (.int .i64 u.n) ∧ W.cell? ⟨b9, off + 3, none⟩ = some (.int .i64 u.tk) ∧ W.cell? ⟨b9, off + 4, none⟩ = some (.int .i64 u.tn) ∧ W.cell? ⟨b9, off + 5, none⟩ = some (.slice p1u m1u d1u) ∧ W.cell? ⟨b9, off + 6, none⟩ = some (.slice p2u m2u d2u) ∧ W.cell? ⟨b9, off + 7, none⟩ = some (.int .i64 u.fr) ∧ W.cell? ⟨b9, off + 8, none⟩ = some (.int .i64 u.en))) := fun W hq => by
    have k := (cu.fr HQW.out (fun h => h)).fr hq (fun h => h)
    rw [Nat.zero_mul, Nat.add_zero] at k
    exact k
  have HTu := Lib.hid (tu.stay HQW.out)
  clear cu tu
  have HEv : Hid (∀ W, Quiet0 w1 W → (W.cell? ⟨b9, off + 9, none⟩ = some (.int .i64 v.k) ∧ W.cell? ⟨b9, off + 9 + 1, none⟩ = some (.string v.nm) ∧ W.cell? ⟨b9, off + 9 + 2, none⟩ = some (.int .i64 v.n) ∧ W.cell? ⟨b9, off + 9 + 3, none⟩ = some (.int .i64 v.tk) ∧ W.cell? ⟨b9, off + 9 + 4, none⟩ = some (.int .i64 v.tn) ∧ W.cell? ⟨b9, off + 9 + 5, none⟩ = some (.slice p1v m1v d1v) ∧ W.cell? ⟨b9, off + 9 + 6, none⟩ = some (.slice p2v m2v d2v) ∧ W.cell? ⟨b9, off + 9 + 7, none⟩ = some (.int .i64 v.fr) ∧ W.cell? ⟨b9, off + 9 + 8, none⟩ = some (.int .i64 v.en))) := fun W hq => by
    have k := (cv.fr HQW.out (fun h => h)).fr hq (fun h => h)
    rw [Nat.one_mul] at k
    exact k
  have HTv := Lib.hid (tv.stay HQW.out)
  clear cv tv
  have HKP : Hid (∀ W, Quiet0 w1 W → W.cell? ⟨B, 0, none⟩ = some (.func (.func F) #[] #[]) ∧ W.cell? ⟨B, 1, none⟩ = some (.int .i64 rc) ∧ (W.cell? ⟨B + 1, 0, none⟩ = some (.int .i64 h.k) ∧ W.cell? ⟨B + 1, 1, none⟩ = some (.string h.nm) ∧ W.cell? ⟨B + 1, 2, none⟩ = some (.int .i64 h.n) ∧ W.cell? ⟨B + 1, 3, none⟩ = some (.int .i64 h.tk) ∧ W.cell? ⟨B + 1, 4, none⟩ = some (.int .i64 h.tn) ∧ W.cell? ⟨B + 1, 5, none⟩ = some (.slice o1 l1 c1) ∧ W.cell? ⟨B + 1, 6, none⟩ = some (.slice (some ⟨b9, off, none⟩) l2 c2) ∧ W.cell? ⟨B + 1, 7, none⟩ = some (.int .i64 h.fr) ∧ W.cell? ⟨B + 1, 8, none⟩ = some (.int .i64 h.en)) ∧ (W.cell? ⟨b9, off, none⟩ = some (.int .i64 u.k) ∧ W.cell? ⟨b9, off + 1, none⟩ = some (.string u.nm) ∧ W.cell? ⟨b9, off + 2, none⟩ = some (.int .i64 u.n) ∧ W.cell? ⟨b9, off + 3, none⟩ = some (.int .i64 u.tk) ∧ W.cell? ⟨b9, off + 4, none⟩ = some (.int .i64 u.tn) ∧ W.cell? ⟨b9, off + 5, none⟩ = some (.slice p1u m1u d1u) ∧ W.cell? ⟨b9, off + 6, none⟩ = some (.slice p2u m2u d2u) ∧ W.cell? ⟨b9, off + 7, none⟩ = some (.int .i64 u.fr) ∧ W.cell? ⟨b9, off + 8, none⟩ = some (.int .i64 u.en))) := fun W hq => ⟨(HC1.out W (hq)).1, (HC1.out W (hq)).2.1, (HC1.out W (hq)).2.2, HEu.out W (hq)⟩
  have HKQ : Hid (∀ W, Quiet0 w1 W → W.cell? ⟨B, 0, none⟩ = some (.func (.func F) #[] #[]) ∧ W.cell? ⟨B, 1, none⟩ = some (.int .i64 rc) ∧ (W.cell? ⟨B + 1, 0, none⟩ = some (.int .i64 h.k) ∧ W.cell? ⟨B + 1, 1, none⟩ = some (.string h.nm) ∧ W.cell? ⟨B + 1, 2, none⟩ = some (.int .i64 h.n) ∧ W.cell? ⟨B + 1, 3, none⟩ = some (.int .i64 h.tk) ∧ W.cell? ⟨B + 1, 4, none⟩ = some (.int .i64 h.tn) ∧ W.cell? ⟨B + 1, 5, none⟩ = some (.slice o1 l1 c1) ∧ W.cell? ⟨B + 1, 6, none⟩ = some (.slice (some ⟨b9, off, none⟩) l2 c2) ∧ W.cell? ⟨B + 1, 7, none⟩ = some (.int .i64 h.fr) ∧ W.cell? ⟨B + 1, 8, none⟩ = some (.int .i64 h.en)) ∧ (W.cell? ⟨b9, off + 9, none⟩ = some (.int .i64 v.k) ∧ W.cell? ⟨b9, off + 9 + 1, none⟩ = some (.string v.nm) ∧ W.cell? ⟨b9, off + 9 + 2, none⟩ = some (.int .i64 v.n) ∧ W.cell? ⟨b9, off + 9 + 3, none⟩ = some (.int .i64 v.tk) ∧ W.cell? ⟨b9, off + 9 + 4, none⟩ = some (.int .i64 v.tn) ∧ W.cell? ⟨b9, off + 9 + 5, none⟩ = some (.slice p1v m1v d1v) ∧ W.cell? ⟨b9, off + 9 + 6, none⟩ = some (.slice p2v m2v d2v) ∧ W.cell? ⟨b9, off + 9 + 7, none⟩ = some (.int .i64 v.fr) ∧ W.cell? ⟨b9, off + 9 + 8, none⟩ = some (.int .i64 v.en))) := fun W hq => ⟨(HC1.out W (hq)).1, (HC1.out W (hq)).2.1, (HC1.out W (hq)).2.2, HEv.out W (hq)⟩
  have HWU : Hid (∀ W, Quiet0 w1 W → Calls Tryd.prog 63 #[.slice eo en ec, .string h.nm, .int .i64 0] W (BnP W (en + 1) e1)) := fun W hq => withP T e e1 h.nm 0 eo en ec W (HBN1.out.stay (hq)) HEC.out (by omega) He1.out
  have HCU : Hid (∀ (W : World) (wo : Option Addr) (wc : Nat), BnIn (fun _ => True) W wo (en + 1) e1 → en + 1 ≤ wc → Quiet0 w1 W → Calls Tryd.prog 92 #[ctr F rc, tmv u p1u m1u d1u p2u m2u d2u, .slice wo (en + 1) wc] W fun x w' => x = .returned (.int .i64 v1) ∧ Quiet0 W w') := fun W wo wc hb hc hq => by
    have k := IH.out _ u qu gu W R (fun _ => True) p1u m1u d1u p2u m2u d2u wo (en + 1) wc e1 (HTu.out.stay (hq)) hb hc (by omega) HIe1.out (okL_get _ _ _ _ HOKL.out gu).1 (okL_get _ _ _ _ HOKL.out gu).2
    rw [Hv1.out] at k
    exact k
  have HWT : Hid (∀ W, Quiet0 w1 W → Calls Tryd.prog 63 #[.slice eo en ec, .string h.nm, .int .i64 kp] W (BnP W (en + 1) e2)) := fun W hq => withP T e e2 h.nm kp eo en ec W (HBN1.out.stay (hq)) HEC.out (by omega) He2.out
  have HCT : Hid (∀ (W : World) (wo : Option Addr) (wc : Nat), BnIn (fun _ => True) W wo (en + 1) e2 → en + 1 ≤ wc → Quiet0 w1 W → Calls Tryd.prog 92 #[ctr F rc, tmv v p1v m1v d1v p2v m2v d2v, .slice wo (en + 1) wc] W fun x w' => x = .returned (.int .i64 v2) ∧ Quiet0 W w') := fun W wo wc hb hc hq => by
    have k := IH.out _ v qv gv W R (fun _ => True) p1v m1v d1v p2v m2v d2v wo (en + 1) wc e2 (HTv.out.stay (hq)) hb hc (by omega) HIe2.out (okL_get _ _ _ _ HOKL.out gv).1 (okL_get _ _ _ _ HOKL.out gv).2
    rw [Hv2.out] at k
    exact k
  unfold tmv at HCU HCT
  clear gu gv
  go_upto_region 11 with fail
  go_cut [9] (fun v wx => v = .int .i64 kp ∧ Quiet0 w1 wx)
  case first =>
    have hqc := Quiet0.refl w1
    go_region_held3 (fun W => W.cell? ⟨B, 0, none⟩ = some (.func (.func F) #[] #[]) ∧ W.cell? ⟨B, 1, none⟩ = some (.int .i64 rc) ∧ (W.cell? ⟨B + 1, 0, none⟩ = some (.int .i64 h.k) ∧ W.cell? ⟨B + 1, 1, none⟩ = some (.string h.nm) ∧ W.cell? ⟨B + 1, 2, none⟩ = some (.int .i64 h.n) ∧ W.cell? ⟨B + 1, 3, none⟩ = some (.int .i64 h.tk) ∧ W.cell? ⟨B + 1, 4, none⟩ = some (.int .i64 h.tn) ∧ W.cell? ⟨B + 1, 5, none⟩ = some (.slice o1 l1 c1) ∧ W.cell? ⟨B + 1, 6, none⟩ = some (.slice (some ⟨b9, off, none⟩) l2 c2) ∧ W.cell? ⟨B + 1, 7, none⟩ = some (.int .i64 h.fr) ∧ W.cell? ⟨B + 1, 8, none⟩ = some (.int .i64 h.en)) ∧ (W.cell? ⟨b9, off, none⟩ = some (.int .i64 u.k) ∧ W.cell? ⟨b9, off + 1, none⟩ = some (.string u.nm) ∧ W.cell? ⟨b9, off + 2, none⟩ = some (.int .i64 u.n) ∧ W.cell? ⟨b9, off + 3, none⟩ = some (.int .i64 u.tk) ∧ W.cell? ⟨b9, off + 4, none⟩ = some (.int .i64 u.tn) ∧ W.cell? ⟨b9, off + 5, none⟩ = some (.slice p1u m1u d1u) ∧ W.cell? ⟨b9, off + 6, none⟩ = some (.slice p2u m2u d2u) ∧ W.cell? ⟨b9, off + 7, none⟩ = some (.int .i64 u.fr) ∧ W.cell? ⟨b9, off + 8, none⟩ = some (.int .i64 u.en)))
      (((refine HKP.out _ ?_); (repeat (first | with_reducible exact hqc | with_reducible exact Quiet0.refl _ | with_reducible refine Quiet0.trans ?_ (Quiet0.alloc _ _) | with_reducible refine Quiet0.trans ?_ (Quiet0.drew _) | fail))))
      (first
        | (go_at_call 63; (with_reducible refine Calls.mono (HWU.out _ ?hq) ?_); (case hq => (repeat (first | with_reducible exact hqc | with_reducible exact Quiet0.refl _ | with_reducible refine Quiet0.trans ?_ (Quiet0.alloc _ _) | with_reducible refine Quiet0.trans ?_ (Quiet0.drew _) | fail))); rintro e wx ⟨wo, wc, rfl, hbn, hcap, hqx⟩; (refine with_q (w0 := w1) ?hq2 hqx ?_); (case hq2 => (repeat (first | with_reducible exact hqc | with_reducible exact Quiet0.refl _ | with_reducible refine Quiet0.trans ?_ (Quiet0.alloc _ _) | with_reducible refine Quiet0.trans ?_ (Quiet0.drew _) | fail))); intro hqc)
        | ((go_at_call 92; (with_reducible refine Calls.mono (HCU.out _ _ _ (hbn.stay ?h1) hcap ?hq) ?_)); (case h1 => (repeat (first | with_reducible exact Quiet0.refl _ | with_reducible refine Quiet0.trans ?_ (Quiet0.alloc _ _) | with_reducible refine Quiet0.trans ?_ (Quiet0.drew _) | fail))); (case hq => (repeat (first | with_reducible exact hqc | with_reducible exact Quiet0.refl _ | with_reducible refine Quiet0.trans ?_ (Quiet0.alloc _ _) | with_reducible refine Quiet0.trans ?_ (Quiet0.drew _) | fail))); rintro x wx ⟨rfl, hqx⟩; (refine with_q (w0 := w1) ?hq2 hqx ?_); (case hq2 => (repeat (first | with_reducible exact hqc | with_reducible exact Quiet0.refl _ | with_reducible refine Quiet0.trans ?_ (Quiet0.alloc _ _) | with_reducible refine Quiet0.trans ?_ (Quiet0.drew _) | fail))); intro hqc)
        | ((go_at_call 110; (with_reducible refine Calls.mono (add2_any _ _  _ _ ?hb HRC.out HIv1.out) ?_)); (case hb => (repeat (first | ((with_reducible refine blk_new _ _ _ _ ?hbe); (case hbe => (simp; done))) | with_reducible refine blk_after (Quiet0.alloc _ _) ?_ | with_reducible refine blk_drew ?_ | with_reducible refine blk_after hqx ?_ | fail))); rintro x wx ⟨rfl, hqx⟩; (refine with_q (w0 := w1) ?hq2 hqx ?_); (case hq2 => (repeat (first | with_reducible exact hqc | with_reducible exact Quiet0.refl _ | with_reducible refine Quiet0.trans ?_ (Quiet0.alloc _ _) | with_reducible refine Quiet0.trans ?_ (Quiet0.drew _) | fail))); intro hqc)
        | fail)
    all_goals
      go_wp2_with fail
      go_meet
      exact ⟨by rw [HKPV.out], hqc⟩
  case rest =>
    rename World => w2
    obtain ⟨rfl, hq12⟩ := hcut
    have HQ12 := Lib.hid hq12
    have HQW2 : Hid (Quiet0 w w2) := HQW.out.trans hq12
    have HWT2 := Lib.hid (fun W hq => HWT.out W (HQ12.out.trans hq))
    have HCT2 := Lib.hid (fun W wo wc h1 h2 hq => HCT.out W wo wc h1 h2 (HQ12.out.trans hq))
    have HKQ2 := Lib.hid (fun W hq => HKQ.out W (HQ12.out.trans hq))
    clear hq12
    clear b0 b1 a0 a1 a2 a3 a4 a5 a6 a7 a8
    obtain ⟨b0, b1, ⟨a0, a1, a2, a3, a4, a5, a6, a7, a8⟩, _⟩ := HKQ2.out w2 (Quiet0.refl _)
    go_upto_region 12 with fail
    have hqc := Quiet0.refl w2
    go_region_held3 (fun W => W.cell? ⟨B, 0, none⟩ = some (.func (.func F) #[] #[]) ∧ W.cell? ⟨B, 1, none⟩ = some (.int .i64 rc) ∧ (W.cell? ⟨B + 1, 0, none⟩ = some (.int .i64 h.k) ∧ W.cell? ⟨B + 1, 1, none⟩ = some (.string h.nm) ∧ W.cell? ⟨B + 1, 2, none⟩ = some (.int .i64 h.n) ∧ W.cell? ⟨B + 1, 3, none⟩ = some (.int .i64 h.tk) ∧ W.cell? ⟨B + 1, 4, none⟩ = some (.int .i64 h.tn) ∧ W.cell? ⟨B + 1, 5, none⟩ = some (.slice o1 l1 c1) ∧ W.cell? ⟨B + 1, 6, none⟩ = some (.slice (some ⟨b9, off, none⟩) l2 c2) ∧ W.cell? ⟨B + 1, 7, none⟩ = some (.int .i64 h.fr) ∧ W.cell? ⟨B + 1, 8, none⟩ = some (.int .i64 h.en)) ∧ (W.cell? ⟨b9, off + 9, none⟩ = some (.int .i64 v.k) ∧ W.cell? ⟨b9, off + 9 + 1, none⟩ = some (.string v.nm) ∧ W.cell? ⟨b9, off + 9 + 2, none⟩ = some (.int .i64 v.n) ∧ W.cell? ⟨b9, off + 9 + 3, none⟩ = some (.int .i64 v.tk) ∧ W.cell? ⟨b9, off + 9 + 4, none⟩ = some (.int .i64 v.tn) ∧ W.cell? ⟨b9, off + 9 + 5, none⟩ = some (.slice p1v m1v d1v) ∧ W.cell? ⟨b9, off + 9 + 6, none⟩ = some (.slice p2v m2v d2v) ∧ W.cell? ⟨b9, off + 9 + 7, none⟩ = some (.int .i64 v.fr) ∧ W.cell? ⟨b9, off + 9 + 8, none⟩ = some (.int .i64 v.en)))
      (((refine HKQ2.out _ ?_); (repeat (first | with_reducible exact hqc | with_reducible exact Quiet0.refl _ | with_reducible refine Quiet0.trans ?_ (Quiet0.alloc _ _) | with_reducible refine Quiet0.trans ?_ (Quiet0.drew _) | fail))))
      (first
        | (go_at_call 63; (with_reducible refine Calls.mono (HWT2.out _ ?hq) ?_); (case hq => (repeat (first | with_reducible exact hqc | with_reducible exact Quiet0.refl _ | with_reducible refine Quiet0.trans ?_ (Quiet0.alloc _ _) | with_reducible refine Quiet0.trans ?_ (Quiet0.drew _) | fail))); rintro e wx ⟨wo, wc, rfl, hbn, hcap, hqx⟩; (refine with_q (w0 := w2) ?hq2 hqx ?_); (case hq2 => (repeat (first | with_reducible exact hqc | with_reducible exact Quiet0.refl _ | with_reducible refine Quiet0.trans ?_ (Quiet0.alloc _ _) | with_reducible refine Quiet0.trans ?_ (Quiet0.drew _) | fail))); intro hqc)
        | ((go_at_call 92; (with_reducible refine Calls.mono (HCT2.out _ _ _ (hbn.stay ?h1) hcap ?hq) ?_)); (case h1 => (repeat (first | with_reducible exact Quiet0.refl _ | with_reducible refine Quiet0.trans ?_ (Quiet0.alloc _ _) | with_reducible refine Quiet0.trans ?_ (Quiet0.drew _) | fail))); (case hq => (repeat (first | with_reducible exact hqc | with_reducible exact Quiet0.refl _ | with_reducible refine Quiet0.trans ?_ (Quiet0.alloc _ _) | with_reducible refine Quiet0.trans ?_ (Quiet0.drew _) | fail))); rintro x wx ⟨rfl, hqx⟩; (refine with_q (w0 := w2) ?hq2 hqx ?_); (case hq2 => (repeat (first | with_reducible exact hqc | with_reducible exact Quiet0.refl _ | with_reducible refine Quiet0.trans ?_ (Quiet0.alloc _ _) | with_reducible refine Quiet0.trans ?_ (Quiet0.drew _) | fail))); intro hqc)
        | ((go_at_call 110; (with_reducible refine Calls.mono (add3_any _ _ _  _ _ ?hb HNI.out HIkp.out HIv2.out) ?_)); (case hb => (repeat (first | ((with_reducible refine blk_new _ _ _ _ ?hbe); (case hbe => (simp; done))) | with_reducible refine blk_after (Quiet0.alloc _ _) ?_ | with_reducible refine blk_drew ?_ | with_reducible refine blk_after hqx ?_ | fail))); rintro x wx ⟨rfl, hqx⟩; (refine with_q (w0 := w2) ?hq2 hqx ?_); (case hq2 => (repeat (first | with_reducible exact hqc | with_reducible exact Quiet0.refl _ | with_reducible refine Quiet0.trans ?_ (Quiet0.alloc _ _) | with_reducible refine Quiet0.trans ?_ (Quiet0.drew _) | fail))); intro hqc)
        | fail)
    all_goals
      go_wp2_with fail
      go_ret
      exact ⟨by rw [HV.out]; rfl, HQW2.out.trans hqc⟩
set_option maxRecDepth 100000 in
set_option maxHeartbeats 8000000 in
theorem count_many (F : Nat) (own : Int → Int) (rc : Int) (eg : ∀ args w, (callFunc F args).run Tryd.prog w = .ok (.enter F args) w) (ho : OwnT F own) (hin : ∀ k, InT (own k)) (hrc : InT rc) (h : Nd) (ps : To) (ih : ∀ i g qs, ps.get i = some (g, qs) → CntT F own rc g qs) (hk : ¬ (h.k = 1 ∨ h.k = 4 ∨ h.k = 6 ∨ h.k = 7)) : CntT F own rc h ps := by
  intro w R T o1 l1 c1 o2 l2 c2 eo en ec e hs hB hec hz hei hok hokl
  have k1 : (h.k == 1) = false := by simp; omega
  have k4 : (h.k == 4) = false := by simp; omega
  have k6 : (h.k == 6) = false := by simp; omega
  have k7 : (h.k == 7) = false := by simp; omega
  have HS := Lib.hid hs
  have HBN := Lib.hid hB
  have IH := Lib.hid ih
  have HEI := Lib.hid hei
  have HOK := Lib.hid hok
  have HOKL := Lib.hid hokl
  have HIN := Lib.hid hin
  have HRC := Lib.hid hrc
  have HEC := Lib.hid hec
  have HEN := Lib.hid hB.1
  have HL := Lib.hid hs.1
  obtain ⟨W0, hW0⟩ : ∃ W0, W0 = (w.alloc (.cells #[.func (.func F) #[] #[], .int .i64 rc] 79)).alloc (.cells (cells9 h o1 l1 c1 o2 l2 c2) 30) := ⟨_, rfl⟩
  have HQ0 : Hid (Quiet0 w W0) := by rw [hW0]; exact (Quiet0.alloc _ _).trans (Quiet0.alloc _ _)
  have HB0 : Hid (W0.heap[w.heap.size]? = some (.cells #[.func (.func F) #[] #[], .int .i64 rc] 79 (0, 0))) := by
    show _ = _; rw [hW0, Below.heap_alloc _ _ _ (by simp)]; exact heap_alloc_new w _
  have HB1 : Hid (W0.heap[w.heap.size + 1]? = some (.cells (cells9 h o1 l1 c1 o2 l2 c2) 30 (0, 0))) := by
    show _ = _; rw [hW0]
    have := heap_alloc_new (w.alloc (.cells #[.func (.func F) #[] #[], .int .i64 rc] 79)) (.cells (cells9 h o1 l1 c1 o2 l2 c2) 30)
    simpa using this
  have HCB : Hid (∀ W, Quiet0 W0 W → W.cell? ⟨w.heap.size, 0, none⟩ = some (.func (.func F) #[] #[]) ∧ W.cell? ⟨w.heap.size, 1, none⟩ = some (.int .i64 rc) ∧ Cells9 W (w.heap.size + 1) 0 h o1 l1 c1 o2 l2 c2) := fun W hq => by
    have hb := blk_after hq HB0.out
    exact ⟨by rw [cell_of_row _ _ _ _ _ (0, 0) hb]; rfl, by rw [cell_of_row _ _ _ _ _ (0, 0) hb]; rfl, cells9_block (blk_after hq HB1.out)⟩
  have HOW := Lib.hid (ho W0 h o1 l1 c1 o2 l2 c2)
  obtain ⟨n0, hn0⟩ : ∃ n0, own h.k = n0 := ⟨_, rfl⟩
  have HN0 := Lib.hid hn0
  have HNI : Hid (InT n0) := by show InT n0; rw [← hn0]; exact hin _
  rw [hn0] at HOW
  have HK := Lib.hid hk
  clear hk
  clear hs hB hec hei hok hokl hin hrc ih ho hn0
  unfold tmv at HOW ⊢
  go_enter Tryd.func92, Tryd.ntmps92
  go_upto_region 1 with fail
  rw [← hW0]
  clear hW0
  generalize hBB : w.heap.size = B at *
  have HBE := Lib.hid hBB
  clear hBB
  obtain ⟨b0, b1, a0, a1, a2, a3, a4, a5, a6, a7, a8⟩ := HCB.out W0 (Quiet0.refl _)
  go_wp2_with fail
  refine HOW.out.mono ?_; rintro x w1 ⟨rfl, hq1⟩
  have HQ1 := Lib.hid hq1
  have HC1 : Hid (∀ W, Quiet0 w1 W → W.cell? ⟨B, 0, none⟩ = some (.func (.func F) #[] #[]) ∧ W.cell? ⟨B, 1, none⟩ = some (.int .i64 rc) ∧ Cells9 W (B + 1) 0 h o1 l1 c1 o2 l2 c2) := fun W hq => HCB.out W (HQ1.out.trans hq)
  have HBN1 := Lib.hid (HBN.out.stay (HQ0.out.trans hq1))
  have HS1 := Lib.hid (HS.out.stay (HQ0.out.trans hq1))
  have HQW : Hid (Quiet0 w w1) := HQ0.out.trans hq1
  clear hq1 b0 b1 a0 a1 a2 a3 a4 a5 a6 a7 a8
  obtain ⟨b0, b1, a0, a1, a2, a3, a4, a5, a6, a7, a8⟩ := HC1.out w1 (Quiet0.refl _)
  have hll := To.length_le ps
  rw [← HL.out] at hll
  obtain ⟨fin, hfin⟩ : ∃ fin, (valsC own rc ps).foldl (fun n v => addL [n, v e]) n0 = fin := ⟨_, rfl⟩
  have HFIN := Lib.hid hfin
  have HV : Hid (cnt own rc h ps e = fin) := by
    show oneC own rc h _ e = _
    unfold oneC
    have hk := HK.out
    rw [if_neg (by omega), if_neg (by omega), if_neg (by omega), if_neg (by omega), HN0.out, hfin]
  clear hfin
  go_wp2_with fail
  go_loopw [7, 100] (fun v t wr => ∃ (i : Nat) (n : Int), t = .int .i64 i ∧ v = .int .i64 n ∧ i ≤ l2 ∧ InT n ∧ ((valsC own rc ps).drop i).foldl (fun n v => addL [n, v e]) n = fin ∧ Quiet0 w1 wr) (fun _ t _ => l2 - (intOf t).toNat)
  case atStart => exact ⟨0, n0, rfl, rfl, Nat.zero_le _, HNI.out, HFIN.out, Quiet0.refl _⟩
  case round =>
    obtain ⟨i, n, rfl, rfl, hi, hni, hf, hq⟩ := hrel
    have HNN := Lib.hid hni
    have HF := Lib.hid hf
    have HQ := Lib.hid hq
    clear hni hf hq b0 b1 a0 a1 a2 a3 a4 a5 a6 a7 a8
    by_cases hlt : i < l2
    · have hlt' : (i : Int) < l2 := by omega
      obtain ⟨b9, off, u, qu, p1u, m1u, d1u, p2u, m2u, d2u, rfl, _, gu, ru, cu, _, tu⟩ := (HS1.out.stay HQ.out).nth hlt
      obtain ⟨v1, hv1⟩ : ∃ v1, cnt own rc u qu e = v1 := ⟨_, rfl⟩
      have Hv1 := Lib.hid hv1
      have HIv1 : Hid (InT v1) := by show InT v1; rw [← hv1]; exact cnt_in HIN.out HRC.out u qu HEI.out
      have hqz := To.size_get ps i u qu gu
      have HD : Hid (((valsC own rc ps).drop (i + 1)).foldl (fun n v => addL [n, v e]) (addL [n, v1]) = fin) := by
        show _ = _
        have hg := valsC_get own rc ps i u qu gu
        obtain ⟨hk, hx⟩ := List.getElem?_eq_some_iff.1 hg
        rw [← HF.out, List.drop_eq_getElem_cons hk, hx, ← hv1]; rfl
      obtain ⟨W3, hW3⟩ : ∃ W3, W3 = wr.alloc (.cells (cells9 u p1u m1u d1u p2u m2u d2u) 30) := ⟨_, rfl⟩
      have hq3 : Quiet0 wr W3 := by rw [hW3]; exact Quiet0.alloc _ _
      have HU3 : Hid (∀ W, Quiet0 W3 W → Cells9 W wr.heap.size 0 u p1u m1u d1u p2u m2u d2u) := by
        intro W hq; rw [hW3] at hq; exact (cells9_new wr u p1u m1u d1u p2u m2u d2u _).fr hq (fun h => h)
      have HCU := Lib.hid (IH.out _ u qu gu W3 R T p1u m1u d1u p2u m2u d2u eo en ec e (tu.stay hq3) (HBN1.out.stay (HQ.out.trans hq3)) HEC.out (by omega) HEI.out (okL_get _ _ _ _ HOKL.out gu).1 (okL_get _ _ _ _ HOKL.out gu).2)
      rw [hv1] at HCU
      have HQ3 := Lib.hid (HQ.out.trans hq3)
      obtain ⟨b0, b1, _⟩ := HC1.out wr HQ.out
      obtain ⟨q0, q1, q2, q3, q4, q5, q6, q7, q8⟩ := cu
      unfold tmv at HCU
      clear hv1 gu tu hq3
      go_upto_region 16 with fail
      change Code.wp _ _ _ _ (wr.alloc (.cells (cells9 u p1u m1u d1u p2u m2u d2u) 30))
      rw [← hW3]
      clear hW3 b0 b1 q0 q1 q2 q3 q4 q5 q6 q7 q8
      obtain ⟨b0, b1, _⟩ := HC1.out W3 HQ3.out
      obtain ⟨z0, z1, z2, z3, z4, z5, z6, z7, z8⟩ := HU3.out W3 (Quiet0.refl _)
      generalize wr.heap.size = pb at *
      go_wp2_with fail
      refine HCU.out.mono ?_; rintro x w4 ⟨rfl, hq4⟩
      have HQ4 := Lib.hid (HQ3.out.trans hq4)
      clear hq4
      go_wp2_with fail
      refine (add2_any n v1 w4.heap.size (w4.alloc (.cells #[.int .i64 n, .int .i64 v1] 3)) (heap_alloc_new w4 _) HNN.out HIv1.out).mono ?_; rintro x w5 ⟨rfl, hq5⟩
      have HQ5 := Lib.hid ((HQ4.out.trans (Quiet0.alloc _ _)).trans hq5)
      have HIN2 : Hid (InT (addL [n, v1])) := addL_in (by intro x hx; simp at hx; rcases hx with rfl | rfl; exact HNN.out; exact HIv1.out)
      clear hq5
      go_wp2_with fail
      go_roundw
      case rel => exact ⟨i + 1, addL [n, v1], by go_num, rfl, by omega, HIN2.out, HD.out, HQ5.out⟩
      case measure => simp [intOf]; omega
    · have hlt' : ¬ (i : Int) < l2 := by omega
      have HE : Hid (fin = n) := by
        show _ = _
        rw [← HF.out, List.drop_eq_nil_of_le (by rw [valsC_length]; have := HL.out; omega)]; rfl
      go_wp2_with fail
      go_ret
      exact ⟨by rw [HV.out, HE.out]; rfl, HQW.out.trans HQ.out⟩
theorem count_any (F : Nat) (own : Int → Int) (rc : Int) (eg : ∀ args w, (callFunc F args).run Tryd.prog w = .ok (.enter F args) w) (ho : OwnT F own) (hin : ∀ k, InT (own k)) (hrc : InT rc) (h : Nd) (ps : To) : CntT F own rc h ps := by
  refine To.ind' (T := CntT F own rc) ?_ h ps
  intro h ps ih
  by_cases h1 : h.k = 1
  · exact count_var F own rc eg ho hin hrc h ps ih h1
  · by_cases h4 : h.k = 4
    · exact count_lam F own rc eg ho hin hrc h ps ih h4
    · by_cases h6 : h.k = 6
      · exact count_let F own rc eg ho hin hrc h ps ih h6
      · by_cases h7 : h.k = 7
        · exact count_rec F own rc eg ho hin hrc h ps ih h7
        · exact count_many F own rc eg ho hin hrc h ps ih (by omega)
end Cn
end Go.Proofs.YtnfodiedalhlhaaDoor
end
