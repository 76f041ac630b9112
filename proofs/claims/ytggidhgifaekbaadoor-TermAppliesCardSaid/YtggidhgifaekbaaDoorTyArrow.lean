/-
  types.Copy, Var and Arrow. Conditions: the types lie in memory as told; there are few of them.
-/
import Derived.Test.YtggidhgifaekbaaDoorTyChange
import Derived.Deep.RegionHeld3
namespace Go.Proofs.YtggidhgifaekbaaDoor
open Go.RowKit Go.Shelf

/-- a world whose block B gets three cells anew -/
def put3 (w : World) (B : Nat) (a b c : Value) : World := ((w.setCell ⟨B, 0, none⟩ a).setCell ⟨B, 1, none⟩ b).setCell ⟨B, 2, none⟩ c
theorem put3_fr (w : World) (B : Nat) (a b c : Value) : Fr (fun k => k = B) w (put3 w B a b c) :=
  ((Fr.setCell (fun k => k = B) w ⟨B, 0, none⟩ a rfl).trans (Fr.setCell (fun k => k = B) _ ⟨B, 1, none⟩ b rfl)).trans (Fr.setCell (fun k => k = B) _ ⟨B, 2, none⟩ c rfl)
theorem put3_cells {w : World} {B : Nat} {a b c a' b' c' : Value} {t : TypeId} (h : w.heap[B]? = some (.cells #[a', b', c'] t (0, 0))) :
    (put3 w B a b c).cell? ⟨B, 0, none⟩ = some a ∧ (put3 w B a b c).cell? ⟨B, 1, none⟩ = some b ∧ (put3 w B a b c).cell? ⟨B, 2, none⟩ = some c := by
  have hbf := box_set2 (u := c) (box_set1 (u := b) (box_set0 (u := a) h))
  obtain ⟨f0, f1, f2, _, _, _⟩ := box_cells3 hbf
  exact ⟨f0, f1, f2⟩

theorem copy1_any (w0 : World) : DoK 95 #[] w0 (fun _ => True) (fun n => n) := by
  intro n W _ _
  go_enter Tryd.func95, Tryd.ntmps95
  go_wp2_with fail
  go_ret
  exact ⟨rfl, Quiet0.refl _⟩
theorem eg_copy : ∀ args w, (callFunc 95 args).run Tryd.prog w = .ok (.enter 95 args) w := enters_of Tryd.func95 (by kernel_rfl) rfl
set_option maxHeartbeats 1000000 in
theorem copy_any (k n : Int) (ps : Fo) (w : World) (o : Option Addr) (len cap : Nat) (hs : Slc w o len ps) (hsz : ps.size ≤ 1000000) :
    Calls Tryd.prog 53 #[tyv k n o len cap] w fun e w' => ∃ o' cap', e = .returned (tyv k n o' len cap') ∧ SlcIn (fun b => w.heap.size ≤ b) w' o' len ps ∧ Quiet0 w w' := by
  have HC := Lib.hid (change_any eg_copy (copy1_any w) k n ps ((w.alloc (.cells #[.int .i64 k, .int .i64 n, .slice o len cap] 24)).alloc (.cells #[.int .i64 0, .int .i64 0, .slice none 0 0] 24)) o len cap ((Quiet0.alloc _ _).trans (Quiet0.alloc _ _)) (hs.stay ((Quiet0.alloc _ _).trans (Quiet0.alloc _ _))) hsz trivial (allF_true (fun _ => trivial) ps))
  rw [Fo.change_id, show newN (fun n => n) k n = n from by unfold newN; split <;> rfl] at HC
  have hb1 : ((w.alloc (.cells #[.int .i64 k, .int .i64 n, .slice o len cap] 24)).alloc (.cells #[.int .i64 0, .int .i64 0, .slice none 0 0] 24)).heap[w.heap.size + 1]? = some (.cells #[.int .i64 0, .int .i64 0, .slice none 0 0] 24 (0, 0)) := by
    have := heap_alloc_new (w.alloc (.cells #[.int .i64 k, .int .i64 n, .slice o len cap] 24)) (.cells #[.int .i64 0, .int .i64 0, .slice none 0 0] 24)
    simpa using this
  have HB1 := Lib.hid hb1
  clear hs hb1
  unfold tyv at *
  go_enter Tryd.func53, Tryd.ntmps53
  go_wp2_with fail
  refine HC.out.mono ?_; rintro e w1 ⟨o2, cap2, rfl, hs2, hq1⟩
  have hb1 := box_after HB1.out hq1
  have HB2 := Lib.hid hb1
  obtain ⟨d0, d1, d2, y0, y1, y2⟩ := box_cells3 hb1
  have HS2 := Lib.hid hs2
  have HQ1 := Lib.hid hq1
  clear hs2 hq1 hb1
  go_wp2_with fail
  clear d0 d1 d2 y0 y1 y2
  have hf := put3_fr w1 (w.heap.size + 1) (.int .i64 k) (.int .i64 n) (.slice o2 len cap2)
  obtain ⟨f0, f1, f2⟩ := put3_cells (a := .int .i64 k) (b := .int .i64 n) (c := .slice o2 len cap2) HB2.out
  change bodyPost _ _ _ _ _ (put3 w1 (w.heap.size + 1) (.int .i64 k) (.int .i64 n) (.slice o2 len cap2))
  generalize put3 w1 (w.heap.size + 1) (.int .i64 k) (.int .i64 n) (.slice o2 len cap2) = wf at *
  refine bodyPost_ret (by simp [results, Tryd.results53, go_sem, f0, f1, f2]; rfl) rfl ?_
  refine ⟨o2, cap2, rfl, HS2.out.fr hf ?_, (((Quiet0.alloc _ _).trans (Quiet0.alloc _ _)).trans HQ1.out).trans' hf (fun kk hkk h => by omega)⟩
  intro kk _ hkk
  have hkk' : ((w.alloc (.cells #[.int .i64 k, .int .i64 n, .slice o len cap] 24)).alloc (.cells #[.int .i64 0, .int .i64 0, .slice none 0 0] 24)).heap.size ≤ kk := hkk
  simp at hkk'
  exact ⟨by omega, by omega⟩

theorem var_any (n : Int) (w : World) :
    Calls Tryd.prog 69 #[.int .i64 n] w fun e w' => e = .returned (tyv 1 n none 0 0) ∧ Quiet0 w w' := by
  unfold tyv
  go_enter Tryd.func69, Tryd.ntmps69
  go_wp2_with fail
  obtain ⟨f0, f1, f2⟩ := box_cells w 1 n none 0 0 24 _ (Quiet0.refl _)
  have hq := Quiet0.alloc w (.cells #[.int .i64 1, .int .i64 n, .slice none 0 0] 24)
  generalize w.alloc (.cells #[.int .i64 1, .int .i64 n, .slice none 0 0] 24) = wf at *
  refine bodyPost_ret (by simp [results, Tryd.results69, go_sem, f0, f1, f2]; rfl) rfl ?_
  exact ⟨rfl, hq⟩

def arrK : Fo → Int
  | .nil => 0
  | .cons k _ _ .nil => k
  | .cons _ _ _ (.cons _ _ _ _) => 4
def arrN : Fo → Int
  | .nil => 0
  | .cons _ n _ .nil => n
  | .cons _ _ _ (.cons _ _ _ _) => 0
def arrP : Fo → Fo
  | .nil => .nil
  | .cons _ _ ps .nil => ps
  | .cons k n ps (.cons k' n' ps' r) => .cons k n ps (.cons (arrK (.cons k' n' ps' r)) (arrN (.cons k' n' ps' r)) (arrP (.cons k' n' ps' r)) .nil)
def TArrow (f : Fo) : Prop := ∀ (w : World) (o : Option Addr) (len cap : Nat), Slc w o len f → len ≤ cap → f.size ≤ 1000000 →
    Calls Tryd.prog 20 #[.slice o len cap] w fun e w' => ∃ o' len' cap', e = .returned (tyv (arrK f) (arrN f) o' len' cap') ∧ SlcIn (fun b => w.heap.size ≤ b) w' o' len' (arrP f) ∧ Quiet0 w w'
theorem arrow_nil : TArrow .nil := by
  intro w o len cap hs hc hsz
  have hl : len = 0 := hs.1
  subst hl
  unfold tyv arrK arrN
  go_enter Tryd.func20, Tryd.ntmps20
  go_wp2_with fail
  obtain ⟨f0, f1, f2⟩ := box_cells w 0 0 none 0 0 24 _ (Quiet0.refl _)
  have hq := Quiet0.alloc w (.cells #[.int .i64 0, .int .i64 0, .slice none 0 0] 24)
  generalize w.alloc (.cells #[.int .i64 0, .int .i64 0, .slice none 0 0] 24) = wf at *
  refine bodyPost_ret (by simp [results, Tryd.results20, go_sem, f0, f1, f2]; rfl) rfl ?_
  exact ⟨none, 0, 0, rfl, SlcIn.nil _ _ _, hq⟩
theorem arrow_one (k n : Int) (ps : Fo) : TArrow (.cons k n ps .nil) := by
  intro w o len cap hs hc hsz
  have hl : len = 1 := hs.1
  subst hl
  obtain ⟨b, off, k', n', qs, o1, len1, cap1, rfl, hd, hg, e0, e1, e2, hs1⟩ := hs.nth (i := 0) (by omega)
  simp only [Fo.get] at hg
  cases hg
  have hsq : ps.size ≤ 1000000 := by simp only [Fo.size] at hsz; omega
  have HC := Lib.hid (copy_any k n ps (w.alloc (.cells #[.int .i64 0, .int .i64 0, .slice none 0 0] 24)) o1 len1 cap1 (hs1.stay (Quiet0.alloc _ _)) hsq)
  have HB1 := Lib.hid (heap_alloc_new w (.cells #[.int .i64 0, .int .i64 0, .slice none 0 0] 24))
  rw [Nat.zero_mul, Nat.add_zero] at e0 e1 e2
  have hbl := World.block_lt_of_cell? w _ e0
  clear hd hs hs1 hsz
  unfold tyv at *
  simp only [arrK, arrN, arrP]
  go_enter Tryd.func20, Tryd.ntmps20
  go_wp2_with fail
  refine HC.out.mono ?_; rintro e w1 ⟨o2, cap2, rfl, hs2, hq1⟩
  have hb1 := box_after HB1.out hq1
  have HB2 := Lib.hid hb1
  obtain ⟨d0, d1, d2, y0, y1, y2⟩ := box_cells3 hb1
  have HS2 := Lib.hid hs2
  have HQ1 := Lib.hid hq1
  clear hs2 hq1 hb1
  go_wp2_with fail
  clear d0 d1 d2 y0 y1 y2
  have hf := put3_fr w1 w.heap.size (.int .i64 k) (.int .i64 n) (.slice o2 len1 cap2)
  obtain ⟨f0, f1, f2⟩ := put3_cells (a := .int .i64 k) (b := .int .i64 n) (c := .slice o2 len1 cap2) HB2.out
  change bodyPost _ _ _ _ _ (put3 w1 w.heap.size (.int .i64 k) (.int .i64 n) (.slice o2 len1 cap2))
  generalize put3 w1 w.heap.size (.int .i64 k) (.int .i64 n) (.slice o2 len1 cap2) = wf at *
  refine bodyPost_ret (by simp [results, Tryd.results20, go_sem, f0, f1, f2]; rfl) rfl ?_
  refine ⟨o2, len1, cap2, rfl, HS2.out.fr hf ?_, ((Quiet0.alloc _ _).trans HQ1.out).trans' hf (fun kk hkk h => by omega)⟩
  intro kk _ hkk
  have hkk' : (w.alloc (.cells #[.int .i64 0, .int .i64 0, .slice none 0 0] 24)).heap.size ≤ kk := hkk
  simp at hkk'
  exact ⟨by omega, by omega⟩
set_option maxHeartbeats 2000000 in
theorem arrow_more (k n : Int) (ps : Fo) (k2 n2 : Int) (ps2 r : Fo) (ih : TArrow (.cons k2 n2 ps2 r)) : TArrow (.cons k n ps (.cons k2 n2 ps2 r)) := by
  intro w o len cap hs hc hsz
  have hl : len = r.length + 1 + 1 := hs.1
  have hmx := hs.2.1
  unfold maxLen at hmx
  obtain ⟨b, off, k', n', qs, o1, len1, cap1, rfl, hd, hg, e0, e1, e2, hs1⟩ := hs.nth (i := 0) (by omega)
  simp only [Fo.get] at hg
  cases hg
  have hsq : ps.size ≤ 1000000 := by simp only [Fo.size] at hsz; omega
  have HC := Lib.hid (copy_any k n ps)
  have hs2 : Slc w (some ⟨b, off + 3, none⟩) (len - 1) (.cons k2 n2 ps2 r) := by
    refine ⟨by simp only [Fo.length]; omega, by unfold maxLen; omega, fun _ => ⟨b, off + 3, rfl, ?_⟩⟩
    obtain ⟨b', off', he, ha⟩ := hs.2.2 (by omega)
    cases he
    exact ha.2.2.2
  have HB1 := Lib.hid (heap_alloc_new w (.cells #[.int .i64 0, .int .i64 0, .slice none 0 0] 24))
  rw [Nat.zero_mul, Nat.add_zero] at e0 e1 e2
  have hsz2 : (Fo.cons k2 n2 ps2 r).size ≤ 1000000 := by simp only [Fo.size] at hsz ⊢; omega
  have HS1 := Lib.hid hs1
  have HS2 := Lib.hid hs2
  have hlen2 : 2 ≤ len := by omega
  unfold TArrow at ih
  have IH := Lib.hid ih
  have j0 : (0 : Int) < (len : Int) := by omega
  have jn : 0 < len := by omega
  have j1 : (1 : Int) ≤ (len : Int) := by omega
  have j2 : (len : Int) ≤ (cap : Int) := by omega
  clear hd hs hs1 hs2 hsz hl ih
  unfold tyv at *
  have e4 : arrK (.cons k n ps (.cons k2 n2 ps2 r)) = 4 := rfl
  have e0' : arrN (.cons k n ps (.cons k2 n2 ps2 r)) = 0 := rfl
  have eP : arrP (.cons k n ps (.cons k2 n2 ps2 r)) = .cons k n ps (.cons (arrK (.cons k2 n2 ps2 r)) (arrN (.cons k2 n2 ps2 r)) (arrP (.cons k2 n2 ps2 r)) .nil) := rfl
  rw [e4, e0', eP]
  clear e4 e0' eP
  generalize arrP (.cons k2 n2 ps2 r) = pa at *
  generalize arrK (.cons k2 n2 ps2 r) = ka at *
  generalize arrN (.cons k2 n2 ps2 r) = na at *
  go_enter Tryd.func20, Tryd.ntmps20
  go_wp2_with fail
  obtain ⟨W0, hW0⟩ : ∃ W0, W0 = w.alloc (.cells #[.int .i64 0, .int .i64 0, .slice none 0 0] 24) := ⟨_, rfl⟩
  change Code.wp _ _ _ _ (w.alloc (.cells #[.int .i64 0, .int .i64 0, .slice none 0 0] 24))
  have HQ0 : Hid (Quiet0 w W0) := by rw [hW0]; exact Quiet0.alloc _ _
  have hz0 : w.heap.size + 1 = W0.heap.size := by rw [hW0]; simp
  have HZ := Lib.hid hz0
  rw [← hW0] at HB1 ⊢
  have g0 := HQ0.out.at e0
  have g1 := HQ0.out.at e1
  have g2 := HQ0.out.at e2
  have hbB : ¬ b = w.heap.size := by have := World.block_lt_of_cell? w _ e0; simp at this; omega
  clear hW0 e0 e1 e2 hz0
  generalize hB : w.heap.size = B at *
  have HBE := Lib.hid hB
  clear hB
  go_region_held3 (fun w' => w'.cell? ⟨b, off, none⟩ = some (.int .i64 k) ∧ w'.cell? ⟨b, off + 1, none⟩ = some (.int .i64 n) ∧ w'.cell? ⟨b, off + 2, none⟩ = some (.slice o1 len1 cap1))
    (first
      | (go_keep; done)
      | (exact ⟨h0, h1, h2⟩)
      | (exact ⟨f0, f1, f2⟩)
      | (exact ⟨g0, g1, g2⟩)
      | (have hp := put3_fr w4 B (.int .i64 4) (.int .i64 0) (.slice (some ⟨w4.heap.size, 0, none⟩) 2 2); exact ⟨(Quiet0.alloc _ _).at ((hp.cellb hb4l hbB).trans h0), (Quiet0.alloc _ _).at ((hp.cellb hb4l hbB).trans h1), (Quiet0.alloc _ _).at ((hp.cellb hb4l hbB).trans h2)⟩))
    (first
      | (go_at_call 53; refine (HC.out _ _ _ _ (HS1.out.stay (HQ0.out.trans (Quiet0.drew _))) hsq).mono ?_; rintro e w3 ⟨o2, cap2, rfl, hs3, hq3⟩; have f3 := (Quiet0.drew W0).trans hq3; have f0 := f3.at g0; have f1 := f3.at g1; have f2 := f3.at g2; have HQ3 := Lib.hid hq3; have HS3 := Lib.hid hs3; have HF3 := Lib.hid f3; clear hq3 hs3)
      | (go_at_call 20; refine (IH.out _ _ _ _ (HS2.out.stay (HQ0.out.trans HF3.out)) (by omega) hsz2).mono ?_; rintro e w4 ⟨o3, len3, cap3, rfl, hs4, hq4⟩; have h3 := HF3.out.trans hq4; have h0 := h3.at g0; have hb4l := World.block_lt_of_cell? w4 _ h0; have h1 := h3.at g1; have h2 := h3.at g2; have hb4 := box_after HB1.out h3; have hlt4 := lt_of_block hb4; obtain ⟨d0, d1, d2, y0, y1, y2⟩ := box_cells3 hb4; have HB4 := Lib.hid hb4; have HQ4 := Lib.hid hq4; have HS4 := Lib.hid hs4; have HF4 := Lib.hid h3; clear hq4 hs4 hb4))
  all_goals
    go_wp2_with fail
    clear d0 d1 d2 y0 y1 y2
    have hf := put3_fr w4 B (.int .i64 4) (.int .i64 0) (.slice (some ⟨w4.heap.size, 0, none⟩) 2 2)
    obtain ⟨p0, p1, p2⟩ := put3_cells (a := .int .i64 4) (b := .int .i64 0) (c := .slice (some ⟨w4.heap.size, 0, none⟩) 2 2) HB4.out
    have hps : (put3 w4 B (.int .i64 4) (.int .i64 0) (.slice (some ⟨w4.heap.size, 0, none⟩) 2 2)).heap.size = w4.heap.size := by simp [put3, World.setCell]
    change bodyPost _ _ _ _ _ ((put3 w4 B (.int .i64 4) (.int .i64 0) (.slice (some ⟨w4.heap.size, 0, none⟩) 2 2)).alloc (.cells #[.int .i64 k, .int .i64 n, .slice o2 len1 cap2, .int .i64 ka, .int .i64 na, .slice o3 len3 cap3] 24))
    generalize put3 w4 B (.int .i64 4) (.int .i64 0) (.slice (some ⟨w4.heap.size, 0, none⟩) 2 2) = w5 at *
    have hnew := heap_alloc_new w5 (.cells #[.int .i64 k, .int .i64 n, .slice o2 len1 cap2, .int .i64 ka, .int .i64 na, .slice o3 len3 cap3] 24)
    have hqa := Quiet0.alloc w5 (.cells #[.int .i64 k, .int .i64 n, .slice o2 len1 cap2, .int .i64 ka, .int .i64 na, .slice o3 len3 cap3] 24)
    generalize w5.alloc (.cells #[.int .i64 k, .int .i64 n, .slice o2 len1 cap2, .int .i64 ka, .int .i64 na, .slice o3 len3 cap3] 24) = wf at *
    rw [hps] at hnew
    have q0 := hqa.at p0
    have q1 := hqa.at p1
    have q2 := hqa.at p2
    refine bodyPost_ret (by simp [results, Tryd.results20, go_sem, q0, q1, q2]; rfl) rfl ?_
    have hbe := HBE.out
    have hz := HZ.out
    have hw3 := HF3.out.size
    have hw4 := HF4.out.size
    have hfa : Fr (fun kk => kk = B) w4 wf := hf.trans (hqa.mono (fun _ _ h => h.elim))
    refine ⟨some ⟨w4.heap.size, 0, none⟩, 2, 2, rfl, ⟨rfl, by decide, fun _ => ⟨w4.heap.size, 0, rfl, ?_⟩⟩, ((HQ0.out.trans HF4.out).trans' hfa (fun kk hkk h => by omega))⟩
    have hsa : SlcIn (fun kk => w.heap.size ≤ kk) wf o2 len1 ps := by
      refine (HS3.out.fr (T := fun kk => W0.heap.size ≤ kk) HQ4.out (fun kk _ h => ⟨h, fun h => h⟩)).fr hfa ?_
      intro kk _ h
      have h' : W0.heap.size ≤ kk := h
      exact ⟨by omega, by omega⟩
    have hsb : SlcIn (fun kk => w.heap.size ≤ kk) wf o3 len3 pa := by
      refine HS4.out.fr hfa ?_
      intro kk _ h
      have h' : w3.heap.size ≤ kk := h
      exact ⟨by omega, by omega⟩
    have hR : w.heap.size ≤ w4.heap.size := by omega
    exact ⟨hR, by rw [cell_of_row _ _ _ _ _ (0, 0) hnew]; rfl, by rw [cell_of_row _ _ _ _ _ (0, 0) hnew]; rfl, ⟨o2, len1, cap2, by rw [cell_of_row _ _ _ _ _ (0, 0) hnew]; rfl, hsa.1, hsa.2.1, hsa.2.2⟩,
      hR, by rw [cell_of_row _ _ _ _ _ (0, 0) hnew]; rfl, by rw [cell_of_row _ _ _ _ _ (0, 0) hnew]; rfl, ⟨o3, len3, cap3, by rw [cell_of_row _ _ _ _ _ (0, 0) hnew]; rfl, hsb.1, hsb.2.1, hsb.2.2⟩, trivial⟩
theorem arrow_any : ∀ f : Fo, TArrow f
  | .nil => arrow_nil
  | .cons k n ps .nil => arrow_one k n ps
  | .cons k n ps (.cons k2 n2 ps2 r) => arrow_more k n ps k2 n2 ps2 r (arrow_any (.cons k2 n2 ps2 r))
end Go.Proofs.YtggidhgifaekbaaDoor
