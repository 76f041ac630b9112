/-
  Texts laid together (SuTable, TyArrow, SuApply, SuFind): what each one proves, and its conditions, stands at its head.
-/
import Derived.Deep.RegionHeld3
import Derived.Deep.DeepCutAuto
import Derived.Test.YtggidhgifaekbaaDoorMA1
import Derived.Test.YtggidhgifaekbaaDoorMA2
import Derived.Test.YtggidhgifaekbaaDoorMA3
/-
  The program's table of binds; the reference's Find. Conditions: the binds lie in memory as told; their variables are in range; there are few.
-/
namespace Go.Proofs.YtggidhgifaekbaaDoor
open Go.RowKit Go.Maps

def lastB (l : List Bd) : Int → Option Bd := l.foldl (fun f t v => if v = t.1 then some t else f v) (fun _ => none)
theorem lastB_snoc (l : List Bd) (t : Bd) (v : Int) : lastB (l ++ [t]) v = if v = t.1 then some t else lastB l v := by unfold lastB; rw [List.foldl_append]; rfl
theorem last_first : ∀ (l acc : List Bd), (∀ v, lastB acc v = findB acc v) → ∀ v, lastB (l.foldl firstStep acc) v = findB (l.foldl firstStep acc) v
  | [], acc, h => h
  | t :: r, acc, h => by
    rw [List.foldl_cons]
    refine last_first r _ (fun v => ?_)
    unfold firstStep
    cases hh : hasB acc t.1
    · simp only [Bool.false_eq_true, if_false]
      rw [lastB_snoc, findB_snoc]
      by_cases he : v = t.1
      · subst he
        rw [if_pos rfl, findB_none.2 hh]; simp
      · rw [if_neg he, h v]
        have : (t.1 == v) = false := by simp; exact fun e => he e.symm
        rw [this]; cases findB acc v <;> rfl
    · simp only [if_true]; exact h v
/-- what a map holds at each key, told in types -/
def TabAt (w : World) (q : Int → Option Value) (f : Int → Option Bd) : Prop := ∀ v, match f v with
  | none => q v = none
  | some t => ∃ o len cap, q v = some (tyv t.2.1 t.2.2.1 o len cap) ∧ Slc w o len t.2.2.2
theorem TabAt.stay {w w' : World} {q : Int → Option Value} {f : Int → Option Bd} (h : TabAt w q f) (hq : Quiet0 w w') : TabAt w' q f := by
  intro v
  have hv := h v
  cases hf : f v with
  | none => rw [hf] at hv; exact hv
  | some t =>
    rw [hf] at hv
    obtain ⟨o, len, cap, h1, h2⟩ := hv
    exact ⟨o, len, cap, h1, h2.stay hq⟩
theorem TabAt.cong {w : World} {q : Int → Option Value} {f g : Int → Option Bd} (h : TabAt w q f) (he : ∀ v, f v = g v) : TabAt w q g := by
  intro v; rw [← he v]; exact h v
/-- the row of what counts lies in its own block; the parts elsewhere -/
theorem SlcIn.other {w w' : World} {R : Nat → Prop} {o : Option Addr} {len : Nat} {f : Fo} (h : SlcIn R w o len f) {b : Nat} (hf : Fr (fun j => j = b) w w') (hb : ∀ j, R j → j ≠ b) : SlcIn R w' o len f := h.fr hf (fun j _ hj => ⟨hj, hb j hj⟩)
theorem Slc.other {w w' : World} {b : Nat} {o : Option Addr} {len : Nat} {f : Fo} (h : Slc w o len f) (hf : Fr (fun j => j = b) w w') (hm : w.heap.size ≤ b ∨ ∃ es c, w.heap[b]? = some (.map es c)) : Slc w' o len f := by
  have key : ∀ (f : Fo) (c off : Nat), At w c off f → At w' c off f := by
    intro f
    have hne : ∀ c off v, w.cell? ⟨c, off, none⟩ = some v → ¬ c = b := by
      intro c off v hc e
      subst e
      rcases hm with h | ⟨es, cl, h⟩
      · have := World.block_lt_of_cell? w _ hc; simp at this; omega
      · simp [World.cell?, h] at hc
    induction f with
    | nil => intro c off _; trivial
    | cons k n ps r ih1 ih2 =>
      intro c off ha
      obtain ⟨h1, h2, ⟨o, len, cap, h3, h4, h4', h5⟩, h6⟩ := ha
      have hlt := World.block_lt_of_cell? w _ h1
      have hcb := hne _ _ _ h1
      refine ⟨(hf.cellb hlt hcb).trans h1, (hf.cellb hlt hcb).trans h2, ⟨o, len, cap, (hf.cellb hlt hcb).trans h3, h4, h4', fun hl => ?_⟩, ih2 c (off + 3) h6⟩
      obtain ⟨b', off', ho, ha'⟩ := h5 hl
      exact ⟨b', off', ho, ih1 b' off' ha'⟩
  refine ⟨h.1, h.2.1, fun hl => ?_⟩
  obtain ⟨c, off, ho, ha⟩ := h.2.2 hl
  exact ⟨c, off, ho, key f c off ha⟩
theorem MapT.isMap {w : World} {b n : Nat} {q : Int → Option Value} (h : MapT w b n q) : ∃ es c, w.heap[b]? = some (.map es c) := by
  obtain ⟨D, ⟨es, c, h, _⟩, _⟩ := h
  exact ⟨es, c, h⟩
theorem BindsAt.other {w w' : World} {b : Nat} {o : Option Addr} {l : List Bd} (h : BindsAt w o l) (hf : Fr (fun j => j = b) w w') (hm : w.heap.size ≤ b ∨ ∃ es c, w.heap[b]? = some (.map es c)) : BindsAt w' o l := by
  have hne : ∀ c off v, w.cell? ⟨c, off, none⟩ = some v → w'.cell? ⟨c, off, none⟩ = some v := by
    intro c off v hc
    have hlt := World.block_lt_of_cell? w _ hc
    have h9 : c < w.heap.size := hlt
    refine (hf.cellb hlt (fun e => ?_)).trans hc
    have e' : c = b := e
    rcases hm with h | ⟨es, cl, h⟩
    · omega
    · subst e'; simp [World.cell?, h] at hc
  intro i t ht
  obtain ⟨b, off, o', len', cap', h0, h1, h2, h3, h4, h5⟩ := h i t ht
  exact ⟨b, off, o', len', cap', h0, hne _ _ _ h1, hne _ _ _ h2, hne _ _ _ h3, hne _ _ _ h4, h5.other hf hm⟩
set_option maxHeartbeats 4000000 in
set_option maxRecDepth 100000 in
theorem table_any (l : List Bd) (w : World) (o : Option Addr) (cap : Nat) (hs : BindsAt w o l) (hw : ∀ t ∈ l, wfI t.1) (hz : l.length ≤ 100000) :
    Calls Tryd.prog 85 #[.slice o l.length cap] w fun e w' => ∃ b m q, e = .returned (.map (some b)) ∧ w.heap.size ≤ b ∧ MapT w' b m q ∧ TabAt w' q (findB l) ∧ Quiet0 w w' := by
  have HC := Lib.hid (count_any l (w.alloc (.map #[] 0)) o cap (hs.stay (Quiet0.alloc _ _)) hw hz)
  have HWF : Hid (∀ t ∈ firstB l, wfI t.1) := fun t ht => by
    rcases first_sub l [] t ht with h | h
    · simp at h
    · exact hw t h
  have hfl := first_len l []
  have hfl2 : (firstB l).length ≤ 100000 := by have h := hfl; simp at h; exact Nat.le_trans h hz
  have HLF : Hid (∀ v, lastB (firstB l) v = findB l v) := fun v => (last_first l [] (fun v => rfl) v).trans (first_find l v)
  have hmm := @run_makeMap Tryd.prog
  clear hs hw hfl
  obtain ⟨FF, hFF⟩ : ∃ FF, FF = findB l := ⟨_, rfl⟩
  rw [← hFF] at HLF ⊢
  clear hFF
  generalize hFB : firstB l = F at *
  clear hFB
  go_enter Tryd.func85, Tryd.ntmps85
  go_wp2_with fail
  refine HC.out.mono ?_; rintro e w1 ⟨a, c, rfl, hb, hq1⟩
  have HB := Lib.hid hb
  have HQ1 := Lib.hid hq1
  have HM1 := Lib.hid ((MapT.made w).stay hq1)
  clear hb hq1
  generalize hBM : w.heap.size = B at *
  have HBM := Lib.hid hBM
  clear hBM
  go_wp2_with fail
  go_loopw [10] (fun t wr => ∃ (i : Nat) (q : Int → Option Value), t = .int .i64 i ∧ i ≤ F.length ∧ MapT wr B i q ∧ TabAt wr q (lastB (F.take i)) ∧ BindsAt wr a F ∧ Quiet0 w wr) (fun t _ => F.length - (intOf t).toNat)
  case atStart => exact ⟨0, fun _ => none, rfl, Nat.zero_le _, HM1.out, (fun v => rfl), HB.out, (Quiet0.alloc _ _).trans HQ1.out⟩
  case round =>
    obtain ⟨i, q, rfl, hi, hm, ht, hb, hq⟩ := hrel
    have HM := Lib.hid hm
    have HT := Lib.hid ht
    have HBW := Lib.hid hb
    have HQ := Lib.hid hq
    clear hm ht hb hq
    by_cases hlt : i < F.length
    · have hlt' : (i : Int) < F.length := by omega
      obtain ⟨t, ht⟩ : ∃ t, F[i]? = some t := ⟨_, List.getElem?_eq_getElem hlt⟩
      obtain ⟨b, off, o1, len1, cap1, rfl, e0, e1, e2, e3, hs1⟩ := HBW.out i t ht
      have HWT := Lib.hid (HWF.out t (List.mem_of_getElem? ht))
      have HNT : Hid (F.take (i + 1) = F.take i ++ [t]) := by show _ = _; rw [List.take_add_one, ht]; rfl
      have HS1 := Lib.hid hs1
      have HTT : Hid (∀ x, lastB (F.take (i + 1)) x = if x = t.1 then some t else lastB (F.take i) x) := by intro x; rw [HNT.out, lastB_snoc]
      obtain ⟨v, k, n, ps⟩ := t
      simp only at e0 e1 e2 e3
      have HMA := Lib.hid (HM.out.stay (Quiet0.alloc wr (.cells #[.int .i64 v, .int .i64 k, .int .i64 n, .slice o1 len1 cap1] 91)))
      clear ht hs1
      go_wp2_with (at_mapUpdate; go_must (refine wpList_storeT _ rfl _ _ _ rfl rfl HMA.out ?hn v (tyv k n o1 len1 cap1) HWT.out rfl rfl ?_))
      case hn => unfold maxLen; omega
      intro w3 hm3 hf3
      have hmp := HMA.out.isMap
      have hqa := Quiet0.alloc wr (.cells #[.int .i64 v, .int .i64 k, .int .i64 n, .slice o1 len1 cap1] 91)
      have HQ3 : Hid (Quiet0 w w3) := Fr.trans' (HQ.out.trans hqa) hf3 (fun j hj h => by have h' : j = B := h; have := HBM.out; omega)
      have HB3 := Lib.hid ((HBW.out.stay hqa).other hf3 (.inr hmp))
      have HT3 : Hid (TabAt w3 (fun x => if x = v then some (tyv k n o1 len1 cap1) else q x) (lastB (F.take (i + 1)))) := by
        intro x
        rw [HTT.out]
        by_cases he : x = v
        · rw [if_pos he]
          exact ⟨o1, len1, cap1, by simp [he], (HS1.out.stay hqa).other hf3 (.inr hmp)⟩
        · rw [if_neg he]
          have hx := HT.out x
          cases hl : lastB (F.take i) x with
          | none => rw [hl] at hx; simpa [he] using hx
          | some u =>
            rw [hl] at hx
            obtain ⟨o2, len2, cap2, h1, h2⟩ := hx
            exact ⟨o2, len2, cap2, by simpa [he] using h1, (h2.stay hqa).other hf3 (.inr hmp)⟩
      have HM3 := Lib.hid hm3
      clear hm3 hf3 hmp hqa
      go_wp2_with fail
      go_roundw
      case rel => exact ⟨i + 1, _, by go_num, by omega, HM3.out, HT3.out, HB3.out, HQ3.out⟩
      case measure => simp [intOf]; omega
    · have hlt' : ¬ (i : Int) < F.length := by omega
      have htk : F.take i = F := List.take_of_length_le (by omega)
      have HTF : Hid (TabAt wr q FF) := by have h := HT.out; rw [htk] at h; exact h.cong HLF.out
      clear htk
      go_wp2_with fail
      go_ret
      exact ⟨B, rfl, by have := HBM.out; omega, i, q, HM.out, HTF.out, HQ.out⟩
end Go.Proofs.YtggidhgifaekbaaDoor
/-
  types.Copy, Var and Arrow. Conditions: the types lie in memory as told; there are few of them.
-/
namespace Go.Proofs.YtggidhgifaekbaaDoor
open Go.RowKit Go.Shelf

/-- a world whose block B gets three cells anew -/
def put3 (w : World) (B : Nat) (a b c : Value) : World := ((w.setCell ⟨B, 0, none⟩ a).setCell ⟨B, 1, none⟩ b).setCell ⟨B, 2, none⟩ c
theorem put3_fr (w : World) (B : Nat) (a b c : Value) : Fr (fun k => k = B) w (put3 w B a b c) :=
  ((Fr.setCell (fun k => k = B) w ⟨B, 0, none⟩ a rfl).trans (Fr.setCell (fun k => k = B) _ ⟨B, 1, none⟩ b rfl)).trans (Fr.setCell (fun k => k = B) _ ⟨B, 2, none⟩ c rfl)
theorem put3_cells {w : World} {B : Nat} {a b c a' b' c' : Value} {t : TypeId} (h : w.heap[B]? = some (.cells #[a', b', c'] t (0, 0))) :
    (put3 w B a b c).cell? ⟨B, 0, none⟩ = some a ∧ (put3 w B a b c).cell? ⟨B, 1, none⟩ = some b ∧ (put3 w B a b c).cell? ⟨B, 2, none⟩ = some c := by
  have hbf := box_set2 (u := c) (box_set1 (u := b) (box_set0 (u := a) h))
  obtain ⟨f0, f1, f2, _, _, _⟩ := box_cells3 hbf
  exact ⟨f0, f1, f2⟩

theorem copy1_any (w0 : World) : DoK 95 #[] w0 (fun _ => True) (fun n => n) := by
  intro n W _ _
  go_enter Tryd.func95, Tryd.ntmps95
  go_wp2_with fail
  go_ret
  exact ⟨rfl, Quiet0.refl _⟩
theorem eg_copy : ∀ args w, (callFunc 95 args).run Tryd.prog w = .ok (.enter 95 args) w := enters_of Tryd.func95 (by kernel_rfl) rfl
set_option maxHeartbeats 1000000 in
theorem copy_any (k n : Int) (ps : Fo) (w : World) (o : Option Addr) (len cap : Nat) (hs : Slc w o len ps) (hsz : ps.size ≤ 1000000) :
    Calls Tryd.prog 53 #[tyv k n o len cap] w fun e w' => ∃ o' cap', e = .returned (tyv k n o' len cap') ∧ SlcIn (fun b => w.heap.size ≤ b) w' o' len ps ∧ Quiet0 w w' := by
  have HC := Lib.hid (change_any eg_copy (copy1_any w) k n ps ((w.alloc (.cells #[.int .i64 k, .int .i64 n, .slice o len cap] 24)).alloc (.cells #[.int .i64 0, .int .i64 0, .slice none 0 0] 24)) o len cap ((Quiet0.alloc _ _).trans (Quiet0.alloc _ _)) (hs.stay ((Quiet0.alloc _ _).trans (Quiet0.alloc _ _))) hsz trivial (allF_true (fun _ => trivial) ps))
  rw [Fo.change_id, show newN (fun n => n) k n = n from by unfold newN; split <;> rfl] at HC
  have hb1 : ((w.alloc (.cells #[.int .i64 k, .int .i64 n, .slice o len cap] 24)).alloc (.cells #[.int .i64 0, .int .i64 0, .slice none 0 0] 24)).heap[w.heap.size + 1]? = some (.cells #[.int .i64 0, .int .i64 0, .slice none 0 0] 24 (0, 0)) := by
    have := heap_alloc_new (w.alloc (.cells #[.int .i64 k, .int .i64 n, .slice o len cap] 24)) (.cells #[.int .i64 0, .int .i64 0, .slice none 0 0] 24)
    simpa using this
  have HB1 := Lib.hid hb1
  clear hs hb1
  unfold tyv at *
  go_enter Tryd.func53, Tryd.ntmps53
  go_wp2_with fail
  refine HC.out.mono ?_; rintro e w1 ⟨o2, cap2, rfl, hs2, hq1⟩
  have hb1 := box_after HB1.out hq1
  have HB2 := Lib.hid hb1
  obtain ⟨d0, d1, d2, y0, y1, y2⟩ := box_cells3 hb1
  have HS2 := Lib.hid hs2
  have HQ1 := Lib.hid hq1
  clear hs2 hq1 hb1
  go_wp2_with fail
  clear d0 d1 d2 y0 y1 y2
  have hf := put3_fr w1 (w.heap.size + 1) (.int .i64 k) (.int .i64 n) (.slice o2 len cap2)
  obtain ⟨f0, f1, f2⟩ := put3_cells (a := .int .i64 k) (b := .int .i64 n) (c := .slice o2 len cap2) HB2.out
  change bodyPost _ _ _ _ _ (put3 w1 (w.heap.size + 1) (.int .i64 k) (.int .i64 n) (.slice o2 len cap2))
  generalize put3 w1 (w.heap.size + 1) (.int .i64 k) (.int .i64 n) (.slice o2 len cap2) = wf at *
  refine bodyPost_ret (by simp [results, Tryd.results53, go_sem, f0, f1, f2]; rfl) rfl ?_
  refine ⟨o2, cap2, rfl, HS2.out.fr hf ?_, (((Quiet0.alloc _ _).trans (Quiet0.alloc _ _)).trans HQ1.out).trans' hf (fun kk hkk h => by omega)⟩
  intro kk _ hkk
  have hkk' : ((w.alloc (.cells #[.int .i64 k, .int .i64 n, .slice o len cap] 24)).alloc (.cells #[.int .i64 0, .int .i64 0, .slice none 0 0] 24)).heap.size ≤ kk := hkk
  simp at hkk'
  exact ⟨by omega, by omega⟩

theorem var_any (n : Int) (w : World) :
    Calls Tryd.prog 69 #[.int .i64 n] w fun e w' => e = .returned (tyv 1 n none 0 0) ∧ Quiet0 w w' := by
  unfold tyv
  go_enter Tryd.func69, Tryd.ntmps69
  go_wp2_with fail
  obtain ⟨f0, f1, f2⟩ := box_cells w 1 n none 0 0 24 _ (Quiet0.refl _)
  have hq := Quiet0.alloc w (.cells #[.int .i64 1, .int .i64 n, .slice none 0 0] 24)
  generalize w.alloc (.cells #[.int .i64 1, .int .i64 n, .slice none 0 0] 24) = wf at *
  refine bodyPost_ret (by simp [results, Tryd.results69, go_sem, f0, f1, f2]; rfl) rfl ?_
  exact ⟨rfl, hq⟩

def arrK : Fo → Int
  | .nil => 0
  | .cons k _ _ .nil => k
  | .cons _ _ _ (.cons _ _ _ _) => 4
def arrN : Fo → Int
  | .nil => 0
  | .cons _ n _ .nil => n
  | .cons _ _ _ (.cons _ _ _ _) => 0
def arrP : Fo → Fo
  | .nil => .nil
  | .cons _ _ ps .nil => ps
  | .cons k n ps (.cons k' n' ps' r) => .cons k n ps (.cons (arrK (.cons k' n' ps' r)) (arrN (.cons k' n' ps' r)) (arrP (.cons k' n' ps' r)) .nil)
def TArrow (f : Fo) : Prop := ∀ (w : World) (o : Option Addr) (len cap : Nat), Slc w o len f → len ≤ cap → f.size ≤ 1000000 →
    Calls Tryd.prog 20 #[.slice o len cap] w fun e w' => ∃ o' len' cap', e = .returned (tyv (arrK f) (arrN f) o' len' cap') ∧ SlcIn (fun b => w.heap.size ≤ b) w' o' len' (arrP f) ∧ Quiet0 w w'
theorem arrow_nil : TArrow .nil := by
  intro w o len cap hs hc hsz
  have hl : len = 0 := hs.1
  subst hl
  unfold tyv arrK arrN
  go_enter Tryd.func20, Tryd.ntmps20
  go_wp2_with fail
  obtain ⟨f0, f1, f2⟩ := box_cells w 0 0 none 0 0 24 _ (Quiet0.refl _)
  have hq := Quiet0.alloc w (.cells #[.int .i64 0, .int .i64 0, .slice none 0 0] 24)
  generalize w.alloc (.cells #[.int .i64 0, .int .i64 0, .slice none 0 0] 24) = wf at *
  refine bodyPost_ret (by simp [results, Tryd.results20, go_sem, f0, f1, f2]; rfl) rfl ?_
  exact ⟨none, 0, 0, rfl, SlcIn.nil _ _ _, hq⟩
theorem arrow_one (k n : Int) (ps : Fo) : TArrow (.cons k n ps .nil) := by
  intro w o len cap hs hc hsz
  have hl : len = 1 := hs.1
  subst hl
  obtain ⟨b, off, k', n', qs, o1, len1, cap1, rfl, hd, hg, e0, e1, e2, hs1⟩ := hs.nth (i := 0) (by omega)
  simp only [Fo.get] at hg
  cases hg
  have hsq : ps.size ≤ 1000000 := by simp only [Fo.size] at hsz; omega
  have HC := Lib.hid (copy_any k n ps (w.alloc (.cells #[.int .i64 0, .int .i64 0, .slice none 0 0] 24)) o1 len1 cap1 (hs1.stay (Quiet0.alloc _ _)) hsq)
  have HB1 := Lib.hid (heap_alloc_new w (.cells #[.int .i64 0, .int .i64 0, .slice none 0 0] 24))
  rw [Nat.zero_mul, Nat.add_zero] at e0 e1 e2
  have hbl := World.block_lt_of_cell? w _ e0
  clear hd hs hs1 hsz
  unfold tyv at *
  simp only [arrK, arrN, arrP]
  go_enter Tryd.func20, Tryd.ntmps20
  go_wp2_with fail
  refine HC.out.mono ?_; rintro e w1 ⟨o2, cap2, rfl, hs2, hq1⟩
  have hb1 := box_after HB1.out hq1
  have HB2 := Lib.hid hb1
  obtain ⟨d0, d1, d2, y0, y1, y2⟩ := box_cells3 hb1
  have HS2 := Lib.hid hs2
  have HQ1 := Lib.hid hq1
  clear hs2 hq1 hb1
  go_wp2_with fail
  clear d0 d1 d2 y0 y1 y2
  have hf := put3_fr w1 w.heap.size (.int .i64 k) (.int .i64 n) (.slice o2 len1 cap2)
  obtain ⟨f0, f1, f2⟩ := put3_cells (a := .int .i64 k) (b := .int .i64 n) (c := .slice o2 len1 cap2) HB2.out
  change bodyPost _ _ _ _ _ (put3 w1 w.heap.size (.int .i64 k) (.int .i64 n) (.slice o2 len1 cap2))
  generalize put3 w1 w.heap.size (.int .i64 k) (.int .i64 n) (.slice o2 len1 cap2) = wf at *
  refine bodyPost_ret (by simp [results, Tryd.results20, go_sem, f0, f1, f2]; rfl) rfl ?_
  refine ⟨o2, len1, cap2, rfl, HS2.out.fr hf ?_, ((Quiet0.alloc _ _).trans HQ1.out).trans' hf (fun kk hkk h => by omega)⟩
  intro kk _ hkk
  have hkk' : (w.alloc (.cells #[.int .i64 0, .int .i64 0, .slice none 0 0] 24)).heap.size ≤ kk := hkk
  simp at hkk'
  exact ⟨by omega, by omega⟩
set_option maxHeartbeats 2000000 in
theorem arrow_more (k n : Int) (ps : Fo) (k2 n2 : Int) (ps2 r : Fo) (ih : TArrow (.cons k2 n2 ps2 r)) : TArrow (.cons k n ps (.cons k2 n2 ps2 r)) := by
  intro w o len cap hs hc hsz
  have hl : len = r.length + 1 + 1 := hs.1
  have hmx := hs.2.1
  unfold maxLen at hmx
  obtain ⟨b, off, k', n', qs, o1, len1, cap1, rfl, hd, hg, e0, e1, e2, hs1⟩ := hs.nth (i := 0) (by omega)
  simp only [Fo.get] at hg
  cases hg
  have hsq : ps.size ≤ 1000000 := by simp only [Fo.size] at hsz; omega
  have HC := Lib.hid (copy_any k n ps)
  have hs2 : Slc w (some ⟨b, off + 3, none⟩) (len - 1) (.cons k2 n2 ps2 r) := by
    refine ⟨by simp only [Fo.length]; omega, by unfold maxLen; omega, fun _ => ⟨b, off + 3, rfl, ?_⟩⟩
    obtain ⟨b', off', he, ha⟩ := hs.2.2 (by omega)
    cases he
    exact ha.2.2.2
  have HB1 := Lib.hid (heap_alloc_new w (.cells #[.int .i64 0, .int .i64 0, .slice none 0 0] 24))
  rw [Nat.zero_mul, Nat.add_zero] at e0 e1 e2
  have hsz2 : (Fo.cons k2 n2 ps2 r).size ≤ 1000000 := by simp only [Fo.size] at hsz ⊢; omega
  have HS1 := Lib.hid hs1
  have HS2 := Lib.hid hs2
  have hlen2 : 2 ≤ len := by omega
  unfold TArrow at ih
  have IH := Lib.hid ih
  have j0 : (0 : Int) < (len : Int) := by omega
  have jn : 0 < len := by omega
  have j1 : (1 : Int) ≤ (len : Int) := by omega
  have j2 : (len : Int) ≤ (cap : Int) := by omega
  clear hd hs hs1 hs2 hsz hl ih
  unfold tyv at *
  have e4 : arrK (.cons k n ps (.cons k2 n2 ps2 r)) = 4 := rfl
  have e0' : arrN (.cons k n ps (.cons k2 n2 ps2 r)) = 0 := rfl
  have eP : arrP (.cons k n ps (.cons k2 n2 ps2 r)) = .cons k n ps (.cons (arrK (.cons k2 n2 ps2 r)) (arrN (.cons k2 n2 ps2 r)) (arrP (.cons k2 n2 ps2 r)) .nil) := rfl
  rw [e4, e0', eP]
  clear e4 e0' eP
  generalize arrP (.cons k2 n2 ps2 r) = pa at *
  generalize arrK (.cons k2 n2 ps2 r) = ka at *
  generalize arrN (.cons k2 n2 ps2 r) = na at *
  go_enter Tryd.func20, Tryd.ntmps20
  go_wp2_with fail
  obtain ⟨W0, hW0⟩ : ∃ W0, W0 = w.alloc (.cells #[.int .i64 0, .int .i64 0, .slice none 0 0] 24) := ⟨_, rfl⟩
  change Code.wp _ _ _ _ (w.alloc (.cells #[.int .i64 0, .int .i64 0, .slice none 0 0] 24))
  have HQ0 : Hid (Quiet0 w W0) := by rw [hW0]; exact Quiet0.alloc _ _
  have hz0 : w.heap.size + 1 = W0.heap.size := by rw [hW0]; simp
  have HZ := Lib.hid hz0
  rw [← hW0] at HB1 ⊢
  have g0 := HQ0.out.at e0
  have g1 := HQ0.out.at e1
  have g2 := HQ0.out.at e2
  have hbB : ¬ b = w.heap.size := by have := World.block_lt_of_cell? w _ e0; simp at this; omega
  clear hW0 e0 e1 e2 hz0
  generalize hB : w.heap.size = B at *
  have HBE := Lib.hid hB
  clear hB
  go_region_held3 (fun w' => w'.cell? ⟨b, off, none⟩ = some (.int .i64 k) ∧ w'.cell? ⟨b, off + 1, none⟩ = some (.int .i64 n) ∧ w'.cell? ⟨b, off + 2, none⟩ = some (.slice o1 len1 cap1))
    (first
      | (go_keep; done)
      | (exact ⟨h0, h1, h2⟩)
      | (exact ⟨f0, f1, f2⟩)
      | (exact ⟨g0, g1, g2⟩)
      | (have hp := put3_fr w4 B (.int .i64 4) (.int .i64 0) (.slice (some ⟨w4.heap.size, 0, none⟩) 2 2); exact ⟨(Quiet0.alloc _ _).at ((hp.cellb hb4l hbB).trans h0), (Quiet0.alloc _ _).at ((hp.cellb hb4l hbB).trans h1), (Quiet0.alloc _ _).at ((hp.cellb hb4l hbB).trans h2)⟩))
    (first
      | (go_at_call 53; refine (HC.out _ _ _ _ (HS1.out.stay (HQ0.out.trans (Quiet0.drew _))) hsq).mono ?_; rintro e w3 ⟨o2, cap2, rfl, hs3, hq3⟩; have f3 := (Quiet0.drew W0).trans hq3; have f0 := f3.at g0; have f1 := f3.at g1; have f2 := f3.at g2; have HQ3 := Lib.hid hq3; have HS3 := Lib.hid hs3; have HF3 := Lib.hid f3; clear hq3 hs3)
      | (go_at_call 20; refine (IH.out _ _ _ _ (HS2.out.stay (HQ0.out.trans HF3.out)) (by omega) hsz2).mono ?_; rintro e w4 ⟨o3, len3, cap3, rfl, hs4, hq4⟩; have h3 := HF3.out.trans hq4; have h0 := h3.at g0; have hb4l := World.block_lt_of_cell? w4 _ h0; have h1 := h3.at g1; have h2 := h3.at g2; have hb4 := box_after HB1.out h3; have hlt4 := lt_of_block hb4; obtain ⟨d0, d1, d2, y0, y1, y2⟩ := box_cells3 hb4; have HB4 := Lib.hid hb4; have HQ4 := Lib.hid hq4; have HS4 := Lib.hid hs4; have HF4 := Lib.hid h3; clear hq4 hs4 hb4))
  all_goals
    go_wp2_with fail
    clear d0 d1 d2 y0 y1 y2
    have hf := put3_fr w4 B (.int .i64 4) (.int .i64 0) (.slice (some ⟨w4.heap.size, 0, none⟩) 2 2)
    obtain ⟨p0, p1, p2⟩ := put3_cells (a := .int .i64 4) (b := .int .i64 0) (c := .slice (some ⟨w4.heap.size, 0, none⟩) 2 2) HB4.out
    have hps : (put3 w4 B (.int .i64 4) (.int .i64 0) (.slice (some ⟨w4.heap.size, 0, none⟩) 2 2)).heap.size = w4.heap.size := by simp [put3, World.setCell]
    change bodyPost _ _ _ _ _ ((put3 w4 B (.int .i64 4) (.int .i64 0) (.slice (some ⟨w4.heap.size, 0, none⟩) 2 2)).alloc (.cells #[.int .i64 k, .int .i64 n, .slice o2 len1 cap2, .int .i64 ka, .int .i64 na, .slice o3 len3 cap3] 24))
    generalize put3 w4 B (.int .i64 4) (.int .i64 0) (.slice (some ⟨w4.heap.size, 0, none⟩) 2 2) = w5 at *
    have hnew := heap_alloc_new w5 (.cells #[.int .i64 k, .int .i64 n, .slice o2 len1 cap2, .int .i64 ka, .int .i64 na, .slice o3 len3 cap3] 24)
    have hqa := Quiet0.alloc w5 (.cells #[.int .i64 k, .int .i64 n, .slice o2 len1 cap2, .int .i64 ka, .int .i64 na, .slice o3 len3 cap3] 24)
    generalize w5.alloc (.cells #[.int .i64 k, .int .i64 n, .slice o2 len1 cap2, .int .i64 ka, .int .i64 na, .slice o3 len3 cap3] 24) = wf at *
    rw [hps] at hnew
    have q0 := hqa.at p0
    have q1 := hqa.at p1
    have q2 := hqa.at p2
    refine bodyPost_ret (by simp [results, Tryd.results20, go_sem, q0, q1, q2]; rfl) rfl ?_
    have hbe := HBE.out
    have hz := HZ.out
    have hw3 := HF3.out.size
    have hw4 := HF4.out.size
    have hfa : Fr (fun kk => kk = B) w4 wf := hf.trans (hqa.mono (fun _ _ h => h.elim))
    refine ⟨some ⟨w4.heap.size, 0, none⟩, 2, 2, rfl, ⟨rfl, by decide, fun _ => ⟨w4.heap.size, 0, rfl, ?_⟩⟩, ((HQ0.out.trans HF4.out).trans' hfa (fun kk hkk h => by omega))⟩
    have hsa : SlcIn (fun kk => w.heap.size ≤ kk) wf o2 len1 ps := by
      refine (HS3.out.fr (T := fun kk => W0.heap.size ≤ kk) HQ4.out (fun kk _ h => ⟨h, fun h => h⟩)).fr hfa ?_
      intro kk _ h
      have h' : W0.heap.size ≤ kk := h
      exact ⟨by omega, by omega⟩
    have hsb : SlcIn (fun kk => w.heap.size ≤ kk) wf o3 len3 pa := by
      refine HS4.out.fr hfa ?_
      intro kk _ h
      have h' : w3.heap.size ≤ kk := h
      exact ⟨by omega, by omega⟩
    have hR : w.heap.size ≤ w4.heap.size := by omega
    exact ⟨hR, by rw [cell_of_row _ _ _ _ _ (0, 0) hnew]; rfl, by rw [cell_of_row _ _ _ _ _ (0, 0) hnew]; rfl, ⟨o2, len1, cap2, by rw [cell_of_row _ _ _ _ _ (0, 0) hnew]; rfl, hsa.1, hsa.2.1, hsa.2.2⟩,
      hR, by rw [cell_of_row _ _ _ _ _ (0, 0) hnew]; rfl, by rw [cell_of_row _ _ _ _ _ (0, 0) hnew]; rfl, ⟨o3, len3, cap3, by rw [cell_of_row _ _ _ _ _ (0, 0) hnew]; rfl, hsb.1, hsb.2.1, hsb.2.2⟩, trivial⟩
theorem arrow_any : ∀ f : Fo, TArrow f
  | .nil => arrow_nil
  | .cons k n ps .nil => arrow_one k n ps
  | .cons k n ps (.cons k2 n2 ps2 r) => arrow_more k n ps k2 n2 ps2 r (arrow_any (.cons k2 n2 ps2 r))
end Go.Proofs.YtggidhgifaekbaaDoor
/-
  The program's apply. Conditions: the type lies in memory as told; its numbers are in range; the table holds binds; all are small.
-/
namespace Go.Proofs.YtggidhgifaekbaaDoor
open Go.RowKit Go.Maps

theorem lookT_some (w : World) {ops : Array Oper} {rest : List Oper} {o : Oper} {a : Act} {Q : Exit → Act → World → Prop}
    (hg : o.guard = none) (m x : Operand) (hop : o.op = Op.lookup 94 m x true) {b n : Nat} {q : Int → Option Value} (hm : a.eval m = .map (some b)) (hown : MapT w b n q) (v : Int) (hv : wfI v) {u : Value} (hq : q v = some u) (hx : a.eval x = .int .i64 v)
    (hK : wpList Tryd.prog ops Q rest (a.put o.dst (.tuple #[u, .bool true])) w) : wpList Tryd.prog ops Q (o :: rest) a w :=
  wpList_lookT w hg m x hop hm hown v hv hx (by rw [hq]; exact hK)
theorem lookT_none (w : World) {ops : Array Oper} {rest : List Oper} {o : Oper} {a : Act} {Q : Exit → Act → World → Prop}
    (hg : o.guard = none) (m x : Operand) (hop : o.op = Op.lookup 94 m x true) {b n : Nat} {q : Int → Option Value} (hm : a.eval m = .map (some b)) (hown : MapT w b n q) (v : Int) (hv : wfI v) (hq : q v = none) (hx : a.eval x = .int .i64 v)
    (hK : wpList Tryd.prog ops Q rest (a.put o.dst (.tuple #[.agg #[.int .i64 0, .int .i64 0, .slice none 0 0], .bool false])) w) : wpList Tryd.prog ops Q (o :: rest) a w :=
  wpList_lookT w hg m x hop hm hown v hv hx (by rw [hq]; exact hK)
def TApp (l : List Bd) (k n : Int) (ps : Fo) : Prop := ∀ (w : World) (o : Option Addr) (len cap : Nat) (b m : Nat) (q : Int → Option Value), MapT w b m q → TabAt w q (findB l) → Slc w o len ps → ps.size ≤ 1000000 → wfI n → wfF ps →
  Calls Tryd.prog 88 #[.map (some b), tyv k n o len cap] w fun e w' => ∃ o' len' cap', e = .returned (tyv (sK l k n) (sN l k n) o' len' cap') ∧ SlcIn (fun b => w.heap.size ≤ b) w' o' len' (sP l k n ps) ∧ Quiet0 w w'
set_option maxHeartbeats 4000000 in
set_option maxRecDepth 100000 in
theorem apply_any (l : List Bd) (hl : ∀ t ∈ l, t.2.2.2.size ≤ 1000000) (k n : Int) (ps : Fo) : TApp l k n ps := by
  refine Fo.ind' (T := TApp l) ?_ k n ps
  intro k n ps ih w o len cap b m q hm ht hs hsz hn hw
  have HS := Lib.hid hs
  have IH := Lib.hid ih
  have HL := Lib.hid hs.1
  have hmx := hs.2.1
  have hll := Fo.length_le ps
  rw [← hs.1] at hll
  unfold maxLen at hmx
  have HM := Lib.hid hm
  have HT := Lib.hid ht
  have HN := Lib.hid hn
  have HW := Lib.hid hw
  have htn := ht n
  clear hs ih hm ht hn hw
  cases hk : (k == 1)
  · have hh : hit l k n = none := by unfold hit; rw [hk]; rfl
    have e1 : sK l k n = k := by unfold sK; rw [hh]
    have e2 : sN l k n = n := by unfold sN; rw [hh]
    have e3 : sP l k n ps = substF l ps := by unfold sP; rw [hh]
    rw [e1, e2, e3]
    clear e1 e2 e3 hh
    cases hf : findB l n with
    | none =>
      rw [hf] at htn
      have hqn : q n = none := htn
      clear htn hf
      unfold tyv
      obtain ⟨W0, hW0⟩ : ∃ W0, W0 = ((w.alloc (.cells #[.int .i64 k, .int .i64 n, .slice o len cap] 24)).alloc (.cells #[.int .i64 0, .int .i64 0, .slice none 0 0] 24)).alloc (.cells #[.int .i64 0, .int .i64 0, .slice none 0 0] 24) := ⟨_, rfl⟩
      have HQ0 : Hid (Quiet0 w W0) := by rw [hW0]; exact ((Quiet0.alloc _ _).trans (Quiet0.alloc _ _)).trans (Quiet0.alloc _ _)
      have hz0 : w.heap.size + 2 ≤ W0.heap.size := by rw [hW0]; simp
      have HB0 : Hid (W0.heap[w.heap.size]? = some (.cells #[.int .i64 k, .int .i64 n, .slice o len cap] 24 (0, 0))) := by rw [hW0]; exact box_after (heap_alloc_new w _) ((Quiet0.alloc _ _).trans (Quiet0.alloc _ _))
      have HB1 : Hid (W0.heap[w.heap.size + 1]? = some (.cells #[.int .i64 0, .int .i64 0, .slice none 0 0] 24 (0, 0))) := by
        rw [hW0, show w.heap.size + 1 = (w.alloc (.cells #[.int .i64 k, .int .i64 n, .slice o len cap] 24)).heap.size from by simp]; exact box_after (heap_alloc_new _ _) (Quiet0.alloc _ _)
      obtain ⟨p0, p1, p2, _, _, _⟩ := box_cells3 HB0.out
      have HMA := Lib.hid (HM.out.stay ((Quiet0.alloc w (.cells #[.int .i64 k, .int .i64 n, .slice o len cap] 24)).trans (Quiet0.alloc _ (.cells #[.int .i64 0, .int .i64 0, .slice none 0 0] 24))))
      go_enter Tryd.func88, Tryd.ntmps88
      go_wp2_with (at_lookup; go_must (refine lookT_none _ rfl _ _ rfl rfl HMA.out n HN.out hqn rfl ?_))
      go_upto_region 4 with fail
      change Code.wp _ _ _ _ (((w.alloc (.cells #[.int .i64 k, .int .i64 n, .slice o len cap] 24)).alloc (.cells #[.int .i64 0, .int .i64 0, .slice none 0 0] 24)).alloc (.cells #[.int .i64 0, .int .i64 0, .slice none 0 0] 24))
      rw [← hW0]
      clear hW0
      generalize hB : w.heap.size = B at *
      have HBE := Lib.hid hB
      clear hB
      go_wp2_with fail
      clear p0 p1 p2
      go_loopw [7, 28] (fun v t wr => ∃ (i : Nat) (f : Fo) (xs : List Value) (vo : Option Addr) (vc : Nat), t = .int .i64 i ∧ i ≤ len ∧ v = .slice vo i vc ∧ f.length = i ∧ f.app (substF l (ps.drop i)) = substF l ps ∧ TyRow wr W0.heap.size (.slice vo i vc) f xs ∧ Quiet0 W0 wr) (fun _ t _ => len - (intOf t).toNat)
      case atStart => exact ⟨0, .nil, [], none, 0, rfl, Nat.zero_le _, rfl, rfl, by rw [Fo.drop_zero]; rfl, TyRow.nil _ _, Quiet0.refl _⟩
      case round =>
        obtain ⟨i, f, xs, vo, vc, rfl, hi, rfl, hfl, hap, hrow, hq⟩ := hrel
        have HF := Lib.hid hfl
        have HAP := Lib.hid hap
        have HR := Lib.hid hrow
        have HQ := Lib.hid hq
        clear hfl hap hrow hq
        by_cases hlt : i < len
        · have hlt' : (i : Int) < len := by omega
          obtain ⟨bb, off, k1, n1, qs, o1, len1, cap1, rfl, hd, hg, e0, e1, e2, hs1⟩ := (HS.out.stay (HQ0.out.trans HQ.out)).nth hlt
          have hsq := Fo.size_get ps i k1 n1 qs hg
          have hgw := allF_get ps i k1 n1 qs HW.out hg
          have HC := Lib.hid (IH.out i k1 n1 qs hg (wr.alloc (.cells #[.int .i64 k1, .int .i64 n1, .slice o1 len1 cap1] 24)) o1 len1 cap1 b m q (HM.out.stay ((HQ0.out.trans HQ.out).trans (Quiet0.alloc _ _))) (HT.out.stay ((HQ0.out.trans HQ.out).trans (Quiet0.alloc _ _))) (hs1.stay (Quiet0.alloc _ _)) (by omega) hgw.1 hgw.2)
          have HD : Hid ((f.app (.cons (sK l k1 n1) (sN l k1 n1) (sP l k1 n1 qs) .nil)).app (substF l (ps.drop (i + 1))) = substF l ps) := by
            show _ = _
            rw [← HAP.out, hd, Fo.app_assoc, substF_cons]; rfl
          unfold tyv at HC
          clear hd hg hs1 hsq hgw
          generalize sK l k1 n1 = k2 at *
          generalize sN l k1 n1 = n2 at *
          generalize sP l k1 n1 qs = p2 at *
          go_wp2_with fail
          refine HC.out.mono ?_; rintro e w1 ⟨o2, len2, cap2, rfl, hs2, hq1⟩
          have HS2 := Lib.hid hs2
          have HQ1 := Lib.hid ((Quiet0.alloc _ _).trans hq1)
          have HR1 := Lib.hid (HR.out.stay HQ1.out)
          clear hs2 hq1
          go_wp2_with (at_builtin; go_must (refine wpList_append_one w1 rfl (.tmp 32) (.tmp 36) 22 rfl 24 _ 3 40 elemTy (.slice vo i vc) i xs rfl (HF.out ▸ HR1.out.own) #[.int .i64 k2, .int .i64 n2, .slice o2 len2 cap2] rfl rfl ?c1 ?c2 ?c3 ?_))
          case c1 => simp [Value.oneCell']
          case c2 => unfold maxLen; omega
          case c3 => omega
          intro g2 c' w2 ho hf hg2
          have hlow : W0.heap.size ≤ w1.heap.size := Nat.le_trans HQ.out.size HQ1.out.size
          have hown : ∀ kk, (Value.slice vo i vc).ownBlock = some kk → kk < wr.heap.size := fun kk h => (HR.out.own.lt kk h).2
          have HR2 : Hid (TyRow w2 W0.heap.size (.slice (some ⟨g2, 0, none⟩) (i + 1) c') (f.app (.cons k2 n2 p2 .nil)) (xs ++ [.int .i64 k2, .int .i64 n2, .slice o2 len2 cap2])) := by
            show TyRow _ _ _ _ _
            have hf' := HF.out
            subst hf'
            refine TyRow.snoc HR1.out (HS2.out.fr (Fr.refl (fun _ => False) _) ?_) ho hf hg2 hlow
            intro kk _ hkk
            have hkk' : (wr.alloc (.cells #[.int .i64 k1, .int .i64 n1, .slice o1 len1 cap1] 24)).heap.size ≤ kk := hkk
            simp at hkk'
            refine ⟨⟨by have := HQ.out.size; omega, fun h => ?_⟩, fun h => h⟩
            have := hown kk h; omega
          have HQ2 : Hid (Quiet0 W0 w2) := by
            show Quiet0 _ _
            exact Fr.trans' (HQ.out.trans HQ1.out) hf (fun kk hkk h => absurd (HR.out.low kk h) (by omega))
          have HL2 : Hid ((f.app (.cons k2 n2 p2 .nil)).length = i + 1) := by
            show _ = _
            rw [Fo.app_length, HF.out]; rfl
          clear ho hf hg2 hown
          go_wp2_with fail
          go_roundw
          case rel => exact ⟨i + 1, _, _, some ⟨g2, 0, none⟩, c', by go_num, by omega, rfl, HL2.out, HD.out, HR2.out, HQ2.out⟩
          case measure => simp [intOf]; omega
        · have hlt' : ¬ (i : Int) < len := by omega
          have hb1 := box_after HB1.out HQ.out
          have hb0 := box_after HB0.out HQ.out
          obtain ⟨c0, c1, c2, z0, z1, z2⟩ := box_cells3 hb0
          obtain ⟨d0, d1, d2, y0, y1, y2⟩ := box_cells3 hb1
          have HB0 := Lib.hid hb0
          have HB1 := Lib.hid hb1
          clear hb0 hb1
          have hil : i = len := by omega
          have HFIN : Hid (∀ u v x y : Value, SlcIn (fun b => w.heap.size ≤ b) ((((wr.setCell ⟨B, 2, none⟩ u).setCell ⟨B + 1, 0, none⟩ v).setCell ⟨B + 1, 1, none⟩ x).setCell ⟨B + 1, 2, none⟩ y) vo len (substF l ps) ∧ Quiet0 w ((((wr.setCell ⟨B, 2, none⟩ u).setCell ⟨B + 1, 0, none⟩ v).setCell ⟨B + 1, 1, none⟩ x).setCell ⟨B + 1, 2, none⟩ y)) := by
            intro u v x y
            have hf : Fr (fun kk => kk = B ∨ kk = B + 1) wr ((((wr.setCell ⟨B, 2, none⟩ u).setCell ⟨B + 1, 0, none⟩ v).setCell ⟨B + 1, 1, none⟩ x).setCell ⟨B + 1, 2, none⟩ y) :=
              (((Fr.setCell _ _ _ _ (.inl rfl)).trans (Fr.setCell _ _ _ _ (.inr rfl))).trans (Fr.setCell _ _ _ _ (.inr rfl))).trans (Fr.setCell _ _ _ _ (.inr rfl))
            have hap := HAP.out
            subst hil
            rw [Fo.drop_end ps i (by have := HL.out; omega)] at hap
            simp only [substF] at hap
            rw [Fo.app_nil] at hap
            refine ⟨?_, ?_⟩
            · rw [← hap]
              refine (HR.out.slc HF.out.symm (by unfold maxLen; omega)).fr hf ?_
              intro kk _ hkk
              have hkk' : W0.heap.size ≤ kk := hkk
              have hz := HBE.out
              exact ⟨by omega, by omega⟩
            · exact Fr.trans' (HQ0.out.trans HQ.out) hf (fun kk hkk h => by have hz := HBE.out; omega)
          go_wp2_with fail
          have hbf := box_set2 (u := .slice vo len vc) (box_set1 (u := .int .i64 n) (box_set0 (u := .int .i64 k) (B := B + 1) (w := wr.setCell ⟨B, 2, none⟩ (.slice vo len vc)) (by rw [Below.heap_setCell _ _ _ _ (by show B + 1 ≠ B; omega)]; exact HB1.out)))
          obtain ⟨f0, f1, f2, _, _, _⟩ := box_cells3 hbf
          have HFF := HFIN.out (.slice vo len vc) (.int .i64 k) (.int .i64 n) (.slice vo len vc)
          clear hbf
          subst hil
          generalize (((wr.setCell ⟨B, 2, none⟩ (.slice vo i vc)).setCell ⟨B + 1, 0, none⟩ (.int .i64 k)).setCell ⟨B + 1, 1, none⟩ (.int .i64 n)).setCell ⟨B + 1, 2, none⟩ (.slice vo i vc) = wf at *
          refine bodyPost_ret (by simp [results, Tryd.results88, go_sem, f0, f1, f2]; rfl) rfl ?_
          exact ⟨vo, i, ⟨vc, rfl⟩, HFF⟩
    | some t =>
      rw [hf] at htn
      obtain ⟨uo, ul, uc, hqn, _⟩ := htn
      generalize t.2.1 = uk at *
      generalize t.2.2.1 = un at *
      unfold tyv at hqn
      clear hf
      unfold tyv
      obtain ⟨W0, hW0⟩ : ∃ W0, W0 = ((w.alloc (.cells #[.int .i64 k, .int .i64 n, .slice o len cap] 24)).alloc (.cells #[.int .i64 0, .int .i64 0, .slice none 0 0] 24)).alloc (.cells #[.int .i64 uk, .int .i64 un, .slice uo ul uc] 24) := ⟨_, rfl⟩
      have HQ0 : Hid (Quiet0 w W0) := by rw [hW0]; exact ((Quiet0.alloc _ _).trans (Quiet0.alloc _ _)).trans (Quiet0.alloc _ _)
      have hz0 : w.heap.size + 2 ≤ W0.heap.size := by rw [hW0]; simp
      have HB0 : Hid (W0.heap[w.heap.size]? = some (.cells #[.int .i64 k, .int .i64 n, .slice o len cap] 24 (0, 0))) := by rw [hW0]; exact box_after (heap_alloc_new w _) ((Quiet0.alloc _ _).trans (Quiet0.alloc _ _))
      have HB1 : Hid (W0.heap[w.heap.size + 1]? = some (.cells #[.int .i64 0, .int .i64 0, .slice none 0 0] 24 (0, 0))) := by
        rw [hW0, show w.heap.size + 1 = (w.alloc (.cells #[.int .i64 k, .int .i64 n, .slice o len cap] 24)).heap.size from by simp]; exact box_after (heap_alloc_new _ _) (Quiet0.alloc _ _)
      obtain ⟨p0, p1, p2, _, _, _⟩ := box_cells3 HB0.out
      have HMA := Lib.hid (HM.out.stay ((Quiet0.alloc w (.cells #[.int .i64 k, .int .i64 n, .slice o len cap] 24)).trans (Quiet0.alloc _ (.cells #[.int .i64 0, .int .i64 0, .slice none 0 0] 24))))
      go_enter Tryd.func88, Tryd.ntmps88
      go_wp2_with (at_lookup; go_must (refine lookT_some _ rfl _ _ rfl rfl HMA.out n HN.out hqn rfl ?_))
      go_upto_region 4 with fail
      change Code.wp _ _ _ _ (((w.alloc (.cells #[.int .i64 k, .int .i64 n, .slice o len cap] 24)).alloc (.cells #[.int .i64 0, .int .i64 0, .slice none 0 0] 24)).alloc (.cells #[.int .i64 uk, .int .i64 un, .slice uo ul uc] 24))
      rw [← hW0]
      clear hW0
      generalize hB : w.heap.size = B at *
      have HBE := Lib.hid hB
      clear hB
      go_wp2_with fail
      clear p0 p1 p2
      go_loopw [7, 28] (fun v t wr => ∃ (i : Nat) (f : Fo) (xs : List Value) (vo : Option Addr) (vc : Nat), t = .int .i64 i ∧ i ≤ len ∧ v = .slice vo i vc ∧ f.length = i ∧ f.app (substF l (ps.drop i)) = substF l ps ∧ TyRow wr W0.heap.size (.slice vo i vc) f xs ∧ Quiet0 W0 wr) (fun _ t _ => len - (intOf t).toNat)
      case atStart => exact ⟨0, .nil, [], none, 0, rfl, Nat.zero_le _, rfl, rfl, by rw [Fo.drop_zero]; rfl, TyRow.nil _ _, Quiet0.refl _⟩
      case round =>
        obtain ⟨i, f, xs, vo, vc, rfl, hi, rfl, hfl, hap, hrow, hq⟩ := hrel
        have HF := Lib.hid hfl
        have HAP := Lib.hid hap
        have HR := Lib.hid hrow
        have HQ := Lib.hid hq
        clear hfl hap hrow hq
        by_cases hlt : i < len
        · have hlt' : (i : Int) < len := by omega
          obtain ⟨bb, off, k1, n1, qs, o1, len1, cap1, rfl, hd, hg, e0, e1, e2, hs1⟩ := (HS.out.stay (HQ0.out.trans HQ.out)).nth hlt
          have hsq := Fo.size_get ps i k1 n1 qs hg
          have hgw := allF_get ps i k1 n1 qs HW.out hg
          have HC := Lib.hid (IH.out i k1 n1 qs hg (wr.alloc (.cells #[.int .i64 k1, .int .i64 n1, .slice o1 len1 cap1] 24)) o1 len1 cap1 b m q (HM.out.stay ((HQ0.out.trans HQ.out).trans (Quiet0.alloc _ _))) (HT.out.stay ((HQ0.out.trans HQ.out).trans (Quiet0.alloc _ _))) (hs1.stay (Quiet0.alloc _ _)) (by omega) hgw.1 hgw.2)
          have HD : Hid ((f.app (.cons (sK l k1 n1) (sN l k1 n1) (sP l k1 n1 qs) .nil)).app (substF l (ps.drop (i + 1))) = substF l ps) := by
            show _ = _
            rw [← HAP.out, hd, Fo.app_assoc, substF_cons]; rfl
          unfold tyv at HC
          clear hd hg hs1 hsq hgw
          generalize sK l k1 n1 = k2 at *
          generalize sN l k1 n1 = n2 at *
          generalize sP l k1 n1 qs = p2 at *
          go_wp2_with fail
          refine HC.out.mono ?_; rintro e w1 ⟨o2, len2, cap2, rfl, hs2, hq1⟩
          have HS2 := Lib.hid hs2
          have HQ1 := Lib.hid ((Quiet0.alloc _ _).trans hq1)
          have HR1 := Lib.hid (HR.out.stay HQ1.out)
          clear hs2 hq1
          go_wp2_with (at_builtin; go_must (refine wpList_append_one w1 rfl (.tmp 32) (.tmp 36) 22 rfl 24 _ 3 40 elemTy (.slice vo i vc) i xs rfl (HF.out ▸ HR1.out.own) #[.int .i64 k2, .int .i64 n2, .slice o2 len2 cap2] rfl rfl ?c1 ?c2 ?c3 ?_))
          case c1 => simp [Value.oneCell']
          case c2 => unfold maxLen; omega
          case c3 => omega
          intro g2 c' w2 ho hf hg2
          have hlow : W0.heap.size ≤ w1.heap.size := Nat.le_trans HQ.out.size HQ1.out.size
          have hown : ∀ kk, (Value.slice vo i vc).ownBlock = some kk → kk < wr.heap.size := fun kk h => (HR.out.own.lt kk h).2
          have HR2 : Hid (TyRow w2 W0.heap.size (.slice (some ⟨g2, 0, none⟩) (i + 1) c') (f.app (.cons k2 n2 p2 .nil)) (xs ++ [.int .i64 k2, .int .i64 n2, .slice o2 len2 cap2])) := by
            show TyRow _ _ _ _ _
            have hf' := HF.out
            subst hf'
            refine TyRow.snoc HR1.out (HS2.out.fr (Fr.refl (fun _ => False) _) ?_) ho hf hg2 hlow
            intro kk _ hkk
            have hkk' : (wr.alloc (.cells #[.int .i64 k1, .int .i64 n1, .slice o1 len1 cap1] 24)).heap.size ≤ kk := hkk
            simp at hkk'
            refine ⟨⟨by have := HQ.out.size; omega, fun h => ?_⟩, fun h => h⟩
            have := hown kk h; omega
          have HQ2 : Hid (Quiet0 W0 w2) := by
            show Quiet0 _ _
            exact Fr.trans' (HQ.out.trans HQ1.out) hf (fun kk hkk h => absurd (HR.out.low kk h) (by omega))
          have HL2 : Hid ((f.app (.cons k2 n2 p2 .nil)).length = i + 1) := by
            show _ = _
            rw [Fo.app_length, HF.out]; rfl
          clear ho hf hg2 hown
          go_wp2_with fail
          go_roundw
          case rel => exact ⟨i + 1, _, _, some ⟨g2, 0, none⟩, c', by go_num, by omega, rfl, HL2.out, HD.out, HR2.out, HQ2.out⟩
          case measure => simp [intOf]; omega
        · have hlt' : ¬ (i : Int) < len := by omega
          have hb1 := box_after HB1.out HQ.out
          have hb0 := box_after HB0.out HQ.out
          obtain ⟨c0, c1, c2, z0, z1, z2⟩ := box_cells3 hb0
          obtain ⟨d0, d1, d2, y0, y1, y2⟩ := box_cells3 hb1
          have HB0 := Lib.hid hb0
          have HB1 := Lib.hid hb1
          clear hb0 hb1
          have hil : i = len := by omega
          have HFIN : Hid (∀ u v x y : Value, SlcIn (fun b => w.heap.size ≤ b) ((((wr.setCell ⟨B, 2, none⟩ u).setCell ⟨B + 1, 0, none⟩ v).setCell ⟨B + 1, 1, none⟩ x).setCell ⟨B + 1, 2, none⟩ y) vo len (substF l ps) ∧ Quiet0 w ((((wr.setCell ⟨B, 2, none⟩ u).setCell ⟨B + 1, 0, none⟩ v).setCell ⟨B + 1, 1, none⟩ x).setCell ⟨B + 1, 2, none⟩ y)) := by
            intro u v x y
            have hf : Fr (fun kk => kk = B ∨ kk = B + 1) wr ((((wr.setCell ⟨B, 2, none⟩ u).setCell ⟨B + 1, 0, none⟩ v).setCell ⟨B + 1, 1, none⟩ x).setCell ⟨B + 1, 2, none⟩ y) :=
              (((Fr.setCell _ _ _ _ (.inl rfl)).trans (Fr.setCell _ _ _ _ (.inr rfl))).trans (Fr.setCell _ _ _ _ (.inr rfl))).trans (Fr.setCell _ _ _ _ (.inr rfl))
            have hap := HAP.out
            subst hil
            rw [Fo.drop_end ps i (by have := HL.out; omega)] at hap
            simp only [substF] at hap
            rw [Fo.app_nil] at hap
            refine ⟨?_, ?_⟩
            · rw [← hap]
              refine (HR.out.slc HF.out.symm (by unfold maxLen; omega)).fr hf ?_
              intro kk _ hkk
              have hkk' : W0.heap.size ≤ kk := hkk
              have hz := HBE.out
              exact ⟨by omega, by omega⟩
            · exact Fr.trans' (HQ0.out.trans HQ.out) hf (fun kk hkk h => by have hz := HBE.out; omega)
          go_wp2_with fail
          have hbf := box_set2 (u := .slice vo len vc) (box_set1 (u := .int .i64 n) (box_set0 (u := .int .i64 k) (B := B + 1) (w := wr.setCell ⟨B, 2, none⟩ (.slice vo len vc)) (by rw [Below.heap_setCell _ _ _ _ (by show B + 1 ≠ B; omega)]; exact HB1.out)))
          obtain ⟨f0, f1, f2, _, _, _⟩ := box_cells3 hbf
          have HFF := HFIN.out (.slice vo len vc) (.int .i64 k) (.int .i64 n) (.slice vo len vc)
          clear hbf
          subst hil
          generalize (((wr.setCell ⟨B, 2, none⟩ (.slice vo i vc)).setCell ⟨B + 1, 0, none⟩ (.int .i64 k)).setCell ⟨B + 1, 1, none⟩ (.int .i64 n)).setCell ⟨B + 1, 2, none⟩ (.slice vo i vc) = wf at *
          refine bodyPost_ret (by simp [results, Tryd.results88, go_sem, f0, f1, f2]; rfl) rfl ?_
          exact ⟨vo, i, ⟨vc, rfl⟩, HFF⟩
  · cases hf : findB l n with
    | none =>
      have hh : hit l k n = none := by unfold hit; rw [hk, hf]; rfl
      have e1 : sK l k n = k := by unfold sK; rw [hh]
      have e2 : sN l k n = n := by unfold sN; rw [hh]
      have e3 : sP l k n ps = substF l ps := by unfold sP; rw [hh]
      rw [e1, e2, e3]
      clear e1 e2 e3 hh
      rw [hf] at htn
      have hqn : q n = none := htn
      clear htn hf
      unfold tyv
      obtain ⟨W0, hW0⟩ : ∃ W0, W0 = ((w.alloc (.cells #[.int .i64 k, .int .i64 n, .slice o len cap] 24)).alloc (.cells #[.int .i64 0, .int .i64 0, .slice none 0 0] 24)).alloc (.cells #[.int .i64 0, .int .i64 0, .slice none 0 0] 24) := ⟨_, rfl⟩
      have HQ0 : Hid (Quiet0 w W0) := by rw [hW0]; exact ((Quiet0.alloc _ _).trans (Quiet0.alloc _ _)).trans (Quiet0.alloc _ _)
      have hz0 : w.heap.size + 2 ≤ W0.heap.size := by rw [hW0]; simp
      have HB0 : Hid (W0.heap[w.heap.size]? = some (.cells #[.int .i64 k, .int .i64 n, .slice o len cap] 24 (0, 0))) := by rw [hW0]; exact box_after (heap_alloc_new w _) ((Quiet0.alloc _ _).trans (Quiet0.alloc _ _))
      have HB1 : Hid (W0.heap[w.heap.size + 1]? = some (.cells #[.int .i64 0, .int .i64 0, .slice none 0 0] 24 (0, 0))) := by
        rw [hW0, show w.heap.size + 1 = (w.alloc (.cells #[.int .i64 k, .int .i64 n, .slice o len cap] 24)).heap.size from by simp]; exact box_after (heap_alloc_new _ _) (Quiet0.alloc _ _)
      obtain ⟨p0, p1, p2, _, _, _⟩ := box_cells3 HB0.out
      have HMA := Lib.hid (HM.out.stay ((Quiet0.alloc w (.cells #[.int .i64 k, .int .i64 n, .slice o len cap] 24)).trans (Quiet0.alloc _ (.cells #[.int .i64 0, .int .i64 0, .slice none 0 0] 24))))
      go_enter Tryd.func88, Tryd.ntmps88
      go_wp2_with (at_lookup; go_must (refine lookT_none _ rfl _ _ rfl rfl HMA.out n HN.out hqn rfl ?_))
      go_upto_region 4 with fail
      change Code.wp _ _ _ _ (((w.alloc (.cells #[.int .i64 k, .int .i64 n, .slice o len cap] 24)).alloc (.cells #[.int .i64 0, .int .i64 0, .slice none 0 0] 24)).alloc (.cells #[.int .i64 0, .int .i64 0, .slice none 0 0] 24))
      rw [← hW0]
      clear hW0
      generalize hB : w.heap.size = B at *
      have HBE := Lib.hid hB
      clear hB
      go_wp2_with fail
      clear p0 p1 p2
      go_loopw [7, 28] (fun v t wr => ∃ (i : Nat) (f : Fo) (xs : List Value) (vo : Option Addr) (vc : Nat), t = .int .i64 i ∧ i ≤ len ∧ v = .slice vo i vc ∧ f.length = i ∧ f.app (substF l (ps.drop i)) = substF l ps ∧ TyRow wr W0.heap.size (.slice vo i vc) f xs ∧ Quiet0 W0 wr) (fun _ t _ => len - (intOf t).toNat)
      case atStart => exact ⟨0, .nil, [], none, 0, rfl, Nat.zero_le _, rfl, rfl, by rw [Fo.drop_zero]; rfl, TyRow.nil _ _, Quiet0.refl _⟩
      case round =>
        obtain ⟨i, f, xs, vo, vc, rfl, hi, rfl, hfl, hap, hrow, hq⟩ := hrel
        have HF := Lib.hid hfl
        have HAP := Lib.hid hap
        have HR := Lib.hid hrow
        have HQ := Lib.hid hq
        clear hfl hap hrow hq
        by_cases hlt : i < len
        · have hlt' : (i : Int) < len := by omega
          obtain ⟨bb, off, k1, n1, qs, o1, len1, cap1, rfl, hd, hg, e0, e1, e2, hs1⟩ := (HS.out.stay (HQ0.out.trans HQ.out)).nth hlt
          have hsq := Fo.size_get ps i k1 n1 qs hg
          have hgw := allF_get ps i k1 n1 qs HW.out hg
          have HC := Lib.hid (IH.out i k1 n1 qs hg (wr.alloc (.cells #[.int .i64 k1, .int .i64 n1, .slice o1 len1 cap1] 24)) o1 len1 cap1 b m q (HM.out.stay ((HQ0.out.trans HQ.out).trans (Quiet0.alloc _ _))) (HT.out.stay ((HQ0.out.trans HQ.out).trans (Quiet0.alloc _ _))) (hs1.stay (Quiet0.alloc _ _)) (by omega) hgw.1 hgw.2)
          have HD : Hid ((f.app (.cons (sK l k1 n1) (sN l k1 n1) (sP l k1 n1 qs) .nil)).app (substF l (ps.drop (i + 1))) = substF l ps) := by
            show _ = _
            rw [← HAP.out, hd, Fo.app_assoc, substF_cons]; rfl
          unfold tyv at HC
          clear hd hg hs1 hsq hgw
          generalize sK l k1 n1 = k2 at *
          generalize sN l k1 n1 = n2 at *
          generalize sP l k1 n1 qs = p2 at *
          go_wp2_with fail
          refine HC.out.mono ?_; rintro e w1 ⟨o2, len2, cap2, rfl, hs2, hq1⟩
          have HS2 := Lib.hid hs2
          have HQ1 := Lib.hid ((Quiet0.alloc _ _).trans hq1)
          have HR1 := Lib.hid (HR.out.stay HQ1.out)
          clear hs2 hq1
          go_wp2_with (at_builtin; go_must (refine wpList_append_one w1 rfl (.tmp 32) (.tmp 36) 22 rfl 24 _ 3 40 elemTy (.slice vo i vc) i xs rfl (HF.out ▸ HR1.out.own) #[.int .i64 k2, .int .i64 n2, .slice o2 len2 cap2] rfl rfl ?c1 ?c2 ?c3 ?_))
          case c1 => simp [Value.oneCell']
          case c2 => unfold maxLen; omega
          case c3 => omega
          intro g2 c' w2 ho hf hg2
          have hlow : W0.heap.size ≤ w1.heap.size := Nat.le_trans HQ.out.size HQ1.out.size
          have hown : ∀ kk, (Value.slice vo i vc).ownBlock = some kk → kk < wr.heap.size := fun kk h => (HR.out.own.lt kk h).2
          have HR2 : Hid (TyRow w2 W0.heap.size (.slice (some ⟨g2, 0, none⟩) (i + 1) c') (f.app (.cons k2 n2 p2 .nil)) (xs ++ [.int .i64 k2, .int .i64 n2, .slice o2 len2 cap2])) := by
            show TyRow _ _ _ _ _
            have hf' := HF.out
            subst hf'
            refine TyRow.snoc HR1.out (HS2.out.fr (Fr.refl (fun _ => False) _) ?_) ho hf hg2 hlow
            intro kk _ hkk
            have hkk' : (wr.alloc (.cells #[.int .i64 k1, .int .i64 n1, .slice o1 len1 cap1] 24)).heap.size ≤ kk := hkk
            simp at hkk'
            refine ⟨⟨by have := HQ.out.size; omega, fun h => ?_⟩, fun h => h⟩
            have := hown kk h; omega
          have HQ2 : Hid (Quiet0 W0 w2) := by
            show Quiet0 _ _
            exact Fr.trans' (HQ.out.trans HQ1.out) hf (fun kk hkk h => absurd (HR.out.low kk h) (by omega))
          have HL2 : Hid ((f.app (.cons k2 n2 p2 .nil)).length = i + 1) := by
            show _ = _
            rw [Fo.app_length, HF.out]; rfl
          clear ho hf hg2 hown
          go_wp2_with fail
          go_roundw
          case rel => exact ⟨i + 1, _, _, some ⟨g2, 0, none⟩, c', by go_num, by omega, rfl, HL2.out, HD.out, HR2.out, HQ2.out⟩
          case measure => simp [intOf]; omega
        · have hlt' : ¬ (i : Int) < len := by omega
          have hb1 := box_after HB1.out HQ.out
          have hb0 := box_after HB0.out HQ.out
          obtain ⟨c0, c1, c2, z0, z1, z2⟩ := box_cells3 hb0
          obtain ⟨d0, d1, d2, y0, y1, y2⟩ := box_cells3 hb1
          have HB0 := Lib.hid hb0
          have HB1 := Lib.hid hb1
          clear hb0 hb1
          have hil : i = len := by omega
          have HFIN : Hid (∀ u v x y : Value, SlcIn (fun b => w.heap.size ≤ b) ((((wr.setCell ⟨B, 2, none⟩ u).setCell ⟨B + 1, 0, none⟩ v).setCell ⟨B + 1, 1, none⟩ x).setCell ⟨B + 1, 2, none⟩ y) vo len (substF l ps) ∧ Quiet0 w ((((wr.setCell ⟨B, 2, none⟩ u).setCell ⟨B + 1, 0, none⟩ v).setCell ⟨B + 1, 1, none⟩ x).setCell ⟨B + 1, 2, none⟩ y)) := by
            intro u v x y
            have hf : Fr (fun kk => kk = B ∨ kk = B + 1) wr ((((wr.setCell ⟨B, 2, none⟩ u).setCell ⟨B + 1, 0, none⟩ v).setCell ⟨B + 1, 1, none⟩ x).setCell ⟨B + 1, 2, none⟩ y) :=
              (((Fr.setCell _ _ _ _ (.inl rfl)).trans (Fr.setCell _ _ _ _ (.inr rfl))).trans (Fr.setCell _ _ _ _ (.inr rfl))).trans (Fr.setCell _ _ _ _ (.inr rfl))
            have hap := HAP.out
            subst hil
            rw [Fo.drop_end ps i (by have := HL.out; omega)] at hap
            simp only [substF] at hap
            rw [Fo.app_nil] at hap
            refine ⟨?_, ?_⟩
            · rw [← hap]
              refine (HR.out.slc HF.out.symm (by unfold maxLen; omega)).fr hf ?_
              intro kk _ hkk
              have hkk' : W0.heap.size ≤ kk := hkk
              have hz := HBE.out
              exact ⟨by omega, by omega⟩
            · exact Fr.trans' (HQ0.out.trans HQ.out) hf (fun kk hkk h => by have hz := HBE.out; omega)
          go_wp2_with fail
          have hbf := box_set2 (u := .slice vo len vc) (box_set1 (u := .int .i64 n) (box_set0 (u := .int .i64 k) (B := B + 1) (w := wr.setCell ⟨B, 2, none⟩ (.slice vo len vc)) (by rw [Below.heap_setCell _ _ _ _ (by show B + 1 ≠ B; omega)]; exact HB1.out)))
          obtain ⟨f0, f1, f2, _, _, _⟩ := box_cells3 hbf
          have HFF := HFIN.out (.slice vo len vc) (.int .i64 k) (.int .i64 n) (.slice vo len vc)
          clear hbf
          subst hil
          generalize (((wr.setCell ⟨B, 2, none⟩ (.slice vo i vc)).setCell ⟨B + 1, 0, none⟩ (.int .i64 k)).setCell ⟨B + 1, 1, none⟩ (.int .i64 n)).setCell ⟨B + 1, 2, none⟩ (.slice vo i vc) = wf at *
          refine bodyPost_ret (by simp [results, Tryd.results88, go_sem, f0, f1, f2]; rfl) rfl ?_
          exact ⟨vo, i, ⟨vc, rfl⟩, HFF⟩
    | some t =>
      have hh : hit l k n = some t := by unfold hit; rw [hk, hf]; rfl
      have e1 : sK l k n = t.2.1 := by unfold sK; rw [hh]
      have e2 : sN l k n = t.2.2.1 := by unfold sN; rw [hh]
      have e3 : sP l k n ps = t.2.2.2 := by unfold sP; rw [hh]
      rw [e1, e2, e3]
      clear e1 e2 e3 hh
      rw [hf] at htn
      obtain ⟨uo, ul, uc, hqn, hus⟩ := htn
      have HUS := Lib.hid hus
      have HUZ : Hid (t.2.2.2.size ≤ 1000000) := hl t (findB_mem hf).1
      clear hus hf
      generalize t.2.1 = uk at *
      generalize t.2.2.1 = un at *
      unfold tyv at hqn
      unfold tyv
      obtain ⟨W0, hW0⟩ : ∃ W0, W0 = ((w.alloc (.cells #[.int .i64 k, .int .i64 n, .slice o len cap] 24)).alloc (.cells #[.int .i64 0, .int .i64 0, .slice none 0 0] 24)).alloc (.cells #[.int .i64 uk, .int .i64 un, .slice uo ul uc] 24) := ⟨_, rfl⟩
      have HQ0 : Hid (Quiet0 w W0) := by rw [hW0]; exact ((Quiet0.alloc _ _).trans (Quiet0.alloc _ _)).trans (Quiet0.alloc _ _)
      have hz0 : w.heap.size + 2 ≤ W0.heap.size := by rw [hW0]; simp
      have HB0 : Hid (W0.heap[w.heap.size]? = some (.cells #[.int .i64 k, .int .i64 n, .slice o len cap] 24 (0, 0))) := by rw [hW0]; exact box_after (heap_alloc_new w _) ((Quiet0.alloc _ _).trans (Quiet0.alloc _ _))
      have HB1 : Hid (W0.heap[w.heap.size + 1]? = some (.cells #[.int .i64 0, .int .i64 0, .slice none 0 0] 24 (0, 0))) := by
        rw [hW0, show w.heap.size + 1 = (w.alloc (.cells #[.int .i64 k, .int .i64 n, .slice o len cap] 24)).heap.size from by simp]; exact box_after (heap_alloc_new _ _) (Quiet0.alloc _ _)
      obtain ⟨p0, p1, p2, _, _, _⟩ := box_cells3 HB0.out
      have HMA := Lib.hid (HM.out.stay ((Quiet0.alloc w (.cells #[.int .i64 k, .int .i64 n, .slice o len cap] 24)).trans (Quiet0.alloc _ (.cells #[.int .i64 0, .int .i64 0, .slice none 0 0] 24))))
      go_enter Tryd.func88, Tryd.ntmps88
      go_wp2_with (at_lookup; go_must (refine lookT_some _ rfl _ _ rfl rfl HMA.out n HN.out hqn rfl ?_))
      have HBU : Hid (W0.heap[w.heap.size + 1 + 1]? = some (.cells #[.int .i64 uk, .int .i64 un, .slice uo ul uc] 24 (0, 0))) := by
        rw [hW0, show w.heap.size + 1 + 1 = ((w.alloc (.cells #[.int .i64 k, .int .i64 n, .slice o len cap] 24)).alloc (.cells #[.int .i64 0, .int .i64 0, .slice none 0 0] 24)).heap.size from by simp]; exact heap_alloc_new _ _
      obtain ⟨x0, x1, x2, _, _, _⟩ := box_cells3 HBU.out
      have HCO := Lib.hid (copy_any uk un t.2.2.2 W0 uo ul uc (HUS.out.stay HQ0.out) HUZ.out)
      unfold tyv at HCO
      rw [← hW0]
      clear hW0 p0 p1 p2
      generalize hB : w.heap.size = B at *
      have HBE := Lib.hid hB
      clear hB
      refine HCO.out.mono ?_; rintro e w4 ⟨o2, cap2, rfl, hs4, hq4⟩
      have hbb := box_after HB1.out hq4
      have HB4 := Lib.hid hbb
      obtain ⟨d0, d1, d2, y0, y1, y2⟩ := box_cells3 hbb
      have HS4 := Lib.hid hs4
      have HQ4 := Lib.hid hq4
      clear hs4 hq4 hbb x0 x1 x2
      go_wp2_with fail
      clear d0 d1 d2 y0 y1 y2
      have hf := put3_fr w4 (B + 1) (.int .i64 uk) (.int .i64 un) (.slice o2 ul cap2)
      obtain ⟨f0, f1, f2⟩ := put3_cells (a := .int .i64 uk) (b := .int .i64 un) (c := .slice o2 ul cap2) HB4.out
      change bodyPost _ _ _ _ _ (put3 w4 (B + 1) (.int .i64 uk) (.int .i64 un) (.slice o2 ul cap2))
      generalize put3 w4 (B + 1) (.int .i64 uk) (.int .i64 un) (.slice o2 ul cap2) = wf at *
      refine bodyPost_ret (by simp [results, Tryd.results88, go_sem, f0, f1, f2]; rfl) rfl ?_
      refine ⟨o2, ul, cap2, rfl, HS4.out.fr hf ?_, ?_⟩
      · intro j _ hj
        have hj' : W0.heap.size ≤ j := hj
        have hz := HBE.out
        exact ⟨by omega, by omega⟩
      · exact Fr.trans' (Fr.trans' HQ0.out HQ4.out (fun _ _ h => h)) hf (fun i hi h => by have h' : i = B + 1 := h; have hz := HBE.out; omega)
end Go.Proofs.YtggidhgifaekbaaDoor
/-
  The reference's Find. Conditions: the binds lie in memory as told.
-/
namespace Go.Proofs.YtggidhgifaekbaaDoor
open Go.RowKit Go.Maps

/-- the place of a variable's first bind -/
def idxB (v : Int) : List Bd → Nat → Int
  | [], _ => -1
  | t :: r, i => if t.1 == v then i else idxB v r (i + 1)
theorem idxB_find (v : Int) : ∀ (l : List Bd) (i : Nat), (idxB v l i = -1 ∧ findB l v = none) ∨ (∃ (j : Nat) (t : Bd), idxB v l i = ((i + j : Nat) : Int) ∧ l[j]? = some t ∧ findB l v = some t)
  | [], i => .inl ⟨rfl, rfl⟩
  | t :: r, i => by
    unfold idxB findB
    rw [List.find?_cons]
    cases h : (t.1 == v)
    · simp only [Bool.false_eq_true, if_false]
      rcases idxB_find v r (i + 1) with ⟨h1, h2⟩ | ⟨j, u, h1, h2, h3⟩
      · exact .inl ⟨h1, h2⟩
      · exact .inr ⟨j + 1, u, by rw [h1]; congr 1; omega, by simpa using h2, h3⟩
    · simp only [if_true]
      exact .inr ⟨0, t, by simp, rfl, rfl⟩
set_option maxHeartbeats 1000000 in
theorem find_any (l : List Bd) (w : World) (o : Option Addr) (cap : Nat) (v : Int) (hs : BindsAt w o l) (hz : l.length ≤ 1000000) :
    Calls Tryd.prog 102 #[.slice o l.length cap, .int .i64 v] w fun e w' => e = .returned (.int .i64 (idxB v l 0)) ∧ Quiet0 w w' := by
  have HS := Lib.hid hs
  clear hs
  obtain ⟨res, hres⟩ : ∃ res, res = idxB v l 0 := ⟨_, rfl⟩
  have HR := Lib.hid hres
  rw [← hres]
  clear hres
  go_enter Tryd.func102, Tryd.ntmps102
  go_wp2_with fail
  go_loopw [5] (fun t wr => ∃ i : Nat, t = .int .i64 i ∧ i ≤ l.length ∧ res = idxB v (l.drop i) i ∧ Quiet0 w wr) (fun t _ => l.length - (intOf t).toNat)
  case atStart => exact ⟨0, rfl, Nat.zero_le _, HR.out, Quiet0.refl _⟩
  case round =>
    obtain ⟨i, rfl, hi, hr, hq⟩ := hrel
    have HRR := Lib.hid hr
    have HQ := Lib.hid hq
    clear hr hq
    by_cases hlt : i < l.length
    · have hlt' : (i : Int) < l.length := by omega
      obtain ⟨t, ht⟩ : ∃ t, l[i]? = some t := ⟨_, List.getElem?_eq_getElem hlt⟩
      obtain ⟨b, off, o1, len1, cap1, rfl, e0, e1, e2, e3, hs1⟩ := HS.out.stay HQ.out i t ht
      have HN : Hid (res = if t.1 == v then (i : Int) else idxB v (l.drop (i + 1)) (i + 1)) := by
        show _ = _
        rw [HRR.out, drop_some ht]; rfl
      generalize t.1 = x at *
      clear ht e1 e2 e3 hs1
      cases hx : (x == v)
      · rw [hx] at HN
        go_wp2_with fail
        go_roundw
        case rel => exact ⟨i + 1, by go_num, by omega, HN.out, HQ.out⟩
        case measure => simp [intOf]; omega
      · rw [hx] at HN
        go_wp2_with fail
        go_ret
        exact ⟨by rw [HN.out]; rfl, HQ.out⟩
    · have hlt' : ¬ (i : Int) < l.length := by omega
      have HY : Hid (res = -1) := by show _ = _; rw [HRR.out, List.drop_of_length_le (by omega)]; rfl
      go_wp2_with fail
      go_ret
      exact ⟨by rw [HY.out]; rfl, HQ.out⟩
end Go.Proofs.YtggidhgifaekbaaDoor
