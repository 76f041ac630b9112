/-
  The program's table of binds; the reference's Find. Conditions: the binds lie in memory as told; their variables are in range; there are few.
-/
import Derived.Test.YtggidhgifaekbaaDoorSuCount
namespace Go.Proofs.YtggidhgifaekbaaDoor
open Go.RowKit Go.Maps

def lastB (l : List Bd) : Int → Option Bd := l.foldl (fun f t v => if v = t.1 then some t else f v) (fun _ => none)
theorem lastB_snoc (l : List Bd) (t : Bd) (v : Int) : lastB (l ++ [t]) v = if v = t.1 then some t else lastB l v := by unfold lastB; rw [List.foldl_append]; rfl
theorem last_first : ∀ (l acc : List Bd), (∀ v, lastB acc v = findB acc v) → ∀ v, lastB (l.foldl firstStep acc) v = findB (l.foldl firstStep acc) v
  | [], acc, h => h
  | t :: r, acc, h => by
    rw [List.foldl_cons]
    refine last_first r _ (fun v => ?_)
    unfold firstStep
    cases hh : hasB acc t.1
    · simp only [Bool.false_eq_true, if_false]
      rw [lastB_snoc, findB_snoc]
      by_cases he : v = t.1
      · subst he
        rw [if_pos rfl, findB_none.2 hh]; simp
      · rw [if_neg he, h v]
        have : (t.1 == v) = false := by simp; exact fun e => he e.symm
        rw [this]; cases findB acc v <;> rfl
    · simp only [if_true]; exact h v
/-- what a map holds at each key, told in types -/
def TabAt (w : World) (q : Int → Option Value) (f : Int → Option Bd) : Prop := ∀ v, match f v with
  | none => q v = none
  | some t => ∃ o len cap, q v = some (tyv t.2.1 t.2.2.1 o len cap) ∧ Slc w o len t.2.2.2
theorem TabAt.stay {w w' : World} {q : Int → Option Value} {f : Int → Option Bd} (h : TabAt w q f) (hq : Quiet0 w w') : TabAt w' q f := by
  intro v
  have hv := h v
  cases hf : f v with
  | none => rw [hf] at hv; exact hv
  | some t =>
    rw [hf] at hv
    obtain ⟨o, len, cap, h1, h2⟩ := hv
    exact ⟨o, len, cap, h1, h2.stay hq⟩
theorem TabAt.cong {w : World} {q : Int → Option Value} {f g : Int → Option Bd} (h : TabAt w q f) (he : ∀ v, f v = g v) : TabAt w q g := by
  intro v; rw [← he v]; exact h v
/-- the row of what counts lies in its own block; the parts elsewhere -/
theorem SlcIn.other {w w' : World} {R : Nat → Prop} {o : Option Addr} {len : Nat} {f : Fo} (h : SlcIn R w o len f) {b : Nat} (hf : Fr (fun j => j = b) w w') (hb : ∀ j, R j → j ≠ b) : SlcIn R w' o len f := h.fr hf (fun j _ hj => ⟨hj, hb j hj⟩)
theorem Slc.other {w w' : World} {b : Nat} {o : Option Addr} {len : Nat} {f : Fo} (h : Slc w o len f) (hf : Fr (fun j => j = b) w w') (hm : w.heap.size ≤ b ∨ ∃ es c, w.heap[b]? = some (.map es c)) : Slc w' o len f := by
  have key : ∀ (f : Fo) (c off : Nat), At w c off f → At w' c off f := by
    intro f
    have hne : ∀ c off v, w.cell? ⟨c, off, none⟩ = some v → ¬ c = b := by
      intro c off v hc e
      subst e
      rcases hm with h | ⟨es, cl, h⟩
      · have := World.block_lt_of_cell? w _ hc; simp at this; omega
      · simp [World.cell?, h] at hc
    induction f with
    | nil => intro c off _; trivial
    | cons k n ps r ih1 ih2 =>
      intro c off ha
      obtain ⟨h1, h2, ⟨o, len, cap, h3, h4, h4', h5⟩, h6⟩ := ha
      have hlt := World.block_lt_of_cell? w _ h1
      have hcb := hne _ _ _ h1
      refine ⟨(hf.cellb hlt hcb).trans h1, (hf.cellb hlt hcb).trans h2, ⟨o, len, cap, (hf.cellb hlt hcb).trans h3, h4, h4', fun hl => ?_⟩, ih2 c (off + 3) h6⟩
      obtain ⟨b', off', ho, ha'⟩ := h5 hl
      exact ⟨b', off', ho, ih1 b' off' ha'⟩
  refine ⟨h.1, h.2.1, fun hl => ?_⟩
  obtain ⟨c, off, ho, ha⟩ := h.2.2 hl
  exact ⟨c, off, ho, key f c off ha⟩
theorem MapT.isMap {w : World} {b n : Nat} {q : Int → Option Value} (h : MapT w b n q) : ∃ es c, w.heap[b]? = some (.map es c) := by
  obtain ⟨D, ⟨es, c, h, _⟩, _⟩ := h
  exact ⟨es, c, h⟩
theorem BindsAt.other {w w' : World} {b : Nat} {o : Option Addr} {l : List Bd} (h : BindsAt w o l) (hf : Fr (fun j => j = b) w w') (hm : w.heap.size ≤ b ∨ ∃ es c, w.heap[b]? = some (.map es c)) : BindsAt w' o l := by
  have hne : ∀ c off v, w.cell? ⟨c, off, none⟩ = some v → w'.cell? ⟨c, off, none⟩ = some v := by
    intro c off v hc
    have hlt := World.block_lt_of_cell? w _ hc
    have h9 : c < w.heap.size := hlt
    refine (hf.cellb hlt (fun e => ?_)).trans hc
    have e' : c = b := e
    rcases hm with h | ⟨es, cl, h⟩
    · omega
    · subst e'; simp [World.cell?, h] at hc
  intro i t ht
  obtain ⟨b, off, o', len', cap', h0, h1, h2, h3, h4, h5⟩ := h i t ht
  exact ⟨b, off, o', len', cap', h0, hne _ _ _ h1, hne _ _ _ h2, hne _ _ _ h3, hne _ _ _ h4, h5.other hf hm⟩
set_option maxHeartbeats 4000000 in
set_option maxRecDepth 100000 in
theorem table_any (l : List Bd) (w : World) (o : Option Addr) (cap : Nat) (hs : BindsAt w o l) (hw : ∀ t ∈ l, wfI t.1) (hz : l.length ≤ 100000) :
    Calls Tryd.prog 85 #[.slice o l.length cap] w fun e w' => ∃ b m q, e = .returned (.map (some b)) ∧ w.heap.size ≤ b ∧ MapT w' b m q ∧ TabAt w' q (findB l) ∧ Quiet0 w w' := by
  have HC := Lib.hid (count_any l (w.alloc (.map #[] 0)) o cap (hs.stay (Quiet0.alloc _ _)) hw hz)
  have HWF : Hid (∀ t ∈ firstB l, wfI t.1) := fun t ht => by
    rcases first_sub l [] t ht with h | h
    · simp at h
    · exact hw t h
  have hfl := first_len l []
  have hfl2 : (firstB l).length ≤ 100000 := by have h := hfl; simp at h; exact Nat.le_trans h hz
  have HLF : Hid (∀ v, lastB (firstB l) v = findB l v) := fun v => (last_first l [] (fun v => rfl) v).trans (first_find l v)
  have hmm := @run_makeMap Tryd.prog
  clear hs hw hfl
  obtain ⟨FF, hFF⟩ : ∃ FF, FF = findB l := ⟨_, rfl⟩
  rw [← hFF] at HLF ⊢
  clear hFF
  generalize hFB : firstB l = F at *
  clear hFB
  go_enter Tryd.func85, Tryd.ntmps85
  go_wp2_with fail
  refine HC.out.mono ?_; rintro e w1 ⟨a, c, rfl, hb, hq1⟩
  have HB := Lib.hid hb
  have HQ1 := Lib.hid hq1
  have HM1 := Lib.hid ((MapT.made w).stay hq1)
  clear hb hq1
  generalize hBM : w.heap.size = B at *
  have HBM := Lib.hid hBM
  clear hBM
  go_wp2_with fail
  go_loopw [10] (fun t wr => ∃ (i : Nat) (q : Int → Option Value), t = .int .i64 i ∧ i ≤ F.length ∧ MapT wr B i q ∧ TabAt wr q (lastB (F.take i)) ∧ BindsAt wr a F ∧ Quiet0 w wr) (fun t _ => F.length - (intOf t).toNat)
  case atStart => exact ⟨0, fun _ => none, rfl, Nat.zero_le _, HM1.out, (fun v => rfl), HB.out, (Quiet0.alloc _ _).trans HQ1.out⟩
  case round =>
    obtain ⟨i, q, rfl, hi, hm, ht, hb, hq⟩ := hrel
    have HM := Lib.hid hm
    have HT := Lib.hid ht
    have HBW := Lib.hid hb
    have HQ := Lib.hid hq
    clear hm ht hb hq
    by_cases hlt : i < F.length
    · have hlt' : (i : Int) < F.length := by omega
      obtain ⟨t, ht⟩ : ∃ t, F[i]? = some t := ⟨_, List.getElem?_eq_getElem hlt⟩
      obtain ⟨b, off, o1, len1, cap1, rfl, e0, e1, e2, e3, hs1⟩ := HBW.out i t ht
      have HWT := Lib.hid (HWF.out t (List.mem_of_getElem? ht))
      have HNT : Hid (F.take (i + 1) = F.take i ++ [t]) := by show _ = _; rw [List.take_add_one, ht]; rfl
      have HS1 := Lib.hid hs1
      have HTT : Hid (∀ x, lastB (F.take (i + 1)) x = if x = t.1 then some t else lastB (F.take i) x) := by intro x; rw [HNT.out, lastB_snoc]
      obtain ⟨v, k, n, ps⟩ := t
      simp only at e0 e1 e2 e3
      have HMA := Lib.hid (HM.out.stay (Quiet0.alloc wr (.cells #[.int .i64 v, .int .i64 k, .int .i64 n, .slice o1 len1 cap1] 91)))
      clear ht hs1
      go_wp2_with (at_mapUpdate; go_must (refine wpList_storeT _ rfl _ _ _ rfl rfl HMA.out ?hn v (tyv k n o1 len1 cap1) HWT.out rfl rfl ?_))
      case hn => unfold maxLen; omega
      intro w3 hm3 hf3
      have hmp := HMA.out.isMap
      have hqa := Quiet0.alloc wr (.cells #[.int .i64 v, .int .i64 k, .int .i64 n, .slice o1 len1 cap1] 91)
      have HQ3 : Hid (Quiet0 w w3) := Fr.trans' (HQ.out.trans hqa) hf3 (fun j hj h => by have h' : j = B := h; have := HBM.out; omega)
      have HB3 := Lib.hid ((HBW.out.stay hqa).other hf3 (.inr hmp))
      have HT3 : Hid (TabAt w3 (fun x => if x = v then some (tyv k n o1 len1 cap1) else q x) (lastB (F.take (i + 1)))) := by
        intro x
        rw [HTT.out]
        by_cases he : x = v
        · rw [if_pos he]
          exact ⟨o1, len1, cap1, by simp [he], (HS1.out.stay hqa).other hf3 (.inr hmp)⟩
        · rw [if_neg he]
          have hx := HT.out x
          cases hl : lastB (F.take i) x with
          | none => rw [hl] at hx; simpa [he] using hx
          | some u =>
            rw [hl] at hx
            obtain ⟨o2, len2, cap2, h1, h2⟩ := hx
            exact ⟨o2, len2, cap2, by simpa [he] using h1, (h2.stay hqa).other hf3 (.inr hmp)⟩
      have HM3 := Lib.hid hm3
      clear hm3 hf3 hmp hqa
      go_wp2_with fail
      go_roundw
      case rel => exact ⟨i + 1, _, by go_num, by omega, HM3.out, HT3.out, HB3.out, HQ3.out⟩
      case measure => simp [intOf]; omega
    · have hlt' : ¬ (i : Int) < F.length := by omega
      have htk : F.take i = F := List.take_of_length_le (by omega)
      have HTF : Hid (TabAt wr q FF) := by have h := HT.out; rw [htk] at h; exact h.cong HLF.out
      clear htk
      go_wp2_with fail
      go_ret
      exact ⟨B, rfl, by have := HBM.out; omega, i, q, HM.out, HTF.out, HQ.out⟩
end Go.Proofs.YtggidhgifaekbaaDoor
