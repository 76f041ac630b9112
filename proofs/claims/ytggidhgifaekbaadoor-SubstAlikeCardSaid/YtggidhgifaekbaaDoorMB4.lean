/-
  Texts laid together (SuCount, SuTable, TyArrow): what each one proves, and its conditions, stands at its head.
-/
import Derived.Deep.RegionHeld3
import Derived.Test.YtggidhgifaekbaaDoorMB1
import Derived.Test.YtggidhgifaekbaaDoorMB2
import Derived.Test.YtggidhgifaekbaaDoorMB3
/-
  The program's count and table on binds. Conditions: the binds lie in memory as told; their variables are in range; there are few.
-/
namespace Go.Proofs.YtggidhgifaekbaaDoor
open Go.RowKit Go.Maps

def numB (l : List Bd) (v : Int) : Int := ((l.filter (fun t => t.1 == v)).length : Int)
theorem numB_zero (l : List Bd) (v : Int) : (numB l v == 0) = !hasB l v := by
  unfold numB hasB
  rw [Bool.eq_iff_iff]
  simp
theorem numB_snoc (l : List Bd) (t : Bd) (v : Int) : numB (l ++ [t]) v = if v = t.1 then numB l t.1 + 1 else numB l v := by
  unfold numB
  rw [List.filter_append, List.length_append]
  by_cases h : v = t.1
  · subst h; simp
  · have : (t.1 == v) = false := by simp; exact fun e => h e.symm
    simp [h, this]
theorem numB_le (l : List Bd) (v : Int) : 0 ≤ numB l v ∧ numB l v ≤ l.length := by
  unfold numB
  have := List.length_filter_le (fun t : Bd => t.1 == v) l
  omega
theorem wpList_append_at {P : Program} (W : World) (H : Nat) (hH : H = W.heap.size) {ops : Array Oper} {rest : List Oper} {o : Oper} {a : Act} {Q : Exit → Act → World → Prop}
    (hg : o.guard = none) (s x : Operand) (t : TypeId) (hop : o.op = Op.call { callee := Callee.builtin Builtin.append, args := #[s, x], argTypes := #[t, t] })
    (e : TypeId) (z : Value) (size bytes : Nat) (he : Elem P t e z size bytes)
    (v : Value) (n : Nat) (xs : List Value) (hs : a.eval s = v) (hown : W.ownsRow 0 e size v n xs)
    (news : Array Value) (hx : a.eval x = .slice (some ⟨H, 0, none⟩) 1 1) (hn : news.size = size) (h1c : ∀ u ∈ news.toList, u.oneCell' = true)
    (b1 : n + 1 ≤ maxLen) (b2 : (n + 1) * bytes ≤ 140737488355328)
    (hK : ∀ g c w', w'.ownsRow 0 e size (.slice (some ⟨g, 0, none⟩) (n + 1) c) (n + 1) (xs ++ news.toList) → Fr (fun k => v.ownBlock = some k) W w' → (v.ownBlock = some g ∨ W.heap.size ≤ g) → wpList P ops Q rest (a.put o.dst (.slice (some ⟨g, 0, none⟩) (n + 1) c)) w') :
    wpList P ops Q (o :: rest) a (W.alloc (.cells news e)) := by
  subst hH
  exact wpList_append_one W hg s x t hop e z size bytes he v n xs hs hown news hx hn h1c b1 b2 hK
set_option maxHeartbeats 4000000 in
set_option maxRecDepth 100000 in
theorem count_any (l : List Bd) (w : World) (o : Option Addr) (cap : Nat) (hs : BindsAt w o l) (hw : ∀ t ∈ l, wfI t.1) (hz : l.length ≤ 100000) :
    Calls Tryd.prog 98 #[.slice o l.length cap] w fun e w' => ∃ a c, e = .returned (.slice a (firstB l).length c) ∧ BindsAt w' a (firstB l) ∧ Quiet0 w w' := by
  have HS := Lib.hid hs
  have HW := Lib.hid hw
  have hmm := @run_makeMap Tryd.prog
  clear hs hw
  go_enter Tryd.func98, Tryd.ntmps98
  go_wp2_with fail
  go_loopw [4, 10] (fun v t wr => ∃ (i : Nat) (a : Option Addr) (c : Nat) (xs : List Value), t = .int .i64 i ∧ i ≤ l.length ∧ v = .slice a (firstB (l.take i)).length c ∧ MapOf wr w.heap.size i (numB (l.take i)) ∧ wr.ownsRow 0 91 4 v (firstB (l.take i)).length xs ∧ RowB (fun k => k < w.heap.size) wr xs (firstB (l.take i)) ∧ (∀ g, v.ownBlock = some g → w.heap.size < g) ∧ Quiet0 w wr) (fun _ t _ => l.length - (intOf t).toNat)
  case atStart => exact ⟨0, none, 0, [], rfl, Nat.zero_le _, rfl, (MapOf.made w).cong (fun _ _ => rfl), World.ownsRow_nil _ _ _ _, rfl, (fun g hg => by cases hg), Quiet0.alloc _ _⟩
  case round =>
    obtain ⟨i, a, c, xs, rfl, hi, rfl, hm, hrow, hrb, hge, hq⟩ := hrel
    have HM := Lib.hid hm
    have HROW := Lib.hid hrow
    have HRB := Lib.hid hrb
    have HG := Lib.hid hge
    have HQ := Lib.hid hq
    clear hm hrow hrb hge hq
    by_cases hlt : i < l.length
    · have hlt' : (i : Int) < l.length := by omega
      obtain ⟨t, ht⟩ : ∃ t, l[i]? = some t := ⟨_, List.getElem?_eq_getElem hlt⟩
      obtain ⟨b, off, o1, len1, cap1, rfl, e0, e1, e2, e3, hs1⟩ := HS.out.stay HQ.out i t ht
      obtain ⟨b', off', o1', len1', cap1', hoo, _, _, _, f3, hs0⟩ := HS.out i t ht
      cases hoo
      have f3' := HQ.out.at f3
      rw [e3] at f3'
      cases f3'
      have HT := Lib.hid ht
      have HWT := Lib.hid (HW.out t (List.mem_of_getElem? ht))
      have HNT : Hid (l.take (i + 1) = l.take i ++ [t]) := by show _ = _; rw [List.take_add_one, ht]; rfl
      have HS0 := Lib.hid hs0.lt
      obtain ⟨v, k, n, ps⟩ := t
      simp only at e0 e1 e2 e3 hs1 hs0
      have hb0 := heap_alloc_new wr (.cells #[.int .i64 v, .int .i64 k, .int .i64 n, .slice o1 len1 cap1] 91)
      have HB0 := Lib.hid hb0
      have HMA := Lib.hid (HM.out.stay (Quiet0.alloc wr (.cells #[.int .i64 v, .int .i64 k, .int .i64 n, .slice o1 len1 cap1] 91)))
      have hlk := HMA.out.look HWT.out
      have hmlt := HM.out.lt
      have hfl := first_len (l.take i) []
      have hfl2 : (firstB (l.take i)).length ≤ i := by
        have h := hfl
        rw [List.length_take] at h
        simp at h
        exact Nat.le_trans h (by omega)
      have hnb := numB_le (l.take i) v
      have hnb2 : numB (l.take i) v ≤ 100000 := by have := hnb.2; rw [List.length_take] at this; omega
      have hwr : IntKind.i64.wrap (numB (l.take i) v + 1) = numB (l.take i) v + 1 := IntWalk.i64_in _ (by omega)
      clear ht f3 hs1 hs0 hb0 hfl
      have HRB2 : Hid (∀ W, Fr (fun j => w.heap.size ≤ j) wr W → RowB (fun j => j < w.heap.size) W xs (firstB (l.take i))) := fun W hf => RowB.fr hf (fun j _ hj => ⟨hj, by omega⟩) _ _ HRB.out
      have HFS : Hid (firstB (l.take (i + 1)) = firstStep (firstB (l.take i)) (v, k, n, ps)) := by show _ = _; rw [HNT.out, firstB_snoc]
      have HNS : Hid (∀ x, numB (l.take (i + 1)) x = if x = v then numB (l.take i) v + 1 else numB (l.take i) x) := by intro x; rw [HNT.out, numB_snoc]
      have HFH := Lib.hid (first_has (l.take i) v)
      cases hh : hasB (l.take i) v
      · have hz0 : (numB (l.take i) v == 0) = true := by rw [numB_zero, hh]; rfl
        have hN0 : numB (l.take i) v = 0 := eq_of_beq hz0
        have HFS2 : Hid (firstB (l.take (i + 1)) = firstB (l.take i) ++ [(v, k, n, ps)]) := by
          show _ = _
          rw [HFS.out]; unfold firstStep; rw [HFH.out, hh]; rfl
        have HN0 := Lib.hid hN0
        rw [hN0] at hlk
        clear hh hz0 hN0 hwr hnb hnb2
        generalize hfb : (firstB (l.take i)).length = fl at *
        have HFB := Lib.hid hfb
        clear hfb
        go_wp2_with (at_builtin; go_must (refine wpList_append_at (wr.alloc (.cells #[.int .i64 v, .int .i64 k, .int .i64 n, .slice o1 len1 cap1] 91)) (wr.heap.size + 1) (by simp) rfl (.tmp 19) (.tmp 21) 49 rfl 91 _ 4 48 elemBd (.slice a fl c) fl xs rfl (HROW.out.alloc _) #[.int .i64 v, .int .i64 k, .int .i64 n, .slice o1 len1 cap1] rfl rfl ?c1 ?c2 ?c3 ?_))
        case c1 => simp [Value.oneCell']
        case c2 => unfold maxLen; omega
        case c3 => omega
        intro g2 c' w2 ho hf hg2
        have hown : ∀ j, (Value.slice a fl c).ownBlock = some j → w.heap.size < j ∧ j < wr.heap.size := fun j h => ⟨HG.out j h, (HROW.out.lt j h).2⟩
        have HB2 : Hid (w2.heap[wr.heap.size]? = some (.cells #[.int .i64 v, .int .i64 k, .int .i64 n, .slice o1 len1 cap1] 91 (0, 0))) := by
          show _ = _
          rw [hf.block wr.heap.size (by simp) (fun h => by have := (hown _ h).2; omega)]; exact HB0.out
        have HM2 := Lib.hid (HMA.out.fr hf (fun h => by have := (hown _ h).1; omega))
        have hlk2 := HM2.out.look HWT.out
        rw [HN0.out] at hlk2
        have z0 : w2.cell? ⟨wr.heap.size, 0, none⟩ = some (.int .i64 v) := by rw [cell_of_row _ _ _ _ _ (0, 0) HB2.out]; rfl
        have HF2 : Hid (Fr (fun j => w.heap.size ≤ j) wr w2) := (Fr.alloc _ _ _).trans' hf (fun j hj h => Nat.le_of_lt (hown j h).1)
        have HO2 := Lib.hid ho
        have HG2 : Hid (w.heap.size < g2) := by
          rcases hg2 with h | h
          · exact (hown _ h).1
          · have h' : wr.heap.size + 1 ≤ g2 := by simpa using h
            have := HM.out.lt
            show w.heap.size < g2
            omega
        clear ho hf hg2 hown hlk
        go_wp2_with (at_mapUpdate; go_must (refine wpList_store _ rfl _ _ _ rfl rfl HM2.out ?hn v 1 HWT.out (wfI_of (by omega) (by omega)) rfl rfl ?_))
        case hn => unfold maxLen; omega
        intro w3 hm3 hf3
        have HF3 : Hid (Fr (fun j => w.heap.size ≤ j) wr w3) := HF2.out.trans (hf3.mono (fun j _ h => by have h' : j = w.heap.size := h; omega))
        have HM3 : Hid (MapOf w3 w.heap.size (i + 1) (numB (l.take (i + 1)))) := hm3.cong (fun x _ => by
          rw [HNS.out, HN0.out]; rfl)
        have HO3 := Lib.hid (ownsRow_fr HO2.out hf3 (fun j hj h => by simp [Value.ownBlock] at hj; have h' : j = w.heap.size := h; have := HG2.out; omega))
        clear hm3 hf3 hlk2 z0
        go_wp2_with fail
        go_roundw
        case rel =>
          refine ⟨i + 1, some ⟨g2, 0, none⟩, c', xs ++ [.int .i64 v, .int .i64 k, .int .i64 n, .slice o1 len1 cap1], by go_num, by omega, ?_, HM3.out, ?_, ?_, ?_, ?_⟩
          · rw [HFS2.out, List.length_append, HFB.out]; rfl
          · rw [HFS2.out, List.length_append, HFB.out]; simpa using HO3.out
          · rw [HFS2.out]
            exact RowB.snoc (t := (v, k, n, ps)) ((HS0.out.fr HQ.out (fun j _ hj => ⟨hj, fun h => h⟩)).fr HF3.out (fun j _ hj => ⟨hj, by have hj' : j < w.heap.size := hj; omega⟩)) _ _ (HRB2.out _ HF3.out)
          · intro g hg; simp [Value.ownBlock] at hg; subst hg; exact HG2.out
          · exact Fr.trans' HQ.out HF3.out (fun j hj h => by omega)
        case measure => simp [intOf]; omega
      · have hz0 : (numB (l.take i) v == 0) = false := by rw [numB_zero, hh]; rfl
        have HFS2 : Hid (firstB (l.take (i + 1)) = firstB (l.take i)) := by
          show _ = _
          rw [HFS.out]; unfold firstStep; rw [HFH.out, hh]; rfl
        obtain ⟨q, hq'⟩ : ∃ q, q = numB (l.take i) v := ⟨_, rfl⟩
        rw [← hq'] at hlk hz0 hwr hnb hnb2
        have HQ' := Lib.hid hq'
        have hqwf : wfI (q + 1) := wfI_of (by omega) (by omega)
        clear hh hq'
        generalize hfb : (firstB (l.take i)).length = fl at *
        have HFB := Lib.hid hfb
        clear hfb
        go_wp2_with (at_mapUpdate; go_must (refine wpList_store _ rfl _ _ _ rfl rfl HMA.out ?hn v (q + 1) HWT.out hqwf rfl rfl ?_))
        case hn => unfold maxLen; omega
        intro w3 hm3 hf3
        have HF3 : Hid (Fr (fun j => w.heap.size ≤ j) wr w3) := (Fr.alloc _ _ _).trans (hf3.mono (fun j _ h => by have h' : j = w.heap.size := h; omega))
        have HM3 : Hid (MapOf w3 w.heap.size (i + 1) (numB (l.take (i + 1)))) := hm3.cong (fun x _ => by
          rw [HNS.out, ← HQ'.out])
        have HO3 := Lib.hid (ownsRow_fr (HROW.out.alloc _) hf3 (fun j hj h => by have h' : j = w.heap.size := h; have := HG.out j hj; omega))
        clear hm3 hf3 hlk
        go_wp2_with fail
        go_roundw
        case rel =>
          refine ⟨i + 1, a, c, xs, by go_num, by omega, ?_, HM3.out, ?_, ?_, HG.out, ?_⟩
          · rw [HFS2.out, HFB.out]
          · rw [HFS2.out, HFB.out]; exact HO3.out
          · rw [HFS2.out]; exact HRB2.out _ HF3.out
          · exact Fr.trans' HQ.out HF3.out (fun j hj h => by omega)
        case measure => simp [intOf]; omega
    · have hlt' : ¬ (i : Int) < l.length := by omega
      have htk : l.take i = l := List.take_of_length_le (by omega)
      rw [htk] at HROW HRB
      rw [htk]
      have HBA : Hid (BindsAt wr a (firstB l)) := by
        rcases HROW.out.2 with ⟨he, h0⟩ | ⟨g, cap', cur, he, _⟩
        · intro j u hu
          rw [List.length_eq_zero_iff.1 h0] at hu; simp at hu
        · injection he with h1 h2 h3
          subst h1
          exact RowB.binds HRB.out HROW.out
      clear htk
      go_wp2_with fail
      go_ret
      exact ⟨_, ⟨_, rfl⟩, HBA.out, HQ.out⟩
end Go.Proofs.YtggidhgifaekbaaDoor
/-
  The program's table of binds; the reference's Find. Conditions: the binds lie in memory as told; their variables are in range; there are few.
-/
namespace Go.Proofs.YtggidhgifaekbaaDoor
open Go.RowKit Go.Maps

def lastB (l : List Bd) : Int → Option Bd := l.foldl (fun f t v => if v = t.1 then some t else f v) (fun _ => none)
theorem lastB_snoc (l : List Bd) (t : Bd) (v : Int) : lastB (l ++ [t]) v = if v = t.1 then some t else lastB l v := by unfold lastB; rw [List.foldl_append]; rfl
theorem last_first : ∀ (l acc : List Bd), (∀ v, lastB acc v = findB acc v) → ∀ v, lastB (l.foldl firstStep acc) v = findB (l.foldl firstStep acc) v
  | [], acc, h => h
  | t :: r, acc, h => by
    rw [List.foldl_cons]
    refine last_first r _ (fun v => ?_)
    unfold firstStep
    cases hh : hasB acc t.1
    · simp only [Bool.false_eq_true, if_false]
      rw [lastB_snoc, findB_snoc]
      by_cases he : v = t.1
      · subst he
        rw [if_pos rfl, findB_none.2 hh]; simp
      · rw [if_neg he, h v]
        have : (t.1 == v) = false := by simp; exact fun e => he e.symm
        rw [this]; cases findB acc v <;> rfl
    · simp only [if_true]; exact h v
/-- what a map holds at each key, told in types -/
def TabAt (w : World) (q : Int → Option Value) (f : Int → Option Bd) : Prop := ∀ v, match f v with
  | none => q v = none
  | some t => ∃ o len cap, q v = some (tyv t.2.1 t.2.2.1 o len cap) ∧ Slc w o len t.2.2.2
theorem TabAt.stay {w w' : World} {q : Int → Option Value} {f : Int → Option Bd} (h : TabAt w q f) (hq : Quiet0 w w') : TabAt w' q f := by
  intro v
  have hv := h v
  cases hf : f v with
  | none => rw [hf] at hv; exact hv
  | some t =>
    rw [hf] at hv
    obtain ⟨o, len, cap, h1, h2⟩ := hv
    exact ⟨o, len, cap, h1, h2.stay hq⟩
theorem TabAt.cong {w : World} {q : Int → Option Value} {f g : Int → Option Bd} (h : TabAt w q f) (he : ∀ v, f v = g v) : TabAt w q g := by
  intro v; rw [← he v]; exact h v
/-- the row of what counts lies in its own block; the parts elsewhere -/
theorem SlcIn.other {w w' : World} {R : Nat → Prop} {o : Option Addr} {len : Nat} {f : Fo} (h : SlcIn R w o len f) {b : Nat} (hf : Fr (fun j => j = b) w w') (hb : ∀ j, R j → j ≠ b) : SlcIn R w' o len f := h.fr hf (fun j _ hj => ⟨hj, hb j hj⟩)
theorem Slc.other {w w' : World} {b : Nat} {o : Option Addr} {len : Nat} {f : Fo} (h : Slc w o len f) (hf : Fr (fun j => j = b) w w') (hm : w.heap.size ≤ b ∨ ∃ es c, w.heap[b]? = some (.map es c)) : Slc w' o len f := by
  have key : ∀ (f : Fo) (c off : Nat), At w c off f → At w' c off f := by
    intro f
    have hne : ∀ c off v, w.cell? ⟨c, off, none⟩ = some v → ¬ c = b := by
      intro c off v hc e
      subst e
      rcases hm with h | ⟨es, cl, h⟩
      · have := World.block_lt_of_cell? w _ hc; simp at this; omega
      · simp [World.cell?, h] at hc
    induction f with
    | nil => intro c off _; trivial
    | cons k n ps r ih1 ih2 =>
      intro c off ha
      obtain ⟨h1, h2, ⟨o, len, cap, h3, h4, h4', h5⟩, h6⟩ := ha
      have hlt := World.block_lt_of_cell? w _ h1
      have hcb := hne _ _ _ h1
      refine ⟨(hf.cellb hlt hcb).trans h1, (hf.cellb hlt hcb).trans h2, ⟨o, len, cap, (hf.cellb hlt hcb).trans h3, h4, h4', fun hl => ?_⟩, ih2 c (off + 3) h6⟩
      obtain ⟨b', off', ho, ha'⟩ := h5 hl
      exact ⟨b', off', ho, ih1 b' off' ha'⟩
  refine ⟨h.1, h.2.1, fun hl => ?_⟩
  obtain ⟨c, off, ho, ha⟩ := h.2.2 hl
  exact ⟨c, off, ho, key f c off ha⟩
theorem MapT.isMap {w : World} {b n : Nat} {q : Int → Option Value} (h : MapT w b n q) : ∃ es c, w.heap[b]? = some (.map es c) := by
  obtain ⟨D, ⟨es, c, h, _⟩, _⟩ := h
  exact ⟨es, c, h⟩
theorem BindsAt.other {w w' : World} {b : Nat} {o : Option Addr} {l : List Bd} (h : BindsAt w o l) (hf : Fr (fun j => j = b) w w') (hm : w.heap.size ≤ b ∨ ∃ es c, w.heap[b]? = some (.map es c)) : BindsAt w' o l := by
  have hne : ∀ c off v, w.cell? ⟨c, off, none⟩ = some v → w'.cell? ⟨c, off, none⟩ = some v := by
    intro c off v hc
    have hlt := World.block_lt_of_cell? w _ hc
    have h9 : c < w.heap.size := hlt
    refine (hf.cellb hlt (fun e => ?_)).trans hc
    have e' : c = b := e
    rcases hm with h | ⟨es, cl, h⟩
    · omega
    · subst e'; simp [World.cell?, h] at hc
  intro i t ht
  obtain ⟨b, off, o', len', cap', h0, h1, h2, h3, h4, h5⟩ := h i t ht
  exact ⟨b, off, o', len', cap', h0, hne _ _ _ h1, hne _ _ _ h2, hne _ _ _ h3, hne _ _ _ h4, h5.other hf hm⟩
set_option maxHeartbeats 4000000 in
set_option maxRecDepth 100000 in
theorem table_any (l : List Bd) (w : World) (o : Option Addr) (cap : Nat) (hs : BindsAt w o l) (hw : ∀ t ∈ l, wfI t.1) (hz : l.length ≤ 100000) :
    Calls Tryd.prog 85 #[.slice o l.length cap] w fun e w' => ∃ b m q, e = .returned (.map (some b)) ∧ w.heap.size ≤ b ∧ MapT w' b m q ∧ TabAt w' q (findB l) ∧ Quiet0 w w' := by
  have HC := Lib.hid (count_any l (w.alloc (.map #[] 0)) o cap (hs.stay (Quiet0.alloc _ _)) hw hz)
  have HWF : Hid (∀ t ∈ firstB l, wfI t.1) := fun t ht => by
    rcases first_sub l [] t ht with h | h
    · simp at h
    · exact hw t h
  have hfl := first_len l []
  have hfl2 : (firstB l).length ≤ 100000 := by have h := hfl; simp at h; exact Nat.le_trans h hz
  have HLF : Hid (∀ v, lastB (firstB l) v = findB l v) := fun v => (last_first l [] (fun v => rfl) v).trans (first_find l v)
  have hmm := @run_makeMap Tryd.prog
  clear hs hw hfl
  obtain ⟨FF, hFF⟩ : ∃ FF, FF = findB l := ⟨_, rfl⟩
  rw [← hFF] at HLF ⊢
  clear hFF
  generalize hFB : firstB l = F at *
  clear hFB
  go_enter Tryd.func85, Tryd.ntmps85
  go_wp2_with fail
  refine HC.out.mono ?_; rintro e w1 ⟨a, c, rfl, hb, hq1⟩
  have HB := Lib.hid hb
  have HQ1 := Lib.hid hq1
  have HM1 := Lib.hid ((MapT.made w).stay hq1)
  clear hb hq1
  generalize hBM : w.heap.size = B at *
  have HBM := Lib.hid hBM
  clear hBM
  go_wp2_with fail
  go_loopw [10] (fun t wr => ∃ (i : Nat) (q : Int → Option Value), t = .int .i64 i ∧ i ≤ F.length ∧ MapT wr B i q ∧ TabAt wr q (lastB (F.take i)) ∧ BindsAt wr a F ∧ Quiet0 w wr) (fun t _ => F.length - (intOf t).toNat)
  case atStart => exact ⟨0, fun _ => none, rfl, Nat.zero_le _, HM1.out, (fun v => rfl), HB.out, (Quiet0.alloc _ _).trans HQ1.out⟩
  case round =>
    obtain ⟨i, q, rfl, hi, hm, ht, hb, hq⟩ := hrel
    have HM := Lib.hid hm
    have HT := Lib.hid ht
    have HBW := Lib.hid hb
    have HQ := Lib.hid hq
    clear hm ht hb hq
    by_cases hlt : i < F.length
    · have hlt' : (i : Int) < F.length := by omega
      obtain ⟨t, ht⟩ : ∃ t, F[i]? = some t := ⟨_, List.getElem?_eq_getElem hlt⟩
      obtain ⟨b, off, o1, len1, cap1, rfl, e0, e1, e2, e3, hs1⟩ := HBW.out i t ht
      have HWT := Lib.hid (HWF.out t (List.mem_of_getElem? ht))
      have HNT : Hid (F.take (i + 1) = F.take i ++ [t]) := by show _ = _; rw [List.take_add_one, ht]; rfl
      have HS1 := Lib.hid hs1
      have HTT : Hid (∀ x, lastB (F.take (i + 1)) x = if x = t.1 then some t else lastB (F.take i) x) := by intro x; rw [HNT.out, lastB_snoc]
      obtain ⟨v, k, n, ps⟩ := t
      simp only at e0 e1 e2 e3
      have HMA := Lib.hid (HM.out.stay (Quiet0.alloc wr (.cells #[.int .i64 v, .int .i64 k, .int .i64 n, .slice o1 len1 cap1] 91)))
      clear ht hs1
      go_wp2_with (at_mapUpdate; go_must (refine wpList_storeT _ rfl _ _ _ rfl rfl HMA.out ?hn v (tyv k n o1 len1 cap1) HWT.out rfl rfl ?_))
      case hn => unfold maxLen; omega
      intro w3 hm3 hf3
      have hmp := HMA.out.isMap
      have hqa := Quiet0.alloc wr (.cells #[.int .i64 v, .int .i64 k, .int .i64 n, .slice o1 len1 cap1] 91)
      have HQ3 : Hid (Quiet0 w w3) := Fr.trans' (HQ.out.trans hqa) hf3 (fun j hj h => by have h' : j = B := h; have := HBM.out; omega)
      have HB3 := Lib.hid ((HBW.out.stay hqa).other hf3 (.inr hmp))
      have HT3 : Hid (TabAt w3 (fun x => if x = v then some (tyv k n o1 len1 cap1) else q x) (lastB (F.take (i + 1)))) := by
        intro x
        rw [HTT.out]
        by_cases he : x = v
        · rw [if_pos he]
          exact ⟨o1, len1, cap1, by simp [he], (HS1.out.stay hqa).other hf3 (.inr hmp)⟩
        · rw [if_neg he]
          have hx := HT.out x
          cases hl : lastB (F.take i) x with
          | none => rw [hl] at hx; simpa [he] using hx
          | some u =>
            rw [hl] at hx
            obtain ⟨o2, len2, cap2, h1, h2⟩ := hx
            exact ⟨o2, len2, cap2, by simpa [he] using h1, (h2.stay hqa).other hf3 (.inr hmp)⟩
      have HM3 := Lib.hid hm3
      clear hm3 hf3 hmp hqa
      go_wp2_with fail
      go_roundw
      case rel => exact ⟨i + 1, _, by go_num, by omega, HM3.out, HT3.out, HB3.out, HQ3.out⟩
      case measure => simp [intOf]; omega
    · have hlt' : ¬ (i : Int) < F.length := by omega
      have htk : F.take i = F := List.take_of_length_le (by omega)
      have HTF : Hid (TabAt wr q FF) := by have h := HT.out; rw [htk] at h; exact h.cong HLF.out
      clear htk
      go_wp2_with fail
      go_ret
      exact ⟨B, rfl, by have := HBM.out; omega, i, q, HM.out, HTF.out, HQ.out⟩
end Go.Proofs.YtggidhgifaekbaaDoor
/-
  types.Copy, Var and Arrow. Conditions: the types lie in memory as told; there are few of them.
-/
namespace Go.Proofs.YtggidhgifaekbaaDoor
open Go.RowKit Go.Shelf

/-- a world whose block B gets three cells anew -/
def put3 (w : World) (B : Nat) (a b c : Value) : World := ((w.setCell ⟨B, 0, none⟩ a).setCell ⟨B, 1, none⟩ b).setCell ⟨B, 2, none⟩ c
theorem put3_fr (w : World) (B : Nat) (a b c : Value) : Fr (fun k => k = B) w (put3 w B a b c) :=
  ((Fr.setCell (fun k => k = B) w ⟨B, 0, none⟩ a rfl).trans (Fr.setCell (fun k => k = B) _ ⟨B, 1, none⟩ b rfl)).trans (Fr.setCell (fun k => k = B) _ ⟨B, 2, none⟩ c rfl)
theorem put3_cells {w : World} {B : Nat} {a b c a' b' c' : Value} {t : TypeId} (h : w.heap[B]? = some (.cells #[a', b', c'] t (0, 0))) :
    (put3 w B a b c).cell? ⟨B, 0, none⟩ = some a ∧ (put3 w B a b c).cell? ⟨B, 1, none⟩ = some b ∧ (put3 w B a b c).cell? ⟨B, 2, none⟩ = some c := by
  have hbf := box_set2 (u := c) (box_set1 (u := b) (box_set0 (u := a) h))
  obtain ⟨f0, f1, f2, _, _, _⟩ := box_cells3 hbf
  exact ⟨f0, f1, f2⟩

theorem copy1_any (w0 : World) : DoK 95 #[] w0 (fun _ => True) (fun n => n) := by
  intro n W _ _
  go_enter Tryd.func95, Tryd.ntmps95
  go_wp2_with fail
  go_ret
  exact ⟨rfl, Quiet0.refl _⟩
theorem eg_copy : ∀ args w, (callFunc 95 args).run Tryd.prog w = .ok (.enter 95 args) w := enters_of Tryd.func95 (by kernel_rfl) rfl
set_option maxHeartbeats 1000000 in
theorem copy_any (k n : Int) (ps : Fo) (w : World) (o : Option Addr) (len cap : Nat) (hs : Slc w o len ps) (hsz : ps.size ≤ 1000000) :
    Calls Tryd.prog 53 #[tyv k n o len cap] w fun e w' => ∃ o' cap', e = .returned (tyv k n o' len cap') ∧ SlcIn (fun b => w.heap.size ≤ b) w' o' len ps ∧ Quiet0 w w' := by
  have HC := Lib.hid (change_any eg_copy (copy1_any w) k n ps ((w.alloc (.cells #[.int .i64 k, .int .i64 n, .slice o len cap] 24)).alloc (.cells #[.int .i64 0, .int .i64 0, .slice none 0 0] 24)) o len cap ((Quiet0.alloc _ _).trans (Quiet0.alloc _ _)) (hs.stay ((Quiet0.alloc _ _).trans (Quiet0.alloc _ _))) hsz trivial (allF_true (fun _ => trivial) ps))
  rw [Fo.change_id, show newN (fun n => n) k n = n from by unfold newN; split <;> rfl] at HC
  have hb1 : ((w.alloc (.cells #[.int .i64 k, .int .i64 n, .slice o len cap] 24)).alloc (.cells #[.int .i64 0, .int .i64 0, .slice none 0 0] 24)).heap[w.heap.size + 1]? = some (.cells #[.int .i64 0, .int .i64 0, .slice none 0 0] 24 (0, 0)) := by
    have := heap_alloc_new (w.alloc (.cells #[.int .i64 k, .int .i64 n, .slice o len cap] 24)) (.cells #[.int .i64 0, .int .i64 0, .slice none 0 0] 24)
    simpa using this
  have HB1 := Lib.hid hb1
  clear hs hb1
  unfold tyv at *
  go_enter Tryd.func53, Tryd.ntmps53
  go_wp2_with fail
  refine HC.out.mono ?_; rintro e w1 ⟨o2, cap2, rfl, hs2, hq1⟩
  have hb1 := box_after HB1.out hq1
  have HB2 := Lib.hid hb1
  obtain ⟨d0, d1, d2, y0, y1, y2⟩ := box_cells3 hb1
  have HS2 := Lib.hid hs2
  have HQ1 := Lib.hid hq1
  clear hs2 hq1 hb1
  go_wp2_with fail
  clear d0 d1 d2 y0 y1 y2
  have hf := put3_fr w1 (w.heap.size + 1) (.int .i64 k) (.int .i64 n) (.slice o2 len cap2)
  obtain ⟨f0, f1, f2⟩ := put3_cells (a := .int .i64 k) (b := .int .i64 n) (c := .slice o2 len cap2) HB2.out
  change bodyPost _ _ _ _ _ (put3 w1 (w.heap.size + 1) (.int .i64 k) (.int .i64 n) (.slice o2 len cap2))
  generalize put3 w1 (w.heap.size + 1) (.int .i64 k) (.int .i64 n) (.slice o2 len cap2) = wf at *
  refine bodyPost_ret (by simp [results, Tryd.results53, go_sem, f0, f1, f2]; rfl) rfl ?_
  refine ⟨o2, cap2, rfl, HS2.out.fr hf ?_, (((Quiet0.alloc _ _).trans (Quiet0.alloc _ _)).trans HQ1.out).trans' hf (fun kk hkk h => by omega)⟩
  intro kk _ hkk
  have hkk' : ((w.alloc (.cells #[.int .i64 k, .int .i64 n, .slice o len cap] 24)).alloc (.cells #[.int .i64 0, .int .i64 0, .slice none 0 0] 24)).heap.size ≤ kk := hkk
  simp at hkk'
  exact ⟨by omega, by omega⟩

theorem var_any (n : Int) (w : World) :
    Calls Tryd.prog 69 #[.int .i64 n] w fun e w' => e = .returned (tyv 1 n none 0 0) ∧ Quiet0 w w' := by
  unfold tyv
  go_enter Tryd.func69, Tryd.ntmps69
  go_wp2_with fail
  obtain ⟨f0, f1, f2⟩ := box_cells w 1 n none 0 0 24 _ (Quiet0.refl _)
  have hq := Quiet0.alloc w (.cells #[.int .i64 1, .int .i64 n, .slice none 0 0] 24)
  generalize w.alloc (.cells #[.int .i64 1, .int .i64 n, .slice none 0 0] 24) = wf at *
  refine bodyPost_ret (by simp [results, Tryd.results69, go_sem, f0, f1, f2]; rfl) rfl ?_
  exact ⟨rfl, hq⟩

def arrK : Fo → Int
  | .nil => 0
  | .cons k _ _ .nil => k
  | .cons _ _ _ (.cons _ _ _ _) => 4
def arrN : Fo → Int
  | .nil => 0
  | .cons _ n _ .nil => n
  | .cons _ _ _ (.cons _ _ _ _) => 0
def arrP : Fo → Fo
  | .nil => .nil
  | .cons _ _ ps .nil => ps
  | .cons k n ps (.cons k' n' ps' r) => .cons k n ps (.cons (arrK (.cons k' n' ps' r)) (arrN (.cons k' n' ps' r)) (arrP (.cons k' n' ps' r)) .nil)
def TArrow (f : Fo) : Prop := ∀ (w : World) (o : Option Addr) (len cap : Nat), Slc w o len f → len ≤ cap → f.size ≤ 1000000 →
    Calls Tryd.prog 20 #[.slice o len cap] w fun e w' => ∃ o' len' cap', e = .returned (tyv (arrK f) (arrN f) o' len' cap') ∧ SlcIn (fun b => w.heap.size ≤ b) w' o' len' (arrP f) ∧ Quiet0 w w'
theorem arrow_nil : TArrow .nil := by
  intro w o len cap hs hc hsz
  have hl : len = 0 := hs.1
  subst hl
  unfold tyv arrK arrN
  go_enter Tryd.func20, Tryd.ntmps20
  go_wp2_with fail
  obtain ⟨f0, f1, f2⟩ := box_cells w 0 0 none 0 0 24 _ (Quiet0.refl _)
  have hq := Quiet0.alloc w (.cells #[.int .i64 0, .int .i64 0, .slice none 0 0] 24)
  generalize w.alloc (.cells #[.int .i64 0, .int .i64 0, .slice none 0 0] 24) = wf at *
  refine bodyPost_ret (by simp [results, Tryd.results20, go_sem, f0, f1, f2]; rfl) rfl ?_
  exact ⟨none, 0, 0, rfl, SlcIn.nil _ _ _, hq⟩
theorem arrow_one (k n : Int) (ps : Fo) : TArrow (.cons k n ps .nil) := by
  intro w o len cap hs hc hsz
  have hl : len = 1 := hs.1
  subst hl
  obtain ⟨b, off, k', n', qs, o1, len1, cap1, rfl, hd, hg, e0, e1, e2, hs1⟩ := hs.nth (i := 0) (by omega)
  simp only [Fo.get] at hg
  cases hg
  have hsq : ps.size ≤ 1000000 := by simp only [Fo.size] at hsz; omega
  have HC := Lib.hid (copy_any k n ps (w.alloc (.cells #[.int .i64 0, .int .i64 0, .slice none 0 0] 24)) o1 len1 cap1 (hs1.stay (Quiet0.alloc _ _)) hsq)
  have HB1 := Lib.hid (heap_alloc_new w (.cells #[.int .i64 0, .int .i64 0, .slice none 0 0] 24))
  rw [Nat.zero_mul, Nat.add_zero] at e0 e1 e2
  have hbl := World.block_lt_of_cell? w _ e0
  clear hd hs hs1 hsz
  unfold tyv at *
  simp only [arrK, arrN, arrP]
  go_enter Tryd.func20, Tryd.ntmps20
  go_wp2_with fail
  refine HC.out.mono ?_; rintro e w1 ⟨o2, cap2, rfl, hs2, hq1⟩
  have hb1 := box_after HB1.out hq1
  have HB2 := Lib.hid hb1
  obtain ⟨d0, d1, d2, y0, y1, y2⟩ := box_cells3 hb1
  have HS2 := Lib.hid hs2
  have HQ1 := Lib.hid hq1
  clear hs2 hq1 hb1
  go_wp2_with fail
  clear d0 d1 d2 y0 y1 y2
  have hf := put3_fr w1 w.heap.size (.int .i64 k) (.int .i64 n) (.slice o2 len1 cap2)
  obtain ⟨f0, f1, f2⟩ := put3_cells (a := .int .i64 k) (b := .int .i64 n) (c := .slice o2 len1 cap2) HB2.out
  change bodyPost _ _ _ _ _ (put3 w1 w.heap.size (.int .i64 k) (.int .i64 n) (.slice o2 len1 cap2))
  generalize put3 w1 w.heap.size (.int .i64 k) (.int .i64 n) (.slice o2 len1 cap2) = wf at *
  refine bodyPost_ret (by simp [results, Tryd.results20, go_sem, f0, f1, f2]; rfl) rfl ?_
  refine ⟨o2, len1, cap2, rfl, HS2.out.fr hf ?_, ((Quiet0.alloc _ _).trans HQ1.out).trans' hf (fun kk hkk h => by omega)⟩
  intro kk _ hkk
  have hkk' : (w.alloc (.cells #[.int .i64 0, .int .i64 0, .slice none 0 0] 24)).heap.size ≤ kk := hkk
  simp at hkk'
  exact ⟨by omega, by omega⟩
set_option maxHeartbeats 2000000 in
theorem arrow_more (k n : Int) (ps : Fo) (k2 n2 : Int) (ps2 r : Fo) (ih : TArrow (.cons k2 n2 ps2 r)) : TArrow (.cons k n ps (.cons k2 n2 ps2 r)) := by
  intro w o len cap hs hc hsz
  have hl : len = r.length + 1 + 1 := hs.1
  have hmx := hs.2.1
  unfold maxLen at hmx
  obtain ⟨b, off, k', n', qs, o1, len1, cap1, rfl, hd, hg, e0, e1, e2, hs1⟩ := hs.nth (i := 0) (by omega)
  simp only [Fo.get] at hg
  cases hg
  have hsq : ps.size ≤ 1000000 := by simp only [Fo.size] at hsz; omega
  have HC := Lib.hid (copy_any k n ps)
  have hs2 : Slc w (some ⟨b, off + 3, none⟩) (len - 1) (.cons k2 n2 ps2 r) := by
    refine ⟨by simp only [Fo.length]; omega, by unfold maxLen; omega, fun _ => ⟨b, off + 3, rfl, ?_⟩⟩
    obtain ⟨b', off', he, ha⟩ := hs.2.2 (by omega)
    cases he
    exact ha.2.2.2
  have HB1 := Lib.hid (heap_alloc_new w (.cells #[.int .i64 0, .int .i64 0, .slice none 0 0] 24))
  rw [Nat.zero_mul, Nat.add_zero] at e0 e1 e2
  have hsz2 : (Fo.cons k2 n2 ps2 r).size ≤ 1000000 := by simp only [Fo.size] at hsz ⊢; omega
  have HS1 := Lib.hid hs1
  have HS2 := Lib.hid hs2
  have hlen2 : 2 ≤ len := by omega
  unfold TArrow at ih
  have IH := Lib.hid ih
  have j0 : (0 : Int) < (len : Int) := by omega
  have jn : 0 < len := by omega
  have j1 : (1 : Int) ≤ (len : Int) := by omega
  have j2 : (len : Int) ≤ (cap : Int) := by omega
  clear hd hs hs1 hs2 hsz hl ih
  unfold tyv at *
  have e4 : arrK (.cons k n ps (.cons k2 n2 ps2 r)) = 4 := rfl
  have e0' : arrN (.cons k n ps (.cons k2 n2 ps2 r)) = 0 := rfl
  have eP : arrP (.cons k n ps (.cons k2 n2 ps2 r)) = .cons k n ps (.cons (arrK (.cons k2 n2 ps2 r)) (arrN (.cons k2 n2 ps2 r)) (arrP (.cons k2 n2 ps2 r)) .nil) := rfl
  rw [e4, e0', eP]
  clear e4 e0' eP
  generalize arrP (.cons k2 n2 ps2 r) = pa at *
  generalize arrK (.cons k2 n2 ps2 r) = ka at *
  generalize arrN (.cons k2 n2 ps2 r) = na at *
  go_enter Tryd.func20, Tryd.ntmps20
  go_wp2_with fail
  obtain ⟨W0, hW0⟩ : ∃ W0, W0 = w.alloc (.cells #[.int .i64 0, .int .i64 0, .slice none 0 0] 24) := ⟨_, rfl⟩
  change Code.wp _ _ _ _ (w.alloc (.cells #[.int .i64 0, .int .i64 0, .slice none 0 0] 24))
  have HQ0 : Hid (Quiet0 w W0) := by rw [hW0]; exact Quiet0.alloc _ _
  have hz0 : w.heap.size + 1 = W0.heap.size := by rw [hW0]; simp
  have HZ := Lib.hid hz0
  rw [← hW0] at HB1 ⊢
  have g0 := HQ0.out.at e0
  have g1 := HQ0.out.at e1
  have g2 := HQ0.out.at e2
  have hbB : ¬ b = w.heap.size := by have := World.block_lt_of_cell? w _ e0; simp at this; omega
  clear hW0 e0 e1 e2 hz0
  generalize hB : w.heap.size = B at *
  have HBE := Lib.hid hB
  clear hB
  go_region_held3 (fun w' => w'.cell? ⟨b, off, none⟩ = some (.int .i64 k) ∧ w'.cell? ⟨b, off + 1, none⟩ = some (.int .i64 n) ∧ w'.cell? ⟨b, off + 2, none⟩ = some (.slice o1 len1 cap1))
    (first
      | (go_keep; done)
      | (exact ⟨h0, h1, h2⟩)
      | (exact ⟨f0, f1, f2⟩)
      | (exact ⟨g0, g1, g2⟩)
      | (have hp := put3_fr w4 B (.int .i64 4) (.int .i64 0) (.slice (some ⟨w4.heap.size, 0, none⟩) 2 2); exact ⟨(Quiet0.alloc _ _).at ((hp.cellb hb4l hbB).trans h0), (Quiet0.alloc _ _).at ((hp.cellb hb4l hbB).trans h1), (Quiet0.alloc _ _).at ((hp.cellb hb4l hbB).trans h2)⟩))
    (first
      | (go_at_call 53; refine (HC.out _ _ _ _ (HS1.out.stay (HQ0.out.trans (Quiet0.drew _))) hsq).mono ?_; rintro e w3 ⟨o2, cap2, rfl, hs3, hq3⟩; have f3 := (Quiet0.drew W0).trans hq3; have f0 := f3.at g0; have f1 := f3.at g1; have f2 := f3.at g2; have HQ3 := Lib.hid hq3; have HS3 := Lib.hid hs3; have HF3 := Lib.hid f3; clear hq3 hs3)
      | (go_at_call 20; refine (IH.out _ _ _ _ (HS2.out.stay (HQ0.out.trans HF3.out)) (by omega) hsz2).mono ?_; rintro e w4 ⟨o3, len3, cap3, rfl, hs4, hq4⟩; have h3 := HF3.out.trans hq4; have h0 := h3.at g0; have hb4l := World.block_lt_of_cell? w4 _ h0; have h1 := h3.at g1; have h2 := h3.at g2; have hb4 := box_after HB1.out h3; have hlt4 := lt_of_block hb4; obtain ⟨d0, d1, d2, y0, y1, y2⟩ := box_cells3 hb4; have HB4 := Lib.hid hb4; have HQ4 := Lib.hid hq4; have HS4 := Lib.hid hs4; have HF4 := Lib.hid h3; clear hq4 hs4 hb4))
  all_goals
    go_wp2_with fail
    clear d0 d1 d2 y0 y1 y2
    have hf := put3_fr w4 B (.int .i64 4) (.int .i64 0) (.slice (some ⟨w4.heap.size, 0, none⟩) 2 2)
    obtain ⟨p0, p1, p2⟩ := put3_cells (a := .int .i64 4) (b := .int .i64 0) (c := .slice (some ⟨w4.heap.size, 0, none⟩) 2 2) HB4.out
    have hps : (put3 w4 B (.int .i64 4) (.int .i64 0) (.slice (some ⟨w4.heap.size, 0, none⟩) 2 2)).heap.size = w4.heap.size := by simp [put3, World.setCell]
    change bodyPost _ _ _ _ _ ((put3 w4 B (.int .i64 4) (.int .i64 0) (.slice (some ⟨w4.heap.size, 0, none⟩) 2 2)).alloc (.cells #[.int .i64 k, .int .i64 n, .slice o2 len1 cap2, .int .i64 ka, .int .i64 na, .slice o3 len3 cap3] 24))
    generalize put3 w4 B (.int .i64 4) (.int .i64 0) (.slice (some ⟨w4.heap.size, 0, none⟩) 2 2) = w5 at *
    have hnew := heap_alloc_new w5 (.cells #[.int .i64 k, .int .i64 n, .slice o2 len1 cap2, .int .i64 ka, .int .i64 na, .slice o3 len3 cap3] 24)
    have hqa := Quiet0.alloc w5 (.cells #[.int .i64 k, .int .i64 n, .slice o2 len1 cap2, .int .i64 ka, .int .i64 na, .slice o3 len3 cap3] 24)
    generalize w5.alloc (.cells #[.int .i64 k, .int .i64 n, .slice o2 len1 cap2, .int .i64 ka, .int .i64 na, .slice o3 len3 cap3] 24) = wf at *
    rw [hps] at hnew
    have q0 := hqa.at p0
    have q1 := hqa.at p1
    have q2 := hqa.at p2
    refine bodyPost_ret (by simp [results, Tryd.results20, go_sem, q0, q1, q2]; rfl) rfl ?_
    have hbe := HBE.out
    have hz := HZ.out
    have hw3 := HF3.out.size
    have hw4 := HF4.out.size
    have hfa : Fr (fun kk => kk = B) w4 wf := hf.trans (hqa.mono (fun _ _ h => h.elim))
    refine ⟨some ⟨w4.heap.size, 0, none⟩, 2, 2, rfl, ⟨rfl, by decide, fun _ => ⟨w4.heap.size, 0, rfl, ?_⟩⟩, ((HQ0.out.trans HF4.out).trans' hfa (fun kk hkk h => by omega))⟩
    have hsa : SlcIn (fun kk => w.heap.size ≤ kk) wf o2 len1 ps := by
      refine (HS3.out.fr (T := fun kk => W0.heap.size ≤ kk) HQ4.out (fun kk _ h => ⟨h, fun h => h⟩)).fr hfa ?_
      intro kk _ h
      have h' : W0.heap.size ≤ kk := h
      exact ⟨by omega, by omega⟩
    have hsb : SlcIn (fun kk => w.heap.size ≤ kk) wf o3 len3 pa := by
      refine HS4.out.fr hfa ?_
      intro kk _ h
      have h' : w3.heap.size ≤ kk := h
      exact ⟨by omega, by omega⟩
    have hR : w.heap.size ≤ w4.heap.size := by omega
    exact ⟨hR, by rw [cell_of_row _ _ _ _ _ (0, 0) hnew]; rfl, by rw [cell_of_row _ _ _ _ _ (0, 0) hnew]; rfl, ⟨o2, len1, cap2, by rw [cell_of_row _ _ _ _ _ (0, 0) hnew]; rfl, hsa.1, hsa.2.1, hsa.2.2⟩,
      hR, by rw [cell_of_row _ _ _ _ _ (0, 0) hnew]; rfl, by rw [cell_of_row _ _ _ _ _ (0, 0) hnew]; rfl, ⟨o3, len3, cap3, by rw [cell_of_row _ _ _ _ _ (0, 0) hnew]; rfl, hsb.1, hsb.2.1, hsb.2.2⟩, trivial⟩
theorem arrow_any : ∀ f : Fo, TArrow f
  | .nil => arrow_nil
  | .cons k n ps .nil => arrow_one k n ps
  | .cons k n ps (.cons k2 n2 ps2 r) => arrow_more k n ps k2 n2 ps2 r (arrow_any (.cons k2 n2 ps2 r))
end Go.Proofs.YtggidhgifaekbaaDoor
