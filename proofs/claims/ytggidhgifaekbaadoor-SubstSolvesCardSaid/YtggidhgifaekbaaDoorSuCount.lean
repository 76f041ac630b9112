/-
  The program's count and table on binds. Conditions: the binds lie in memory as told; their variables are in range; there are few.
-/
import Derived.Test.YtggidhgifaekbaaDoorSuMem
namespace Go.Proofs.YtggidhgifaekbaaDoor
open Go.RowKit Go.Maps

def numB (l : List Bd) (v : Int) : Int := ((l.filter (fun t => t.1 == v)).length : Int)
theorem numB_zero (l : List Bd) (v : Int) : (numB l v == 0) = !hasB l v := by
  unfold numB hasB
  rw [Bool.eq_iff_iff]
  simp
theorem numB_snoc (l : List Bd) (t : Bd) (v : Int) : numB (l ++ [t]) v = if v = t.1 then numB l t.1 + 1 else numB l v := by
  unfold numB
  rw [List.filter_append, List.length_append]
  by_cases h : v = t.1
  · subst h; simp
  · have : (t.1 == v) = false := by simp; exact fun e => h e.symm
    simp [h, this]
theorem numB_le (l : List Bd) (v : Int) : 0 ≤ numB l v ∧ numB l v ≤ l.length := by
  unfold numB
  have := List.length_filter_le (fun t : Bd => t.1 == v) l
  omega
theorem wpList_append_at {P : Program} (W : World) (H : Nat) (hH : H = W.heap.size) {ops : Array Oper} {rest : List Oper} {o : Oper} {a : Act} {Q : Exit → Act → World → Prop}
    (hg : o.guard = none) (s x : Operand) (t : TypeId) (hop : o.op = Op.call { callee := Callee.builtin Builtin.append, args := #[s, x], argTypes := #[t, t] })
    (e : TypeId) (z : Value) (size bytes : Nat) (he : Elem P t e z size bytes)
    (v : Value) (n : Nat) (xs : List Value) (hs : a.eval s = v) (hown : W.ownsRow 0 e size v n xs)
    (news : Array Value) (hx : a.eval x = .slice (some ⟨H, 0, none⟩) 1 1) (hn : news.size = size) (h1c : ∀ u ∈ news.toList, u.oneCell' = true)
    (b1 : n + 1 ≤ maxLen) (b2 : (n + 1) * bytes ≤ 140737488355328)
    (hK : ∀ g c w', w'.ownsRow 0 e size (.slice (some ⟨g, 0, none⟩) (n + 1) c) (n + 1) (xs ++ news.toList) → Fr (fun k => v.ownBlock = some k) W w' → (v.ownBlock = some g ∨ W.heap.size ≤ g) → wpList P ops Q rest (a.put o.dst (.slice (some ⟨g, 0, none⟩) (n + 1) c)) w') :
    wpList P ops Q (o :: rest) a (W.alloc (.cells news e)) := by
  subst hH
  exact wpList_append_one W hg s x t hop e z size bytes he v n xs hs hown news hx hn h1c b1 b2 hK
set_option maxHeartbeats 4000000 in
set_option maxRecDepth 100000 in
theorem count_any (l : List Bd) (w : World) (o : Option Addr) (cap : Nat) (hs : BindsAt w o l) (hw : ∀ t ∈ l, wfI t.1) (hz : l.length ≤ 100000) :
    Calls Tryd.prog 98 #[.slice o l.length cap] w fun e w' => ∃ a c, e = .returned (.slice a (firstB l).length c) ∧ BindsAt w' a (firstB l) ∧ Quiet0 w w' := by
  have HS := Lib.hid hs
  have HW := Lib.hid hw
  have hmm := @run_makeMap Tryd.prog
  clear hs hw
  go_enter Tryd.func98, Tryd.ntmps98
  go_wp2_with fail
  go_loopw [4, 10] (fun v t wr => ∃ (i : Nat) (a : Option Addr) (c : Nat) (xs : List Value), t = .int .i64 i ∧ i ≤ l.length ∧ v = .slice a (firstB (l.take i)).length c ∧ MapOf wr w.heap.size i (numB (l.take i)) ∧ wr.ownsRow 0 91 4 v (firstB (l.take i)).length xs ∧ RowB (fun k => k < w.heap.size) wr xs (firstB (l.take i)) ∧ (∀ g, v.ownBlock = some g → w.heap.size < g) ∧ Quiet0 w wr) (fun _ t _ => l.length - (intOf t).toNat)
  case atStart => exact ⟨0, none, 0, [], rfl, Nat.zero_le _, rfl, (MapOf.made w).cong (fun _ _ => rfl), World.ownsRow_nil _ _ _ _, rfl, (fun g hg => by cases hg), Quiet0.alloc _ _⟩
  case round =>
    obtain ⟨i, a, c, xs, rfl, hi, rfl, hm, hrow, hrb, hge, hq⟩ := hrel
    have HM := Lib.hid hm
    have HROW := Lib.hid hrow
    have HRB := Lib.hid hrb
    have HG := Lib.hid hge
    have HQ := Lib.hid hq
    clear hm hrow hrb hge hq
    by_cases hlt : i < l.length
    · have hlt' : (i : Int) < l.length := by omega
      obtain ⟨t, ht⟩ : ∃ t, l[i]? = some t := ⟨_, List.getElem?_eq_getElem hlt⟩
      obtain ⟨b, off, o1, len1, cap1, rfl, e0, e1, e2, e3, hs1⟩ := HS.out.stay HQ.out i t ht
      obtain ⟨b', off', o1', len1', cap1', hoo, _, _, _, f3, hs0⟩ := HS.out i t ht
      cases hoo
      have f3' := HQ.out.at f3
      rw [e3] at f3'
      cases f3'
      have HT := Lib.hid ht
      have HWT := Lib.hid (HW.out t (List.mem_of_getElem? ht))
      have HNT : Hid (l.take (i + 1) = l.take i ++ [t]) := by show _ = _; rw [List.take_add_one, ht]; rfl
      have HS0 := Lib.hid hs0.lt
      obtain ⟨v, k, n, ps⟩ := t
      simp only at e0 e1 e2 e3 hs1 hs0
      have hb0 := heap_alloc_new wr (.cells #[.int .i64 v, .int .i64 k, .int .i64 n, .slice o1 len1 cap1] 91)
      have HB0 := Lib.hid hb0
      have HMA := Lib.hid (HM.out.stay (Quiet0.alloc wr (.cells #[.int .i64 v, .int .i64 k, .int .i64 n, .slice o1 len1 cap1] 91)))
      have hlk := HMA.out.look HWT.out
      have hmlt := HM.out.lt
      have hfl := first_len (l.take i) []
      have hfl2 : (firstB (l.take i)).length ≤ i := by
        have h := hfl
        rw [List.length_take] at h
        simp at h
        exact Nat.le_trans h (by omega)
      have hnb := numB_le (l.take i) v
      have hnb2 : numB (l.take i) v ≤ 100000 := by have := hnb.2; rw [List.length_take] at this; omega
      have hwr : IntKind.i64.wrap (numB (l.take i) v + 1) = numB (l.take i) v + 1 := IntWalk.i64_in _ (by omega)
      clear ht f3 hs1 hs0 hb0 hfl
      have HRB2 : Hid (∀ W, Fr (fun j => w.heap.size ≤ j) wr W → RowB (fun j => j < w.heap.size) W xs (firstB (l.take i))) := fun W hf => RowB.fr hf (fun j _ hj => ⟨hj, by omega⟩) _ _ HRB.out
      have HFS : Hid (firstB (l.take (i + 1)) = firstStep (firstB (l.take i)) (v, k, n, ps)) := by show _ = _; rw [HNT.out, firstB_snoc]
      have HNS : Hid (∀ x, numB (l.take (i + 1)) x = if x = v then numB (l.take i) v + 1 else numB (l.take i) x) := by intro x; rw [HNT.out, numB_snoc]
      have HFH := Lib.hid (first_has (l.take i) v)
      cases hh : hasB (l.take i) v
      · have hz0 : (numB (l.take i) v == 0) = true := by rw [numB_zero, hh]; rfl
        have hN0 : numB (l.take i) v = 0 := eq_of_beq hz0
        have HFS2 : Hid (firstB (l.take (i + 1)) = firstB (l.take i) ++ [(v, k, n, ps)]) := by
          show _ = _
          rw [HFS.out]; unfold firstStep; rw [HFH.out, hh]; rfl
        have HN0 := Lib.hid hN0
        rw [hN0] at hlk
        clear hh hz0 hN0 hwr hnb hnb2
        generalize hfb : (firstB (l.take i)).length = fl at *
        have HFB := Lib.hid hfb
        clear hfb
        go_wp2_with (at_builtin; go_must (refine wpList_append_at (wr.alloc (.cells #[.int .i64 v, .int .i64 k, .int .i64 n, .slice o1 len1 cap1] 91)) (wr.heap.size + 1) (by simp) rfl (.tmp 19) (.tmp 21) 49 rfl 91 _ 4 48 elemBd (.slice a fl c) fl xs rfl (HROW.out.alloc _) #[.int .i64 v, .int .i64 k, .int .i64 n, .slice o1 len1 cap1] rfl rfl ?c1 ?c2 ?c3 ?_))
        case c1 => simp [Value.oneCell']
        case c2 => unfold maxLen; omega
        case c3 => omega
        intro g2 c' w2 ho hf hg2
        have hown : ∀ j, (Value.slice a fl c).ownBlock = some j → w.heap.size < j ∧ j < wr.heap.size := fun j h => ⟨HG.out j h, (HROW.out.lt j h).2⟩
        have HB2 : Hid (w2.heap[wr.heap.size]? = some (.cells #[.int .i64 v, .int .i64 k, .int .i64 n, .slice o1 len1 cap1] 91 (0, 0))) := by
          show _ = _
          rw [hf.block wr.heap.size (by simp) (fun h => by have := (hown _ h).2; omega)]; exact HB0.out
        have HM2 := Lib.hid (HMA.out.fr hf (fun h => by have := (hown _ h).1; omega))
        have hlk2 := HM2.out.look HWT.out
        rw [HN0.out] at hlk2
        have z0 : w2.cell? ⟨wr.heap.size, 0, none⟩ = some (.int .i64 v) := by rw [cell_of_row _ _ _ _ _ (0, 0) HB2.out]; rfl
        have HF2 : Hid (Fr (fun j => w.heap.size ≤ j) wr w2) := (Fr.alloc _ _ _).trans' hf (fun j hj h => Nat.le_of_lt (hown j h).1)
        have HO2 := Lib.hid ho
        have HG2 : Hid (w.heap.size < g2) := by
          rcases hg2 with h | h
          · exact (hown _ h).1
          · have h' : wr.heap.size + 1 ≤ g2 := by simpa using h
            have := HM.out.lt
            show w.heap.size < g2
            omega
        clear ho hf hg2 hown hlk
        go_wp2_with (at_mapUpdate; go_must (refine wpList_store _ rfl _ _ _ rfl rfl HM2.out ?hn v 1 HWT.out (wfI_of (by omega) (by omega)) rfl rfl ?_))
        case hn => unfold maxLen; omega
        intro w3 hm3 hf3
        have HF3 : Hid (Fr (fun j => w.heap.size ≤ j) wr w3) := HF2.out.trans (hf3.mono (fun j _ h => by have h' : j = w.heap.size := h; omega))
        have HM3 : Hid (MapOf w3 w.heap.size (i + 1) (numB (l.take (i + 1)))) := hm3.cong (fun x _ => by
          rw [HNS.out, HN0.out]; rfl)
        have HO3 := Lib.hid (ownsRow_fr HO2.out hf3 (fun j hj h => by simp [Value.ownBlock] at hj; have h' : j = w.heap.size := h; have := HG2.out; omega))
        clear hm3 hf3 hlk2 z0
        go_wp2_with fail
        go_roundw
        case rel =>
          refine ⟨i + 1, some ⟨g2, 0, none⟩, c', xs ++ [.int .i64 v, .int .i64 k, .int .i64 n, .slice o1 len1 cap1], by go_num, by omega, ?_, HM3.out, ?_, ?_, ?_, ?_⟩
          · rw [HFS2.out, List.length_append, HFB.out]; rfl
          · rw [HFS2.out, List.length_append, HFB.out]; simpa using HO3.out
          · rw [HFS2.out]
            exact RowB.snoc (t := (v, k, n, ps)) ((HS0.out.fr HQ.out (fun j _ hj => ⟨hj, fun h => h⟩)).fr HF3.out (fun j _ hj => ⟨hj, by have hj' : j < w.heap.size := hj; omega⟩)) _ _ (HRB2.out _ HF3.out)
          · intro g hg; simp [Value.ownBlock] at hg; subst hg; exact HG2.out
          · exact Fr.trans' HQ.out HF3.out (fun j hj h => by omega)
        case measure => simp [intOf]; omega
      · have hz0 : (numB (l.take i) v == 0) = false := by rw [numB_zero, hh]; rfl
        have HFS2 : Hid (firstB (l.take (i + 1)) = firstB (l.take i)) := by
          show _ = _
          rw [HFS.out]; unfold firstStep; rw [HFH.out, hh]; rfl
        obtain ⟨q, hq'⟩ : ∃ q, q = numB (l.take i) v := ⟨_, rfl⟩
        rw [← hq'] at hlk hz0 hwr hnb hnb2
        have HQ' := Lib.hid hq'
        have hqwf : wfI (q + 1) := wfI_of (by omega) (by omega)
        clear hh hq'
        generalize hfb : (firstB (l.take i)).length = fl at *
        have HFB := Lib.hid hfb
        clear hfb
        go_wp2_with (at_mapUpdate; go_must (refine wpList_store _ rfl _ _ _ rfl rfl HMA.out ?hn v (q + 1) HWT.out hqwf rfl rfl ?_))
        case hn => unfold maxLen; omega
        intro w3 hm3 hf3
        have HF3 : Hid (Fr (fun j => w.heap.size ≤ j) wr w3) := (Fr.alloc _ _ _).trans (hf3.mono (fun j _ h => by have h' : j = w.heap.size := h; omega))
        have HM3 : Hid (MapOf w3 w.heap.size (i + 1) (numB (l.take (i + 1)))) := hm3.cong (fun x _ => by
          rw [HNS.out, ← HQ'.out])
        have HO3 := Lib.hid (ownsRow_fr (HROW.out.alloc _) hf3 (fun j hj h => by have h' : j = w.heap.size := h; have := HG.out j hj; omega))
        clear hm3 hf3 hlk
        go_wp2_with fail
        go_roundw
        case rel =>
          refine ⟨i + 1, a, c, xs, by go_num, by omega, ?_, HM3.out, ?_, ?_, HG.out, ?_⟩
          · rw [HFS2.out, HFB.out]
          · rw [HFS2.out, HFB.out]; exact HO3.out
          · rw [HFS2.out]; exact HRB2.out _ HF3.out
          · exact Fr.trans' HQ.out HF3.out (fun j hj h => by omega)
        case measure => simp [intOf]; omega
    · have hlt' : ¬ (i : Int) < l.length := by omega
      have htk : l.take i = l := List.take_of_length_le (by omega)
      rw [htk] at HROW HRB
      rw [htk]
      have HBA : Hid (BindsAt wr a (firstB l)) := by
        rcases HROW.out.2 with ⟨he, h0⟩ | ⟨g, cap', cur, he, _⟩
        · intro j u hu
          rw [List.length_eq_zero_iff.1 h0] at hu; simp at hu
        · injection he with h1 h2 h3
          subst h1
          exact RowB.binds HRB.out HROW.out
      clear htk
      go_wp2_with fail
      go_ret
      exact ⟨_, ⟨_, rfl⟩, HBA.out, HQ.out⟩
end Go.Proofs.YtggidhgifaekbaaDoor
