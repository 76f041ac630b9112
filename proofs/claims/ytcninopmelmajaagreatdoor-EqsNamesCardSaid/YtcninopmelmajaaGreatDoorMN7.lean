/-
  Texts laid together (TeAll, TeCopy, ScAround, App, TeListN, ScList): laws and walks, with their conditions.
-/
import Derived.Shelf.RegionOpen
import Derived.OwnWalkIn
import Derived.TacticsInMore
import Derived.LoopNIn
import Derived.LoopIn
import Derived.Sort.CutIn
import Derived.Laws.EntriesVeiled
import Derived.Test.YtcninopmelmajaaGreatDoorMN6
set_option maxHeartbeats 8000000
set_option maxRecDepth 1000000
namespace Go.Proofs.YtcninopmelmajaaGreatDoor
open Go.Lib (hid)
section
open Go.RowKit Go.Shelf
attribute [local go_sem] Oper.semAt_some
def EncT (R : Nat -> Prop) (i : Nat) (x : Nd × To) (va : Array Value) (W : World) : Prop :=
 ∃ o1 l1 c1 o2 l2 c2, va = #[.int .i64 (i : Int), tmv x.1 o1 l1 c1 o2 l2 c2] /\ SlcIn R W o1 l1 x.1.tp /\ TSlc R W o2 l2 x.2
structure Boxes (nb yb wb l : Nat) (W : World) (i : Nat) : Prop where
 n : W.heap[nb]? = some (.cells #[.int .i64 (i : Int)] 3 (0, 0))
 y : W.heap[yb]? = some (.cells #[.func (.yield l) #[] #[]] 134 (0, 0))
 w : W.heap[wb]? = some (.cells #[.func (.func 84) #[] #[.pointer (some ⟨nb, 0, none⟩), .pointer (some ⟨yb, 0, none⟩), .pointer (some ⟨wb, 0, none⟩)]] 30 (0, 0))
theorem Boxes.fr {nb yb wb l : Nat} {S : Nat -> Prop} {W W' : World} {i : Nat} (h : Boxes nb yb wb l W i) (hf : Fr S W W') (h1 : ¬ S nb) (h2 : ¬ S yb) (h3 : ¬ S wb) : Boxes nb yb wb l W' i :=
 ⟨(hf.block _ (lt_of_block h.n) h1).trans h.n, (hf.block _ (lt_of_block h.y) h2).trans h.y, (hf.block _ (lt_of_block h.w) h3).trans h.w⟩
theorem cnt_step : ∀ (f : To) (m : Nat) (h : Nd) (qs : To), f.get m = some (h, qs) -> (f.drop m).size = 1 + qs.size + (f.drop (m + 1)).size /\ (f.drop m).size <= f.size /\ ∀ j x, (To.cons h qs .nil).flat[j]? = some x -> f.flat[f.size - (f.drop m).size + j]? = some x
 | .nil, m, h, qs, e => by simp [To.get] at e
 | .cons h' ps r, 0, h, qs, e => by
  simp [To.get] at e
  obtain ⟨rfl, rfl⟩ := e
  refine ⟨by simp [To.drop, To.drop_zero, To.size]; omega, by simp [To.drop], fun j x hj => ?_⟩
  have hlt := (List.getElem?_eq_some_iff.1 hj).1
  simp only [To.drop, Nat.sub_self, Nat.zero_add]
  rw [show (To.cons h' ps r).flat = (To.cons h' ps .nil).flat ++ r.flat from by simp [To.flat], List.getElem?_append_left hlt]
  exact hj
 | .cons h' ps r, m + 1, h, qs, e => by
  obtain ⟨e1, e2, e3⟩ := cnt_step r m h qs e
  simp only [To.drop]
  refine ⟨e1, by simp only [To.size]; omega, fun j x hj => ?_⟩
  have h3 := e3 j x hj
  rw [show (To.cons h' ps r).flat = ((h', ps) :: ps.flat) ++ r.flat from by simp [To.flat], List.getElem?_append_right (by simp [To.size, To.flat_length]; omega)]
  rw [<- h3]
  congr 1
  simp [To.size, To.flat_length]; omega
section
variable (R : Nat -> Prop) (l nb yb wb L0 : Nat) (xs : List (Nd × To)) (J : Nat -> (Nat -> Prop) -> World -> Prop) (Jx : World -> Prop)
def TWalk (h : Nd) (ps : To) : Prop := ∀ (n i : Nat) (D : Nat -> Prop) (W : World) (o1 : Option Addr) (l1 c1 : Nat) (o2 : Option Addr) (l2 c2 : Nat), J i D W -> Boxes nb yb wb l W i -> SlcIn R W o1 l1 h.tp -> TSlc R W o2 l2 ps ->
 (∀ k, D k -> k ≠ nb /\ k ≠ yb /\ k ≠ wb) -> (∀ j x, (To.cons h ps .nil).flat[j]? = some x -> xs[i + j]? = some x) -> i + ps.size + 1 <= 1000000 ->
 CallsIn Fence.wide n Tryz.prog 84 #[tmv h o1 l1 c1 o2 l2 c2, .pointer (some ⟨nb, 0, none⟩), .pointer (some ⟨yb, 0, none⟩), .pointer (some ⟨wb, 0, none⟩)] W fun e W' =>
  (e = .returned (.bool true) /\ ∃ D', J (i + ps.size + 1) D' W' /\ Boxes nb yb wb l W' (i + ps.size + 1) /\ Fr (fun k => D k ∨ k = nb) W W' /\ ∀ k, D' k -> D k ∨ W.heap.size <= k) ∨ (e = .returned (.bool false) /\ Jx W')
end
theorem walk_any (R : Nat -> Prop) (l nb yb wb L0 : Nat) (xs : List (Nd × To)) (J : Nat -> (Nat -> Prop) -> World -> Prop) (Jx : World -> Prop)
    (hRb : ∀ k, R k -> k < L0) (hnb : L0 <= nb /\ L0 <= yb /\ L0 <= wb /\ nb ≠ yb /\ nb ≠ wb)
    (hown : ∀ i D A, J i D A -> ∀ k, D k -> k < A.heap.size /\ ¬ R k)
    (hst : ∀ i D A B, J i D A -> Fr (fun k => L0 <= k /\ ¬ D k) A B -> J i D B)
    (hY : ∀ m i x va D W1, xs[i]? = some x -> EncT R i x va W1 -> J i D W1 -> YieldAt Fence.wide m Tryz.prog l va W1 fun e W' =>
     (e = .returned (.bool true) /\ ∃ D', J (i + 1) D' W' /\ Fr D W1 W' /\ ∀ k, D' k -> D k ∨ W1.heap.size <= k) ∨ (e = .returned (.bool false) /\ Jx W'))
    (h : Nd) (ps : To) : TWalk R l nb yb wb xs J Jx h ps := by
 refine To.ind' (T := TWalk R l nb yb wb xs J Jx) ?_ h ps
 intro h ps ih n i D W o1 l1 c1 o2 l2 c2 hJ hB hs ht hD hx hz
 have IH := hid ih
 have HD := hid hD
 have HX := hid hx
 have hmx := ht.2.1
 have HL := hid ht.1
 have hlen := To.length_le ps
 unfold maxLen at hmx
 obtain ⟨W1, hW1⟩ : ∃ W1, W1 = W.alloc (.cells (cells9 h o1 l1 c1 o2 l2 c2) 29) := ⟨_, rfl⟩
 obtain ⟨tb, htb⟩ : ∃ tb, tb = W.heap.size := ⟨_, rfl⟩
 have hq1 : Fr (fun _ => False) W W1 := by rw [hW1]; exact Fr.alloc _ _ _
 have hb1 : Boxes nb yb wb l W1 i := hB.fr hq1 (fun h => h) (fun h => h) (fun h => h)
 have ht1 : W1.heap[tb]? = some (.cells (cells9 h o1 l1 c1 o2 l2 c2) 29 (0, 0)) := by rw [hW1, htb]; exact heap_alloc_new _ _
 have hnt : tb ≠ nb /\ tb ≠ yb /\ tb ≠ wb := ⟨fun e => by have := lt_of_block hB.n; omega, fun e => by have := lt_of_block hB.y; omega, fun e => by have := lt_of_block hB.w; omega⟩
 obtain ⟨W2, hW2⟩ : ∃ W2, W2 = W1.setCell ⟨nb, 0, none⟩ (.int .i64 ((i : Int) + 1)) := ⟨_, rfl⟩
 have hq2 : Fr (fun k => k = nb) W1 W2 := by rw [hW2]; exact Fr.setCell _ _ _ _ rfl
 have hb2 : Boxes nb yb wb l W2 (i + 1) := ⟨by rw [hW2]; exact one_setCell hb1.n, (hq2.block _ (lt_of_block hb1.y) (fun e => hnb.2.2.2.1 e.symm)).trans hb1.y, (hq2.block _ (lt_of_block hb1.w) (fun e => hnb.2.2.2.2 e.symm)).trans hb1.w⟩
 have ht2 := (hq2.block _ (lt_of_block ht1) hnt.1).trans ht1
 have hJ2 : J i D W2 := hst i D W W2 hJ ((hq1.mono (fun k _ h => h.elim)).trans (hq2.mono (fun k _ e => ⟨by omega, fun hd => (hD k hd).1 (by omega)⟩)))
 have hs2 : SlcIn R W2 o1 l1 h.tp := (hs.fr hq1 (fun k _ hk => ⟨hk, fun h => h⟩)).fr hq2 (fun k _ hk => ⟨hk, fun e => by have := hRb k hk; omega⟩)
 have ht3 : TSlc R W2 o2 l2 ps := (ht.fr hq1 (fun k _ hk => ⟨hk, fun h => h⟩)).fr hq2 (fun k _ hk => ⟨hk, fun e => by have := hRb k hk; omega⟩)
 have hsz1 : W1.heap.size = tb + 1 := by rw [hW1, htb]; simp
 have hsz2 : W1.heap.size <= W2.heap.size := hq2.size
 have hy := fun m => hY m i (h, ps) #[.int .i64 (i : Int), tmv h o1 l1 c1 o2 l2 c2] D W2 (by have := hx 0 (h, ps) rfl; simpa using this) ⟨o1, l1, c1, o2, l2, c2, rfl, hs2, ht3⟩ hJ2
 obtain ⟨fn, tmps, assign, body, hyr, hR⟩ := hy (n - 1)
 have HR := hid hR
 have HW12 : Hid (Fr (fun k => D k ∨ k = nb) W W2) := (hq1.mono (fun k _ h => h.elim)).trans (hq2.mono (fun k _ e => .inr e))
 have cn1 := cell_of_one hb1.n
 have zn1 := free_of_one hb1.n
 have cy2 := cell_of_one hb2.y
 have cw2 := cell_of_one hb2.w
 have cn2 := cell_of_one hb2.n
 have HB2 := hid hb2
 have HT2 := hid ht2
 have HJ2 := hid hJ2
 obtain ⟨a0, a1, a2, a3, a4, a5, a6, a7, a8⟩ := cells9_block ht2
 have hW2' : W2 = (W.alloc (.cells (cells9 h o1 l1 c1 o2 l2 c2) 29)).setCell ⟨nb, 0, none⟩ (.int .i64 ((i : Int) + 1)) := by rw [hW2, hW1]
 rw [hW1] at cn1 zn1
 have HTS := hid ht3
 have HTL : Hid (tb < W2.heap.size) := lt_of_block ht2
 have HDW : Hid (∀ k, D k -> k < tb) := fun k hk => by rw [htb]; exact (hown _ _ _ hJ k hk).1
 have HST := hid hst
 clear hs ht ih hD hx hJ hB hq1 hq2 hb1 ht1 hb2 ht2 hJ2 hs2 ht3 hy hR hY hst hsz1 hsz2
 unfold tmv
 refine callsIn_of_wp Tryz.func84 rfl trivial ?_ rfl
 simp only [Tryz.ntmps84, List.size_toArray, List.length_cons, List.length_nil, Nat.reduceAdd, Nat.reduceSub, Array.replicate_succ, Array.replicate_zero, List.push_toArray, List.append_toArray, List.nil_append, List.cons_append]
 gi_upto_region 2 with fail
 change Code.wpIn _ _ _ _ _ _ ((W.alloc (.cells (cells9 h o1 l1 c1 o2 l2 c2) 29)).setCell ⟨nb, 0, none⟩ (.int .i64 ((i : Int) + 1)))
 rw [<- hW2', <- htb]
 clear hW2' hW2 hW1 htb cn1 zn1
 unfold tmv at hyr
 gi_wp2
 refine ⟨fun h => (by cases h), HR.out.mono ?_⟩
 rintro e W3 (⟨rfl, D3, hJ3, hf3, hd3⟩ | ⟨rfl, hx3⟩)
 ·have hb3 := HB2.out.fr hf3 (fun hk => (HD.out _ hk).1 rfl) (fun hk => (HD.out _ hk).2.1 rfl) (fun hk => (HD.out _ hk).2.2 rfl)
  have htD : ¬ D tb := fun hk => by have := (hown _ _ _ HJ2.out _ hk).1; have := HTL.out; have := HDW.out _ hk; omega
  have ht3 := (hf3.block _ (lt_of_block HT2.out) htD).trans HT2.out
  have HB3 := hid hb3
  have HJ3 := hid hJ3
  have HF3 := hid hf3
  have HD3 := hid hd3
  have HS3 : Hid (TSlc R W3 o2 l2 ps) := HTS.out.fr hf3 (fun k _ hk => ⟨hk, fun hd => (hown _ _ _ HJ2.out k hd).2 hk⟩)
  clear a0 a1 a2 a3 a4 a5 a6 a7 a8 cn2 cy2 cw2
  obtain ⟨a0, a1, a2, a3, a4, a5, a6, a7, a8⟩ := cells9_block ht3
  clear hJ3 hf3 hd3 hb3 ht3
  gi_wp2
  gi_loopw [19] (fun t wr => ∃ (m : Nat) (D' : Nat -> Prop), t = .int .i64 m /\ m <= l2 /\ J (i + 1 + (ps.size - (ps.drop m).size)) D' wr /\ Boxes nb yb wb l wr (i + 1 + (ps.size - (ps.drop m).size)) /\ Fr (fun k => D3 k ∨ k = nb ∨ W3.heap.size <= k) W3 wr /\ ∀ k, D' k -> D3 k ∨ W3.heap.size <= k) (fun t wr => l2 - (intOf t).toNat)
  case atStart => exact ⟨0, D3, rfl, Nat.zero_le _, by rw [To.drop_zero, Nat.sub_self]; exact HJ3.out, by rw [To.drop_zero, Nat.sub_self]; exact HB3.out, Fr.refl _ _, fun k hk => .inl hk⟩
  case round =>
   obtain ⟨m, D', rfl, hm, hj, hb, hf, hd⟩ := hrel
   by_cases hlt : m < l2
   ·have hlt' : (m : Int) < l2 := by omega
    have hts : TSlc R wr o2 l2 ps := HS3.out.fr hf (fun k hk hr => ⟨hr, fun hs => by
     rcases hs with hs | hs | hs
     ·exact (hown _ _ _ HJ3.out k hs).2 hr
     ·have := hRb k hr; omega
     ·omega⟩)
    obtain ⟨b, off, hd1, qs, p1, m1, d1, p2, m2, d2, rfl, hdr, hg, hRbb, hc9, hs1, ht1⟩ := hts.nth hlt
    obtain ⟨q1, q2, q3⟩ := cnt_step ps m hd1 qs hg
    obtain ⟨W4, hW4⟩ : ∃ W4, W4 = wr.alloc (.cells (cells9 hd1 p1 m1 d1 p2 m2 d2) 29) := ⟨_, rfl⟩
    have hq4 : Fr (fun _ => False) wr W4 := by rw [hW4]; exact Fr.alloc _ _ _
    have hc4 : Cells9 W4 wr.heap.size 0 hd1 p1 m1 d1 p2 m2 d2 := by rw [hW4]; exact cells9_new _ _ _ _ _ _ _ _ _
    have hnd : ∀ k, D' k -> k ≠ nb /\ k ≠ yb /\ k ≠ wb := fun k hk => by
     have e1 := lt_of_block HB3.out.n
     have e2 := lt_of_block HB3.out.y
     have e3 := lt_of_block HB3.out.w
     rcases hd k hk with h | h
     ·rcases HD3.out k h with h | h
      ·exact HD.out k h
      ·have f1 := lt_of_block HB2.out.n
       have f2 := lt_of_block HB2.out.y
       have f3 := lt_of_block HB2.out.w
       omega
     ·omega
    have HC := hid (IH.out m hd1 qs hg (n - 1) (i + 1 + (ps.size - (ps.drop m).size)) D' W4 p1 m1 d1 p2 m2 d2 (HST.out _ _ _ _ hj (hq4.mono (fun k _ h => h.elim))) (hb.fr hq4 (fun h => h) (fun h => h) (fun h => h)) (hs1.fr hq4 (fun k _ hk => ⟨hk, fun h => h⟩)) (ht1.fr hq4 (fun k _ hk => ⟨hk, fun h => h⟩)) hnd
     (fun j x hj => by
      have h1 := q3 j x hj
      have h2 := HX.out (1 + (ps.size - (ps.drop m).size) + j) x (by
       rw [show 1 + (ps.size - (ps.drop m).size) + j = (ps.size - (ps.drop m).size + j) + 1 from by omega]
       simpa [To.flat] using h1)
      rw [<- h2]; congr 1; omega) (by omega))
    have HEQ : Hid (i + 1 + (ps.size - (ps.drop m).size) + qs.size + 1 = i + 1 + (ps.size - (ps.drop (m + 1)).size)) := by show _ = _; have := To.size_drop ps (m + 1); omega
    have cw4 := cell_of_one (hb.fr hq4 (fun h => h) (fun h => h) (fun h => h)).w
    obtain ⟨z0, z1, z2, z3, z4, z5, z6, z7, z8⟩ := hc9
    obtain ⟨y0, y1, y2, y3, y4, y5, y6, y7, y8⟩ := hc4
    have HF := hid hf
    have HDD := hid hd
    have HQ4 := hid hq4
    unfold tmv at HC
    clear hf hd hj hb hq4 q1 q2 q3 hts hdr hg hs1 ht1 hnd hRbb a0 a1 a2 a3 a4 a5 a6 a7 a8
    gi_upto_region 7 with fail
    change Code.wpIn _ _ _ _ _ _ (wr.alloc (.cells (cells9 hd1 p1 m1 d1 p2 m2 d2) 29))
    rw [<- hW4]
    generalize wr.heap.size = pb at *
    clear hW4 z0 z1 z2 z3 z4 z5 z6 z7 z8
    gi_wp2
    refine ⟨trivial, fun h => (by cases h), HC.out.mono ?_⟩
    rintro e W5 (⟨rfl, D5, hj5, hb5, hf5, hd5⟩ | ⟨rfl, hx5⟩)
    ·rw [HEQ.out] at hj5 hb5
     have HFF : Hid (Fr (fun k => D3 k ∨ k = nb ∨ W3.heap.size <= k) W3 W5) := (HF.out.trans (HQ4.out.mono (fun k _ h => h.elim))).trans (hf5.mono (fun k _ hk => by
      rcases hk with h | h
      ·rcases HDD.out k h with h | h
       ·exact .inl h
       ·exact .inr (.inr h)
      ·exact .inr (.inl h)))
     have HDF : Hid (∀ k, D5 k -> D3 k ∨ W3.heap.size <= k) := fun k hk => by
      rcases hd5 k hk with h | h
      ·exact HDD.out k h
      ·have := HF.out.size; have := HQ4.out.size; exact .inr (by omega)
     have HJ5 := hid hj5
     have HB5 := hid hb5
     clear hj5 hb5 hf5 hd5
     gi_wp2
     go_roundw
     case rel => exact ⟨m + 1, D5, by go_num, by omega, HJ5.out, HB5.out, HFF.out, HDF.out⟩
     case measure => simp [intOf]; omega
    ·gi_wp2
     go_ret
     exact .inr ⟨rfl, hx5⟩
   ·have hlt' : ¬ (m : Int) < l2 := by omega
    have hme : ps.drop m = .nil := To.drop_end ps m (by have := HL.out; omega)
    rw [hme] at hj hb
    have HJE := hid hj
    have HBE := hid hb
    have HFE := hid hf
    have HDE := hid hd
    clear hj hb hf hd hme
    gi_wp2
    go_ret
    have h1 := HJE.out
    have h2 := HBE.out
    rw [show i + 1 + (ps.size - To.nil.size) = i + ps.size + 1 from by simp [To.size]; omega] at h1 h2
    refine .inl ⟨rfl, D', h1, h2, ?_, ?_⟩
    ·have e1 := HW12.out.size
     have e2 := HF3.out.size
     refine (HW12.out.trans (HF3.out.mono (fun k _ h => .inl h))).trans' HFE.out (fun k hk h => ?_)
     rcases h with h | h | h
     ·rcases HD3.out k h with h | h
      ·exact .inl h
      ·omega
     ·exact .inr h
     ·omega
    ·intro k hk
     rcases HDE.out k hk with h | h
     ·rcases HD3.out k h with h | h
      ·exact .inl h
      ·have := HW12.out.size; exact .inr (by omega)
     ·have := HW12.out.size; have := HF3.out.size; exact .inr (by omega)
 ·gi_wp2
  go_ret
  exact .inr ⟨rfl, hx3⟩
theorem all_seq (n : Nat) (R : Nat -> Prop) (h : Nd) (ps : To) (o1 : Option Addr) (l1 c1 : Nat) (o2 : Option Addr) (l2 c2 tb : Nat) (w : World) (hRw : ∀ k, R k -> k < w.heap.size)
    (hb : w.heap[tb]? = some (.cells (cells9 h o1 l1 c1 o2 l2 c2) 29 (0, 0))) (_ : R tb) (hs : SlcIn R w o1 l1 h.tp) (ht : TSlc R w o2 l2 ps) (hz : ps.size <= 100000) :
    SeqC n Tryz.prog 83 #[.pointer (some ⟨tb, 0, none⟩)] (EncT R) R (To.cons h ps .nil).flat w := by
 intro l J Jx W D0 hW hown hst hstx hY hJ
 obtain ⟨W2, hW2⟩ : ∃ W2, W2 = ((W.alloc (.cells #[.func (.yield l) #[] #[]] 134)).alloc (.cells #[.int .i64 0] 3)).alloc (.cells #[.nilFunc] 30) := ⟨_, rfl⟩
 obtain ⟨W3, hW3⟩ : ∃ W3, W3 = W2.setCell ⟨W.heap.size + 1 + 1, 0, none⟩ (.func (.func 84) #[] #[.pointer (some ⟨W.heap.size + 1, 0, none⟩), .pointer (some ⟨W.heap.size, 0, none⟩), .pointer (some ⟨W.heap.size + 1 + 1, 0, none⟩)]) := ⟨_, rfl⟩
 have hf2 : Fr (fun _ => False) W W2 := by rw [hW2]; exact ((Fr.alloc _ _ _).trans (Fr.alloc _ _ _)).trans (Fr.alloc _ _ _)
 have hf23 : Fr (fun k => k = W.heap.size + 1 + 1) W2 W3 := by rw [hW3]; exact Fr.setCell _ _ _ _ rfl
 have hf3 : Fr (fun _ => False) W W3 := hf2.trans' hf23 (fun k hk e => by omega)
 have hw2 : W2.heap[W.heap.size + 1 + 1]? = some (.cells #[.nilFunc] 30 (0, 0)) := by
  rw [hW2]
  have := heap_alloc_new ((W.alloc (.cells #[.func (.yield l) #[] #[]] 134)).alloc (.cells #[.int .i64 0] 3)) (.cells #[.nilFunc] 30)
  simpa using this
 have hB3 : Boxes (W.heap.size + 1) W.heap.size (W.heap.size + 1 + 1) l W3 0 := by
  refine ⟨?_, ?_, ?_⟩
  ·rw [hf23.block _ (by rw [hW2]; simp) (by omega), hW2, Below.heap_alloc _ _ _ (by simp)]
   have := heap_alloc_new (W.alloc (.cells #[.func (.yield l) #[] #[]] 134)) (.cells #[.int .i64 0] 3)
   simpa using this
  ·rw [hf23.block _ (by rw [hW2]; simp; omega) (by omega), hW2, Below.heap_alloc _ _ _ (by simp; omega), Below.heap_alloc _ _ _ (by simp)]
   exact heap_alloc_new W _
  ·rw [hW3]
   exact one_setCell hw2
 have hle := hW.size
 have hwf := hW.trans hf3
 have hb3 := (hwf.block _ (lt_of_block hb) (fun h => h)).trans hb
 have cw2 := cell_of_one hw2
 have zw2 := free_of_one hw2
 have HC := hid (walk_any R l (W.heap.size + 1) W.heap.size (W.heap.size + 1 + 1) W.heap.size (To.cons h ps .nil).flat J Jx (fun k hk => by have := hRw k hk; omega) (by omega) hown hst
  (fun m i x va D W1 hx he hj => yield_any m (hY i x va D W1 hx he hj)) h ps (n - 1) 0 D0 W3 o1 l1 c1 o2 l2 c2 (hst 0 D0 W W3 hJ (hf3.mono (fun k _ h => h.elim))) hB3
  (hs.fr hwf (fun k _ hk => ⟨hk, fun h => h⟩)) (ht.fr hwf (fun k _ hk => ⟨hk, fun h => h⟩)) (fun k hk => by have := (hown 0 D0 W hJ k hk).1; omega) (fun j x hx => by rw [Nat.zero_add]; exact hx) (by omega))
 have HLN : Hid (0 + ps.size + 1 = (To.cons h ps .nil).flat.length) := by show _ = _; rw [To.flat_length]; simp [To.size]
 have cw := cell_of_one hB3.w
 obtain ⟨a0, a1, a2, a3, a4, a5, a6, a7, a8⟩ := cells9_block hb3
 unfold tmv at HC
 clear hb3 hB3 hs ht hY hJ hst hstx hown hb hwf hf3 hf2 hf23 hw2
 refine callsIn_of_wp Tryz.func83 rfl trivial ?_ rfl
 simp only [Tryz.ntmps83, List.size_toArray, List.length_cons, List.length_nil, Nat.reduceAdd, Nat.reduceSub, Array.replicate_succ, Array.replicate_zero, List.push_toArray, List.append_toArray, List.nil_append, List.cons_append]
 have HW3 := hid hW3
 clear hW3
 gi_upto_region 3 with fail
 rw [<- hW2]
 clear hW2
 gi_upto_region 4 with fail
 rw [<- HW3.out]
 clear HW3 cw2 zw2
 gi_wp2
 refine ⟨trivial, fun h => (by cases h), HC.out.mono ?_⟩
 rintro e W5 (⟨rfl, D5, hj5, hb5, hf5, hd5⟩ | ⟨rfl, hx5⟩)
 ·rw [HLN.out] at hj5
  gi_wp2
  go_end0
  exact ⟨⟨_, rfl⟩, .inl ⟨D5, hj5⟩⟩
 ·gi_wp2
  go_end0
  exact ⟨⟨_, rfl⟩, .inr hx5⟩
theorem all_call (h : Nd) (o1 : Option Addr) (l1 c1 : Nat) (o2 : Option Addr) (l2 c2 : Nat) (w : World) :
    Calls Tryz.prog 50 #[tmv h o1 l1 c1 o2 l2 c2] w fun e w' => e = .returned (.func (.func 83) #[] #[.pointer (some ⟨w.heap.size, 0, none⟩)]) /\ w' = w.alloc (.cells (cells9 h o1 l1 c1 o2 l2 c2) 29) := by
 unfold tmv
 go_enter Tryz.func50, Tryz.ntmps50
 go_wp2_with fail
 go_ret
 exact ⟨rfl, rfl⟩
end
section
open Go.RowKit Go.Shelf
def put9 (w : World) (B : Nat) (a0 a1 a2 a3 a4 a5 a6 a7 a8 : Value) : World :=
 ((((((((w.setCell ⟨B, 0, none⟩ a0).setCell ⟨B, 1, none⟩ a1).setCell ⟨B, 2, none⟩ a2).setCell ⟨B, 3, none⟩ a3).setCell ⟨B, 4, none⟩ a4).setCell ⟨B, 5, none⟩ a5).setCell ⟨B, 6, none⟩ a6).setCell ⟨B, 7, none⟩ a7).setCell ⟨B, 8, none⟩ a8
theorem put9_fr (w : World) (B : Nat) (a0 a1 a2 a3 a4 a5 a6 a7 a8 : Value) : Fr (fun k => k = B) w (put9 w B a0 a1 a2 a3 a4 a5 a6 a7 a8) :=
 ((((((((Fr.setCell (fun k => k = B) w ⟨B, 0, none⟩ a0 rfl).trans (Fr.setCell (fun k => k = B) _ ⟨B, 1, none⟩ a1 rfl)).trans (Fr.setCell (fun k => k = B) _ ⟨B, 2, none⟩ a2 rfl)).trans (Fr.setCell (fun k => k = B) _ ⟨B, 3, none⟩ a3 rfl)).trans (Fr.setCell (fun k => k = B) _ ⟨B, 4, none⟩ a4 rfl)).trans (Fr.setCell (fun k => k = B) _ ⟨B, 5, none⟩ a5 rfl)).trans (Fr.setCell (fun k => k = B) _ ⟨B, 6, none⟩ a6 rfl)).trans (Fr.setCell (fun k => k = B) _ ⟨B, 7, none⟩ a7 rfl)).trans (Fr.setCell (fun k => k = B) _ ⟨B, 8, none⟩ a8 rfl)
theorem put9_block {w : World} {B : Nat} {a0 a1 a2 a3 a4 a5 a6 a7 a8 b0 b1 b2 b3 b4 b5 b6 b7 b8 : Value} {t : TypeId} (h : w.heap[B]? = some (.cells #[b0, b1, b2, b3, b4, b5, b6, b7, b8] t (0, 0))) :
    (put9 w B a0 a1 a2 a3 a4 a5 a6 a7 a8).heap[B]? = some (.cells #[a0, a1, a2, a3, a4, a5, a6, a7, a8] t (0, 0)) := by
 have s0 : ((w).setCell ⟨B, 0, none⟩ a0).heap[B]? = some (.cells #[a0, b1, b2, b3, b4, b5, b6, b7, b8] t (0, 0)) := set_block h
 have s1 : ((((w).setCell ⟨B, 0, none⟩ a0)).setCell ⟨B, 1, none⟩ a1).heap[B]? = some (.cells #[a0, a1, b2, b3, b4, b5, b6, b7, b8] t (0, 0)) := set_block s0
 have s2 : ((((((w).setCell ⟨B, 0, none⟩ a0)).setCell ⟨B, 1, none⟩ a1)).setCell ⟨B, 2, none⟩ a2).heap[B]? = some (.cells #[a0, a1, a2, b3, b4, b5, b6, b7, b8] t (0, 0)) := set_block s1
 have s3 : ((((((((w).setCell ⟨B, 0, none⟩ a0)).setCell ⟨B, 1, none⟩ a1)).setCell ⟨B, 2, none⟩ a2)).setCell ⟨B, 3, none⟩ a3).heap[B]? = some (.cells #[a0, a1, a2, a3, b4, b5, b6, b7, b8] t (0, 0)) := set_block s2
 have s4 : ((((((((((w).setCell ⟨B, 0, none⟩ a0)).setCell ⟨B, 1, none⟩ a1)).setCell ⟨B, 2, none⟩ a2)).setCell ⟨B, 3, none⟩ a3)).setCell ⟨B, 4, none⟩ a4).heap[B]? = some (.cells #[a0, a1, a2, a3, a4, b5, b6, b7, b8] t (0, 0)) := set_block s3
 have s5 : ((((((((((((w).setCell ⟨B, 0, none⟩ a0)).setCell ⟨B, 1, none⟩ a1)).setCell ⟨B, 2, none⟩ a2)).setCell ⟨B, 3, none⟩ a3)).setCell ⟨B, 4, none⟩ a4)).setCell ⟨B, 5, none⟩ a5).heap[B]? = some (.cells #[a0, a1, a2, a3, a4, a5, b6, b7, b8] t (0, 0)) := set_block s4
 have s6 : ((((((((((((((w).setCell ⟨B, 0, none⟩ a0)).setCell ⟨B, 1, none⟩ a1)).setCell ⟨B, 2, none⟩ a2)).setCell ⟨B, 3, none⟩ a3)).setCell ⟨B, 4, none⟩ a4)).setCell ⟨B, 5, none⟩ a5)).setCell ⟨B, 6, none⟩ a6).heap[B]? = some (.cells #[a0, a1, a2, a3, a4, a5, a6, b7, b8] t (0, 0)) := set_block s5
 have s7 : ((((((((((((((((w).setCell ⟨B, 0, none⟩ a0)).setCell ⟨B, 1, none⟩ a1)).setCell ⟨B, 2, none⟩ a2)).setCell ⟨B, 3, none⟩ a3)).setCell ⟨B, 4, none⟩ a4)).setCell ⟨B, 5, none⟩ a5)).setCell ⟨B, 6, none⟩ a6)).setCell ⟨B, 7, none⟩ a7).heap[B]? = some (.cells #[a0, a1, a2, a3, a4, a5, a6, a7, b8] t (0, 0)) := set_block s6
 have s8 : ((((((((((((((((((w).setCell ⟨B, 0, none⟩ a0)).setCell ⟨B, 1, none⟩ a1)).setCell ⟨B, 2, none⟩ a2)).setCell ⟨B, 3, none⟩ a3)).setCell ⟨B, 4, none⟩ a4)).setCell ⟨B, 5, none⟩ a5)).setCell ⟨B, 6, none⟩ a6)).setCell ⟨B, 7, none⟩ a7)).setCell ⟨B, 8, none⟩ a8).heap[B]? = some (.cells #[a0, a1, a2, a3, a4, a5, a6, a7, a8] t (0, 0)) := set_block s7
 exact s8
def putT (w : World) (B : Nat) (a3 a4 a5 : Value) : World := ((w.setCell ⟨B, 3, none⟩ a3).setCell ⟨B, 4, none⟩ a4).setCell ⟨B, 5, none⟩ a5
theorem putT_fr (w : World) (B : Nat) (a3 a4 a5 : Value) : Fr (fun k => k = B) w (putT w B a3 a4 a5) :=
 ((Fr.setCell (fun k => k = B) _ ⟨B, 3, none⟩ a3 rfl).trans (Fr.setCell (fun k => k = B) _ ⟨B, 4, none⟩ a4 rfl)).trans (Fr.setCell (fun k => k = B) _ ⟨B, 5, none⟩ a5 rfl)
theorem putT_block {w : World} {B : Nat} {a3 a4 a5 b0 b1 b2 b3 b4 b5 b6 b7 b8 : Value} {t : TypeId} (h : w.heap[B]? = some (.cells #[b0, b1, b2, b3, b4, b5, b6, b7, b8] t (0, 0))) :
    (putT w B a3 a4 a5).heap[B]? = some (.cells #[b0, b1, b2, a3, a4, a5, b6, b7, b8] t (0, 0)) :=
 set_block (i := 5) (u := a5) (set_block (i := 4) (u := a4) (set_block (i := 3) (u := a3) h))
theorem block9 {w : World} {B : Nat} {a0 a1 a2 a3 a4 a5 a6 a7 a8 : Value} {t : TypeId} (h : w.heap[B]? = some (.cells #[a0, a1, a2, a3, a4, a5, a6, a7, a8] t (0, 0))) :
    (w.cell? ⟨B, 0, none⟩ = some a0 /\ w.cell? ⟨B, 1, none⟩ = some a1 /\ w.cell? ⟨B, 2, none⟩ = some a2 /\ w.cell? ⟨B, 3, none⟩ = some a3 /\ w.cell? ⟨B, 4, none⟩ = some a4 /\ w.cell? ⟨B, 5, none⟩ = some a5 /\ w.cell? ⟨B, 6, none⟩ = some a6 /\ w.cell? ⟨B, 7, none⟩ = some a7 /\ w.cell? ⟨B, 8, none⟩ = some a8) /\
    w.frozen? ⟨B, 0, none⟩ = false /\ w.frozen? ⟨B, 1, none⟩ = false /\ w.frozen? ⟨B, 2, none⟩ = false /\ w.frozen? ⟨B, 3, none⟩ = false /\ w.frozen? ⟨B, 4, none⟩ = false /\ w.frozen? ⟨B, 5, none⟩ = false /\ w.frozen? ⟨B, 6, none⟩ = false /\ w.frozen? ⟨B, 7, none⟩ = false /\ w.frozen? ⟨B, 8, none⟩ = false := by
 refine ⟨⟨?_, ?_, ?_, ?_, ?_, ?_, ?_, ?_, ?_⟩, ?_, ?_, ?_, ?_, ?_, ?_, ?_, ?_, ?_⟩
 all_goals first | (rw [cell_of_row _ _ _ _ _ (0, 0) h]; rfl) | simp [World.frozen?, h]
abbrev zero9 : Array Value := #[.int .i64 0, .string ⟨#[]⟩, .int .i64 0, .int .i64 0, .int .i64 0, .slice none 0 0, .slice none 0 0, .int .i64 0, .int .i64 0]
def TCopy (h : Nd) (ps : To) : Prop := ∀ (w : World) (R : Nat -> Prop) (o1 : Option Addr) (l1 c1 : Nat) (o2 : Option Addr) (l2 c2 : Nat), SlcIn R w o1 l1 h.tp -> TSlc R w o2 l2 ps -> h.tp.size <= 1000000 -> allT (fun h => h.tp.size <= 1000000) ps -> ps.size <= 1000000 ->
 Calls Tryz.prog 95 #[tmv h o1 l1 c1 o2 l2 c2] w fun e w' => ∃ p1 d1 p2 d2, e = .returned (tmv h p1 l1 d1 p2 l2 d2) /\ SlcIn (fun b => w.heap.size <= b) w' p1 l1 h.tp /\ TSlc (fun b => w.heap.size <= b) w' p2 l2 ps /\ Quiet0 w w'
theorem copyT_any (h : Nd) (ps : To) : TCopy h ps := by
 refine To.ind' (T := TCopy) ?_ h ps
 intro h ps ih w R o1 l1 c1 o2 l2 c2 hs1 hs htz hats hsz
 have HS := hid hs
 have IH := hid ih
 have HL := hid hs.1
 have HA := hid hats
 have hmx := hs.2.1
 have hll := To.length_le ps
 rw [<- hs.1] at hll
 unfold maxLen at hmx
 obtain ⟨W0, hW0⟩ : ∃ W0, W0 = (w.alloc (.cells (cells9 h o1 l1 c1 o2 l2 c2) 29)).alloc (.cells zero9 29) := ⟨_, rfl⟩
 have HQ0 : Hid (Quiet0 w W0) := by rw [hW0]; exact (Quiet0.alloc _ _).trans (Quiet0.alloc _ _)
 have HCT := hid (copy_any h.tk h.tn h.tp W0 o1 l1 c1 (hs1.slc.stay HQ0.out) htz)
 have hz0 : w.heap.size + 2 <= W0.heap.size := by rw [hW0]; simp
 have HB0 : Hid (W0.heap[w.heap.size]? = some (.cells (cells9 h o1 l1 c1 o2 l2 c2) 29 (0, 0))) := by
  show _ = _; rw [hW0, Below.heap_alloc _ _ _ (by simp)]; exact heap_alloc_new w _
 have HB1 : Hid (W0.heap[w.heap.size + 1]? = some (.cells zero9 29 (0, 0))) := by
  show _ = _; rw [hW0]
  have := heap_alloc_new (w.alloc (.cells (cells9 h o1 l1 c1 o2 l2 c2) 29)) (.cells zero9 29)
  simpa using this
 clear hs ih hats hs1
 unfold tyv at HCT
 unfold tmv
 go_enter Tryz.func95, Tryz.ntmps95
 go_wp2_with fail
 change Calls _ _ _ ((w.alloc (.cells (cells9 h o1 l1 c1 o2 l2 c2) 29)).alloc (.cells zero9 29)) _
 rw [<- hW0]
 refine HCT.out.mono ?_; rintro e w1 ⟨q1, e1, rfl, hsl1, hq1⟩
 have HSL1 := hid hsl1
 have hb0 := (hq1.block _ (by omega) (fun h => h)).trans HB0.out
 have hb1 := (hq1.block _ (by omega) (fun h => h)).trans HB1.out
 have HQ1 := hid hq1
 have hz1 : W0.heap.size <= w1.heap.size := hq1.size
 clear hW0 hq1 hsl1 HB0 HB1 HCT
 have HB0 := hid hb0
 have HB1 := hid hb1
 obtain ⟨⟨x0, x1, x2, x3, x4, x5, x6, x7, x8⟩, y0, y1, y2, y3, y4, y5, y6, y7, y8⟩ := block9 hb0
 clear hb0 hb1
 generalize hB : w.heap.size = B at *
 have HBE := hid hB
 clear hB
 go_wp2_with fail
 obtain ⟨W1, hW1⟩ : ∃ W1, W1 = putT w1 B (.int .i64 h.tk) (.int .i64 h.tn) (.slice q1 l1 e1) := ⟨_, rfl⟩
 change Code.wp _ _ _ _ (putT w1 B (.int .i64 h.tk) (.int .i64 h.tn) (.slice q1 l1 e1))
 have hz2 : W1.heap.size = w1.heap.size := by rw [hW1]; simp [putT, World.setCell]
 have HQW : Hid (Quiet0 w W1) := by
  rw [hW1]
  exact (HQ0.out.trans HQ1.out).trans' (putT_fr _ _ _ _ _) (fun i hi h => by have := HBE.out; omega)
 have HSLW : Hid (SlcIn (fun b => W0.heap.size <= b) W1 q1 l1 h.tp) := by
  rw [hW1]
  exact HSL1.out.fr (putT_fr _ _ _ _ _) (fun k _ hk => ⟨hk, fun h => by have hk' : W0.heap.size <= k := hk; omega⟩)
 replace HB0 : Hid (W1.heap[B]? = some (.cells (cells9 h q1 l1 e1 o2 l2 c2) 29 (0, 0))) := by
  rw [hW1]; exact putT_block HB0.out
 replace HB1 : Hid (W1.heap[B + 1]? = some (.cells zero9 29 (0, 0))) := by
  rw [hW1]
  exact ((putT_fr w1 B _ _ _).block _ (by omega) (fun h => by omega)).trans HB1.out
 rw [<- hW1]
 clear hW1 x0 x1 x2 x3 x4 x5 x6 x7 x8 y0 y1 y2 y3 y4 y5 y6 y7 y8 HSL1 HQ1 HQ0
 go_loopw [3, 13] (fun v t wr => ∃ (i : Nat) (f : To) (xs : List Value) (vo : Option Addr) (vc : Nat), t = .int .i64 i /\ i <= l2 /\ v = .slice vo i vc /\ f.length = i /\ f.app (ps.drop i) = ps /\ TmRow wr W1.heap.size (.slice vo i vc) f xs /\ Quiet0 W1 wr) (fun _ t _ => l2 - (intOf t).toNat)
 case atStart => exact ⟨0, .nil, [], none, 0, rfl, Nat.zero_le _, rfl, rfl, by rw [To.drop_zero]; rfl, TmRow.nil _ _, Quiet0.refl _⟩
 case round =>
  obtain ⟨i, f, xs, vo, vc, rfl, hi, rfl, hfl, hap, hrow, hq⟩ := hrel
  have HF := hid hfl
  have HAP := hid hap
  have HR := hid hrow
  have HQ := hid hq
  clear hfl hap hrow hq
  by_cases hlt : i < l2
  ·have hlt' : (i : Int) < l2 := by omega
   obtain ⟨b, off, hd, qs, u1, v1, t1, u2, v2, t2, rfl, hdr, hg, hRb, ⟨f0, f1, f2, f3, f4, f5, f6, f7, f8⟩, hsl, hts⟩ := (HS.out.stay (HQW.out.trans HQ.out)).nth hlt
   have hsq := To.size_get ps i hd qs hg
   have hna := allT_get ps i hd qs HA.out hg
   obtain ⟨w2, hw2⟩ : ∃ w2, w2 = wr.alloc (.cells (cells9 hd u1 v1 t1 u2 v2 t2) 29) := ⟨_, rfl⟩
   have hqw2 : Quiet0 wr w2 := by rw [hw2]; exact Quiet0.alloc _ _
   have HC := hid (IH.out i hd qs hg w2 R u1 v1 t1 u2 v2 t2 (hsl.stay hqw2) (hts.stay hqw2) hna.1 hna.2 (by omega))
   have HQA := hid hqw2
   have HD : Hid ((f.app (.cons hd qs .nil)).app (ps.drop (i + 1)) = ps) := by
    show _ = _
    conv => rhs; rw [<- HAP.out, hdr]
    rw [To.app_assoc]; rfl
   unfold tmv at HC
   clear hdr hg hsl hts hsq hRb hna hqw2
   go_wp2_with fail
   change Calls _ _ _ (wr.alloc (.cells (cells9 hd u1 v1 t1 u2 v2 t2) 29)) _
   rw [<- hw2]
   refine HC.out.mono ?_; rintro e w3 ⟨n1, m1, n2, m2, rfl, hk1, hk2, hq3⟩
   have HK1 := hid hk1
   have HK2 := hid hk2
   have HQ3 := hid (HQA.out.trans hq3)
   have HR1 := hid (HR.out.stay HQ3.out)
   clear hk1 hk2 hq3 hw2
   go_wp2_with (at_builtin; go_must (refine wpList_append_one w3 rfl (.tmp 17) (.tmp 20) 25 rfl 29 _ 9 112 elemTm (.slice vo i vc) i xs rfl (HF.out ▸ HR1.out.own) (cells9 hd n1 v1 m1 n2 v2 m2) rfl rfl ?c1 ?c2 ?c3 ?_))
   case c1 => simp [Value.oneCell']
   case c2 => unfold maxLen; omega
   case c3 => omega
   intro g2 c' w4 ho hf hg2
   have hlow : W1.heap.size <= w3.heap.size := Nat.le_trans HQ.out.size HQ3.out.size
   have hown : ∀ kk, (Value.slice vo i vc).ownBlock = some kk -> kk < wr.heap.size := fun kk h => (HR.out.own.lt kk h).2
   have hw2s : wr.heap.size <= w2.heap.size := HQA.out.size
   have hk : ∀ kk, kk < w3.heap.size -> w2.heap.size <= kk -> ((W1.heap.size <= kk /\ (Value.slice vo i vc).ownBlock ≠ some kk) /\ ¬ False) := by
    intro kk _ hkk
    refine ⟨⟨by have := HQ.out.size; omega, fun h => ?_⟩, fun h => h⟩
    have := hown kk h; omega
   have HR2 : Hid (TmRow w4 W1.heap.size (.slice (some ⟨g2, 0, none⟩) (i + 1) c') (f.app (.cons hd qs .nil)) (xs ++ (cells9 hd n1 v1 m1 n2 v2 m2).toList)) := by
    show TmRow _ _ _ _ _
    have hf' := HF.out
    subst hf'
    exact TmRow.snoc HR1.out (HK1.out.fr (Fr.refl (fun _ => False) _) hk) (HK2.out.fr (Fr.refl (fun _ => False) _) hk) ho hf hg2 hlow
   have HQ2 : Hid (Quiet0 W1 w4) := by
    show Quiet0 _ _
    exact Fr.trans' (HQ.out.trans HQ3.out) hf (fun kk hkk h => absurd (HR.out.low kk h) (by omega))
   have HL2 : Hid ((f.app (.cons hd qs .nil)).length = i + 1) := by
    show _ = _
    rw [To.app_length, HF.out]; rfl
   clear ho hf hg2 hown hk
   go_wp2_with fail
   go_roundw
   case rel => exact ⟨i + 1, _, _, some ⟨g2, 0, none⟩, c', by go_num, by omega, rfl, HL2.out, HD.out, HR2.out, HQ2.out⟩
   case measure => simp [intOf]; omega
  ·have hlt' : ¬ (i : Int) < l2 := by omega
   have hb1 := (HQ.out.block _ (by omega) (fun h => h)).trans HB1.out
   have hb0 := (HQ.out.block _ (by omega) (fun h => h)).trans HB0.out
   have hb0' := set_block (i := 6) (u := .slice vo i vc) hb0
   have hil : i = l2 := by omega
   subst hil
   obtain ⟨⟨x0, x1, x2, x3, x4, x5, x6, x7, x8⟩, y0, y1, y2, y3, y4, y5, y6, y7, y8⟩ := block9 hb0
   obtain ⟨⟨z0, z1, z2, z3, z4, z5, z6, z7, z8⟩, t0, t1, t2, t3, t4, t5, t6, t7, t8⟩ := block9 hb1
   have HB0 := hid hb0
   have HB1 := hid hb1
   clear hb0 hb1
   go_wp2_with fail
   have hb1' : (wr.setCell ⟨B, 6, none⟩ (.slice vo i vc)).heap[B + 1]? = some (.cells zero9 29 (0, 0)) := by
    rw [Below.heap_setCell _ _ _ _ (by show B + 1 ≠ B; omega)]; exact HB1.out
   have hff : Fr (fun k => k = B ∨ k = B + 1) wr (put9 (wr.setCell ⟨B, 6, none⟩ (.slice vo i vc)) (B + 1) (.int .i64 h.k) (.string h.nm) (.int .i64 h.n) (.int .i64 h.tk) (.int .i64 h.tn) (.slice q1 l1 e1) (.slice vo i vc) (.int .i64 h.fr) (.int .i64 h.en)) :=
    (Fr.setCell _ _ _ _ (.inl rfl)).trans ((put9_fr _ _ _ _ _ _ _ _ _ _ _).mono (fun k _ hk => .inr hk))
   have hbf := put9_block (a0 := .int .i64 h.k) (a1 := .string h.nm) (a2 := .int .i64 h.n) (a3 := .int .i64 h.tk) (a4 := .int .i64 h.tn) (a5 := .slice q1 l1 e1) (a6 := .slice vo i vc) (a7 := .int .i64 h.fr) (a8 := .int .i64 h.en) hb1'
   change bodyPost _ _ _ _ _ (put9 (wr.setCell ⟨B, 6, none⟩ (.slice vo i vc)) (B + 1) (.int .i64 h.k) (.string h.nm) (.int .i64 h.n) (.int .i64 h.tk) (.int .i64 h.tn) (.slice q1 l1 e1) (.slice vo i vc) (.int .i64 h.fr) (.int .i64 h.en))
   clear x0 x1 x2 x3 x4 x5 x6 x7 x8 y0 y1 y2 y3 y4 y5 y6 y7 y8 z0 z1 z2 z3 z4 z5 z6 z7 z8 t0 t1 t2 t3 t4 t5 t6 t7 t8 hb0' hb1'
   generalize (put9 (wr.setCell ⟨B, 6, none⟩ (.slice vo i vc)) (B + 1) (.int .i64 h.k) (.string h.nm) (.int .i64 h.n) (.int .i64 h.tk) (.int .i64 h.tn) (.slice q1 l1 e1) (.slice vo i vc) (.int .i64 h.fr) (.int .i64 h.en)) = wf at *
   obtain ⟨⟨x0, x1, x2, x3, x4, x5, x6, x7, x8⟩, _⟩ := block9 hbf
   have HFIN : Hid (SlcIn (fun b => w.heap.size <= b) wf q1 l1 h.tp /\ TSlc (fun b => w.heap.size <= b) wf vo i ps /\ Quiet0 w wf) := by
    have hz := HBE.out
    have hap := HAP.out
    rw [To.drop_end ps i (by have := HL.out; omega), To.app_nil] at hap
    have hqs := HQ.out.size
    refine ⟨(HSLW.out.stay HQ.out).fr hff (fun k _ hk => ?_), ?_, ?_⟩
    ·have hk' : W0.heap.size <= k := hk
     exact ⟨by omega, by omega⟩
    ·rw [<- hap]
     refine (HR.out.slc HF.out.symm (by unfold maxLen; omega)).fr hff (fun k _ hk => ?_)
     have hk' : W1.heap.size <= k := hk
     exact ⟨by omega, by omega⟩
    ·exact (HQW.out.trans HQ.out).trans' hff (fun i hi h => by omega)
   refine bodyPost_ret (by simp [results, Tryz.results95, go_sem, x0, x1, x2, x3, x4, x5, x6, x7, x8]; rfl) rfl ?_
   exact ⟨q1, e1, vo, ⟨vc, rfl⟩, HFIN.out⟩
end
section
open Go.RowKit Go.Shelf
namespace Sc
theorem NmIn.str {T : Nat -> Prop} {w : World} {o : Option Addr} {n : Nat} {e : List ByteArray} (h : NmIn T w o n e) : StrAt w o e.reverse := by
 intro j s hj
 have hl := (List.getElem?_eq_some_iff.1 hj).1
 obtain ⟨b, he, _, hc⟩ := h.2.2 (by have := h.1; simp at hl; omega)
 exact ⟨b, 0, he, by rw [Nat.zero_add]; exact hc j s hj⟩
theorem str_empty {w : World} {b : Nat} (h : w.heap[b]? = some (.cells #[] 9 (0, 0))) : w.ownsRow 0 9 1 (.slice (some ⟨b, 0, none⟩) 0 0) ([] : List ByteArray).length (strs []) :=
 ⟨rfl, .inr ⟨b, 0, #[], rfl, Nat.zero_le _, h, Nat.le_refl _, Nat.zero_le _, rfl, rfl⟩⟩
theorem str_nothing (w : World) (ty : TypeId) (v : Value) (n : Nat) (xs : List Value) (hown : w.ownsRow 0 9 1 v n xs) (hv : v ≠ .slice none 0 0) (o : Option Addr) (c : Nat) :
    (Builtin.append_ #[49, 49] ty #[v, .slice o 0 c]).run Tryz.prog w = .ok v w := by
 rcases hown.2 with ⟨rfl, _⟩ | ⟨g, cap, cur, rfl, _, hg, hc, hm, hs, _⟩
 ·exact absurd rfl hv
 ·obtain ⟨i0, hi, hz0, hz1, hz2⟩ := info_parts elemStr.info
  have hu := elemStr.under
  cases o <;> simp [Builtin.append_, run_underlying hu, sizeOf, typeInfo, hi, Builtin.lenOf, Builtin.firstCells, loadCells, loadCellsFrom, storeCells, hc]
theorem step_strs {ops : Array Oper} {o : Oper} {a : Act} {K : Act -> World -> Prop} {Q : Exit -> Act -> World -> Prop} {E : Prop} (W : World)
    (hg : o.guard = none) (s x : Operand) (hop : o.op = Op.call { callee := Callee.builtin Builtin.append, args := #[s, x], argTypes := #[49, 49] })
    (v : Value) (xs : List ByteArray) (hs : a.eval s = v) (hown : W.ownsRow 0 9 1 v xs.length (strs xs)) (va : Option Addr) (ys : List ByteArray) (m c : Nat) (hm : m = ys.length) (hx : a.eval x = .slice va m c) (hat : StrAt W va ys) (hb : xs.length + ys.length <= 1000000) (hne : v ≠ .slice none 0 0)
    (hK : ∀ v' w', w'.ownsRow 0 9 1 v' (xs ++ ys).length (strs (xs ++ ys)) -> Fr (fun k => v.ownBlock = some k) W w' -> (∀ g, v'.ownBlock = some g -> v.ownBlock = some g ∨ g = W.heap.size) -> v' ≠ .slice none 0 0 -> K (a.put o.dst v') w') :
    if Region.wanted o (yielded ops a.tmps) = true then Oper.wp Tryz.prog o a W K Q else E := by
 subst hm
 rw [if_pos (by unfold Region.wanted; rw [hg])]
 by_cases h0 : ys = []
 ·subst h0
  have hr := str_nothing W o.type v _ _ hown hne va c
  unfold Oper.wp execOp
  simp only [hop, resolve, invoke, builtin, Sem.run_bind, Sem.run_pure, Result.andThen_ok, List.map_toArray, List.map_cons, List.map_nil, hs, hx, List.length_nil, hr]
  exact hK v W (by simpa using hown) (Fr.refl _ _) (fun g h => .inl h) hne
 ·obtain ⟨y, r, rfl⟩ := List.exists_cons_of_ne_nil h0
  obtain ⟨b, off, rfl, _⟩ := hat 0 y rfl
  obtain ⟨i0, hi, hz0, hz1, hz2⟩ := info_parts elemStr.info
  refine wp_append_lies (P := Tryz.prog) W s x 49 hop 0 9 i0 (.string ⟨#[]⟩) 1 16 elemStr.under hi hz0 hz1 hz2 elemStr.cells elemStr.pos v xs.length (strs xs) hs hown ⟨b, off, none⟩ (y :: r).length c (strs (y :: r)) hx (by simp [strs]) ?_ (by unfold strs; intro u hu; obtain ⟨z, _, rfl⟩ := List.mem_map.1 hu; rfl) (by simp) (by unfold maxLen; omega) (by omega) (Nat.zero_le _) _ rfl ?_
  ·intro j u hj
   unfold strs at hj
   rw [List.getElem?_map] at hj
   cases hz : (y :: r)[j]? with
   | none => rw [hz] at hj; cases hj
   | some z =>
    rw [hz] at hj
    cases hj
    obtain ⟨b', off', he, hc⟩ := hat j z hz
    cases he
    simpa [Addr.add_lit] using hc
  ·intro g cap w' ho hgr hg' _
   refine hK _ w' ?_ (Fr.grown hgr (fun k hk => hk)) ?_ (by simp)
   ·rw [List.length_append]; unfold strs at *; rw [List.map_append]; exact ho
   ·intro g2 h2
    simp [Value.ownBlock] at h2
    subst h2
    exact hg'
theorem str_one {W : World} {b : Nat} {n : ByteArray} (h : W.heap[b]? = some (.cells #[.string n] 9 (0, 0))) : StrAt W (some ⟨b, 0, none⟩) [n] := by
 intro i x hx
 cases i with
 | zero =>
  simp at hx
  subst hx
  exact ⟨b, 0, rfl, by rw [cell_of_row _ _ _ _ _ (0, 0) h]; rfl⟩
 | succ i => simp at hx
def NmPost (T : Nat -> Prop) (w : World) (e : List ByteArray) (x : Ending) (w' : World) : Prop := ∃ o c, x = .returned (.slice o e.length c) /\ NmIn (fun k => T k ∨ w.heap.size <= k) w' o e.length e /\ Quiet0 w w'
theorem nm_end {T : Nat -> Prop} {w w4 : World} {v : Value} {L e : List ByteArray} {nm : ByteArray} (ho : w4.ownsRow 0 9 1 v ([] ++ L ++ [nm]).length (strs ([] ++ L ++ [nm]))) (hr : e.reverse = L) (hg : ∀ g, v.ownBlock = some g -> w.heap.size <= g) (hq : Quiet0 w w4) (hz : e.length <= 900000) :
    NmPost T w (nm :: e) (.returned v) w4 := by
 subst hr
 simp only [List.nil_append, List.length_append, List.length_reverse, List.length_cons, List.length_nil, Nat.zero_add] at ho
 obtain ⟨g, c, rfl, _, _⟩ := ho.form (by omega)
 refine ⟨_, c, rfl, ?_, hq⟩
 have ho' : w4.ownsRow 0 9 1 (.slice (some ⟨g, 0, none⟩) (e.length + 1) c) (e.length + 1) (e.reverse.map Value.string ++ [.string nm]) := by
  have e2 : strs (e.reverse ++ [nm]) = e.reverse.map Value.string ++ [.string nm] := by simp [strs]
  rw [<- e2]; exact ho
 exact NmIn.of_own (n := e.length + 1) ho' rfl (by unfold maxLen; omega) (.inr (hg g rfl))
theorem around_any (h : Nd) (o1 : Option Addr) (l1 c1 : Nat) (o2 : Option Addr) (l2 c2 : Nat) (i : Nat) (T : Nat -> Prop) (e : List ByteArray) (o : Option Addr) (n c : Nat) (w : World) (hN : NmIn T w o n e) (hz : n <= 900000) :
    Calls Tryz.prog 36 #[tmv h o1 l1 c1 o2 l2 c2, .int .i64 (i : Nat), .slice o n c] w (NmPost T w (envOf h.k h.nm i e)) := by
 have HN := hid hN
 have e1 : ((i : Int) == 1) = (i == 1) := by rw [Bool.eq_iff_iff, beq_iff_eq, beq_iff_eq]; omega
 obtain ⟨W0, hW0⟩ : ∃ W0, W0 = w.alloc (.cells (cells9 h o1 l1 c1 o2 l2 c2) 29) := ⟨_, rfl⟩
 have HQ0 : Hid (Quiet0 w W0) := by rw [hW0]; exact Quiet0.alloc _ _
 have HBB : Hid (∀ W, Quiet0 W0 W -> Cells9 W w.heap.size 0 h o1 l1 c1 o2 l2 c2) := by
  intro W hq; rw [hW0] at hq; exact box9 w h o1 l1 c1 o2 l2 c2 _ W hq
 have HS1 : Hid (∀ W, Quiet0 W0 W -> W.cell? ⟨w.heap.size, 1, none⟩ = some (.string h.nm)) := fun W hq => (HBB.out W hq).2.1
 have HZ : Hid (W0.heap.size = w.heap.size + 1) := by show _ = _; rw [hW0]; simp
 cases hb : bindsB h.k i
 case false =>
  have HE : Hid (envOf h.k h.nm i e = e) := by show _ = _; unfold envOf; rw [hb]; rfl
  unfold bindsB at hb
  simp only [Bool.or_eq_false_iff] at hb
  obtain ⟨⟨h4, h7⟩, h6⟩ := hb
  clear hN
  rw [HE.out]
  have HNL := hid HN.out.1
  unfold tmv
  cases h6k : (h.k == 6)
  ·go_enter Tryz.func36, Tryz.ntmps36
   go_upto_region 1 with fail
   rw [<- hW0]
   clear hW0 h6
   obtain ⟨a0, a1, a2, a3, a4, a5, a6, a7, a8⟩ := HBB.out W0 (Quiet0.refl _)
   go_wp2_with fail
   go_ret
   exact ⟨o, c, by rw [<- HNL.out]; rfl, HNL.out ▸ (HN.out.stay HQ0.out).fr (Fr.refl (fun _ => False) _) (fun k _ h => ⟨.inl h, fun h => h⟩), HQ0.out⟩
  ·rw [h6k] at h6
   have h1 : (i == 1) = false := by simpa using h6
   rw [h1] at e1
   go_enter Tryz.func36, Tryz.ntmps36
   go_upto_region 1 with fail
   rw [<- hW0]
   clear hW0 h6
   obtain ⟨a0, a1, a2, a3, a4, a5, a6, a7, a8⟩ := HBB.out W0 (Quiet0.refl _)
   go_wp2_with fail
   go_ret
   exact ⟨o, c, by rw [<- HNL.out]; rfl, HNL.out ▸ (HN.out.stay HQ0.out).fr (Fr.refl (fun _ => False) _) (fun k _ h => ⟨.inl h, fun h => h⟩), HQ0.out⟩
 case true =>
  have HE : Hid (envOf h.k h.nm i e = h.nm :: e) := by show _ = _; unfold envOf; rw [hb]; rfl
  unfold bindsB at hb
  have hc : (h.k == 4) = true ∨ ((h.k == 4) = false /\ (h.k == 7) = true) ∨ ((h.k == 4) = false /\ (h.k == 7) = false /\ (h.k == 6) = true /\ (i == 1) = true) := by
   cases h4 : (h.k == 4)
   ·cases h7 : (h.k == 7)
    ·rw [h4, h7] at hb; simp only [Bool.false_or, Bool.and_eq_true] at hb; exact .inr (.inr ⟨rfl, rfl, hb.1, hb.2⟩)
    ·exact .inr (.inl ⟨rfl, rfl⟩)
   ·exact .inl rfl
  have hlen := hN.1
  have HAT : Hid (StrAt W0 o e.reverse) := (hN.stay HQ0.out).str
  have hrl : e.reverse.length = n := by rw [List.length_reverse, hlen]
  rw [HE.out]
  clear hN hb
  generalize hr : e.reverse = L at *
  have HRL := hid hr
  have HLEN := hid hlen
  clear hr
  have hqc0 := HQ0.out.size
  clear hlen
  unfold tmv
  rcases hc with h4 | ⟨h4, h7⟩ | ⟨h4, h7, h6, h1⟩
  all_goals
   first | rw [h1] at e1 | skip
   go_enter Tryz.func36, Tryz.ntmps36
   go_upto_region 1 with fail
   rw [<- hW0]
   clear hW0
   obtain ⟨a0, a1, a2, a3, a4, a5, a6, a7, a8⟩ := HBB.out W0 (Quiet0.refl _)
   clear a1 a2 a3 a4 a5 a6 a7 a8
   go_upto_region 2 with fail
   clear a0
   have hqc := Quiet0.refl W0
   have HLO : Hid (w.heap.size <= W0.heap.size) := hqc0
   clear hqc0
   go_region_held3 (fun w' => w'.cell? ⟨w.heap.size, 1, none⟩ = some (.string h.nm))
    (((refine HS1.out _ ?_); (repeat with_reducible first | exact hqc | exact Quiet0.refl _ | refine jq ?_ | refine jr ?_)))
    (first
     | ((refine step_strs _ rfl (.tmp 24) (.tmp 25) rfl (.slice (some ⟨W0.heap.size, 0, none⟩) 0 0) [] rfl ?hown o L n c hrl.symm rfl ?hat ?hbd ?hne ?_); (case hown => ((refine str_empty ?_); (repeat (first | ((with_reducible refine blk_new _ _ _ _ ?hbe); (case hbe => (simp; done))) | with_reducible refine blk_after (Quiet0.alloc _ _) ?_ | with_reducible refine blk_drew ?_ | fail)))); (case hat => ((refine HAT.out.stay ?_); (repeat with_reducible first | exact hqc | exact Quiet0.refl _ | refine jq ?_ | refine jr ?_))); (case hbd => (simp; omega)); (case hne => simp); intro v3 w3 ho3 hf3 hg3 hn3; (refine with_fr2 (w0 := W0) ?hch hf3 ?hlo ?_); (case hch => (repeat with_reducible first | exact hqc | exact Quiet0.refl _ | refine jq ?_ | refine jr ?_)); (case hlo => (intro k hk; simp [Value.ownBlock] at hk; omega)); intro hqc hw3)
     | ((refine step_strs _ rfl (.tmp 24) (.tmp 25) rfl (.slice (some ⟨W0.heap.size + 1, 0, none⟩) 0 0) [] rfl ?hown o L n c hrl.symm rfl ?hat ?hbd ?hne ?_); (case hown => ((refine str_empty ?_); (repeat (first | ((with_reducible refine blk_new _ _ _ _ ?hbe); (case hbe => (simp; done))) | with_reducible refine blk_after (Quiet0.alloc _ _) ?_ | with_reducible refine blk_drew ?_ | fail)))); (case hat => ((refine HAT.out.stay ?_); (repeat with_reducible first | exact hqc | exact Quiet0.refl _ | refine jq ?_ | refine jr ?_))); (case hbd => (simp; omega)); (case hne => simp); intro v3 w3 ho3 hf3 hg3 hn3; (refine with_fr2 (w0 := W0) ?hch hf3 ?hlo ?_); (case hch => (repeat with_reducible first | exact hqc | exact Quiet0.refl _ | refine jq ?_ | refine jr ?_)); (case hlo => (intro k hk; simp [Value.ownBlock] at hk; omega)); intro hqc hw3)
     | ((refine step_strs _ rfl (.tmp 26) (.tmp 29) rfl v3 ([] ++ L) rfl ?hown (some ⟨W0.heap.size, 0, none⟩) [h.nm] 1 1 rfl rfl ?hat ?hbd hn3 ?_); (case hown => (first | with_reducible exact ho3 | with_reducible exact ho3.alloc _ | fail)); (case hat => ((refine str_one ?_); (repeat (first | ((with_reducible refine blk_new _ _ _ _ ?hbe); (case hbe => (simp; done))) | with_reducible refine blk_after (Quiet0.alloc _ _) ?_ | with_reducible refine blk_drew ?_ | ((with_reducible refine blk_fr hf3 ?hbo ?_); (case hbo => (simp [Value.ownBlock]; done))) | ((with_reducible refine blk_fr hf3 ?hbo ?_); (case hbo => (simp [Value.ownBlock]; omega))) | fail)))); (case hbd => (simp; omega)); intro v4 w4 ho4 hf4 hg4 hn4; (refine with_fr2 (w0 := W0) ?hch hf4 ?hlo ?_); (case hch => (repeat with_reducible first | exact hqc | exact Quiet0.refl _ | refine jq ?_ | refine jr ?_)); (case hlo => (intro k hk; rcases hg3 k hk with h | h; (simp [Value.ownBlock] at h; omega); (simp at h; omega))); intro hqc hw4)
     | ((refine step_strs _ rfl (.tmp 26) (.tmp 29) rfl v3 ([] ++ L) rfl ?hown (some ⟨W0.heap.size + 1, 0, none⟩) [h.nm] 1 1 rfl rfl ?hat ?hbd hn3 ?_); (case hown => (first | with_reducible exact ho3 | with_reducible exact ho3.alloc _ | fail)); (case hat => ((refine str_one ?_); (repeat (first | ((with_reducible refine blk_new _ _ _ _ ?hbe); (case hbe => (simp; done))) | with_reducible refine blk_after (Quiet0.alloc _ _) ?_ | with_reducible refine blk_drew ?_ | ((with_reducible refine blk_fr hf3 ?hbo ?_); (case hbo => (simp [Value.ownBlock]; done))) | ((with_reducible refine blk_fr hf3 ?hbo ?_); (case hbo => (simp [Value.ownBlock]; omega))) | fail)))); (case hbd => (simp; omega)); intro v4 w4 ho4 hf4 hg4 hn4; (refine with_fr2 (w0 := W0) ?hch hf4 ?hlo ?_); (case hch => (repeat with_reducible first | exact hqc | exact Quiet0.refl _ | refine jq ?_ | refine jr ?_)); (case hlo => (intro k hk; rcases hg3 k hk with h | h; (simp [Value.ownBlock] at h; omega); (simp at h; omega))); intro hqc hw4)
     | ((refine step_strs _ rfl (.tmp 26) (.tmp 29) rfl v3 ([] ++ L) rfl ?hown (some ⟨w3.heap.size, 0, none⟩) [h.nm] 1 1 rfl rfl ?hat ?hbd hn3 ?_); (case hown => (first | with_reducible exact ho3 | with_reducible exact ho3.alloc _ | fail)); (case hat => ((refine str_one ?_); (repeat (first | ((with_reducible refine blk_new _ _ _ _ ?hbe); (case hbe => (simp; done))) | with_reducible refine blk_after (Quiet0.alloc _ _) ?_ | with_reducible refine blk_drew ?_ | ((with_reducible refine blk_fr hf3 ?hbo ?_); (case hbo => (simp [Value.ownBlock]; done))) | ((with_reducible refine blk_fr hf3 ?hbo ?_); (case hbo => (simp [Value.ownBlock]; omega))) | fail)))); (case hbd => (simp; omega)); intro v4 w4 ho4 hf4 hg4 hn4; (refine with_fr2 (w0 := W0) ?hch hf4 ?hlo ?_); (case hch => (repeat with_reducible first | exact hqc | exact Quiet0.refl _ | refine jq ?_ | refine jr ?_)); (case hlo => (intro k hk; rcases hg3 k hk with h | h; (simp [Value.ownBlock] at h; omega); (simp at h; omega))); intro hqc hw4)
     | fail)
   all_goals
    go_wp2_with fail
    go_ret
    have hl0 := HLO.out
    exact nm_end ho4 HRL.out (fun g hg => by
     rcases hg4 g hg with h | h
     ·rcases hg3 g h with h | h
      ·simp [Value.ownBlock] at h; omega
      ·first | omega | (simp at h; omega)
     ·first | omega | (simp at h; omega)) (HQ0.out.trans hqc) (by have := HLEN.out; omega)
end Sc
end
section
open Go.RowKit
section
variable {P : Program}
theorem run_append_row (w : World) (t ty e : TypeId) (z : Value) (size bytes : Nat) (he : Elem P t e z size bytes) (v : Value) (n : Nat) (xs : List Value) (hown : w.ownsRow 0 e size v n xs)
    (o : Option Addr) (m c : Nat) (news : List Value) (hl : news.length = m * size) (hnews : ∀ j u, news[j]? = some u -> ∃ a, o = some a /\ w.cell? (a.add j) = some u) (h1 : ∀ u ∈ news, u.oneCell' = true) (b1 : n + m <= maxLen) (b2 : (n + m) * bytes <= 140737488355328) :
    ∃ o' c' w', (Builtin.append_ #[t, t] ty #[v, .slice o m c]).run P w = .ok (.slice o' (n + m) c') w' /\ w'.ownsRow 0 e size (.slice o' (n + m) c') (n + m) (xs ++ news) /\ Fr (fun k => v.ownBlock = some k) w w' /\ ((Value.slice o' (n + m) c').ownBlock = v.ownBlock ∨ (Value.slice o' (n + m) c').ownBlock = some w.heap.size) /\ ((Value.slice o' (n + m) c') = .slice none 0 0 ↔ v = .slice none 0 0 /\ m = 0) := by
 obtain ⟨i0, hi, hz0, hz1, hz2⟩ := info_parts he.info
 have form : ∀ {w' : World} {v' : Value} {k : Nat} {ys : List Value}, w'.ownsRow 0 e size v' k ys -> ∃ o' c', v' = .slice o' k c' := by
  intro w' v' k ys h
  rcases h.2 with ⟨rfl, rfl⟩ | ⟨g, cap, cur, rfl, _⟩
  ·exact ⟨none, 0, rfl⟩
  ·exact ⟨some ⟨g, 0, none⟩, cap, rfl⟩
 by_cases hm : m = 0
 ·subst hm
  have hn : news = [] := List.eq_nil_of_length_eq_zero (by simpa using hl)
  subst hn
  obtain ⟨o', c', hv⟩ := form hown
  refine ⟨o', c', w, ?_, by rw [Nat.add_zero, <- hv, List.append_nil]; exact hown, Fr.refl _ _, .inl (by rw [Nat.add_zero, <- hv]), by rw [Nat.add_zero, <- hv]; simp⟩
  rw [Nat.add_zero]
  rcases hown.2 with ⟨rfl, h0⟩ | ⟨g, cap, cur, hvg, _, hg, hc, _⟩
  ·injection hv with e1 e2 e3
   subst e1 e2 e3
   cases o <;> simp [Builtin.append_, run_underlying he.under, sizeOf, typeInfo, hi, Builtin.lenOf, Builtin.firstCells, loadCells, loadCellsFrom]
  ·rw [hvg] at hv ⊢
   injection hv with e1 e2 e3
   subst e1 e3
   cases o <;> simp [Builtin.append_, run_underlying he.under, sizeOf, typeInfo, hi, Builtin.lenOf, Builtin.firstCells, loadCells, loadCellsFrom, storeCells, hc]
 ·have hne : 0 < news.length := by rw [hl]; exact Nat.mul_pos (by omega) he.pos
  obtain ⟨a, ha, _⟩ := hnews 0 news[0] (List.getElem?_eq_getElem hne)
  subst ha
  obtain ⟨v', w', hr, h2, h3, h4, h5⟩ := run_append_own_at (P := P) w 0 t ty e i0 z size bytes he.under hi hz0 hz1 hz2 he.cells he.pos v n xs hown a m c news hl (fun j u hu => by obtain ⟨a', e', hc⟩ := hnews j u hu; cases e'; exact hc) h1 b1 b2 (Nat.zero_le _)
  obtain ⟨o', c', rfl⟩ := form h2
  exact ⟨o', c', w', hr, h2, Fr.grown h3 (fun k hk => hk), h5, h4⟩
theorem wp_append_row {o : Oper} {a : Act} {K : Act -> World -> Prop} {Q : Exit -> Act -> World -> Prop} (W : World) (s x : Operand) (t : TypeId)
    (ho : o.op = .call { callee := .builtin .append, args := #[s, x], argTypes := #[t, t] })
    (e : TypeId) (z : Value) (size bytes : Nat) (he : Elem P t e z size bytes) (v : Value) (n : Nat) (xs : List Value) (hs : a.eval s = v) (hown : W.ownsRow 0 e size v n xs)
    (oa : Option Addr) (m c : Nat) (news : List Value) (hx : a.eval x = .slice oa m c) (hl : news.length = m * size) (hnews : ∀ j u, news[j]? = some u -> ∃ a, oa = some a /\ W.cell? (a.add j) = some u) (h1 : ∀ u ∈ news, u.oneCell' = true) (b1 : n + m <= maxLen) (b2 : (n + m) * bytes <= 140737488355328)
    (hK : ∀ o' c' w', w'.ownsRow 0 e size (.slice o' (n + m) c') (n + m) (xs ++ news) -> Fr (fun k => v.ownBlock = some k) W w' -> ((Value.slice o' (n + m) c').ownBlock = v.ownBlock ∨ (Value.slice o' (n + m) c').ownBlock = some W.heap.size) -> ((Value.slice o' (n + m) c') = .slice none 0 0 ↔ v = .slice none 0 0 /\ m = 0) -> K (a.put o.dst (.slice o' (n + m) c')) w') :
    o.wp P a W K Q := by
 obtain ⟨o', c', w', hr, h2, h3, h4, h5⟩ := run_append_row (P := P) W t o.type e z size bytes he v n xs hown oa m c news hl hnews h1 b1 b2
 unfold Oper.wp execOp
 simp only [ho, resolve, invoke, builtin, Sem.run_bind, Sem.run_pure, Result.andThen_ok, List.map_toArray, List.map_cons, List.map_nil, hs, hx, hr]
 exact hK o' c' w' h2 h3 h4 h5
theorem wpList_append_row {ops : Array Oper} {rest : List Oper} {o : Oper} {a : Act} {Q : Exit -> Act -> World -> Prop} (W : World) (hg : o.guard = none) (s x : Operand) (t : TypeId)
    (ho : o.op = .call { callee := .builtin .append, args := #[s, x], argTypes := #[t, t] })
    (e : TypeId) (z : Value) (size bytes : Nat) (he : Elem P t e z size bytes) (v : Value) (n : Nat) (xs : List Value) (hs : a.eval s = v) (hown : W.ownsRow 0 e size v n xs)
    (oa : Option Addr) (m c : Nat) (news : List Value) (hx : a.eval x = .slice oa m c) (hl : news.length = m * size) (hnews : ∀ j u, news[j]? = some u -> ∃ a, oa = some a /\ W.cell? (a.add j) = some u) (h1 : ∀ u ∈ news, u.oneCell' = true) (b1 : n + m <= maxLen) (b2 : (n + m) * bytes <= 140737488355328)
    (hK : ∀ o' c' w', w'.ownsRow 0 e size (.slice o' (n + m) c') (n + m) (xs ++ news) -> Fr (fun k => v.ownBlock = some k) W w' -> ((Value.slice o' (n + m) c').ownBlock = v.ownBlock ∨ (Value.slice o' (n + m) c').ownBlock = some W.heap.size) -> ((Value.slice o' (n + m) c') = .slice none 0 0 ↔ v = .slice none 0 0 /\ m = 0) -> wpList P ops Q rest (a.put o.dst (.slice o' (n + m) c')) w') :
    wpList P ops Q (o :: rest) a W :=
 wpList_plain hg fun _ hK' => wp_append_row W s x t ho e z size bytes he v n xs hs hown oa m c news hx hl hnews h1 b1 b2 fun o' c' w' h2 h3 h4 h5 => hK' _ _ (hK o' c' w' h2 h3 h4 h5)
theorem step_append_row {ops : Array Oper} {o : Oper} {a : Act} {K : Act -> World -> Prop} {Q : Exit -> Act -> World -> Prop} {E : Prop} (W : World) (hg : o.guard = none) (s x : Operand) (t : TypeId)
    (ho : o.op = .call { callee := .builtin .append, args := #[s, x], argTypes := #[t, t] })
    (e : TypeId) (z : Value) (size bytes : Nat) (he : Elem P t e z size bytes) (v : Value) (n : Nat) (xs : List Value) (hs : a.eval s = v) (hown : W.ownsRow 0 e size v n xs)
    (oa : Option Addr) (m c : Nat) (news : List Value) (hx : a.eval x = .slice oa m c) (hl : news.length = m * size) (hnews : ∀ j u, news[j]? = some u -> ∃ a, oa = some a /\ W.cell? (a.add j) = some u) (h1 : ∀ u ∈ news, u.oneCell' = true) (b1 : n + m <= maxLen) (b2 : (n + m) * bytes <= 140737488355328)
    (hK : ∀ o' c' w', w'.ownsRow 0 e size (.slice o' (n + m) c') (n + m) (xs ++ news) -> Fr (fun k => v.ownBlock = some k) W w' -> ((Value.slice o' (n + m) c').ownBlock = v.ownBlock ∨ (Value.slice o' (n + m) c').ownBlock = some W.heap.size) -> ((Value.slice o' (n + m) c') = .slice none 0 0 ↔ v = .slice none 0 0 /\ m = 0) -> K (a.put o.dst (.slice o' (n + m) c')) w') :
    if Region.wanted o (yielded ops a.tmps) = true then Oper.wp P o a W K Q else E := by
 rw [if_pos (by unfold Region.wanted; rw [hg])]
 exact wp_append_row W s x t ho e z size bytes he v n xs hs hown oa m c news hx hl hnews h1 b1 b2 hK
end
end
section
open Go.RowKit
def RowN : List Value -> List Nd -> Prop
 | xs, [] => xs = []
 | xs, h :: r => ∃ o1 l1 c1 o2 l2 c2 ys, xs = (cells9 h o1 l1 c1 o2 l2 c2).toList ++ ys /\ RowN ys r
theorem RowN.app : ∀ (l l' : List Nd) (xs ys : List Value), RowN xs l -> RowN ys l' -> RowN (xs ++ ys) (l ++ l')
 | [], l', xs, ys, h, h' => by cases h; exact h'
 | t :: r, l', xs, ys, h, h' => by
  obtain ⟨o1, l1, c1, o2, l2, c2, zs, rfl, hr⟩ := h
  exact ⟨o1, l1, c1, o2, l2, c2, _, by rw [List.append_assoc], RowN.app r l' zs ys hr h'⟩
theorem RowN.get : ∀ (l : List Nd) (xs : List Value) (i : Nat) (t : Nd), RowN xs l -> l[i]? = some t -> ∃ o1 l1 c1 o2 l2 c2, ∀ j, j < 9 -> xs[i * 9 + j]? = (cells9 t o1 l1 c1 o2 l2 c2)[j]?
 | [], xs, i, t, _, h => by simp at h
 | u :: r, xs, 0, t, h, hi => by
  obtain ⟨o1, l1, c1, o2, l2, c2, ys, rfl, hr⟩ := h
  simp at hi; subst hi
  refine ⟨o1, l1, c1, o2, l2, c2, fun j hj => ?_⟩
  rw [Nat.zero_mul, Nat.zero_add, List.getElem?_append_left (by simpa using hj)]
  simp
 | u :: r, xs, i + 1, t, h, hi => by
  obtain ⟨o1, l1, c1, o2, l2, c2, ys, rfl, hr⟩ := h
  obtain ⟨p1, m1, d1, p2, m2, d2, hj⟩ := RowN.get r ys i t hr (by simpa using hi)
  refine ⟨p1, m1, d1, p2, m2, d2, fun j hj' => ?_⟩
  rw [List.getElem?_append_right (by simp; omega), <- hj j hj']
  congr 1
  simp; omega
theorem RowN.one : ∀ (l : List Nd) (xs : List Value), RowN xs l -> ∀ u ∈ xs, u.oneCell' = true
 | [], xs, h, u, hu => by cases h; simp at hu
 | t :: r, xs, h, u, hu => by
  obtain ⟨o1, l1, c1, o2, l2, c2, ys, rfl, hr⟩ := h
  rcases List.mem_append.1 hu with h | h
  ·simp at h
   rcases h with h | h | h | h | h | h | h | h | h <;> subst h <;> rfl
  ·exact RowN.one r ys hr u h
def ListN (B : Nat) (W : World) (o : Option Addr) (c : Nat) (l : List Nd) (xs : List Value) : Prop :=
 W.ownsRow 0 29 9 (.slice o l.length c) l.length xs /\ RowN xs l /\ ∀ k, (Value.slice o l.length c).ownBlock = some k -> B <= k
theorem ListN.stay {B : Nat} {W W' : World} {o : Option Addr} {c : Nat} {l : List Nd} {xs : List Value} (h : ListN B W o c l xs) (hq : Quiet0 W W') : ListN B W' o c l xs :=
 ⟨ownsRow_fr h.1 hq (fun _ _ h => h), h.2⟩
def HeadsAt (w : World) (o : Option Addr) (l : List Nd) : Prop := ∀ i t, l[i]? = some t -> ∃ b off o1 l1 c1 o2 l2 c2, o = some ⟨b, off, none⟩ /\ Cells9 w b (off + i * 9) t o1 l1 c1 o2 l2 c2
theorem ListN.heads {B : Nat} {W : World} {o : Option Addr} {c : Nat} {l : List Nd} {xs : List Value} (h : ListN B W o c l xs) : HeadsAt W o l := by
 intro i t ht
 rcases h.1.2 with ⟨_, h0⟩ | ⟨g, cap', cur, he, _⟩
 ·rw [List.length_eq_zero_iff.1 h0] at ht; simp at ht
 ·injection he with h1 h2 h3
  subst h1
  obtain ⟨o1, l1, c1, o2, l2, c2, hj⟩ := RowN.get l xs i t h.2.1 ht
  have hc : ∀ j, j < 9 -> W.cell? ⟨g, i * 9 + j, none⟩ = (cells9 t o1 l1 c1 o2 l2 c2)[j]? := by
   intro j h8
   have e := hj j h8
   rw [Array.getElem?_eq_getElem (by simpa using h8)] at e ⊢
   have := h.1.cells (g := g) rfl (i * 9 + j) _ e
   simpa [Addr.add_lit] using this
  refine ⟨g, 0, o1, l1, c1, o2, l2, c2, rfl, ?_⟩
  rw [Nat.zero_add]
  exact ⟨hc 0 (by omega), hc 1 (by omega), hc 2 (by omega), hc 3 (by omega), hc 4 (by omega), hc 5 (by omega), hc 6 (by omega), hc 7 (by omega), hc 8 (by omega)⟩
def hds (f : To) : List Nd := f.flat.map (·.1)
def ListQ (w : World) (l : List Nd) (e : Ending) (w' : World) : Prop := ∃ o c xs, e = .returned (.slice o l.length c) /\ ListN w.heap.size w' o c l xs /\ Quiet0 w w'
end
section
open Go.RowKit
namespace Sc
theorem with_frS {w0 W w3 : World} {S : Nat -> Prop} {G : Prop} (h : Quiet0 w0 W) (hf : Fr S W w3) (k : Fr S w0 w3 -> G) : G := k ((Quiet0.fr h).trans hf)
theorem list_nil (B : Nat) (W : World) : ListN B W none 0 [] [] := ⟨World.ownsRow_nil _ _ _ _, rfl, fun k hk => (by cases hk)⟩
theorem list_fr {B : Nat} {W W' : World} {o : Option Addr} {c : Nat} {l : List Nd} {xs : List Value} {S : Nat -> Prop} (h : ListN B W o c l xs) (hf : Fr S W W') (hS : ∀ k, (Value.slice o l.length c).ownBlock = some k -> ¬ S k) : ListN B W' o c l xs :=
 ⟨ownsRow_fr h.1 hf hS, h.2⟩
theorem list_low {B B' : Nat} {W : World} {o : Option Addr} {c : Nat} {l : List Nd} {xs : List Value} (h : ListN B W o c l xs) (hB : B' <= B) : ListN B' W o c l xs :=
 ⟨h.1, h.2.1, fun k hk => Nat.le_trans hB (h.2.2 k hk)⟩
theorem list_cells {B : Nat} {W : World} {o : Option Addr} {c : Nat} {l : List Nd} {xs : List Value} (h : ListN B W o c l xs) : ∀ j u, xs[j]? = some u -> ∃ a, o = some a /\ W.cell? (a.add j) = some u := by
 intro j u hu
 rcases h.1.2 with ⟨_, h2⟩ | ⟨g, cap', cur, he, _⟩
 ·have hx := h.2.1
  rw [List.length_eq_zero_iff.1 h2] at hx
  have : xs = [] := hx
  subst this
  simp at hu
 ·injection he with h1 h2 h3
  subst h1
  exact ⟨_, rfl, h.1.cells rfl j u hu⟩
theorem step_list {ops : Array Oper} {op : Oper} {a : Act} {K : Act -> World -> Prop} {Q : Exit -> Act -> World -> Prop} {E : Prop} (W : World) (hg : op.guard = none) (s x : Operand)
    (hop : op.op = Op.call { callee := Callee.builtin Builtin.append, args := #[s, x], argTypes := #[25, 25] }) {B : Nat} {Wb : World}
    (o : Option Addr) (n c : Nat) (l : List Nd) (xs : List Value) (hs : a.eval s = .slice o n c) (hln : l.length = n) (hrow : ListN B W o c l xs) (q : Option Addr) (m d : Nat) (l' : List Nd) (ys : List Value) (hx : a.eval x = .slice q m d) (hlm : l'.length = m) (hrow2 : ListN 0 W q d l' ys)
    (hq : Quiet0 Wb W) (hB : B <= Wb.heap.size) (hb : n + m <= 1000000)
    (hK : ∀ o3 c3 w3, ListN B w3 o3 c3 (l ++ l') (xs ++ ys) -> Fr (fun k => (Value.slice o n c).ownBlock = some k) W w3 -> K (a.put op.dst (.slice o3 (n + m) c3)) w3) :
    if Region.wanted op (yielded ops a.tmps) = true then Oper.wp Tryz.prog op a W K Q else E := by
 subst hln
 subst hlm
 refine step_append_row W hg s x 25 hop 29 _ 9 112 elemTm (.slice o l.length c) l.length xs hs hrow.1 q l'.length d ys hx hrow2.1.1 (list_cells hrow2) (RowN.one _ _ hrow2.2.1) (by unfold maxLen; omega) (by omega) ?_
 intro o3 c3 w3 ho hf hob hnil
 refine hK o3 c3 w3 ⟨by rw [List.length_append]; exact ho, RowN.app _ _ _ _ hrow.2.1 hrow2.2.1, ?_⟩ hf
 rw [List.length_append]
 intro k hk
 have hz := hq.size
 rcases hob with h | h
 ·exact hrow.2.2 k (by rw [<- h]; exact hk)
 ·rw [h] at hk; cases hk; omega
end Sc
end
end Go.Proofs.YtcninopmelmajaaGreatDoor
