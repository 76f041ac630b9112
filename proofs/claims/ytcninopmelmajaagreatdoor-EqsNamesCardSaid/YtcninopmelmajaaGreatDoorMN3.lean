/-
  Texts laid together (EqMem, TyRef, TySame, TyRight, TyRight2): laws and walks, with their conditions.
-/
import Derived.StillTailTactics
import Derived.BigQuiet
import Derived.Shelf.Abstract
import Derived.Test.YtcninopmelmajaaGreatDoorMN2
set_option maxHeartbeats 8000000
set_option maxRecDepth 1000000
namespace Go.Proofs.YtcninopmelmajaaGreatDoor
open Go.Lib (hid)
section
open Go.RowKit
namespace Em
abbrev ec (t : Eqn) (o1 : Option Addr) (l1 c1 : Nat) (o2 : Option Addr) (l2 c2 : Nat) : Array Value :=
 #[.int .i64 t.1.1, .int .i64 t.1.2.1, .slice o1 l1 c1, .int .i64 t.2.1.1, .int .i64 t.2.1.2.1, .slice o2 l2 c2, .int .i64 t.2.2.1, .int .i64 t.2.2.2]
def RowQ (R : Nat -> Prop) (w : World) : List Value -> List Eqn -> Prop
 | xs, [] => xs = []
 | xs, t :: r => ∃ o1 l1 c1 o2 l2 c2 ys, xs = (ec t o1 l1 c1 o2 l2 c2).toList ++ ys /\ SlcIn R w o1 l1 t.1.2.2 /\ SlcIn R w o2 l2 t.2.1.2.2 /\ RowQ R w ys r
theorem RowQ.fr {R T S : Nat -> Prop} {w w' : World} (hf : Fr S w w') (hR : ∀ k, k < w.heap.size -> R k -> T k /\ ¬ S k) : ∀ (l : List Eqn) (xs : List Value), RowQ R w xs l -> RowQ T w' xs l
 | [], _, h => h
 | t :: r, xs, h => by
  obtain ⟨o1, l1, c1, o2, l2, c2, ys, rfl, s1, s2, hr⟩ := h
  exact ⟨o1, l1, c1, o2, l2, c2, ys, rfl, s1.fr hf hR, s2.fr hf hR, RowQ.fr hf hR r ys hr⟩
theorem RowQ.snoc {R : Nat -> Prop} {w : World} {t : Eqn} {o1 : Option Addr} {l1 c1 : Nat} {o2 : Option Addr} {l2 c2 : Nat} (s1 : SlcIn R w o1 l1 t.1.2.2) (s2 : SlcIn R w o2 l2 t.2.1.2.2) : ∀ (l : List Eqn) (xs : List Value), RowQ R w xs l -> RowQ R w (xs ++ (ec t o1 l1 c1 o2 l2 c2).toList) (l ++ [t])
 | [], xs, h => by
  cases h
  exact ⟨o1, l1, c1, o2, l2, c2, [], by simp, s1, s2, rfl⟩
 | u :: r, xs, h => by
  obtain ⟨p1, m1, d1, p2, m2, d2, ys, rfl, s1', s2', hr⟩ := h
  exact ⟨p1, m1, d1, p2, m2, d2, _, by rw [List.append_assoc], s1', s2', RowQ.snoc s1 s2 r ys hr⟩
theorem RowQ.get {R : Nat -> Prop} {w : World} : ∀ (l : List Eqn) (xs : List Value) (i : Nat) (t : Eqn), RowQ R w xs l -> l[i]? = some t -> ∃ o1 l1 c1 o2 l2 c2, SlcIn R w o1 l1 t.1.2.2 /\ SlcIn R w o2 l2 t.2.1.2.2 /\ ∀ j, j < 8 -> xs[i * 8 + j]? = (ec t o1 l1 c1 o2 l2 c2)[j]?
 | [], xs, i, t, _, h => by simp at h
 | u :: r, xs, 0, t, h, hi => by
  obtain ⟨o1, l1, c1, o2, l2, c2, ys, rfl, s1, s2, hr⟩ := h
  simp at hi; subst hi
  refine ⟨o1, l1, c1, o2, l2, c2, s1, s2, fun j hj => ?_⟩
  rw [Nat.zero_mul, Nat.zero_add, List.getElem?_append_left (by simpa using hj)]
  simp
 | u :: r, xs, i + 1, t, h, hi => by
  obtain ⟨p1, m1, d1, p2, m2, d2, ys, rfl, s1, s2, hr⟩ := h
  obtain ⟨o1, l1, c1, o2, l2, c2, t1, t2, hj⟩ := RowQ.get r ys i t hr (by simpa using hi)
  refine ⟨o1, l1, c1, o2, l2, c2, t1, t2, fun j hj' => ?_⟩
  rw [List.getElem?_append_right (by simp; omega), <- hj j hj']
  congr 1
  simp; omega
theorem RowQ.length {R : Nat -> Prop} {w : World} : ∀ (l : List Eqn) (xs : List Value), RowQ R w xs l -> xs.length = l.length * 8
 | [], xs, h => by cases h; rfl
 | t :: r, xs, h => by
  obtain ⟨o1, l1, c1, o2, l2, c2, ys, rfl, _, _, hr⟩ := h
  have := RowQ.length r ys hr
  simp; omega
def QAt (R : Nat -> Prop) (w : World) (b off : Nat) (l : List Eqn) : Prop := ∀ i t, l[i]? = some t -> ∃ o1 l1 c1 o2 l2 c2, SlcIn R w o1 l1 t.1.2.2 /\ SlcIn R w o2 l2 t.2.1.2.2 /\
 w.cell? ⟨b, off + i * 8, none⟩ = some (.int .i64 t.1.1) /\ w.cell? ⟨b, off + i * 8 + 1, none⟩ = some (.int .i64 t.1.2.1) /\ w.cell? ⟨b, off + i * 8 + 2, none⟩ = some (.slice o1 l1 c1) /\
 w.cell? ⟨b, off + i * 8 + 3, none⟩ = some (.int .i64 t.2.1.1) /\ w.cell? ⟨b, off + i * 8 + 4, none⟩ = some (.int .i64 t.2.1.2.1) /\ w.cell? ⟨b, off + i * 8 + 5, none⟩ = some (.slice o2 l2 c2) /\
 w.cell? ⟨b, off + i * 8 + 6, none⟩ = some (.int .i64 t.2.2.1) /\ w.cell? ⟨b, off + i * 8 + 7, none⟩ = some (.int .i64 t.2.2.2)
theorem QAt.of_row {R : Nat -> Prop} {w : World} {b off : Nat} {l : List Eqn} {xs : List Value} (h : RowQ R w xs l) (hc : ∀ j u, xs[j]? = some u -> w.cell? ⟨b, off + j, none⟩ = some u) : QAt R w b off l := by
 intro i t hi
 obtain ⟨o1, l1, c1, o2, l2, c2, s1, s2, hj⟩ := RowQ.get l xs i t h hi
 have hc' : ∀ j (h8 : j < 8), w.cell? ⟨b, off + i * 8 + j, none⟩ = (ec t o1 l1 c1 o2 l2 c2)[j]? := by
  intro j h8
  have e := hj j h8
  rw [Array.getElem?_eq_getElem (by simpa using h8)] at e ⊢
  have := hc (i * 8 + j) _ e
  rw [<- this]; congr 2; omega
 exact ⟨o1, l1, c1, o2, l2, c2, s1, s2, hc' 0 (by omega), hc' 1 (by omega), hc' 2 (by omega), hc' 3 (by omega), hc' 4 (by omega), hc' 5 (by omega), hc' 6 (by omega), hc' 7 (by omega)⟩
theorem QAt.move {R T S : Nat -> Prop} {w w' : World} {b off : Nat} {l : List Eqn} (h : QAt R w b off l) (hf : Fr S w w') (hR : ∀ k, k < w.heap.size -> R k -> T k /\ ¬ S k) (hc : ∀ j, j < l.length * 8 -> w'.cell? ⟨b, off + j, none⟩ = w.cell? ⟨b, off + j, none⟩) : QAt T w' b off l := by
 intro i t hi
 have hl := (List.getElem?_eq_some_iff.1 hi).1
 obtain ⟨o1, l1, c1, o2, l2, c2, s1, s2, a0, a1, a2, a3, a4, a5, a6, a7⟩ := h i t hi
 have hc' : ∀ j, j < 8 -> w'.cell? ⟨b, off + i * 8 + j, none⟩ = w.cell? ⟨b, off + i * 8 + j, none⟩ := fun j hj => by
  have := hc (i * 8 + j) (by omega)
  rw [show off + i * 8 + j = off + (i * 8 + j) from by omega]; exact this
 exact ⟨o1, l1, c1, o2, l2, c2, s1.fr hf hR, s2.fr hf hR, (hc' 0 (by omega)).trans a0, (hc' 1 (by omega)).trans a1, (hc' 2 (by omega)).trans a2, (hc' 3 (by omega)).trans a3, (hc' 4 (by omega)).trans a4, (hc' 5 (by omega)).trans a5, (hc' 6 (by omega)).trans a6, (hc' 7 (by omega)).trans a7⟩
def Rw (pb : Nat) (W : World) (k : Nat) : Prop := ∃ n c, W.cell? ⟨pb, 0, none⟩ = some (.slice (some ⟨k, 0, none⟩) n c)
def TF (X : Nat -> Prop) (pb : Nat) (W : World) (k : Nat) : Prop := k ≠ pb /\ ¬ Rw pb W k /\ ¬ X k
structure Later (pb : Nat) (W W' : World) : Prop where
 fr : Fr (fun k => k = pb ∨ Rw pb W k) W W'
 row : ∀ k, Rw pb W' k -> Rw pb W k ∨ W.heap.size <= k
 pre : ∀ k n c, W.cell? ⟨pb, 0, none⟩ = some (.slice (some ⟨k, 0, none⟩) n c) -> k ≠ pb -> k < W.heap.size -> (∀ j, j < n * 8 -> W'.cell? ⟨k, j, none⟩ = W.cell? ⟨k, j, none⟩) /\ ∀ n' c', W'.cell? ⟨pb, 0, none⟩ = some (.slice (some ⟨k, 0, none⟩) n' c') -> n <= n'
theorem Later.size {pb : Nat} {W W' : World} (h : Later pb W W') : W.heap.size <= W'.heap.size := h.fr.size
theorem Later.tf {X : Nat -> Prop} {pb : Nat} {W W' : World} (h : Later pb W W') {k : Nat} (hk : k < W.heap.size) (ht : TF X pb W k) : TF X pb W' k := ⟨ht.1, fun hr => by
 rcases h.row k hr with h1 | h1
 ·exact ht.2.1 h1
 ·omega, ht.2.2⟩
theorem Later.of_quiet {pb : Nat} {W W' : World} (h : Quiet0 W W') (hp : pb < W.heap.size) : Later pb W W' := by
 have e : W'.cell? ⟨pb, 0, none⟩ = W.cell? ⟨pb, 0, none⟩ := h.cellb hp (fun h => h)
 refine ⟨h.mono (fun _ _ h => h.elim), fun k hk => .inl ?_, fun k n c hc _ hk => ⟨fun j _ => h.cellb hk (fun h => h), fun n' c' hc' => ?_⟩⟩
 ·unfold Rw at hk ⊢; rw [e] at hk; exact hk
 ·rw [e, hc] at hc'
  injection hc' with hc'
  injection hc' with _ h2 _
  omega
theorem Later.refl {pb : Nat} {W : World} (hp : pb < W.heap.size) : Later pb W W := Later.of_quiet (Quiet0.refl W) hp
theorem Later.trans {pb : Nat} {a b c : World} (h : Later pb a b) (k : Later pb b c) : Later pb a c := by
 refine ⟨h.fr.trans' k.fr (fun i hi hs => ?_), fun i hi => ?_, fun i n q hc hne hi => ?_⟩
 ·rcases hs with hs | hs
  ·exact .inl hs
  ·rcases h.row i hs with h1 | h1
   ·exact .inr h1
   ·omega
 ·rcases k.row i hi with h1 | h1
  ·exact h.row i h1
  ·exact .inr (Nat.le_trans h.size h1)
 ·obtain ⟨p1, p2⟩ := h.pre i n q hc hne hi
  have hib : i < b.heap.size := Nat.lt_of_lt_of_le hi h.size
  by_cases hr : Rw pb b i
  ·obtain ⟨n', q', hc'⟩ := hr
   obtain ⟨p3, p4⟩ := k.pre i n' q' hc' hne hib
   have hn := p2 n' q' hc'
   exact ⟨fun j hj => (p3 j (by omega)).trans (p1 j hj), fun n'' q'' e => Nat.le_trans hn (p4 n'' q'' e)⟩
  ·refine ⟨fun j hj => (k.fr.cellb hib (fun e => ?_)).trans (p1 j hj), fun n'' q'' e => ?_⟩
   ·rcases e with e | e
    ·exact hne e
    ·exact hr e
   ·rcases k.row i ⟨n'', q'', e⟩ with h1 | h1
    ·exact absurd h1 hr
    ·omega
theorem Later.quiet {pb : Nat} {a b c : World} (h : Later pb a b) (k : Quiet0 b c) (hp : pb < a.heap.size) : Later pb a c := h.trans (Later.of_quiet k (Nat.lt_of_lt_of_le hp h.size))
theorem jm {pb : Nat} {a b : World} {o : Obj} (hp : pb < a.heap.size) (h : Later pb a b) : Later pb a (b.alloc o) := h.quiet (Quiet0.alloc _ _) hp
theorem jo {pb : Nat} {a b : World} (hp : pb < a.heap.size) (h : Later pb a b) : Later pb a b.drew := h.quiet (Quiet0.drew _) hp
theorem slc_later {X : Nat -> Prop} {pb : Nat} {W W' : World} {o : Option Addr} {len : Nat} {f : Fo} (h : SlcIn (TF X pb W) W o len f) (hl : Later pb W W') : SlcIn (TF X pb W') W' o len f :=
 h.fr hl.fr (fun _ hk ht => ⟨hl.tf hk ht, fun e => e.elim ht.1 ht.2.1⟩)
structure MkAt (X : Nat -> Prop) (most : Int) (pb : Nat) (W : World) (k : Mk) (o : Option Addr) (c : Nat) (xs : List Value) : Prop where
 box : W.heap[pb]? = some (.cells #[.slice o k.eqs.length c, .int .i64 k.next, .int .i64 most, .bool k.many] 81 (0, 0))
 own : W.ownsRow 0 74 8 (.slice o k.eqs.length c) k.eqs.length xs
 low : ∀ g, (Value.slice o k.eqs.length c).ownBlock = some g -> pb < g /\ ¬ X g
 cells : RowQ (TF X pb W) W xs k.eqs
 few : k.eqs.length <= 4096
 small : ∀ t ∈ k.eqs, t.1.2.2.size <= 100000 /\ t.2.1.2.2.size <= 100000
 old : ∀ i, X i -> i < W.heap.size
 notp : ¬ X pb
theorem mk_cells {W : World} {b : Nat} {v0 v1 v2 v3 : Value} {t : TypeId} (h : W.heap[b]? = some (.cells #[v0, v1, v2, v3] t (0, 0))) : W.cell? ⟨b, 0, none⟩ = some v0 /\ W.cell? ⟨b, 1, none⟩ = some v1 /\ W.cell? ⟨b, 2, none⟩ = some v2 /\ W.cell? ⟨b, 3, none⟩ = some v3 := by
 refine ⟨?_, ?_, ?_, ?_⟩ <;> (rw [cell_of_row _ _ _ _ _ (0, 0) h]; rfl)
theorem MkAt.lt {X : Nat -> Prop} {most : Int} {pb : Nat} {W : World} {k : Mk} {o : Option Addr} {c : Nat} {xs : List Value} (h : MkAt X most pb W k o c xs) : pb < W.heap.size := lt_of_block h.box
theorem MkAt.form {X : Nat -> Prop} {most : Int} {pb : Nat} {W : World} {k : Mk} {o : Option Addr} {c : Nat} {xs : List Value} (h : MkAt X most pb W k o c xs) : (o = none /\ k.eqs.length = 0 /\ c = 0) ∨ ∃ g, o = some ⟨g, 0, none⟩ /\ pb < g /\ g < W.heap.size /\ k.eqs.length <= c := by
 rcases h.own.2 with ⟨h1, h2⟩ | ⟨g, cap, cur, h1, _, h3, h4, h5, _⟩
 ·injection h1 with e1 e2 e3
  exact .inl ⟨e1, h2, e3⟩
 ·injection h1 with e1 e2 e3
  subst e1
  exact .inr ⟨g, rfl, (h.low g rfl).1, lt_of_block h3, by omega⟩
theorem MkAt.rw_iff {X : Nat -> Prop} {most : Int} {pb : Nat} {W : World} {k : Mk} {o : Option Addr} {c : Nat} {xs : List Value} (h : MkAt X most pb W k o c xs) (i : Nat) : Rw pb W i ↔ o = some ⟨i, 0, none⟩ := by
 unfold Rw
 rw [(mk_cells h.box).1]
 constructor
 ·rintro ⟨n, c', e⟩
  injection e with e
  injection e with e1 _ _
 ·intro e
  exact ⟨_, _, by rw [e]⟩
theorem MkAt.stay {X : Nat -> Prop} {most : Int} {pb : Nat} {W W' : World} {k : Mk} {o : Option Addr} {c : Nat} {xs : List Value} (h : MkAt X most pb W k o c xs) (hq : Quiet0 W W') : MkAt X most pb W' k o c xs :=
 ⟨blk_after hq h.box, ownsRow_fr h.own hq (fun _ _ h => h), h.low, RowQ.fr hq (fun _ hi ht => ⟨(Later.of_quiet hq h.lt).tf hi ht, fun h => h⟩) _ _ h.cells, h.few, h.small, fun i hi => Nat.lt_of_lt_of_le (h.old i hi) hq.size, h.notp⟩
theorem MkAt.put {X : Nat -> Prop} {most : Int} {pb : Nat} {W W' : World} {k : Mk} {o : Option Addr} {c : Nat} {xs : List Value} (h : MkAt X most pb W k o c xs) (hf : Fr X W W') : MkAt X most pb W' k o c xs := by
 have hc : W'.cell? ⟨pb, 0, none⟩ = W.cell? ⟨pb, 0, none⟩ := hf.cellb h.lt h.notp
 exact ⟨blk_fr hf h.notp h.box, ownsRow_fr h.own hf (fun g hg => (h.low g hg).2), h.low, RowQ.fr hf (fun i hi ht => ⟨⟨ht.1, by unfold Rw; rw [hc]; exact ht.2.1, ht.2.2⟩, ht.2.2⟩) _ _ h.cells, h.few, h.small, fun i hi => Nat.lt_of_lt_of_le (h.old i hi) hf.size, h.notp⟩
theorem MkAt.more {X : Nat -> Prop} {most : Int} {pb : Nat} {W W' : World} {k : Mk} {o : Option Addr} {c : Nat} {xs : List Value} (h : MkAt X most pb W k o c xs) (hq : Quiet0 W W') (Y : Nat -> Prop) (hY : ∀ i, Y i -> W.heap.size <= i /\ i < W'.heap.size) : MkAt (fun i => X i ∨ Y i) most pb W' k o c xs := by
 have h' := h.stay hq
 have hz := hq.size
 have hp := h.lt
 refine ⟨h'.box, h'.own, fun g hg => ⟨(h.low g hg).1, fun e => e.elim (h.low g hg).2 (fun y => ?_)⟩, ?_, h.few, h.small, fun i hi => hi.elim (h'.old i) (fun y => (hY i y).2), fun e => e.elim h.notp (fun y => ?_)⟩
 ·have := (h.own.lt g hg).2; have := hY g y; omega
 ·exact RowQ.fr hq (fun i hi ht => ⟨⟨ht.1, ((Later.of_quiet hq hp).tf hi ht).2.1, fun e => e.elim ht.2.2 (fun y => by have := hY i y; omega)⟩, fun h => h⟩) _ _ h.cells
 ·have := hY pb y; omega
theorem MkAt.less {X Y : Nat -> Prop} {most : Int} {pb : Nat} {W : World} {k : Mk} {o : Option Addr} {c : Nat} {xs : List Value} (h : MkAt X most pb W k o c xs) (hY : ∀ i, Y i -> X i) : MkAt Y most pb W k o c xs :=
 ⟨h.box, h.own, fun g hg => ⟨(h.low g hg).1, fun e => (h.low g hg).2 (hY g e)⟩, RowQ.fr (Fr.refl (fun _ => False) W) (fun i _ ht => ⟨⟨ht.1, ht.2.1, fun e => ht.2.2 (hY i e)⟩, fun h => h⟩) _ _ h.cells, h.few, h.small, fun i hi => h.old i (hY i hi), fun e => h.notp (hY pb e)⟩
theorem Later.put {pb : Nat} {a b c : World} {S : Nat -> Prop} (h : Later pb a b) (hf : Fr S b c) (hp : pb < a.heap.size) (hS : ∀ i, S i -> a.heap.size <= i) : Later pb a c := by
 have hpn : ¬ S pb := fun e => by have := hS pb e; omega
 have e : c.cell? ⟨pb, 0, none⟩ = b.cell? ⟨pb, 0, none⟩ := hf.cellb (Nat.lt_of_lt_of_le hp h.size) hpn
 refine ⟨h.fr.trans' hf (fun i hi hs => by have := hS i hs; omega), fun i hi => h.row i (by unfold Rw at hi ⊢; rw [e] at hi; exact hi), fun i n q hc hne hi => ?_⟩
 obtain ⟨p1, p2⟩ := h.pre i n q hc hne hi
 refine ⟨fun j hj => (hf.cellb (Nat.lt_of_lt_of_le hi h.size) (fun hs => by have := hS i hs; omega)).trans (p1 j hj), fun n' q' hc' => p2 n' q' (by rw [<- e]; exact hc')⟩
def MkE (X : Nat -> Prop) (most : Int) (pb : Nat) (W : World) (k : Mk) : Prop := ∃ o c xs, MkAt X most pb W k o c xs
theorem MkE.stay {X : Nat -> Prop} {most : Int} {pb : Nat} {W W' : World} {k : Mk} (h : MkE X most pb W k) (hq : Quiet0 W W') : MkE X most pb W' k := by obtain ⟨o, c, xs, h⟩ := h; exact ⟨o, c, xs, h.stay hq⟩
theorem ja {X : Nat -> Prop} {most : Int} {pb : Nat} {W : World} {o : Obj} {k : Mk} (h : MkE X most pb W k) : MkE X most pb (W.alloc o) k := h.stay (Quiet0.alloc _ _)
theorem jb {X : Nat -> Prop} {most : Int} {pb : Nat} {W : World} {k : Mk} (h : MkE X most pb W k) : MkE X most pb W.drew k := h.stay (Quiet0.drew _)
theorem MkE.put {X : Nat -> Prop} {most : Int} {pb : Nat} {W W' : World} {k : Mk} (h : MkE X most pb W k) (hf : Fr X W W') : MkE X most pb W' k := by obtain ⟨o, c, xs, h⟩ := h; exact ⟨o, c, xs, h.put hf⟩
theorem MkE.more {X : Nat -> Prop} {most : Int} {pb : Nat} {W W' : World} {k : Mk} (h : MkE X most pb W k) (hq : Quiet0 W W') (Y : Nat -> Prop) (hY : ∀ i, Y i -> W.heap.size <= i /\ i < W'.heap.size) : MkE (fun i => X i ∨ Y i) most pb W' k := by obtain ⟨o, c, xs, h⟩ := h; exact ⟨o, c, xs, h.more hq Y hY⟩
theorem MkE.less {X Y : Nat -> Prop} {most : Int} {pb : Nat} {W : World} {k : Mk} (h : MkE X most pb W k) (hY : ∀ i, Y i -> X i) : MkE Y most pb W k := by obtain ⟨o, c, xs, h⟩ := h; exact ⟨o, c, xs, h.less hY⟩
theorem MkE.lt {X : Nat -> Prop} {most : Int} {pb : Nat} {W : World} {k : Mk} (h : MkE X most pb W k) : pb < W.heap.size := by obtain ⟨o, c, xs, h⟩ := h; exact h.lt
theorem MkE.old {X : Nat -> Prop} {most : Int} {pb : Nat} {W : World} {k : Mk} (h : MkE X most pb W k) : ∀ i, X i -> i < W.heap.size := by obtain ⟨o, c, xs, h⟩ := h; exact h.old
theorem MkE.new {X : Nat -> Prop} {most : Int} {pb : Nat} {W W' : World} {k : Mk} {o : Option Addr} {len : Nat} {f : Fo} (h : MkE X most pb W k) (hq : Quiet0 W W') (hs : SlcIn (fun i => W.heap.size <= i) W' o len f) : SlcIn (TF X pb W') W' o len f := by
 obtain ⟨oo, c, xs, h⟩ := h
 have h' := h.stay hq
 refine hs.mono (fun i hi hk => ⟨by have := h.lt; omega, fun e => ?_, fun e => by have := h.old i e; omega⟩)
 have e' := (h.rw_iff i).1 (by
  obtain ⟨n, c', e⟩ := e
  rw [hq.cellb h.lt (fun h => h)] at e
  exact ⟨n, c', e⟩)
 rcases h.form with ⟨h1, _⟩ | ⟨g, h1, _, h3, _⟩
 ·rw [h1] at e'; cases e'
 ·rw [h1] at e'; cases e'; omega
def MkQ (X : Nat -> Prop) (most : Int) (pb : Nat) (W : World) (r : Ty × Mk) (x : Ending) (W' : World) : Prop := ∃ (n : Nat) (o : Option Addr) (cap : Nat), r.1 = tv n /\ x = .returned (tyv 1 n o 0 cap) /\ MkE X most pb W' r.2 /\ Later pb W W'
def MkU (X : Nat -> Prop) (most : Int) (pb : Nat) (W : World) (k : Mk) (x : Ending) (W' : World) : Prop := x = .returned (.tuple #[]) /\ MkE X most pb W' k /\ Later pb W W'
theorem mk_free {W : World} {b : Nat} {v0 v1 v2 v3 : Value} {t : TypeId} (h : W.heap[b]? = some (.cells #[v0, v1, v2, v3] t (0, 0))) : W.frozen? ⟨b, 0, none⟩ = false /\ W.frozen? ⟨b, 1, none⟩ = false /\ W.frozen? ⟨b, 2, none⟩ = false /\ W.frozen? ⟨b, 3, none⟩ = false := by
 refine ⟨?_, ?_, ?_, ?_⟩ <;> simp [World.frozen?, h]
theorem Later.of_pb {pb : Nat} {W W' : World} (hf : Fr (fun i => i = pb) W W') (hc : W'.cell? ⟨pb, 0, none⟩ = W.cell? ⟨pb, 0, none⟩) : Later pb W W' := by
 refine ⟨hf.mono (fun _ _ h => .inl h), fun i hi => .inl (by unfold Rw at hi ⊢; rw [hc] at hi; exact hi), fun i n c e hne hi => ⟨fun j _ => hf.cellb hi hne, fun n' c' e' => ?_⟩⟩
 rw [hc, e] at e'
 injection e' with e'
 injection e' with _ h2 _
 omega
theorem MkAt.box_set {X : Nat -> Prop} {most : Int} {pb : Nat} {W : World} {k k' : Mk} {o : Option Addr} {c : Nat} {xs : List Value} (h : MkAt X most pb W k o c xs) (j : Nat) (u : Value) (_ : 0 < j) (he : k'.eqs = k.eqs)
    (hb : #[Value.slice o k.eqs.length c, .int .i64 k.next, .int .i64 most, .bool k.many].setIfInBounds j u = #[Value.slice o k.eqs.length c, .int .i64 k'.next, .int .i64 most, .bool k'.many]) : MkAt X most pb (W.setCell ⟨pb, j, none⟩ u) k' o c xs /\ Later pb W (W.setCell ⟨pb, j, none⟩ u) := by
 have hf := Fr.setCell (fun i => i = pb) W ⟨pb, j, none⟩ u rfl
 have hbox : (W.setCell ⟨pb, j, none⟩ u).heap[pb]? = some (.cells #[Value.slice o k'.eqs.length c, .int .i64 k'.next, .int .i64 most, .bool k'.many] 81 (0, 0)) := by
  rw [set_block h.box, hb, he]
 have hc : (W.setCell ⟨pb, j, none⟩ u).cell? ⟨pb, 0, none⟩ = W.cell? ⟨pb, 0, none⟩ := by
  rw [(mk_cells hbox).1, (mk_cells h.box).1, he]
 have hl := Later.of_pb hf hc
 have hgp : ∀ g, (Value.slice o k.eqs.length c).ownBlock = some g -> ¬ g = pb := fun g hg e => by have := (h.low g hg).1; omega
 refine ⟨⟨hbox, by rw [he]; exact ownsRow_fr h.own hf hgp, by rw [he]; exact h.low, by rw [he]; exact RowQ.fr hf (fun i hi ht => ⟨hl.tf hi ht, ht.1⟩) _ _ h.cells, by rw [he]; exact h.few, by rw [he]; exact h.small, fun i hi => Nat.lt_of_lt_of_le (h.old i hi) hf.size, h.notp⟩, hl⟩
theorem MkAt.snoc {X : Nat -> Prop} {most : Int} {pb : Nat} {W w' : World} {k : Mk} {o : Option Addr} {c : Nat} {xs : List Value} (h : MkAt X most pb W k o c xs) {t : Eqn} {o1 : Option Addr} {l1 c1 : Nat} {o2 : Option Addr} {l2 c2 : Nat} (s1 : SlcIn (TF X pb W) W o1 l1 t.1.2.2) (s2 : SlcIn (TF X pb W) W o2 l2 t.2.1.2.2) {g c' : Nat}
    (ho : w'.ownsRow 0 74 8 (.slice (some ⟨g, 0, none⟩) (k.eqs.length + 1) c') (k.eqs.length + 1) (xs ++ (ec t o1 l1 c1 o2 l2 c2).toList)) (hf : Fr (fun i => (Value.slice o k.eqs.length c).ownBlock = some i) W w') (hg : (Value.slice o k.eqs.length c).ownBlock = some g ∨ (W.heap.size <= g /\ Quiet0 W w'))
    (hz : k.eqs.length + 1 <= 4096) (hs : t.1.2.2.size <= 100000 /\ t.2.1.2.2.size <= 100000) :
    MkAt X most pb (w'.setCell ⟨pb, 0, none⟩ (.slice (some ⟨g, 0, none⟩) (k.eqs.length + 1) c')) { k with eqs := k.eqs ++ [t] } (some ⟨g, 0, none⟩) c' (xs ++ (ec t o1 l1 c1 o2 l2 c2).toList) /\ Later pb W (w'.setCell ⟨pb, 0, none⟩ (.slice (some ⟨g, 0, none⟩) (k.eqs.length + 1) c')) := by
 have hp := h.lt
 have hsz := hf.size
 have hown : ∀ i, (Value.slice o k.eqs.length c).ownBlock = some i -> pb < i /\ ¬ X i /\ i < W.heap.size := fun i hi => ⟨(h.low i hi).1, (h.low i hi).2, (h.own.lt i hi).2⟩
 have hgp : g ≠ pb /\ pb < g /\ ¬ X g := by
  rcases hg with e | ⟨e, _⟩
  ·have := hown g e; exact ⟨by omega, this.1, this.2.1⟩
  ·exact ⟨by omega, by omega, fun hx => by have := h.old g hx; omega⟩
 have hbw : w'.heap[pb]? = some (.cells #[.slice o k.eqs.length c, .int .i64 k.next, .int .i64 most, .bool k.many] 81 (0, 0)) := blk_fr hf (fun e => by have := hown pb e; omega) h.box
 obtain ⟨W2, hW2⟩ : ∃ W2, W2 = w'.setCell ⟨pb, 0, none⟩ (.slice (some ⟨g, 0, none⟩) (k.eqs.length + 1) c') := ⟨_, rfl⟩
 have hf2 : Fr (fun i => i = pb) w' W2 := by rw [hW2]; exact Fr.setCell (fun i => i = pb) w' ⟨pb, 0, none⟩ _ rfl
 have hb2 : W2.heap[pb]? = some (.cells #[.slice (some ⟨g, 0, none⟩) (k.eqs.length + 1) c', .int .i64 k.next, .int .i64 most, .bool k.many] 81 (0, 0)) := by
  rw [hW2, set_block hbw]; rfl
 rw [<- hW2]
 clear hW2
 have hfa : Fr (fun i => i = pb ∨ (Value.slice o k.eqs.length c).ownBlock = some i) W W2 := (hf.mono (fun _ _ e => .inr e)).trans (hf2.mono (fun _ _ e => .inl e))
 have hrw2 : ∀ i, Rw pb W2 i ↔ i = g := fun i => by
  unfold Rw
  rw [(mk_cells hb2).1]
  constructor
  ·rintro ⟨n, c2, e⟩
   injection e with e
   injection e with e1 _ _
   injection e1 with e1
   injection e1 with e1
   exact e1.symm
  ·intro e; exact ⟨_, _, by rw [e]⟩
 have hrw1 : ∀ i, Rw pb W i ↔ (Value.slice o k.eqs.length c).ownBlock = some i := fun i => by
  rw [h.rw_iff]
  rcases h.form with ⟨rfl, h2, h3⟩ | ⟨q, rfl, _⟩
  ·constructor
   ·intro e; cases e
   ·intro e; simp [Value.ownBlock] at e
  ·simp [Value.ownBlock]
 have hTF : ∀ i, i < W.heap.size -> TF X pb W i -> TF X pb W2 i /\ ¬ (i = pb ∨ (Value.slice o k.eqs.length c).ownBlock = some i) := fun i hi ht => by
  refine ⟨⟨ht.1, fun e => ?_, ht.2.2⟩, fun e => e.elim ht.1 (fun e => ht.2.1 ((hrw1 i).2 e))⟩
  have e' := (hrw2 i).1 e
  subst e'
  rcases hg with e2 | ⟨e2, _⟩
  ·exact ht.2.1 ((hrw1 i).2 e2)
  ·omega
 have hol : (k.eqs ++ [t]).length = k.eqs.length + 1 := by simp
 refine ⟨⟨by rw [show ({ k with eqs := k.eqs ++ [t] } : Mk).eqs.length = k.eqs.length + 1 from hol]; exact hb2, by rw [show ({ k with eqs := k.eqs ++ [t] } : Mk).eqs.length = k.eqs.length + 1 from hol]; exact ownsRow_fr ho hf2 (fun i hi => by simp [Value.ownBlock] at hi; omega), fun i hi => by simp [Value.ownBlock] at hi; subst hi; exact hgp.2, RowQ.snoc (s1.fr hfa hTF) (s2.fr hfa hTF) _ _ (RowQ.fr hfa hTF _ _ h.cells), by rw [show ({ k with eqs := k.eqs ++ [t] } : Mk).eqs.length = k.eqs.length + 1 from hol]; exact hz, fun u hu => ?_, fun i hi => Nat.lt_of_lt_of_le (h.old i hi) hfa.size, h.notp⟩, ?_⟩
 ·rcases List.mem_append.1 hu with hu | hu
  ·exact h.small u hu
  ·rw [List.mem_singleton.1 hu]; exact hs
 ·refine ⟨hfa.mono (fun i _ e => e.elim .inl (fun e => .inr ((hrw1 i).2 e))), fun i hi => ?_, fun i n q hc hne hi => ?_⟩
  ·have e := (hrw2 i).1 hi
   subst e
   rcases hg with e | ⟨e, _⟩
   ·exact .inl ((hrw1 i).2 e)
   ·exact .inr e
  ·have hiw : (Value.slice o k.eqs.length c).ownBlock = some i := (hrw1 i).1 ⟨n, q, hc⟩
   have hn : n = k.eqs.length := by
    rw [(mk_cells h.box).1] at hc
    injection hc with hc
    injection hc with _ h2 _
    exact h2.symm
   subst hn
   refine ⟨fun j hj => ?_, fun n' q' hc' => ?_⟩
   ·by_cases hgi : g = i
    ·subst hgi
     have hxl : xs.length = k.eqs.length * 8 := RowQ.length _ _ h.cells
     have hv : ∃ u, xs[j]? = some u := ⟨_, List.getElem?_eq_getElem (by omega)⟩
     obtain ⟨u, hu⟩ := hv
     have h1 := h.own.cells (g := g) (by
      rcases h.form with ⟨rfl, _⟩ | ⟨q2, rfl, _⟩
      ·simp [Value.ownBlock] at hiw
      ·simp [Value.ownBlock] at hiw; subst hiw; rfl) j u hu
     have h2 := ho.cells (g := g) rfl j u (by rw [List.getElem?_append_left (by omega)]; exact hu)
     have h3 := hf2.cellb (b := g) (off := j) (ho.lt g rfl).2 hne
     rw [h3]
     simp only [Addr.add_lit, Nat.zero_add] at h1 h2
     rw [h1, h2]
    ·rw [hf2.cellb (Nat.lt_of_lt_of_le hi hf.size) hne]
     rcases hg with e | ⟨_, e⟩
     ·exact absurd (Option.some.inj (e.symm.trans hiw)) hgi
     ·exact e.cellb hi (fun h => h)
   ·rw [(mk_cells hb2).1] at hc'
    injection hc' with hc'
    injection hc' with _ h2 _
    omega
theorem mku_of {X : Nat -> Prop} {most : Int} {pb : Nat} {W W' : World} {k : Mk} (h : MkE X most pb W' k) (hl : Later pb W W') : MkU X most pb W k (.returned (.tuple #[])) W' := ⟨rfl, h, hl⟩
theorem MkE.far {X : Nat -> Prop} {most : Int} {pb : Nat} {W : World} {k : Mk} (h : MkE X most pb W k) {i : Nat} (hi : X i) : ¬ (i = pb ∨ Rw pb W i) := by
 obtain ⟨o, c, xs, h⟩ := h
 rintro (e | e)
 ·subst e; exact h.notp hi
 ·have e' := (h.rw_iff i).1 e
  exact (h.low i (by rw [e']; rfl)).2 hi
theorem MkE.fresh {X : Nat -> Prop} {most : Int} {pb : Nat} {W W' : World} {k : Mk} (h : MkE X most pb W k) (hq : Quiet0 W W') {i : Nat} (hi : W.heap.size <= i) : TF X pb W' i := by
 obtain ⟨o, c, xs, h⟩ := h
 refine ⟨by have := h.lt; omega, fun e => ?_, fun e => by have := h.old i e; omega⟩
 have e' := (h.rw_iff i).1 (by
  obtain ⟨n, c', e⟩ := e
  rw [hq.cellb h.lt (fun h => h)] at e
  exact ⟨n, c', e⟩)
 rcases h.form with ⟨h1, _⟩ | ⟨g, h1, _, h3, _⟩
 ·rw [h1] at e'; cases e'
 ·rw [h1] at e'; cases e'; omega
end Em
end
section
open Go.RowKit
def IntsAt (w : World) (o : Option Addr) (l : List Int) : Prop := ∀ i x, l[i]? = some x -> ∃ b off, o = some ⟨b, off, none⟩ /\ w.cell? ⟨b, off + i, none⟩ = some (.int .i64 x)
theorem IntsAt.stay {w w' : World} {o : Option Addr} {l : List Int} (h : IntsAt w o l) (hq : Quiet0 w w') : IntsAt w' o l := by
 intro i x hi
 obtain ⟨b, off, ho, hc⟩ := h i x hi
 exact ⟨b, off, ho, hq.at hc⟩
theorem drop_some {α : Type} {l : List α} {k : Nat} {t : α} (h : l[k]? = some t) : l.drop k = t :: l.drop (k + 1) := by
 obtain ⟨hl, rfl⟩ := List.getElem?_eq_some_iff.1 h
 exact List.drop_eq_getElem_cons hl
theorem refIn_any (o : Option Addr) (len cap : Nat) (l : List Int) (v : Int) (w : World) (h : IntsAt w o l) (hl : len = l.length) (hb : len <= 1000000) :
    Calls Tryz.prog 89 #[.slice o len cap, .int .i64 v] w fun e w' => e = .returned (.bool (inB l v)) /\ w = w' := by
 have H := hid h
 have HL := hid hl
 clear h hl
 go_enter Tryz.func89, Tryz.ntmps89
 go_wp2_with fail
 go_loop [5] (fun t => ∃ i : Nat, t = .int .i64 i /\ i <= len /\ inB l v = inB (l.drop i) v) (fun t => len - (intOf t).toNat)
 case atStart => exact ⟨0, rfl, Nat.zero_le _, rfl⟩
 case round =>
  obtain ⟨i, rfl, hi, hc⟩ := hrel
  have HC := hid hc
  clear hc
  by_cases hlt : i < len
  ·have hlt' : (i : Int) < len := by omega
   obtain ⟨x, hx⟩ : ∃ x, l[i]? = some x := ⟨_, List.getElem?_eq_getElem (by have := HL.out; omega)⟩
   obtain ⟨b, off, rfl, c⟩ := H.out i x hx
   have HD := hid (drop_some hx)
   clear hx
   cases hxv : (x == v)
   ·have HX : Hid ((v == x) = false) := by
      show _ = _
      rw [beq_eq_false_iff_ne] at hxv ⊢; exact fun h => hxv h.symm
    go_wp2_with fail
    go_round
    case rel => exact ⟨i + 1, by go_num, by omega, by rw [HC.out, HD.out, inB_cons, HX.out]; rfl⟩
    case measure => simp [intOf]; omega
   ·have HX : Hid (v = x) := by show _ = _; exact (beq_iff_eq.1 hxv).symm
    go_wp2_with fail
    go_ret
    exact ⟨by rw [HC.out, HD.out, inB_cons, HX.out]; simp, rfl⟩
  ·have hlt' : ¬ (i : Int) < len := by omega
   go_wp2_with fail
   go_ret
   exact ⟨by rw [HC.out, List.drop_eq_nil_of_le (by have := HL.out; omega)]; rfl, rfl⟩
def LRoom (k n : Int) (ps : Fo) : Prop := ∀ (w : World) (o : Option Addr) (len cap : Nat) (d : Nat) (m : Int) (di : Int), di = d -> Slc w o len ps -> 0 <= m -> m <= 100000 -> d <= 100000 ->
 Calls Tryz.prog 100 #[tyv k n o len cap, .int .i64 m, .int .i64 di] w fun e w' => e = .returned (.int .i64 (if d = 0 then -1 else Fo.room (d - 1) (m - 1) ps)) /\ Quiet0 w w'
theorem room_any (k n : Int) (ps : Fo) : LRoom k n ps := by
 refine Fo.ind' (T := LRoom) ?_ k n ps
 intro k n ps ih w o len cap d m di ed hs hm0 hm1 hd1
 subst ed
 have HS := hid hs
 have IH := hid ih
 have HL := hid hs.1
 have hmx := hs.2.1
 unfold maxLen at hmx
 clear hs ih
 by_cases hd0 : d = 0
 ·subst hd0
  unfold tyv
  go_enter Tryz.func100, Tryz.ntmps100
  go_wp2_with fail
  go_ret
  exact ⟨rfl, Quiet0.alloc _ _⟩
 ·obtain ⟨D, hD⟩ : ∃ D, D = d - 1 := ⟨_, rfl⟩
  have hd0' : ((d : Int) == 0) = false := by simp; omega
  have hdD : d = D + 1 := by omega
  obtain ⟨res, hres⟩ : ∃ res, res = Fo.room D (m - 1) ps := ⟨_, rfl⟩
  have HRES := hid hres
  have HF : Hid ((if d = 0 then -1 else Fo.room (d - 1) (m - 1) ps) = res) := by show _ = _; rw [if_neg (by omega), <- hD, hres]
  rw [HF.out]
  have HDD := hid hdD
  have hD1 : D <= 100000 := by omega
  have hd1' : 1 <= d := by omega
  clear hres hd0 hD hdD
  unfold tyv
  go_enter Tryz.func100, Tryz.ntmps100
  go_wp2_with fail
  obtain ⟨W0, hW0⟩ : ∃ W0, W0 = w.alloc (.cells #[.int .i64 k, .int .i64 n, .slice o len cap] 24) := ⟨_, rfl⟩
  have HB0 : Hid (∀ W, Quiet0 W0 W -> W.cell? ⟨w.heap.size, 0, none⟩ = some (.int .i64 k)) := by
   intro W hq; rw [hW0] at hq; exact (box_cells w k n o len cap _ W hq).1
  have HB1 : Hid (∀ W, Quiet0 W0 W -> W.cell? ⟨w.heap.size, 1, none⟩ = some (.int .i64 n)) := by
   intro W hq; rw [hW0] at hq; exact (box_cells w k n o len cap _ W hq).2.1
  have HB : Hid (∀ W, Quiet0 W0 W -> W.cell? ⟨w.heap.size, 2, none⟩ = some (.slice o len cap)) := by
   intro W hq; rw [hW0] at hq; exact (box_cells w k n o len cap _ W hq).2.2
  have HQ0 : Hid (Quiet0 w W0) := by rw [hW0]; exact Quiet0.alloc _ _
  change Code.wp _ _ _ _ (w.alloc (.cells #[.int .i64 k, .int .i64 n, .slice o len cap] 24))
  rw [<- hW0]
  clear hW0
  generalize w.heap.size = nb at *
  go_loopw [1, 7] (fun s t wr => ∃ (i : Nat) (x : Int), t = .int .i64 i /\ s = .int .i64 x /\ i <= len /\ -1 <= x /\ x <= 100000 /\ res = Fo.room D x (ps.drop i) /\ Quiet0 W0 wr) (fun _ t _ => len - (intOf t).toNat)
  case atStart => exact ⟨0, m - 1, rfl, rfl, Nat.zero_le _, by omega, by omega, by rw [Fo.drop_zero]; exact HRES.out, Quiet0.refl _⟩
  case round =>
   obtain ⟨i, x, rfl, rfl, hi, hx0, hx1, hr, hq⟩ := hrel
   have HR := hid hr
   have HQ := hid hq
   have c2 := HB.out wr hq
   clear hr hq
   by_cases hlt : i < len
   ·have hlt' : (i : Int) < len := by omega
    by_cases hx : 0 <= x
    ·obtain ⟨b, off, k', n', qs, o', len', cap', rfl, hd, hg, e0, e1, e2, hs'⟩ := (HS.out.stay (HQ0.out.trans HQ.out)).nth hlt
     have HC := hid (IH.out i k' n' qs hg wr o' len' cap' D x ((d : Int) - 1) (by have := HDD.out; omega) hs' hx hx1 hD1)
     obtain ⟨y, hy⟩ : ∃ y, y = if D = 0 then -1 else Fo.room (D - 1) (x - 1) qs := ⟨_, rfl⟩
     have hyb : -1 <= y /\ y <= 100000 := by
      rw [hy]; split
      ·omega
      ·by_cases h1 : 0 <= x - 1
       ·have := Fo.room_le qs (D - 1) (x - 1) h1; omega
       ·rw [Fo.room_neg _ _ _ (by omega)]; omega
     have HY : Hid (res = Fo.room D y (ps.drop (i + 1))) := by
      show _ = _
      rw [HR.out, hd, hy]
      cases D with
      | zero => conv => lhs; unfold Fo.room
                rw [if_neg (by omega)]; rfl
      | succ E => conv => lhs; unfold Fo.room
                  rw [if_neg (by omega), if_neg (by omega)]; rfl
     rw [<- hy] at HC
     unfold tyv at HC
     clear hd hg hs' hy
     go_wp2_with fail
     refine HC.out.mono ?_; rintro e w1 ⟨rfl, hq1⟩
     have HQ1 := hid (HQ.out.trans hq1)
     clear hq1
     go_wp2_with fail
     go_roundw
     case rel => exact ⟨i + 1, y, by go_num, rfl, by omega, hyb.1, hyb.2, HY.out, HQ1.out⟩
     case measure => simp [intOf]; omega
    ·have hx' : x < 0 := by omega
     have HY : Hid (res = x) := by show _ = _; rw [HR.out]; exact Fo.room_neg _ _ _ hx'
     go_wp2_with fail
     go_ret
     exact ⟨by rw [HY.out]; rfl, HQ0.out.trans HQ.out⟩
   ·have hlt' : ¬ (i : Int) < len := by omega
    have HY : Hid (res = x) := by
     show _ = _
     rw [HR.out, Fo.drop_end ps i (by have := HL.out; omega)]
     unfold Fo.room; rfl
    go_wp2_with fail
    go_ret
    exact ⟨by rw [HY.out]; rfl, HQ0.out.trans HQ.out⟩
def greatF (ps : Fo) : Bool := decide (Fo.room 39 299 ps < 0)
theorem great_size {ps : Fo} (h : greatF ps = false) : ps.size + 1 <= 300 := by
 unfold greatF at h
 have h0 : 0 <= Fo.room 39 299 ps := by simpa using h
 have := Fo.room_size ps 39 299 h0
 omega
theorem great_any (k n : Int) (ps : Fo) (w : World) (o : Option Addr) (len cap : Nat) (hs : Slc w o len ps) :
    Calls Tryz.prog 74 #[tyv k n o len cap] w fun e w' => e = .returned (.bool (greatF ps)) /\ Quiet0 w w' := by
 have HC := hid (fun (W : World) (hq : Quiet0 w W) => room_any k n ps W o len cap 40 300 40 rfl (hs.stay hq) (by omega) (by omega) (by omega))
 unfold greatF
 rw [if_neg (by omega), show (40 : Nat) - 1 = 39 from rfl, show (300 : Int) - 1 = 299 from rfl] at HC
 generalize Fo.room 39 299 ps = r at *
 unfold tyv at *
 go_enter Tryz.func74, Tryz.ntmps74
 go_wp2_with fail
 refine (HC.out _ (Quiet0.alloc _ _)).mono ?_; rintro e w1 ⟨rfl, hq⟩
 go_wp2_with fail
 go_ret
 exact ⟨rfl, (Quiet0.alloc _ _).trans hq⟩
end
section
open Go.RowKit
def sameT (k n : Int) (ps : Fo) (k' n' : Int) (ps' : Fo) : Bool := (k == k') && (n == n') && ps.same ps'
theorem same_cons (k n : Int) (ps r : Fo) (k' n' : Int) (ps' r' : Fo) : (Fo.cons k n ps r).same (Fo.cons k' n' ps' r') = (sameT k n ps k' n' ps' && r.same r') := by simp [Fo.same, sameT]
def RSame (k n : Int) (ps : Fo) : Prop := ∀ (k' n' : Int) (ps' : Fo) (w : World) (o : Option Addr) (len cap : Nat) (o' : Option Addr) (len' cap' : Nat), Slc w o len ps -> Slc w o' len' ps' ->
 Calls Tryz.prog 38 #[tyv k n o len cap, tyv k' n' o' len' cap'] w fun e w' => e = .returned (.bool (sameT k n ps k' n' ps')) /\ Quiet0 w w'
theorem box_cells2 (w : World) (k n : Int) (o : Option Addr) (len cap : Nat) (k' n' : Int) (o' : Option Addr) (len' cap' : Nat) (t : TypeId) (W : World) (hW : Quiet0 ((w.alloc (.cells #[.int .i64 k, .int .i64 n, .slice o len cap] t)).alloc (.cells #[.int .i64 k', .int .i64 n', .slice o' len' cap'] t)) W) :
    (W.cell? ⟨w.heap.size, 0, none⟩ = some (.int .i64 k) /\ W.cell? ⟨w.heap.size, 1, none⟩ = some (.int .i64 n) /\ W.cell? ⟨w.heap.size, 2, none⟩ = some (.slice o len cap)) /\
    (W.cell? ⟨w.heap.size + 1, 0, none⟩ = some (.int .i64 k') /\ W.cell? ⟨w.heap.size + 1, 1, none⟩ = some (.int .i64 n') /\ W.cell? ⟨w.heap.size + 1, 2, none⟩ = some (.slice o' len' cap')) := by
 refine ⟨box_cells w k n o len cap t W ((Quiet0.alloc _ _).trans hW), ?_⟩
 have h := box_cells (w.alloc (.cells #[.int .i64 k, .int .i64 n, .slice o len cap] t)) k' n' o' len' cap' t W hW
 have e : (w.alloc (.cells #[.int .i64 k, .int .i64 n, .slice o len cap] t)).heap.size = w.heap.size + 1 := by simp
 rw [e] at h
 exact h
theorem refSame_any (k n : Int) (ps : Fo) : RSame k n ps := by
 refine Fo.ind' (T := RSame) ?_ k n ps
 intro k n ps ih k' n' ps' w o len cap o' len' cap' hs hs'
 have HS := hid hs
 have HS' := hid hs'
 have IH := hid ih
 have HL := hid hs.1
 have HL' := hid hs'.1
 have hmx := hs.2.1
 unfold maxLen at hmx
 clear hs hs' ih
 obtain ⟨res, hres⟩ : ∃ res, res = sameT k n ps k' n' ps' := ⟨_, rfl⟩
 have HRES := hid hres
 rw [<- hres]
 clear hres
 by_cases hk : k = k'
 ·by_cases hn : n = n'
  ·by_cases hlen : len = len'
   ·have HR2 : Hid (res = ps.same ps') := by show _ = _; rw [HRES.out]; simp [sameT, hk, hn]
    subst hk hn hlen
    have b1 : (k != k) = false := by simp
    have b2 : (n != n) = false := by simp
    have b3 : ((len : Int) != (len : Int)) = false := by simp
    unfold tyv
    go_enter Tryz.func38, Tryz.ntmps38
    go_wp2_with fail
    obtain ⟨W0, hW0⟩ : ∃ W0, W0 = (w.alloc (.cells #[.int .i64 k, .int .i64 n, .slice o len cap] 24)).alloc (.cells #[.int .i64 k, .int .i64 n, .slice o' len cap'] 24) := ⟨_, rfl⟩
    have HBB : Hid (∀ W, Quiet0 W0 W -> W.cell? ⟨w.heap.size, 2, none⟩ = some (.slice o len cap) /\ W.cell? ⟨w.heap.size + 1, 2, none⟩ = some (.slice o' len cap')) := by
     intro W hq; rw [hW0] at hq
     have := box_cells2 w k n o len cap k n o' len cap' _ W hq
     exact ⟨this.1.2.2, this.2.2.2⟩
    have HQ0 : Hid (Quiet0 w W0) := by rw [hW0]; exact (Quiet0.alloc _ _).trans (Quiet0.alloc _ _)
    change Code.wp _ _ _ _ ((w.alloc (.cells #[.int .i64 k, .int .i64 n, .slice o len cap] 24)).alloc (.cells #[.int .i64 k, .int .i64 n, .slice o' len cap'] 24))
    rw [<- hW0]
    clear hW0
    generalize w.heap.size = nb at *
    go_loopw [5] (fun t wr => ∃ (i : Nat), t = .int .i64 i /\ i <= len /\ res = (ps.drop i).same (ps'.drop i) /\ Quiet0 W0 wr) (fun t _ => len - (intOf t).toNat)
    case atStart => exact ⟨0, rfl, Nat.zero_le _, by rw [Fo.drop_zero, Fo.drop_zero]; exact HR2.out, Quiet0.refl _⟩
    case round =>
     obtain ⟨i, rfl, hi, hr, hq⟩ := hrel
     have HR := hid hr
     have HQ := hid hq
     obtain ⟨c1, c2⟩ := HBB.out wr hq
     clear hr hq
     by_cases hlt : i < len
     ·have hlt' : (i : Int) < len := by omega
      obtain ⟨b, off, k1, n1, qs1, o1, len1, cap1, rfl, hd1, hg1, e0, e1, e2, hs1⟩ := (HS.out.stay (HQ0.out.trans HQ.out)).nth hlt
      obtain ⟨b2, off2, k2, n2, qs2, o2, len2, cap2, rfl, hd2, hg2, f0, f1, f2, hs2⟩ := (HS'.out.stay (HQ0.out.trans HQ.out)).nth hlt
      have HC := hid (fun (W : World) (hq : Quiet0 wr W) => IH.out i k1 n1 qs1 hg1 k2 n2 qs2 W o1 len1 cap1 o2 len2 cap2 (hs1.stay hq) (hs2.stay hq))
      have HN : Hid (res = (sameT k1 n1 qs1 k2 n2 qs2 && (ps.drop (i + 1)).same (ps'.drop (i + 1)))) := by
       show _ = _
       rw [HR.out, hd1, hd2, same_cons]
      unfold tyv at HC
      clear hd1 hg1 hs1 hd2 hg2 hs2
      cases hb : sameT k1 n1 qs1 k2 n2 qs2
      all_goals
       have HBV := hid hb
       clear hb
       go_wp2_with fail
       refine wp_region_still_tail 10 (by kernel_rfl) (by kernel_rfl) ?_
       simp only [List.take_succ_cons, List.take_zero, List.drop_succ_cons, List.drop_zero]
       change wpStill _ _ (World.drew wr) _ _ _
       repeat still_step
       refine wpStill_nil ?_
       change wpList _ _ _ _ _ (World.drew wr)
       go_wp2_with fail
       refine (HC.out _ (Quiet0.drew _)).mono ?_; rintro e w1 ⟨rfl, hq1⟩
       rw [HBV.out]
       have HQ1 := hid ((HQ.out.trans (Quiet0.drew _)).trans hq1)
       clear hq1
       go_wp2_with fail
      ·go_ret
       exact ⟨by rw [HN.out, HBV.out]; rfl, HQ0.out.trans HQ1.out⟩
      ·go_roundw
       case rel => exact ⟨i + 1, by go_num, by omega, by rw [HN.out, HBV.out]; rfl, HQ1.out⟩
       case measure => simp [intOf]; omega
     ·have hlt' : ¬ (i : Int) < len := by omega
      have HY : Hid (res = true) := by
       show _ = _
       rw [HR.out, Fo.drop_end ps i (by have := HL.out; omega), Fo.drop_end ps' i (by have := HL'.out; omega)]; rfl
      go_wp2_with fail
      go_ret
      exact ⟨by rw [HY.out]; rfl, HQ0.out.trans HQ.out⟩
   ·have HF : Hid (res = false) := by
      show _ = _
      rw [HRES.out]
      have : ps.same ps' = false := by
       cases h : ps.same ps'
       ·rfl
       ·exact absurd (Fo.same_length _ _ h) (by have := HL.out; have := HL'.out; omega)
      simp [sameT, this]
    subst hk hn
    have b1 : (k != k) = false := by simp
    have b2 : (n != n) = false := by simp
    have b3 : ((len : Int) != (len' : Int)) = true := by simp; omega
    unfold tyv
    go_enter Tryz.func38, Tryz.ntmps38
    go_wp2_with fail
    go_ret
    exact ⟨by rw [HF.out]; rfl, (Quiet0.alloc _ _).trans (Quiet0.alloc _ _)⟩
  ·have HF : Hid (res = false) := by show _ = _; rw [HRES.out]; simp [sameT, hn]
   subst hk
   have b1 : (k != k) = false := by simp
   have b2 : (n != n') = true := by simpa using hn
   clear hn
   unfold tyv
   go_enter Tryz.func38, Tryz.ntmps38
   go_wp2_with fail
   go_ret
   exact ⟨by rw [HF.out]; rfl, (Quiet0.alloc _ _).trans (Quiet0.alloc _ _)⟩
 ·have HF : Hid (res = false) := by show _ = _; rw [HRES.out]; simp [sameT, hk]
  have b1 : (k != k') = true := by simpa using hk
  clear hk
  unfold tyv
  go_enter Tryz.func38, Tryz.ntmps38
  go_wp2_with fail
  go_ret
  exact ⟨by rw [HF.out]; rfl, (Quiet0.alloc _ _).trans (Quiet0.alloc _ _)⟩
end
section
open Go.RowKit
def rightT (k n : Int) (ps : Fo) : Bool := Fo.plain k n ps.length && ps.right
theorem right_cons (k n : Int) (ps r : Fo) : (Fo.cons k n ps r).right = (rightT k n ps && r.right) := by simp [Fo.right, rightT]
def idxF (p : Int -> Int -> Fo -> Bool) : Fo -> Nat -> Int
 | .nil, _ => -1
 | .cons k n ps r, i => if p k n ps then (i : Int) else idxF p r (i + 1)
def anyF (p : Int -> Int -> Fo -> Bool) : Fo -> Bool
 | .nil => false
 | .cons k n ps r => p k n ps || anyF p r
theorem idx_any (p : Int -> Int -> Fo -> Bool) : ∀ (f : Fo) (i : Nat), decide (0 <= idxF p f i) = anyF p f
 | .nil, i => by simp [idxF, anyF]
 | .cons k n ps r, i => by
  unfold idxF anyF
  cases h : p k n ps
  ·simp only [Bool.false_eq_true, if_false, Bool.false_or]; exact idx_any p r (i + 1)
  ·simp
theorem any_not_right : ∀ f : Fo, anyF (fun k n ps => !rightT k n ps) f = !f.right
 | .nil => rfl
 | .cons k n ps r => by unfold anyF; rw [right_cons, any_not_right r, Bool.not_and]
theorem known_any (n : Int) (w : World) : Calls Tryz.prog 126 #[.int .i64 n] w fun e w' => e = .returned (.bool (decide (0 <= n) && decide (n < 1073741824))) /\ w = w' := by
 by_cases h : 0 <= n
 ·go_enter Tryz.func126, Tryz.ntmps126
  go_wp2_with fail
  go_ret
  exact ⟨by first | (simp [h]; done) | (simp; omega), rfl⟩
 ·go_enter Tryz.func126, Tryz.ntmps126
  go_wp2_with fail
  go_ret
  exact ⟨by first | (simp; done) | (simp; omega), rfl⟩
theorem plain_any (k n : Int) (len : Nat) (o : Option Addr) (cap : Nat) (w : World) : Calls Tryz.prog 111 #[tyv k n o len cap] w fun e w' => e = .returned (.bool (Fo.plain k n len)) /\ Quiet0 w w' := by
 obtain ⟨res, hres⟩ : ∃ res, res = Fo.plain k n len := ⟨_, rfl⟩
 have HR := hid hres
 rw [<- hres]
 clear hres
 unfold tyv
 by_cases k1 : k = 1
 ·subst k1
  cases hkn : (decide (0 <= n) && decide (n < 1073741824))
  ·have HK := hid (known_any n)
   rw [hkn] at HK
   have HF : Hid (res = false) := by show _ = _; rw [HR.out]; unfold Fo.plain; simp only [beq_self_eq_true, if_true]; rw [hkn]; rfl
   clear hkn
   go_enter Tryz.func111, Tryz.ntmps111
   go_wp2_with fail
   refine (HK.out _).mono ?_; rintro e w1 ⟨rfl, rfl⟩
   go_wp2_with fail
   go_ret
   exact ⟨by rw [HF.out]; rfl, Quiet0.alloc _ _⟩
  ·have HK := hid (known_any n)
   rw [hkn] at HK
   have HF : Hid (res = ((len : Int) == 0)) := by
    show _ = _
    rw [HR.out]; unfold Fo.plain; simp only [beq_self_eq_true, if_true]; rw [hkn, Bool.eq_iff_iff]; simp
   clear hkn
   go_enter Tryz.func111, Tryz.ntmps111
   go_wp2_with fail
   refine (HK.out _).mono ?_; rintro e w1 ⟨rfl, rfl⟩
   go_wp2_with fail
   all_goals
    go_ret
    exact ⟨by rw [HF.out]; first | rfl | simp_all, Quiet0.alloc _ _⟩
 have b1 : (k == 1) = false := by simpa using k1
 by_cases hn : n = 0
 ·subst hn
  by_cases k2 : k = 2
  ·subst k2
   have HF : Hid (res = ((len : Int) == 0)) := by show _ = _; rw [HR.out, Bool.eq_iff_iff]; simp [Fo.plain]
   go_enter Tryz.func111, Tryz.ntmps111
   go_wp2_with fail
   all_goals
    go_ret
    exact ⟨by rw [HF.out]; first | rfl | simp_all, Quiet0.alloc _ _⟩
  have b2 : (k == 2) = false := by simpa using k2
  by_cases k3 : k = 3
  ·subst k3
   have HF : Hid (res = ((len : Int) == 0)) := by show _ = _; rw [HR.out, Bool.eq_iff_iff]; simp [Fo.plain]
   go_enter Tryz.func111, Tryz.ntmps111
   go_wp2_with fail
   all_goals
    go_ret
    exact ⟨by rw [HF.out]; first | rfl | simp_all, Quiet0.alloc _ _⟩
  have b3 : (k == 3) = false := by simpa using k3
  by_cases k4 : k = 4
  ·subst k4
   have HF : Hid (res = ((len : Int) == 2)) := by show _ = _; rw [HR.out, Bool.eq_iff_iff]; simp [Fo.plain]; omega
   go_enter Tryz.func111, Tryz.ntmps111
   go_wp2_with fail
   all_goals
    go_ret
    exact ⟨by rw [HF.out]; first | rfl | simp_all, Quiet0.alloc _ _⟩
  have b4 : (k == 4) = false := by simpa using k4
  by_cases k5 : k = 5
  ·subst k5
   by_cases h2 : 2 <= len
   ·have h2' : (2 : Int) <= (len : Int) := by omega
    by_cases h8 : len <= 8
    ·have h8' : (len : Int) <= 8 := by omega
     have HF : Hid (res = true) := by show _ = _; rw [HR.out]; simp [Fo.plain, h2, h8]
     go_enter Tryz.func111, Tryz.ntmps111
     go_wp2_with fail
     go_ret
     exact ⟨by rw [HF.out]; rfl, Quiet0.alloc _ _⟩
    ·have h8' : ¬ (len : Int) <= 8 := by omega
     have HF : Hid (res = false) := by show _ = _; rw [HR.out]; simp [Fo.plain, h8]
     go_enter Tryz.func111, Tryz.ntmps111
     go_wp2_with fail
     go_ret
     exact ⟨by rw [HF.out]; rfl, Quiet0.alloc _ _⟩
   ·have h2' : ¬ (2 : Int) <= (len : Int) := by omega
    have HF : Hid (res = false) := by show _ = _; rw [HR.out]; simp [Fo.plain, h2]
    go_enter Tryz.func111, Tryz.ntmps111
    go_wp2_with fail
    go_ret
    exact ⟨by rw [HF.out]; rfl, Quiet0.alloc _ _⟩
  have b5 : (k == 5) = false := by simpa using k5
  have HF : Hid (res = false) := by show _ = _; rw [HR.out]; unfold Fo.plain; simp only [b1, b2, b3, b4, b5]; rfl
  clear k1 k2 k3 k4 k5
  go_enter Tryz.func111, Tryz.ntmps111
  go_wp2_with fail
  go_ret
  exact ⟨by rw [HF.out]; rfl, Quiet0.alloc _ _⟩
 ·have HF : Hid (res = false) := by
    show _ = _
    rw [HR.out]
    have hn' : (n == 0) = false := by simpa using hn
    unfold Fo.plain
    simp only [b1, hn', Bool.false_and]
    repeat' split
    all_goals first | rfl | simp_all
  have hn' : (n == 0) = false := by simpa using hn
  clear k1 hn
  go_enter Tryz.func111, Tryz.ntmps111
  go_wp2_with fail
  all_goals
   go_ret
   exact ⟨by rw [HF.out]; rfl, Quiet0.alloc _ _⟩
def PredTy (g : Nat) (lb : Array Value) (w0 : World) (f : Fo) (p : Int -> Int -> Fo -> Bool) : Prop := ∀ i k n ps, f.get i = some (k, n, ps) -> ∀ (W : World) (o : Option Addr) (len cap : Nat), Quiet0 w0 W -> Slc W o len ps ->
 Calls Tryz.prog g (#[tyv k n o len cap] ++ lb) W fun e W' => e = .returned (.bool (p k n ps)) /\ Quiet0 W W'
theorem indexFunc_any (g : Nat) (lb : Array Value) (p : Int -> Int -> Fo -> Bool) (eg : ∀ args w, (callFunc g args).run Tryz.prog w = .ok (.enter g args) w) (f : Fo) (o : Option Addr) (len cap : Nat) (w : World) (hs : Slc w o len f) (hp : PredTy g lb w f p) :
    Calls Tryz.prog 127 #[.slice o len cap, .func (.func g) #[] lb] w fun e w' => e = .returned (.int .i64 (idxF p f 0)) /\ Quiet0 w w' := by
 have HS := hid hs
 have HP := hid hp
 have HL := hid hs.1
 have hmx := hs.2.1
 unfold maxLen at hmx
 clear hs hp
 obtain ⟨res, hres⟩ : ∃ res, res = idxF p f 0 := ⟨_, rfl⟩
 have HR := hid hres
 rw [<- hres]
 clear hres
 go_enter Tryz.func127, Tryz.ntmps127
 go_wp2_with fail
 go_loopw [8] (fun t wr => ∃ i : Nat, t = .int .i64 i /\ i <= len /\ res = idxF p (f.drop i) i /\ Quiet0 w wr) (fun t _ => len - (intOf t).toNat)
 case atStart => exact ⟨0, rfl, Nat.zero_le _, by rw [Fo.drop_zero]; exact HR.out, Quiet0.refl _⟩
 case round =>
  obtain ⟨i, rfl, hi, hr, hq⟩ := hrel
  have HRR := hid hr
  have HQ := hid hq
  clear hr hq
  by_cases hlt : i < len
  ·have hlt' : (i : Int) < len := by omega
   obtain ⟨b, off, k1, n1, qs, o1, len1, cap1, rfl, hd, hg, e0, e1, e2, hs1⟩ := (HS.out.stay HQ.out).nth hlt
   have HD := hid hd
   have HC := hid (HP.out i k1 n1 qs hg wr o1 len1 cap1 HQ.out hs1)
   unfold tyv at HC
   clear hd hg hs1
   cases hb : p k1 n1 qs
   all_goals
    have HBV := hid hb
    rw [hb] at HC
    clear hb
    go_wp2_with fail
    refine HC.out.mono ?_; rintro e w1 ⟨rfl, hq1⟩
    have HQ1 := hid (HQ.out.trans hq1)
    clear hq1
    go_wp2_with fail
   ·go_roundw
    case rel => exact ⟨i + 1, by go_num, by omega, by rw [HRR.out, HD.out, idxF, HBV.out]; rfl, HQ1.out⟩
    case measure => simp [intOf]; omega
   ·go_ret
    exact ⟨by rw [HRR.out, HD.out, idxF, HBV.out]; rfl, HQ1.out⟩
  ·have hlt' : ¬ (i : Int) < len := by omega
   go_wp2_with fail
   go_ret
   exact ⟨by rw [HRR.out, Fo.drop_end f i (by have := HL.out; omega)]; rfl, HQ.out⟩
theorem containsFunc_any (g : Nat) (lb : Array Value) (p : Int -> Int -> Fo -> Bool) (eg : ∀ args w, (callFunc g args).run Tryz.prog w = .ok (.enter g args) w) (f : Fo) (o : Option Addr) (len cap : Nat) (w : World) (hs : Slc w o len f) (hp : PredTy g lb w f p) :
    Calls Tryz.prog 112 #[.slice o len cap, .func (.func g) #[] lb] w fun e w' => e = .returned (.bool (anyF p f)) /\ Quiet0 w w' := by
 have HC := hid (indexFunc_any g lb p eg f o len cap w hs hp)
 rw [<- idx_any p f 0]
 clear hs hp eg
 generalize idxF p f 0 = r at *
 go_enter Tryz.func112, Tryz.ntmps112
 go_wp2_with fail
 refine HC.out.mono ?_; rintro e w1 ⟨rfl, hq⟩
 go_wp2_with fail
 go_ret
 exact ⟨rfl, hq⟩
end
section
open Go.RowKit Go.Shelf
theorem eg_right : ∀ args w, (callFunc 113 args).run Tryz.prog w = .ok (.enter 113 args) w := enters_of Tryz.func113 (by kernel_rfl) rfl
def TRight (k n : Int) (ps : Fo) : Prop := ∀ (w : World) (o : Option Addr) (len cap : Nat), Slc w o len ps ->
 Calls Tryz.prog 88 #[tyv k n o len cap] w fun e w' => e = .returned (.bool (rightT k n ps)) /\ Quiet0 w w'
theorem not_right (k n : Int) (ps : Fo) (h : TRight k n ps) (w : World) (o : Option Addr) (len cap : Nat) (hs : Slc w o len ps) :
    Calls Tryz.prog 113 #[tyv k n o len cap] w fun e w' => e = .returned (.bool (!rightT k n ps)) /\ Quiet0 w w' := by
 have HC := hid (fun (W : World) (hq : Quiet0 w W) => h W o len cap (hs.stay hq))
 clear h hs
 generalize rightT k n ps = r at *
 unfold tyv at *
 go_enter Tryz.func113, Tryz.ntmps113
 go_wp2_with fail
 refine (HC.out _ (Quiet0.alloc _ _)).mono ?_; rintro e w1 ⟨rfl, hq⟩
 go_wp2_with fail
 go_ret
 exact ⟨rfl, (Quiet0.alloc _ _).trans hq⟩
theorem right_any (k n : Int) (ps : Fo) : TRight k n ps := by
 refine Fo.ind' (T := TRight) ?_ k n ps
 intro k n ps ih w o len cap hs
 have hl := hs.1
 have HP := hid (plain_any k n len o cap)
 have HC : Hid (∀ W, Quiet0 w W -> Calls Tryz.prog 112 #[.slice o len cap, .func (.func 113) #[] #[]] W fun e w' => e = .returned (.bool (!ps.right)) /\ Quiet0 W w') := by
  intro W hq
  have := containsFunc_any 113 #[] (fun k n ps => !rightT k n ps) eg_right ps o len cap W (hs.stay hq) (fun i k1 n1 qs hg W1 o1 len1 cap1 _ hs1 => not_right k1 n1 qs (ih i k1 n1 qs hg) W1 o1 len1 cap1 hs1)
  rw [any_not_right] at this
  exact this
 have HR : Hid (rightT k n ps = (Fo.plain k n len && ps.right)) := by show _ = _; unfold rightT; rw [hl]
 rw [HR.out]
 clear hs ih hl HR
 cases hp : Fo.plain k n len
 ·have HPV := hid hp
  rw [hp] at HP
  clear hp
  unfold tyv at *
  go_enter Tryz.func88, Tryz.ntmps88
  go_wp2_with fail
  refine (HP.out _).mono ?_; rintro e w1 ⟨rfl, hq⟩
  go_wp2_with fail
  go_ret
  exact ⟨rfl, (Quiet0.alloc _ _).trans hq⟩
 ·have HPV := hid hp
  rw [hp] at HP
  clear hp
  generalize ps.right = r at *
  unfold tyv at *
  go_enter Tryz.func88, Tryz.ntmps88
  go_wp2_with fail
  refine (HP.out _).mono ?_; rintro e w1 ⟨rfl, hq⟩
  have HQ := hid ((Quiet0.alloc w (.cells #[.int .i64 k, .int .i64 n, .slice o len cap] 24)).trans hq)
  have c2 := (box_cells w k n o len cap 24 w1 hq).2.2
  clear hq
  go_wp2_with fail
  refine (HC.out _ HQ.out).mono ?_; rintro e w2 ⟨rfl, hq2⟩
  go_wp2_with fail
  go_ret
  exact ⟨by simp, HQ.out.trans hq2⟩
def RRight (k n : Int) (ps : Fo) : Prop := ∀ (w : World) (o : Option Addr) (len cap : Nat), Slc w o len ps ->
 Calls Tryz.prog 56 #[tyv k n o len cap] w fun e w' => e = .returned (.bool (rightT k n ps)) /\ Quiet0 w w'
theorem not_plain {k n : Int} {m : Nat} (h : Fo.plain k n m = false) : (k = 1 /\ (n < 0 ∨ 1073741824 <= n ∨ 0 < m)) ∨ (k ≠ 1 /\ n ≠ 0) ∨ (n = 0 /\ (k = 2 ∨ k = 3) /\ 0 < m) ∨ (n = 0 /\ k = 4 /\ m ≠ 2) ∨ (n = 0 /\ k = 5 /\ (m < 2 ∨ 8 < m)) ∨ (n = 0 /\ (k < 1 ∨ 5 < k)) := by
 unfold Fo.plain at h
 by_cases k1 : k = 1
 ·subst k1; simp at h; omega
 by_cases hn : n = 0
 ·subst hn
  by_cases k2 : k = 2
  ·subst k2; simp at h; omega
  by_cases k3 : k = 3
  ·subst k3; simp at h; omega
  by_cases k4 : k = 4
  ·subst k4; simp at h; omega
  by_cases k5 : k = 5
  ·subst k5; simp at h; omega
  omega
 ·omega
theorem is_plain {k n : Int} {m : Nat} (h : Fo.plain k n m = true) : (k = 1 /\ 0 <= n /\ n < 1073741824 /\ m = 0) ∨ (n = 0 /\ k = 2 /\ m = 0) ∨ (n = 0 /\ k = 3 /\ m = 0) ∨ (n = 0 /\ k = 4 /\ m = 2) ∨ (n = 0 /\ k = 5 /\ 2 <= m /\ m <= 8) := by
 unfold Fo.plain at h
 by_cases k1 : k = 1
 ·subst k1; simp at h; omega
 by_cases k2 : k = 2
 ·subst k2; simp at h; omega
 by_cases k3 : k = 3
 ·subst k3; simp at h; omega
 by_cases k4 : k = 4
 ·subst k4; simp at h; omega
 by_cases k5 : k = 5
 ·subst k5; simp at h; omega
 ·simp [k1, k2, k3, k4, k5] at h
theorem refRight_any (k n : Int) (ps : Fo) : RRight k n ps := by
 refine Fo.ind' (T := RRight) ?_ k n ps
 intro k n ps ih w o len cap hs
 have HS := hid hs
 have IH := hid ih
 have HL := hid hs.1
 have hmx := hs.2.1
 unfold maxLen at hmx
 have HR : Hid (rightT k n ps = (Fo.plain k n len && ps.right)) := by show _ = _; unfold rightT; rw [hs.1]
 rw [HR.out]
 clear hs ih HR
 cases hp : Fo.plain k n len
 ·simp only [Bool.false_and]
  have hw := not_plain hp
  clear hp HS IH HL
  unfold tyv
  rcases hw with ⟨rfl, h | h | h⟩ | ⟨h1, h2⟩ | ⟨rfl, rfl | rfl, h⟩ | ⟨rfl, rfl, h⟩ | ⟨rfl, rfl, h | h⟩ | ⟨rfl, h | h⟩
  ·go_enter Tryz.func56, Tryz.ntmps56
   go_wp2_with fail
   all_goals
    go_ret
    exact ⟨rfl, Quiet0.alloc _ _⟩
  ·go_enter Tryz.func56, Tryz.ntmps56
   go_wp2_with fail
   all_goals
    go_ret
    exact ⟨rfl, Quiet0.alloc _ _⟩
  ·have h' : (0 : Int) < (len : Int) := by omega
   go_enter Tryz.func56, Tryz.ntmps56
   go_wp2_with fail
   all_goals
    go_ret
    exact ⟨rfl, Quiet0.alloc _ _⟩
  ·have b1 : (k == 1) = false := by simpa using h1
   have b2 : (k != 1) = true := by simpa using h1
   have b3 : (n != 0) = true := by simpa using h2
   clear h1 h2
   go_enter Tryz.func56, Tryz.ntmps56
   go_wp2_with fail
   all_goals
    go_ret
    exact ⟨rfl, Quiet0.alloc _ _⟩
  ·have h' : (0 : Int) < (len : Int) := by omega
   go_enter Tryz.func56, Tryz.ntmps56
   go_wp2_with fail
   all_goals
    go_ret
    exact ⟨rfl, Quiet0.alloc _ _⟩
  ·have h' : (0 : Int) < (len : Int) := by omega
   go_enter Tryz.func56, Tryz.ntmps56
   go_wp2_with fail
   all_goals
    go_ret
    exact ⟨rfl, Quiet0.alloc _ _⟩
  ·have h' : ((len : Int) != 2) = true := by simp; omega
   go_enter Tryz.func56, Tryz.ntmps56
   go_wp2_with fail
   all_goals
    go_ret
    exact ⟨rfl, Quiet0.alloc _ _⟩
  ·have h' : (len : Int) < 2 := by omega
   go_enter Tryz.func56, Tryz.ntmps56
   go_wp2_with fail
   all_goals
    go_ret
    exact ⟨rfl, Quiet0.alloc _ _⟩
  ·have h' : (8 : Int) < (len : Int) := by omega
   have h2 : ¬ (len : Int) < 2 := by omega
   go_enter Tryz.func56, Tryz.ntmps56
   go_wp2_with fail
   all_goals
    go_ret
    exact ⟨rfl, Quiet0.alloc _ _⟩
  ·have b1 : (k == 1) = false := by simp; omega
   have b1' : (k != 1) = true := by simp; omega
   have b2 : (k == 2) = false := by simp; omega
   have b3 : (k == 3) = false := by simp; omega
   have b4 : (k == 4) = false := by simp; omega
   have b5 : (k == 5) = false := by simp; omega
   go_enter Tryz.func56, Tryz.ntmps56
   go_wp2_with fail
   all_goals
    go_ret
    exact ⟨rfl, Quiet0.alloc _ _⟩
  ·have b1 : (k == 1) = false := by simp; omega
   have b1' : (k != 1) = true := by simp; omega
   have b2 : (k == 2) = false := by simp; omega
   have b3 : (k == 3) = false := by simp; omega
   have b4 : (k == 4) = false := by simp; omega
   have b5 : (k == 5) = false := by simp; omega
   have h' : ¬ k < 1 := by omega
   go_enter Tryz.func56, Tryz.ntmps56
   go_wp2_with fail
   all_goals
    go_ret
    exact ⟨rfl, Quiet0.alloc _ _⟩
 ·simp only [Bool.true_and]
  obtain ⟨res, hres⟩ : ∃ res, res = ps.right := ⟨_, rfl⟩
  have HRES := hid hres
  rw [<- hres]
  have hw := is_plain hp
  clear hp hres
  rcases hw with ⟨rfl, h1, h2, h3⟩ | ⟨rfl, rfl, h3⟩ | ⟨rfl, rfl, h3⟩ | ⟨rfl, rfl, h3⟩ | ⟨rfl, rfl, h3, h4⟩
  ·have h3' : ¬ (0 : Int) < (len : Int) := by omega
   clear h3
   unfold tyv
   obtain ⟨W0, hW0⟩ : ∃ W0, W0 = w.alloc (.cells #[.int .i64 1, .int .i64 n, .slice o len cap] 24) := ⟨_, rfl⟩
   have HB : Hid (∀ W, Quiet0 W0 W -> W.cell? ⟨w.heap.size, 2, none⟩ = some (.slice o len cap)) := by
    intro W hq; rw [hW0] at hq; exact (box_cells w _ _ o len cap _ W hq).2.2
   have HQ0 : Hid (Quiet0 w W0) := by rw [hW0]; exact Quiet0.alloc _ _
   go_enter Tryz.func56, Tryz.ntmps56
   go_wp2_with fail
   change Code.wp _ _ _ _ (w.alloc (.cells #[.int .i64 1, .int .i64 n, .slice o len cap] 24))
   rw [<- hW0]
   clear hW0
   generalize w.heap.size = nb at *
   go_loopw [4] (fun t wr => ∃ i : Nat, t = .int .i64 i /\ i <= len /\ res = (ps.drop i).right /\ Quiet0 W0 wr) (fun t _ => len - (intOf t).toNat)
   case atStart => exact ⟨0, rfl, Nat.zero_le _, by rw [Fo.drop_zero]; exact HRES.out, Quiet0.refl _⟩
   case round =>
    obtain ⟨i, rfl, hi, hr, hq⟩ := hrel
    have HRR := hid hr
    have HQ := hid hq
    have c2 := HB.out wr hq
    clear hr hq
    by_cases hlt : i < len
    ·exact absurd hlt (by omega)
    ·have hlt' : ¬ (i : Int) < len := by omega
     go_wp2_with fail
     go_ret
     exact ⟨by rw [HRR.out, Fo.drop_end ps i (by have := HL.out; omega)]; rfl, HQ0.out.trans HQ.out⟩
  ·have h3' : ¬ (0 : Int) < (len : Int) := by omega
   clear h3
   unfold tyv
   obtain ⟨W0, hW0⟩ : ∃ W0, W0 = w.alloc (.cells #[.int .i64 2, .int .i64 0, .slice o len cap] 24) := ⟨_, rfl⟩
   have HB : Hid (∀ W, Quiet0 W0 W -> W.cell? ⟨w.heap.size, 2, none⟩ = some (.slice o len cap)) := by
    intro W hq; rw [hW0] at hq; exact (box_cells w _ _ o len cap _ W hq).2.2
   have HQ0 : Hid (Quiet0 w W0) := by rw [hW0]; exact Quiet0.alloc _ _
   go_enter Tryz.func56, Tryz.ntmps56
   go_wp2_with fail
   change Code.wp _ _ _ _ (w.alloc (.cells #[.int .i64 2, .int .i64 0, .slice o len cap] 24))
   rw [<- hW0]
   clear hW0
   generalize w.heap.size = nb at *
   go_loopw [4] (fun t wr => ∃ i : Nat, t = .int .i64 i /\ i <= len /\ res = (ps.drop i).right /\ Quiet0 W0 wr) (fun t _ => len - (intOf t).toNat)
   case atStart => exact ⟨0, rfl, Nat.zero_le _, by rw [Fo.drop_zero]; exact HRES.out, Quiet0.refl _⟩
   case round =>
    obtain ⟨i, rfl, hi, hr, hq⟩ := hrel
    have HRR := hid hr
    have HQ := hid hq
    have c2 := HB.out wr hq
    clear hr hq
    by_cases hlt : i < len
    ·exact absurd hlt (by omega)
    ·have hlt' : ¬ (i : Int) < len := by omega
     go_wp2_with fail
     go_ret
     exact ⟨by rw [HRR.out, Fo.drop_end ps i (by have := HL.out; omega)]; rfl, HQ0.out.trans HQ.out⟩
  ·have h3' : ¬ (0 : Int) < (len : Int) := by omega
   clear h3
   unfold tyv
   obtain ⟨W0, hW0⟩ : ∃ W0, W0 = w.alloc (.cells #[.int .i64 3, .int .i64 0, .slice o len cap] 24) := ⟨_, rfl⟩
   have HB : Hid (∀ W, Quiet0 W0 W -> W.cell? ⟨w.heap.size, 2, none⟩ = some (.slice o len cap)) := by
    intro W hq; rw [hW0] at hq; exact (box_cells w _ _ o len cap _ W hq).2.2
   have HQ0 : Hid (Quiet0 w W0) := by rw [hW0]; exact Quiet0.alloc _ _
   go_enter Tryz.func56, Tryz.ntmps56
   go_wp2_with fail
   change Code.wp _ _ _ _ (w.alloc (.cells #[.int .i64 3, .int .i64 0, .slice o len cap] 24))
   rw [<- hW0]
   clear hW0
   generalize w.heap.size = nb at *
   go_loopw [4] (fun t wr => ∃ i : Nat, t = .int .i64 i /\ i <= len /\ res = (ps.drop i).right /\ Quiet0 W0 wr) (fun t _ => len - (intOf t).toNat)
   case atStart => exact ⟨0, rfl, Nat.zero_le _, by rw [Fo.drop_zero]; exact HRES.out, Quiet0.refl _⟩
   case round =>
    obtain ⟨i, rfl, hi, hr, hq⟩ := hrel
    have HRR := hid hr
    have HQ := hid hq
    have c2 := HB.out wr hq
    clear hr hq
    by_cases hlt : i < len
    ·exact absurd hlt (by omega)
    ·have hlt' : ¬ (i : Int) < len := by omega
     go_wp2_with fail
     go_ret
     exact ⟨by rw [HRR.out, Fo.drop_end ps i (by have := HL.out; omega)]; rfl, HQ0.out.trans HQ.out⟩
  ·have h3' : ((len : Int) != 2) = false := by simp; omega
   clear h3
   unfold tyv
   obtain ⟨W0, hW0⟩ : ∃ W0, W0 = w.alloc (.cells #[.int .i64 4, .int .i64 0, .slice o len cap] 24) := ⟨_, rfl⟩
   have HB : Hid (∀ W, Quiet0 W0 W -> W.cell? ⟨w.heap.size, 2, none⟩ = some (.slice o len cap)) := by
    intro W hq; rw [hW0] at hq; exact (box_cells w _ _ o len cap _ W hq).2.2
   have HQ0 : Hid (Quiet0 w W0) := by rw [hW0]; exact Quiet0.alloc _ _
   go_enter Tryz.func56, Tryz.ntmps56
   go_wp2_with fail
   change Code.wp _ _ _ _ (w.alloc (.cells #[.int .i64 4, .int .i64 0, .slice o len cap] 24))
   rw [<- hW0]
   clear hW0
   generalize w.heap.size = nb at *
   go_loopw [4] (fun t wr => ∃ i : Nat, t = .int .i64 i /\ i <= len /\ res = (ps.drop i).right /\ Quiet0 W0 wr) (fun t _ => len - (intOf t).toNat)
   case atStart => exact ⟨0, rfl, Nat.zero_le _, by rw [Fo.drop_zero]; exact HRES.out, Quiet0.refl _⟩
   case round =>
    obtain ⟨i, rfl, hi, hr, hq⟩ := hrel
    have HRR := hid hr
    have HQ := hid hq
    have c2 := HB.out wr hq
    clear hr hq
    by_cases hlt : i < len
    ·have hlt' : (i : Int) < len := by omega
     obtain ⟨b, off, k1, n1, qs, o1, len1, cap1, rfl, hd, hg, e0, e1, e2, hs1⟩ := (HS.out.stay (HQ0.out.trans HQ.out)).nth hlt
     have HD := hid hd
     have HC := hid (IH.out i k1 n1 qs hg wr o1 len1 cap1 hs1)
     unfold tyv at HC
     clear hd hg hs1
     cases hb : rightT k1 n1 qs
     all_goals
      have HBV := hid hb
      rw [hb] at HC
      clear hb
      go_wp2_with fail
      refine HC.out.mono ?_; rintro e w1 ⟨rfl, hq1⟩
      have HQ1 := hid (HQ.out.trans hq1)
      clear hq1
      go_wp2_with fail
     ·go_ret
      exact ⟨by rw [HRR.out, HD.out, right_cons, HBV.out]; rfl, HQ0.out.trans HQ1.out⟩
     ·go_roundw
      case rel => exact ⟨i + 1, by go_num, by omega, by rw [HRR.out, HD.out, right_cons, HBV.out]; rfl, HQ1.out⟩
      case measure => simp [intOf]; omega
    ·have hlt' : ¬ (i : Int) < len := by omega
     go_wp2_with fail
     go_ret
     exact ⟨by rw [HRR.out, Fo.drop_end ps i (by have := HL.out; omega)]; rfl, HQ0.out.trans HQ.out⟩
  ·have h3' : ¬ (len : Int) < 2 := by omega
   have h4' : ¬ (8 : Int) < (len : Int) := by omega
   unfold tyv
   obtain ⟨W0, hW0⟩ : ∃ W0, W0 = w.alloc (.cells #[.int .i64 5, .int .i64 0, .slice o len cap] 24) := ⟨_, rfl⟩
   have HB : Hid (∀ W, Quiet0 W0 W -> W.cell? ⟨w.heap.size, 2, none⟩ = some (.slice o len cap)) := by
    intro W hq; rw [hW0] at hq; exact (box_cells w _ _ o len cap _ W hq).2.2
   have HQ0 : Hid (Quiet0 w W0) := by rw [hW0]; exact Quiet0.alloc _ _
   go_enter Tryz.func56, Tryz.ntmps56
   go_wp2_with fail
   change Code.wp _ _ _ _ (w.alloc (.cells #[.int .i64 5, .int .i64 0, .slice o len cap] 24))
   rw [<- hW0]
   clear hW0
   generalize w.heap.size = nb at *
   go_loopw [4] (fun t wr => ∃ i : Nat, t = .int .i64 i /\ i <= len /\ res = (ps.drop i).right /\ Quiet0 W0 wr) (fun t _ => len - (intOf t).toNat)
   case atStart => exact ⟨0, rfl, Nat.zero_le _, by rw [Fo.drop_zero]; exact HRES.out, Quiet0.refl _⟩
   case round =>
    obtain ⟨i, rfl, hi, hr, hq⟩ := hrel
    have HRR := hid hr
    have HQ := hid hq
    have c2 := HB.out wr hq
    clear hr hq
    by_cases hlt : i < len
    ·have hlt' : (i : Int) < len := by omega
     obtain ⟨b, off, k1, n1, qs, o1, len1, cap1, rfl, hd, hg, e0, e1, e2, hs1⟩ := (HS.out.stay (HQ0.out.trans HQ.out)).nth hlt
     have HD := hid hd
     have HC := hid (IH.out i k1 n1 qs hg wr o1 len1 cap1 hs1)
     unfold tyv at HC
     clear hd hg hs1
     cases hb : rightT k1 n1 qs
     all_goals
      have HBV := hid hb
      rw [hb] at HC
      clear hb
      go_wp2_with fail
      refine HC.out.mono ?_; rintro e w1 ⟨rfl, hq1⟩
      have HQ1 := hid (HQ.out.trans hq1)
      clear hq1
      go_wp2_with fail
     ·go_ret
      exact ⟨by rw [HRR.out, HD.out, right_cons, HBV.out]; rfl, HQ0.out.trans HQ1.out⟩
     ·go_roundw
      case rel => exact ⟨i + 1, by go_num, by omega, by rw [HRR.out, HD.out, right_cons, HBV.out]; rfl, HQ1.out⟩
      case measure => simp [intOf]; omega
    ·have hlt' : ¬ (i : Int) < len := by omega
     go_wp2_with fail
     go_ret
     exact ⟨by rw [HRR.out, Fo.drop_end ps i (by have := HL.out; omega)]; rfl, HQ0.out.trans HQ.out⟩
end
end Go.Proofs.YtcninopmelmajaaGreatDoor
