/-
  Texts laid together (Mem, Mem2, Quiet, TyPlain, TyMem, TyMap, TyMapT, TyRef, TySame): what each one proves, and its conditions, stands at its head.
-/
import Derived.WalkKit
import Derived.WalkSpells
import Derived.WalkLawsBesides
import Derived.Lib.Hide
import Derived.Maps.OwnOps
import Derived.Maps.Views
import Derived.Maps.OwnSet
import Derived.StillTailTactics
import Derived.BigQuiet
import Derived.Test.YtggidhgifaekbaaDoorProg
/-
  Plain facts on worlds: a frame ('Fr': all blocks but those of S are as they were), stores and new blocks. No condition.
-/
namespace Go.Proofs.YtggidhgifaekbaaDoor
open Go.RowKit

/-- all blocks of w that are not in S are in w' as they were; the streams too. -/
structure Fr (S : Nat → Prop) (w w' : World) : Prop where
  os : w'.os = w.os
  tape : w'.tape = w.tape
  output : w'.output = w.output
  size : w.heap.size ≤ w'.heap.size
  block : ∀ k, k < w.heap.size → ¬ S k → w'.heap[k]? = w.heap[k]?

theorem Fr.refl (S : Nat → Prop) (w : World) : Fr S w w := ⟨rfl, rfl, rfl, Nat.le_refl _, fun _ _ _ => rfl⟩
theorem Fr.trans {S : Nat → Prop} {a b c : World} (h : Fr S a b) (k : Fr S b c) : Fr S a c :=
  ⟨k.os.trans h.os, k.tape.trans h.tape, k.output.trans h.output, Nat.le_trans h.size k.size,
    fun i hi hs => (k.block i (Nat.lt_of_lt_of_le hi h.size) hs).trans (h.block i hi hs)⟩
/-- then a step that, of the first world's blocks, writes those of S alone -/
theorem Fr.trans' {S T : Nat → Prop} {a b c : World} (h : Fr S a b) (k : Fr T b c) (hT : ∀ i, i < a.heap.size → T i → S i) : Fr S a c :=
  ⟨k.os.trans h.os, k.tape.trans h.tape, k.output.trans h.output, Nat.le_trans h.size k.size,
    fun i hi hs => (k.block i (Nat.lt_of_lt_of_le hi h.size) (fun ht => hs (hT i hi ht))).trans (h.block i hi hs)⟩
theorem Fr.mono {S T : Nat → Prop} {w w' : World} (h : Fr S w w') (hT : ∀ k, k < w.heap.size → S k → T k) : Fr T w w' :=
  ⟨h.os, h.tape, h.output, h.size, fun k hk hs => h.block k hk (fun hh => hs (hT k hk hh))⟩
theorem Fr.setCell (S : Nat → Prop) (w : World) (p : Addr) (u : Value) (hp : S p.block) : Fr S w (w.setCell p u) :=
  ⟨rfl, rfl, rfl, by simp [World.setCell], fun k _ hs => Below.heap_setCell _ _ _ _ (fun e => hs (by rw [e]; exact hp))⟩
theorem Fr.alloc (S : Nat → Prop) (w : World) (o : Obj) : Fr S w (w.alloc o) :=
  ⟨rfl, rfl, rfl, by simp, fun k hk _ => Below.heap_alloc _ _ _ hk⟩
theorem Fr.drew (S : Nat → Prop) (w : World) : Fr S w w.drew := ⟨rfl, rfl, rfl, Nat.le_refl _, fun _ _ _ => rfl⟩
theorem Fr.drewN (S : Nat → Prop) (w : World) (n : Nat) : Fr S w (w.drewN n) := ⟨rfl, rfl, rfl, Nat.le_refl _, fun _ _ _ => rfl⟩
theorem Fr.grown {S : Nat → Prop} {w w' : World} {row : Option Nat} (h : w.grownBy w' row) (hS : ∀ k, row = some k → S k) : Fr S w w' :=
  ⟨h.os, h.tape, h.output, h.size, fun k hk hs => h.block k hk (fun e => hs (hS k e.symm))⟩
theorem Fr.below {S : Nat → Prop} {w w' : World} {B : Nat} (h : Fr S w w') (hB : B ≤ w.heap.size) (hS : ∀ k, S k → B ≤ k) : Below B w w' :=
  ⟨h.os, h.tape, h.output, h.size, fun k hk => h.block k (Nat.lt_of_lt_of_le hk hB) (fun e => by have := hS k e; omega)⟩
theorem Fr.of_below {S : Nat → Prop} {w w' : World} {B : Nat} (h : Below B w w') (hS : ∀ k, k < w.heap.size → ¬ S k → k < B) : Fr S w w' :=
  ⟨h.os, h.tape, h.output, h.size, fun k hk hs => h.block k (hS k hk hs)⟩
theorem Fr.cell {S : Nat → Prop} {w w' : World} (h : Fr S w w') {a : Addr} (hk : a.block < w.heap.size) (hs : ¬ S a.block) : w'.cell? a = w.cell? a := by
  simp [World.cell?, h.block _ hk hs]

theorem ownsRow_base {w : World} {base base' : Nat} {e : TypeId} {size : Nat} {v : Value} {n : Nat} {xs : List Value} (h : w.ownsRow base e size v n xs) (hb : ∀ k, v.ownBlock = some k → base' ≤ k) : w.ownsRow base' e size v n xs := by
  refine ⟨h.1, ?_⟩
  rcases h.2 with hn | ⟨g, cap, cur, rfl, hb', rest⟩
  · exact .inl hn
  · exact .inr ⟨g, cap, cur, rfl, hb g rfl, rest⟩
/-- a row stays where its block stays -/
theorem ownsRow_same {w w' : World} {base : Nat} {e : TypeId} {size : Nat} {v : Value} {n : Nat} {xs : List Value} (h : w.ownsRow base e size v n xs) (hb : ∀ k, v.ownBlock = some k → w'.heap[k]? = w.heap[k]?) : w'.ownsRow base e size v n xs := by
  refine ⟨h.1, ?_⟩
  rcases h.2 with hn | ⟨g, cap, cur, rfl, hb', hgg, rest⟩
  · exact .inl hn
  · exact .inr ⟨g, cap, cur, rfl, hb', by rw [hb g rfl]; exact hgg, rest⟩
theorem ownsRow_setCell_other {w : World} {base : Nat} {e : TypeId} {size : Nat} {v : Value} {n : Nat} {xs : List Value} (h : w.ownsRow base e size v n xs) (p : Addr) (u : Value) (hb : v.ownBlock ≠ some p.block) : (w.setCell p u).ownsRow base e size v n xs :=
  ownsRow_same h (fun k hk => Below.heap_setCell _ _ _ _ (fun e => hb (by rw [hk, e])))
theorem ownsRow_fr {S : Nat → Prop} {w w' : World} {base : Nat} {e : TypeId} {size : Nat} {v : Value} {n : Nat} {xs : List Value} (h : w.ownsRow base e size v n xs) (hf : Fr S w w') (hb : ∀ k, v.ownBlock = some k → ¬ S k) : w'.ownsRow base e size v n xs :=
  ownsRow_same h (fun k hk => hf.block k (h.lt k hk).2 (hb k hk))

theorem cell_new (w : World) (v : Value) (T : TypeId) (k : Nat) (hk : k = w.heap.size) : (w.alloc (.cells #[v] T)).cell? ⟨k, 0, none⟩ = some v := by
  subst hk; unfold World.cell?; rw [heap_alloc_new]; rfl

/-- append of one or more to a row of the call's own: it stays in its block, or moves to a new one. -/
theorem wpList_append_two {P : Program} (w : World) {ops : Array Oper} {rest : List Oper} {o : Oper} {a : Act} {Q : Exit → Act → World → Prop}
    (hg : o.guard = none) (s x : Operand) (t : TypeId) (hop : o.op = Op.call { callee := Callee.builtin Builtin.append, args := #[s, x], argTypes := #[t, t] })
    (base : Nat) (e : TypeId) (i : TypeInfo) (z : Value) (size bytes : Nat) (h1 : P.underlying t = some (.slice e)) (h2 : P.info? e = some i) (h3 : i.zero = some z) (h4 : i.size = size) (h5 : i.bytes = bytes) (h6 : z.cells.size = size) (h7 : 0 < size)
    (v : Value) (n : Nat) (xs : List Value) (hs : a.eval s = v) (hown : w.ownsRow base e size v n xs)
    (ad : Addr) (m c : Nat) (news : List Value) (hx : a.eval x = .slice (some ad) m c) (hn : news.length = m * size) (hc : ∀ j u, news[j]? = some u → w.cell? (ad.add j) = some u) (h1c : ∀ u ∈ news, u.oneCell' = true)
    (hm : 0 < m) (b1 : n + m ≤ maxLen) (b2 : (n + m) * bytes ≤ 140737488355328) (b3 : base ≤ w.heap.size)
    (hK : ∀ v' w', w'.ownsRow base e size v' (n + m) (xs ++ news) → w.grownBy w' v.ownBlock → (∃ k, v'.ownBlock = some k ∧ (v.ownBlock = some k ∨ w.heap.size ≤ k)) → wpList P ops Q rest (a.put o.dst v') w') :
    wpList P ops Q (o :: rest) a w := by
  rcases hown.2 with ⟨rfl, rfl⟩ | ⟨g, cap, cur, rfl, hbg, hgg, hnc, hcm, hcs, htake⟩
  · have hx0 : xs = [] := List.eq_nil_of_length_eq_zero (by simpa using hown.1)
    subst hx0
    refine wpList_append_grows w hg s x t hop e i z size bytes h1 h2 h3 h4 h5 h6 h7 none 0 0 [] hs (fun _ => ⟨rfl, rfl⟩) (by simp) (fun b hb => by cases hb) ad m c news hx hn hc h1c (by omega) b1 b2 ?_
    intro v' w' ho hgr
    have hlt := ho.lt
    rcases ho.2 with ⟨rfl, h0⟩ | ⟨k, cap, cur, rfl, hk, _⟩
    · omega
    · exact hK _ _ (ownsRow_base ho (fun k' hk' => Nat.le_trans b3 (hlt k' hk').1)) ⟨hgr.os, hgr.tape, hgr.output, hgr.size, fun k hk hne => hgr.block k hk (by simp)⟩ ⟨k, rfl, .inr hk⟩
  · by_cases hroom : n + m ≤ cap
    · refine wpList_append_fits w hg s x t hop base e i size h1 h2 h4 g n cap xs hs hown ad m c news hx hn hc h1c hroom ?_
      intro w' ho hgr
      exact hK _ _ ho hgr ⟨g, rfl, .inl rfl⟩
    · refine wpList_append_grows w hg s x t hop e i z size bytes h1 h2 h3 h4 h5 h6 h7 (some ⟨g, 0, none⟩) n cap xs hs (fun hh => by cases hh) hown.1 ?_ ad m c news hx hn hc h1c (by omega) b1 b2 ?_
      · intro b hb j u hu
        cases hb
        exact hown.cells (g := g) rfl j u hu
      · intro v' w' ho hgr
        have hlt := ho.lt
        rcases ho.2 with ⟨rfl, h0⟩ | ⟨k, cap', cur', rfl, hk, _⟩
        · omega
        · exact hK _ _ (ownsRow_base ho (fun k' hk' => Nat.le_trans b3 (hlt k' hk').1)) ⟨hgr.os, hgr.tape, hgr.output, hgr.size, fun k hk hne => hgr.block k hk (by simp)⟩ ⟨k, rfl, .inr hk⟩
end Go.Proofs.YtggidhgifaekbaaDoor
/-
  Append of one element to a row of the call's own. Conditions: the row is owned, its length stays in bounds.
-/
namespace Go.Proofs.YtggidhgifaekbaaDoor
open Go.RowKit

theorem Fr.cellb {S : Nat → Prop} {w w' : World} (h : Fr S w w') {b off : Nat} (hk : b < w.heap.size) (hs : ¬ S b) : w'.cell? ⟨b, off, none⟩ = w.cell? ⟨b, off, none⟩ := h.cell hk hs
/-- the facts on an element's type, as one -/
structure Elem (P : Program) (t e : TypeId) (z : Value) (size bytes : Nat) : Prop where
  under : P.underlying t = some (.slice e)
  info : (P.info? e).map (fun i => (i.zero, i.size, i.bytes)) = some (some z, size, bytes)
  cells : z.cells.size = size
  pos : 0 < size

/-- append of one element, which lies in a new block of its own, to a row of the call's own -/
theorem wpList_append_one {P : Program} (W : World) {ops : Array Oper} {rest : List Oper} {o : Oper} {a : Act} {Q : Exit → Act → World → Prop}
    (hg : o.guard = none) (s x : Operand) (t : TypeId) (hop : o.op = Op.call { callee := Callee.builtin Builtin.append, args := #[s, x], argTypes := #[t, t] })
    (e : TypeId) (z : Value) (size bytes : Nat) (he : Elem P t e z size bytes)
    (v : Value) (n : Nat) (xs : List Value) (hs : a.eval s = v) (hown : W.ownsRow 0 e size v n xs)
    (news : Array Value) (hx : a.eval x = .slice (some ⟨W.heap.size, 0, none⟩) 1 1) (hn : news.size = size) (h1c : ∀ u ∈ news.toList, u.oneCell' = true)
    (b1 : n + 1 ≤ maxLen) (b2 : (n + 1) * bytes ≤ 140737488355328)
    (hK : ∀ g c w', w'.ownsRow 0 e size (.slice (some ⟨g, 0, none⟩) (n + 1) c) (n + 1) (xs ++ news.toList) → Fr (fun k => v.ownBlock = some k) W w' → (v.ownBlock = some g ∨ W.heap.size ≤ g) → wpList P ops Q rest (a.put o.dst (.slice (some ⟨g, 0, none⟩) (n + 1) c)) w') :
    wpList P ops Q (o :: rest) a (W.alloc (.cells news e)) := by
  obtain ⟨i0, hi, hz0, hz1, hz2⟩ := info_parts he.info
  refine wpList_append_two (W.alloc (.cells news e)) hg s x t hop 0 e i0 z size bytes he.under hi hz0 hz1 hz2 he.cells he.pos v n xs hs (hown.alloc _) ⟨W.heap.size, 0, none⟩ 1 1 news.toList hx (by simpa using hn) ?_ h1c (by omega) b1 b2 (Nat.zero_le _) ?_
  · intro j u hu
    rw [Addr.add_lit, cell_of_row (W.alloc (.cells news e)) W.heap.size (0 + j) news e (0, 0) (heap_alloc_new W _)]
    simpa using hu
  · intro v' w' ho hgr hblk
    obtain ⟨k, hk, hk'⟩ := hblk
    rcases ho.2 with ⟨rfl, h0⟩ | ⟨g, cap, cur, rfl, _⟩
    · omega
    · simp [Value.ownBlock] at hk
      subst hk
      refine hK g cap w' ho ((Fr.alloc _ W _).trans (Fr.grown hgr (fun k hk => hk))) ?_
      rcases hk' with h | h
      · exact .inl h
      · exact .inr (by simp at h; omega)
end Go.Proofs.YtggidhgifaekbaaDoor
/-
  Worlds in which all that was there is as it was ('Quiet0'). No condition.
-/
namespace Go.Proofs.YtggidhgifaekbaaDoor
open Go.RowKit

def Quiet0 (w w' : World) : Prop := Fr (fun _ => False) w w'
theorem Quiet0.refl (w : World) : Quiet0 w w := Fr.refl _ w
theorem Quiet0.trans {a b c : World} (h : Quiet0 a b) (k : Quiet0 b c) : Quiet0 a c := Fr.trans h k
theorem Quiet0.alloc (w : World) (o : Obj) : Quiet0 w (w.alloc o) := Fr.alloc _ w o
theorem Quiet0.below {w w' : World} (h : Quiet0 w w') : Below w.heap.size w w' := Fr.below h (Nat.le_refl _) (fun _ h => h.elim)
theorem Quiet0.of_below {w w' : World} (h : Below w.heap.size w w') : Quiet0 w w' := Fr.of_below h (fun _ hk _ => hk)
theorem Quiet0.drewN (w : World) (n : Nat) : Quiet0 w (w.drewN n) := Fr.drewN _ w n
theorem Quiet0.drew (w : World) : Quiet0 w w.drew := Fr.drew _ w
theorem Quiet0.at {w w' : World} (h : Quiet0 w w') {b off : Nat} {v : Value} (hc : w.cell? ⟨b, off, none⟩ = some v) : w'.cell? ⟨b, off, none⟩ = some v :=
  (h.cellb (World.block_lt_of_cell? w _ hc) (fun h => h)).trans hc
end Go.Proofs.YtggidhgifaekbaaDoor
/-
  Types as trees, in plain words: a list of types is a 'Fo' (first one: its kind, its number, its parts; and the rest). No program in sight.
-/
namespace Go.Proofs.YtggidhgifaekbaaDoor

inductive Fo where
  | nil : Fo
  | cons (k n : Int) (ps : Fo) (rest : Fo) : Fo

def inB (l : List Int) (v : Int) : Bool := l.contains v
theorem inB_cons (a : Int) (l : List Int) (v : Int) : inB (a :: l) v = (v == a || inB l v) := by unfold inB; rw [List.contains_cons]
namespace Fo
def length : Fo → Nat
  | nil => 0
  | cons _ _ _ r => r.length + 1
def drop : Fo → Nat → Fo
  | f, 0 => f
  | nil, _ + 1 => nil
  | cons _ _ _ r, i + 1 => r.drop i
def get : Fo → Nat → Option (Int × Int × Fo)
  | nil, _ => none
  | cons k n ps _, 0 => some (k, n, ps)
  | cons _ _ _ r, i + 1 => r.get i
def app : Fo → Fo → Fo
  | nil, g => g
  | cons k n ps r, g => cons k n ps (r.app g)
/-- how many types all in all -/
def size : Fo → Nat
  | nil => 0
  | cons _ _ ps r => ps.size + 1 + r.size
/-- how deep the deepest one is -/
def depth : Fo → Nat
  | nil => 0
  | cons _ _ ps r => max (ps.depth + 1) r.depth
def same : Fo → Fo → Bool
  | nil, nil => true
  | cons k n ps r, cons k' n' ps' r' => (k == k') && (n == n') && ps.same ps' && r.same r'
  | _, _ => false
def vars : List Int → Fo → List Int
  | l, nil => l
  | l, cons k n ps r => vars (vars (if k == 1 && !inB l n then l ++ [n] else l) ps) r
def plain (k n : Int) (m : Nat) : Bool :=
  if k == 1 then decide (0 ≤ n) && decide (n < 1073741824) && decide (m = 0)
  else if k == 2 || k == 3 then n == 0 && decide (m = 0)
  else if k == 4 then n == 0 && decide (m = 2)
  else if k == 5 then n == 0 && decide (2 ≤ m) && decide (m ≤ 8)
  else false
def right : Fo → Bool
  | nil => true
  | cons k n ps r => plain k n ps.length && ps.right && r.right
/-- each variable's number by a function -/
def change (p : Int → Int) : Fo → Fo
  | nil => nil
  | cons k n ps r => cons k (if k == 1 then p n else n) (ps.change p) (r.change p)

theorem drop_zero (f : Fo) : f.drop 0 = f := by cases f <;> rfl
theorem drop_get : ∀ (f : Fo) (i : Nat), i < f.length → ∃ k n ps, f.drop i = cons k n ps (f.drop (i + 1)) ∧ f.get i = some (k, n, ps)
  | nil, i, h => by simp [length] at h
  | cons k n ps r, 0, _ => ⟨k, n, ps, by simp [drop, drop_zero], rfl⟩
  | cons k n ps r, i + 1, h => by
    obtain ⟨k', n', ps', h1, h2⟩ := drop_get r i (by simp [length] at h; omega)
    exact ⟨k', n', ps', by simp only [drop]; rw [h1], h2⟩
theorem drop_end : ∀ (f : Fo) (i : Nat), f.length ≤ i → f.drop i = nil
  | nil, 0, _ => rfl
  | nil, i + 1, _ => rfl
  | cons k n ps r, 0, h => by simp [length] at h
  | cons k n ps r, i + 1, h => drop_end r i (by simp [length] at h; omega)
theorem get_lt : ∀ (f : Fo) (i : Nat) (t : Int × Int × Fo), f.get i = some t → i < f.length
  | nil, i, t, h => by simp [get] at h
  | cons k n ps r, 0, t, _ => by simp [length]
  | cons k n ps r, i + 1, t, h => by have := get_lt r i t h; simp [length]; omega
theorem length_le : ∀ f : Fo, f.length ≤ f.size
  | nil => Nat.le_refl _
  | cons k n ps r => by have := length_le r; simp only [length, size]; omega
theorem size_drop : ∀ (f : Fo) (i : Nat), (f.drop i).size ≤ f.size
  | f, 0 => by rw [drop_zero]; exact Nat.le_refl _
  | nil, i + 1 => Nat.le_refl _
  | cons k n ps r, i + 1 => by have := size_drop r i; simp only [drop, size]; omega
theorem size_get (f : Fo) (i : Nat) (k n : Int) (ps : Fo) (h : f.get i = some (k, n, ps)) : ps.size + 1 ≤ f.size := by
  obtain ⟨k', n', ps', h1, h2⟩ := drop_get f i (get_lt _ _ _ h)
  rw [h] at h2
  cases h2
  have := size_drop f i
  rw [h1] at this
  simp only [size] at this
  omega
theorem depth_le : ∀ f : Fo, f.depth ≤ f.size
  | nil => Nat.le_refl _
  | cons k n ps r => by have h1 := depth_le ps; have h2 := depth_le r; simp only [depth, size]; omega
theorem same_refl : ∀ f : Fo, f.same f = true
  | nil => rfl
  | cons k n ps r => by simp [same, same_refl ps, same_refl r]
theorem same_eq : ∀ f g : Fo, f.same g = true → f = g
  | nil, nil, _ => rfl
  | nil, cons _ _ _ _, h => by simp [same] at h
  | cons _ _ _ _, nil, h => by simp [same] at h
  | cons k n ps r, cons k' n' ps' r', h => by
    simp [same] at h
    obtain ⟨⟨⟨rfl, rfl⟩, h3⟩, h4⟩ := h
    rw [same_eq ps ps' h3, same_eq r r' h4]
theorem same_length : ∀ f g : Fo, f.same g = true → f.length = g.length := fun f g h => by rw [same_eq f g h]
theorem change_length (p : Int → Int) : ∀ f : Fo, (f.change p).length = f.length
  | nil => rfl
  | cons k n ps r => by simp [change, length, change_length p r]
theorem change_size (p : Int → Int) : ∀ f : Fo, (f.change p).size = f.size
  | nil => rfl
  | cons k n ps r => by simp [change, size, change_size p r, change_size p ps]
theorem change_id : ∀ f : Fo, f.change (fun n => n) = f
  | nil => rfl
  | cons k n ps r => by simp [change, change_id r, change_id ps]

theorem app_nil : ∀ f : Fo, f.app nil = f
  | nil => rfl
  | cons k n ps r => by simp [app, app_nil r]
theorem app_assoc : ∀ f g h : Fo, (f.app g).app h = f.app (g.app h)
  | nil, _, _ => rfl
  | cons k n ps r, g, h => by simp [app, app_assoc r g h]
theorem app_length : ∀ f g : Fo, (f.app g).length = f.length + g.length
  | nil, g => by simp [app, length]
  | cons k n ps r, g => by simp [app, length, app_length r g]; omega
/-- what is so of a type if it is so of its parts is so of every type -/
theorem ind {T : Int → Int → Fo → Prop} (step : ∀ k n ps, (∀ i k' n' qs, ps.get i = some (k', n', qs) → T k' n' qs) → T k n ps) : ∀ (f : Fo) (i : Nat) (k n : Int) (ps : Fo), f.get i = some (k, n, ps) → T k n ps
  | nil, i, k, n, ps, h => by simp [get] at h
  | cons k n ps r, 0, k', n', qs, h => by
    simp [get] at h
    obtain ⟨rfl, rfl, rfl⟩ := h
    exact step k n ps (ind step ps)
  | cons k n ps r, i + 1, k', n', qs, h => ind step r i k' n' qs h
theorem ind' {T : Int → Int → Fo → Prop} (step : ∀ k n ps, (∀ i k' n' qs, ps.get i = some (k', n', qs) → T k' n' qs) → T k n ps) (k n : Int) (ps : Fo) : T k n ps :=
  step k n ps (fun i k' n' qs h => ind step ps i k' n' qs h)

/-- how much is left of m, types taken from it (the law's room, over parts that lie d deep at most) -/
def room : Nat → Int → Fo → Int
  | _, m, nil => m
  | d, m, cons _ _ ps r => if m < 0 then m else
      match d with
      | 0 => room 0 (-1) r
      | d + 1 => room (d + 1) (room d (m - 1) ps) r
theorem room_neg : ∀ (f : Fo) (d : Nat) (m : Int), m < 0 → room d m f = m
  | nil, _, _, _ => by unfold room; rfl
  | cons k n ps r, d, m, h => by unfold room; rw [if_pos h]
theorem room_le : ∀ (f : Fo) (d : Nat) (m : Int), 0 ≤ m → room d m f ≤ m ∧ -1 ≤ room d m f
  | nil, _, _, _ => by unfold room; omega
  | cons k n ps r, d, m, h => by
    unfold room
    rw [if_neg (by omega)]
    cases d with
    | zero => simp only; rw [room_neg r 0 (-1) (by omega)]; omega
    | succ d =>
      simp only
      by_cases hm : 0 ≤ m - 1
      · have h1 := room_le ps d (m - 1) hm
        by_cases h0 : 0 ≤ room d (m - 1) ps
        · have h2 := room_le r (d + 1) _ h0; omega
        · rw [room_neg r _ _ (by omega)]; omega
      · rw [room_neg ps _ _ (by omega), room_neg r _ _ (by omega)]; omega
theorem room_size : ∀ (f : Fo) (d : Nat) (m : Int), 0 ≤ room d m f → room d m f = m - f.size ∧ 0 ≤ m
  | nil, _, m, h => by unfold room at h ⊢; simp [size]; exact h
  | cons k n ps r, d, m, h => by
    unfold room at h ⊢
    by_cases hm : m < 0
    · rw [if_pos hm] at h; omega
    · rw [if_neg hm] at h ⊢
      cases d with
      | zero => simp only at h; rw [room_neg r 0 (-1) (by omega)] at h; omega
      | succ d =>
        simp only at h ⊢
        obtain ⟨h1, h2⟩ := room_size r (d + 1) _ h
        obtain ⟨h3, h4⟩ := room_size ps d (m - 1) h2
        rw [h1, h3]
        simp only [size]; omega
end Fo
/-- all numbers in a row of types are such -/
def allF (G : Int → Prop) : Fo → Prop
  | .nil => True
  | .cons _ n ps r => G n ∧ allF G ps ∧ allF G r
theorem allF_get {G : Int → Prop} : ∀ (f : Fo) (i : Nat) (k n : Int) (ps : Fo), allF G f → f.get i = some (k, n, ps) → G n ∧ allF G ps
  | .nil, i, k, n, ps, _, h => by simp [Fo.get] at h
  | .cons k n ps r, 0, k', n', ps', hw, h => by
    simp [Fo.get] at h
    obtain ⟨rfl, rfl, rfl⟩ := h
    exact ⟨hw.1, hw.2.1⟩
  | .cons k n ps r, i + 1, k', n', ps', hw, h => allF_get r i k' n' ps' hw.2.2 h
theorem allF_true {G : Int → Prop} (h : ∀ n, G n) : ∀ f : Fo, allF G f
  | .nil => trivial
  | .cons _ n ps r => ⟨h n, allF_true h ps, allF_true h r⟩
end Go.Proofs.YtggidhgifaekbaaDoor
/-
  Types as they lie in memory: a row of types, each with a slice of its parts. No condition.
-/
namespace Go.Proofs.YtggidhgifaekbaaDoor
open Go.RowKit

/-- types in a row from an address on -/
def At (w : World) : Nat → Nat → Fo → Prop
  | _, _, .nil => True
  | b, off, .cons k n ps r => w.cell? ⟨b, off, none⟩ = some (.int .i64 k) ∧ w.cell? ⟨b, off + 1, none⟩ = some (.int .i64 n) ∧
      (∃ o len cap, w.cell? ⟨b, off + 2, none⟩ = some (.slice o len cap) ∧ len = ps.length ∧ len ≤ maxLen ∧ (0 < len → ∃ b' off', o = some ⟨b', off', none⟩ ∧ At w b' off' ps)) ∧ At w b (off + 3) r
/-- a slice's types -/
def Slc (w : World) (o : Option Addr) (len : Nat) (f : Fo) : Prop := len = f.length ∧ len ≤ maxLen ∧ (0 < len → ∃ b off, o = some ⟨b, off, none⟩ ∧ At w b off f)
theorem Slc.nil (w : World) (o : Option Addr) : Slc w o 0 .nil := ⟨rfl, Nat.zero_le _, fun h => absurd h (Nat.lt_irrefl _)⟩
theorem At.stay {w w' : World} (hq : Quiet0 w w') : ∀ (f : Fo) (b off : Nat), At w b off f → At w' b off f
  | .nil, _, _, _ => trivial
  | .cons k n ps r, b, off, h => by
    obtain ⟨h1, h2, ⟨o, len, cap, h3, h4, h4', h5⟩, h6⟩ := h
    refine ⟨hq.at h1, hq.at h2, ⟨o, len, cap, hq.at h3, h4, h4', fun hl => ?_⟩, At.stay hq r b (off + 3) h6⟩
    obtain ⟨b', off', ho, ha⟩ := h5 hl
    exact ⟨b', off', ho, At.stay hq ps b' off' ha⟩
theorem Slc.stay {w w' : World} {o : Option Addr} {len : Nat} {f : Fo} (h : Slc w o len f) (hq : Quiet0 w w') : Slc w' o len f := by
  refine ⟨h.1, h.2.1, fun hl => ?_⟩
  obtain ⟨b, off, ho, ha⟩ := h.2.2 hl
  exact ⟨b, off, ho, At.stay hq f b off ha⟩
theorem At.nth {w : World} : ∀ (f : Fo) (b off i : Nat), At w b off f → i < f.length → ∃ k n ps o len cap, f.drop i = .cons k n ps (f.drop (i + 1)) ∧ f.get i = some (k, n, ps) ∧
    w.cell? ⟨b, off + i * 3, none⟩ = some (.int .i64 k) ∧ w.cell? ⟨b, off + i * 3 + 1, none⟩ = some (.int .i64 n) ∧ w.cell? ⟨b, off + i * 3 + 2, none⟩ = some (.slice o len cap) ∧ Slc w o len ps
  | .nil, _, _, _, _, h => by simp [Fo.length] at h
  | .cons k n ps r, b, off, 0, h, _ => by
    obtain ⟨h1, h2, ⟨o, len, cap, h3, h4, h4', h5⟩, h6⟩ := h
    exact ⟨k, n, ps, o, len, cap, by simp [Fo.drop, Fo.drop_zero], rfl, by simpa using h1, by simpa using h2, by simpa using h3, h4, h4', h5⟩
  | .cons k n ps r, b, off, i + 1, h, hi => by
    obtain ⟨_, _, _, h6⟩ := h
    obtain ⟨k', n', ps', o, len, cap, e1, e2, c1, c2, c3, hs⟩ := At.nth r b (off + 3) i h6 (by simp [Fo.length] at hi; omega)
    refine ⟨k', n', ps', o, len, cap, by simp only [Fo.drop]; rw [e1], e2, ?_, ?_, ?_, hs⟩
    · rw [show off + (i + 1) * 3 = off + 3 + i * 3 from by omega]; exact c1
    · rw [show off + (i + 1) * 3 = off + 3 + i * 3 from by omega]; exact c2
    · rw [show off + (i + 1) * 3 = off + 3 + i * 3 from by omega]; exact c3
/-- the type at a place of a slice -/
theorem Slc.nth {w : World} {o : Option Addr} {len : Nat} {f : Fo} (h : Slc w o len f) {i : Nat} (hi : i < len) : ∃ b off k n ps o' len' cap', o = some ⟨b, off, none⟩ ∧ f.drop i = .cons k n ps (f.drop (i + 1)) ∧ f.get i = some (k, n, ps) ∧
    w.cell? ⟨b, off + i * 3, none⟩ = some (.int .i64 k) ∧ w.cell? ⟨b, off + i * 3 + 1, none⟩ = some (.int .i64 n) ∧ w.cell? ⟨b, off + i * 3 + 2, none⟩ = some (.slice o' len' cap') ∧ Slc w o' len' ps := by
  obtain ⟨b, off, rfl, ha⟩ := h.2.2 (by omega)
  obtain ⟨k, n, ps, o', len', cap', h1⟩ := At.nth f b off i ha (by have := h.1; omega)
  exact ⟨b, off, k, n, ps, o', len', cap', rfl, h1⟩
/-- a type as a value -/
def tyv (k n : Int) (o : Option Addr) (len cap : Nat) : Value := .agg #[.int .i64 k, .int .i64 n, .slice o len cap]
theorem box_cells (w : World) (k n : Int) (o : Option Addr) (len cap : Nat) (t : TypeId) (W : World) (hW : Quiet0 (w.alloc (.cells #[.int .i64 k, .int .i64 n, .slice o len cap] t)) W) :
    W.cell? ⟨w.heap.size, 0, none⟩ = some (.int .i64 k) ∧ W.cell? ⟨w.heap.size, 1, none⟩ = some (.int .i64 n) ∧ W.cell? ⟨w.heap.size, 2, none⟩ = some (.slice o len cap) := by
  refine ⟨hW.at ?_, hW.at ?_, hW.at ?_⟩ <;> (rw [cell_of_row _ _ _ _ _ (0, 0) (heap_alloc_new w _)]; rfl)
end Go.Proofs.YtggidhgifaekbaaDoor
/-
  A map from int to int that a call has made: what it holds at each key; look-up and store. Condition: keys and what is stored are in range.
-/
namespace Go.Proofs.YtggidhgifaekbaaDoor
open Go.RowKit Go.Maps

def wfI (n : Int) : Prop := (Lit.int .i64 n).wf = true
theorem wfI_of {n : Int} (h0 : -9223372036854775808 ≤ n) (h1 : n ≤ 9223372036854775807) : wfI n := WalkArith.wf_i64 (by omega)
theorem lawK : Keyed Tryd.prog 3 := int_keyed Tryd.underlying3
theorem zeroE (w : World) : (zeroValue 3).run Tryd.prog w = .ok (.int .i64 0) w := by kernel_rfl
/-- all numbers in a row of types are in range -/
def wfF (f : Fo) : Prop := allF wfI f
def MapOf (w : World) (b n : Nat) (p : Int → Int) : Prop :=
  ∃ D : DataW Unit, w.ownsMap Tryd.prog 3 (plainElem Tryd.prog 3) b n D ∧ IsMap D ∧ ∀ v, wfI v → D.atKey (.int .i64 v) (.lit (.int .i64 0)) = .lit (.int .i64 (p v))
theorem MapOf.made (w : World) : MapOf (w.alloc (.map #[] 0)) w.heap.size 0 (fun _ => 0) :=
  ⟨.map [], World.ownsMap_made _ _ _ _, ⟨_, rfl⟩, fun _ _ => rfl⟩
theorem MapOf.lt {w : World} {b n : Nat} {p : Int → Int} (h : MapOf w b n p) : b < w.heap.size := by
  obtain ⟨D, h, _⟩ := h
  exact h.lt
theorem MapOf.fr {w w' : World} {b n : Nat} {p : Int → Int} {S : Nat → Prop} (h : MapOf w b n p) (hf : Fr S w w') (hb : ¬ S b) : MapOf w' b n p := by
  have hlt := h.lt
  obtain ⟨D, ⟨es, clock, hh, F, hs, hD⟩, hm, ha⟩ := h
  exact ⟨D, ⟨es, clock, (hf.block b hlt hb).trans hh, F, hs, hD⟩, hm, ha⟩
theorem MapOf.stay {w w' : World} {b n : Nat} {p : Int → Int} (h : MapOf w b n p) (hq : Quiet0 w w') : MapOf w' b n p := h.fr hq (fun h => h)
theorem MapOf.cong {w : World} {b n : Nat} {p q : Int → Int} (h : MapOf w b n p) (he : ∀ v, wfI v → p v = q v) : MapOf w b n q := by
  obtain ⟨D, h1, h2, h3⟩ := h
  exact ⟨D, h1, h2, fun v hv => by rw [h3 v hv, he v hv]⟩
set_option maxRecDepth 100000 in
theorem MapOf.look {w : World} {b n : Nat} {p : Int → Int} (h : MapOf w b n p) {v : Int} (hv : wfI v) : (Instr.lookup 84 (.map (some b)) (.int .i64 v) false).run Tryd.prog w = .ok (.int .i64 (p v)) w := by
  obtain ⟨D, h1, h2, h3⟩ := h
  obtain ⟨c, hr, hc, _⟩ := h1.lookup_int lawK Tryd.underlying84 Tryd.underlying3 (zeroE _) (keyOf_int_mk Tryd.underlying3 hv)
  rw [h3 v hv] at hc
  injection hc with hc
  injection hc with _ hc
  rw [hc]; exact hr
theorem wpList_look (w : World) {ops : Array Oper} {rest : List Oper} {o : Oper} {a : Act} {Q : Exit → Act → World → Prop}
    (hg : o.guard = none) (m x : Operand) (hop : o.op = Op.lookup 84 m x false) {b n : Nat} {p : Int → Int} (hm : a.eval m = .map (some b)) (hown : MapOf w b n p) (v : Int) (hv : wfI v) (hx : a.eval x = .int .i64 v)
    (hK : wpList Tryd.prog ops Q rest (a.put o.dst (.int .i64 (p v))) w) : wpList Tryd.prog ops Q (o :: rest) a w := by
  obtain ⟨D, h1, h2, h3⟩ := hown
  refine wpList_lookup_own_int w hg m x 84 hop 3 3 .i64 lawK Tryd.underlying84 Tryd.underlying3 (zeroE _) b n D hm h1 _ (.int .i64 v) hx (keyOf_int_mk Tryd.underlying3 hv) ?_
  intro c hc _
  rw [h3 v hv] at hc
  injection hc with hc
  injection hc with _ hc
  rw [← hc]; exact hK
theorem wpList_store (w : World) {ops : Array Oper} {rest : List Oper} {o : Oper} {a : Act} {Q : Exit → Act → World → Prop}
    (hg : o.guard = none) (m x y : Operand) (hop : o.op = Op.mapUpdate 84 m x y) {b n : Nat} {p : Int → Int} (hm : a.eval m = .map (some b)) (hown : MapOf w b n p) (hn : n < maxLen) (v u : Int) (hv : wfI v) (hu : wfI u) (hx : a.eval x = .int .i64 v) (hy : a.eval y = .int .i64 u)
    (hK : ∀ w', MapOf w' b (n + 1) (fun k => if k = v then u else p k) → Fr (fun k => k = b) w w' → wpList Tryd.prog ops Q rest (a.put o.dst undef) w') : wpList Tryd.prog ops Q (o :: rest) a w := by
  obtain ⟨D, h1, h2, h3⟩ := hown
  refine wpList_mapUpdate_own w hg m x y 84 hop 3 3 lawK Tryd.underlying84 _ b n D hm h1 hn _ _ (.int .i64 v) hx hy (keyOf_int_mk Tryd.underlying3 hv) _ [] (plainElem_int Tryd.underlying3 hu) ?_
  intro w' hown' hgr
  refine hK w' ⟨_, hown', h2.put _ _, ?_⟩ (Fr.grown hgr (fun k hk => by cases hk; rfl))
  intro k hk
  by_cases he : k = v
  · subst he
    rw [atKey_put_same h2 (by trivial)]; simp
  · rw [atKey_put_other (by intro h; injection h with _ h; exact he h), h3 k hk]; simp [he]
end Go.Proofs.YtggidhgifaekbaaDoor
/-
  A map from int to types that a call has made: what it holds at each key; look-up and store. Condition: keys are in range.
-/
namespace Go.Proofs.YtggidhgifaekbaaDoor
open Go.RowKit Go.Maps

def heldR (v : Value) : Option (DataW Value × List MemPlace) := some (.held v, [])
def zeroT : Value := .agg #[.int .i64 0, .int .i64 0, .slice none 0 0]
theorem zeroTy (w : World) : (zeroValue 24).run Tryd.prog w = .ok zeroT w := by kernel_rfl
def MapT (w : World) (b n : Nat) (q : Int → Option Value) : Prop :=
  ∃ D : DataW Value, w.ownsMap Tryd.prog 3 heldR b n D ∧ IsMap D ∧ ∀ v, wfI v → has D (.int .i64 v) = (q v).isSome ∧ D.atKey (.int .i64 v) (.held zeroT) = .held ((q v).getD zeroT)
theorem MapT.made (w : World) : MapT (w.alloc (.map #[] 0)) w.heap.size 0 (fun _ => none) :=
  ⟨.map [], World.ownsMap_made _ _ _ _, ⟨_, rfl⟩, fun _ _ => ⟨rfl, rfl⟩⟩
theorem MapT.lt {w : World} {b n : Nat} {q : Int → Option Value} (h : MapT w b n q) : b < w.heap.size := by
  obtain ⟨D, h, _⟩ := h
  exact h.lt
theorem MapT.fr {w w' : World} {b n : Nat} {q : Int → Option Value} {S : Nat → Prop} (h : MapT w b n q) (hf : Fr S w w') (hb : ¬ S b) : MapT w' b n q := by
  have hlt := h.lt
  obtain ⟨D, ⟨es, clock, hh, F, hs, hD⟩, hm, ha⟩ := h
  exact ⟨D, ⟨es, clock, (hf.block b hlt hb).trans hh, F, hs, hD⟩, hm, ha⟩
theorem MapT.stay {w w' : World} {b n : Nat} {q : Int → Option Value} (h : MapT w b n q) (hq : Quiet0 w w') : MapT w' b n q := h.fr hq (fun h => h)
theorem wpList_lookT (w : World) {ops : Array Oper} {rest : List Oper} {o : Oper} {a : Act} {Q : Exit → Act → World → Prop}
    (hg : o.guard = none) (m x : Operand) (hop : o.op = Op.lookup 94 m x true) {b n : Nat} {q : Int → Option Value} (hm : a.eval m = .map (some b)) (hown : MapT w b n q) (v : Int) (hv : wfI v) (hx : a.eval x = .int .i64 v)
    (hK : wpList Tryd.prog ops Q rest (a.put o.dst (.tuple #[(q v).getD zeroT, .bool (q v).isSome])) w) : wpList Tryd.prog ops Q (o :: rest) a w := by
  obtain ⟨D, h1, h2, h3⟩ := hown
  refine wpList_lookup_own_ok w hg m x 94 hop 3 24 lawK Tryd.underlying94 heldR (zeroTy w) (.held zeroT) [] rfl b n D hm h1 _ (.int .i64 v) hx (keyOf_int_mk Tryd.underlying3 hv) ?_
  intro u ps hu
  rw [(h3 v hv).2] at hu
  unfold heldR at hu
  injection hu with hu
  injection hu with hu _
  injection hu with hu
  subst hu
  rw [(h3 v hv).1]; exact hK
theorem wpList_storeT (w : World) {ops : Array Oper} {rest : List Oper} {o : Oper} {a : Act} {Q : Exit → Act → World → Prop}
    (hg : o.guard = none) (m x y : Operand) (hop : o.op = Op.mapUpdate 94 m x y) {b n : Nat} {q : Int → Option Value} (hm : a.eval m = .map (some b)) (hown : MapT w b n q) (hn : n < maxLen) (v : Int) (u : Value) (hv : wfI v) (hx : a.eval x = .int .i64 v) (hy : a.eval y = u)
    (hK : ∀ w', MapT w' b (n + 1) (fun k => if k = v then some u else q k) → Fr (fun k => k = b) w w' → wpList Tryd.prog ops Q rest (a.put o.dst undef) w') : wpList Tryd.prog ops Q (o :: rest) a w := by
  obtain ⟨D, h1, h2, h3⟩ := hown
  refine wpList_mapUpdate_own w hg m x y 94 hop 3 24 lawK Tryd.underlying94 heldR b n D hm h1 hn _ _ (.int .i64 v) hx hy (keyOf_int_mk Tryd.underlying3 hv) (.held u) [] rfl ?_
  intro w' hown' hgr
  refine hK w' ⟨_, hown', h2.put _ _, ?_⟩ (Fr.grown hgr (fun k hk => by cases hk; rfl))
  intro k hk
  by_cases he : k = v
  · subst he
    rw [has_put_same h2 (by trivial), atKey_put_same h2 (by trivial)]; simp
  · have hne : (Lit.int .i64 k) ≠ .int .i64 v := by intro h; injection h with _ h; exact he h
    rw [has_put_other hne, atKey_put_other hne, (h3 k hk).1, (h3 k hk).2]; simp [he]
end Go.Proofs.YtggidhgifaekbaaDoor
/-
  The reference on types (Size, Depth, Same, Right, In) and the law's bound (room, Great). Conditions: the types lie in memory as told; where numbers are added up, there are few types.
-/
namespace Go.Proofs.YtggidhgifaekbaaDoor
open Go.RowKit

theorem ret_int {k : IntKind} {a b : Int} (h : a = b) : Ending.returned (.int k a) = .returned (.int k b) := by rw [h]

/-- ref.Size -/
def RSize (k n : Int) (ps : Fo) : Prop := ∀ (w : World) (o : Option Addr) (len cap : Nat), Slc w o len ps → ps.size ≤ 1000000 →
  Calls Tryd.prog 46 #[tyv k n o len cap] w fun e w' => e = .returned (.int .i64 ((ps.size + 1 : Nat) : Int)) ∧ Quiet0 w w'
set_option maxHeartbeats 1000000 in
theorem refSize_any (k n : Int) (ps : Fo) : RSize k n ps := by
  refine Fo.ind' (T := RSize) ?_ k n ps
  intro k n ps ih w o len cap hs hsz
  have HS := Lib.hid hs
  have IH := Lib.hid ih
  have hl := hs.1
  have hll := Fo.length_le ps
  rw [← hl] at hll
  have HL := Lib.hid hl
  clear hs ih hl
  unfold tyv
  go_enter Tryd.func46, Tryd.ntmps46
  go_wp2_with fail
  obtain ⟨W0, hW0⟩ : ∃ W0, W0 = w.alloc (.cells #[.int .i64 k, .int .i64 n, .slice o len cap] 24) := ⟨_, rfl⟩
  have HB : Hid (∀ W, Quiet0 W0 W → W.cell? ⟨w.heap.size, 2, none⟩ = some (.slice o len cap)) := by
    intro W hq; rw [hW0] at hq; exact (box_cells w k n o len cap _ W hq).2.2
  have HQ0 : Hid (Quiet0 w W0) := by rw [hW0]; exact Quiet0.alloc _ _
  change Code.wp _ _ _ _ (w.alloc (.cells #[.int .i64 k, .int .i64 n, .slice o len cap] 24))
  rw [← hW0]
  clear hW0
  generalize w.heap.size = nb at *
  go_loopw [3, 4] (fun s t wr => ∃ (i m : Nat), t = .int .i64 i ∧ s = .int .i64 m ∧ i ≤ len ∧ m + (ps.drop i).size = ps.size + 1 ∧ Quiet0 W0 wr) (fun _ t _ => len - (intOf t).toNat)
  case atStart => exact ⟨0, 1, rfl, rfl, Nat.zero_le _, by rw [Fo.drop_zero]; omega, Quiet0.refl _⟩
  case round =>
    obtain ⟨i, m, rfl, rfl, hi, hm, hq⟩ := hrel
    have HM := Lib.hid hm
    have HQ := Lib.hid hq
    have c2 := HB.out wr hq
    clear hm hq
    by_cases hlt : i < len
    · have hlt' : (i : Int) < len := by omega
      obtain ⟨b, off, k', n', qs, o', len', cap', rfl, hd, hg, e0, e1, e2, hs'⟩ := (HS.out.stay (HQ0.out.trans HQ.out)).nth hlt
      have hsq := Fo.size_get ps i k' n' qs hg
      have hdd := Fo.size_drop ps (i + 1)
      have HD : Hid (m + (qs.size + 1) + (ps.drop (i + 1)).size = ps.size + 1) := by
        have := HM.out; rw [hd] at this; simp only [Fo.size] at this; show _ = _; omega
      have HC := Lib.hid (IH.out i k' n' qs hg wr o' len' cap' hs' (by omega))
      have hm2 : m ≤ 1000001 := by have := HM.out; omega
      have hqs : qs.size ≤ 1000001 := by omega
      unfold tyv at HC
      clear hd hg hs' hsq hdd
      go_wp2_with fail
      refine HC.out.mono ?_; rintro e w1 ⟨rfl, hq1⟩
      have HQ1 := Lib.hid (HQ.out.trans hq1)
      clear hq1
      go_wp2_with fail
      go_roundw
      case rel => exact ⟨i + 1, m + (qs.size + 1), by go_num, by go_num, by omega, HD.out, HQ1.out⟩
      case measure => simp [intOf]; omega
    · have hlt' : ¬ (i : Int) < len := by omega
      go_wp2_with fail
      go_ret
      refine ⟨ret_int (a := (m : Nat)) ?_, HQ0.out.trans HQ.out⟩
      have := HM.out
      rw [Fo.drop_end ps i (by have := HL.out; omega)] at this
      simp only [Fo.size] at this
      omega

/-- ref.Depth -/
def RDepth (k n : Int) (ps : Fo) : Prop := ∀ (w : World) (o : Option Addr) (len cap : Nat), Slc w o len ps → ps.size ≤ 1000000 →
  Calls Tryd.prog 48 #[tyv k n o len cap] w fun e w' => e = .returned (.int .i64 ((ps.depth + 1 : Nat) : Int)) ∧ Quiet0 w w'
set_option maxHeartbeats 1000000 in
theorem refDepth_any (k n : Int) (ps : Fo) : RDepth k n ps := by
  refine Fo.ind' (T := RDepth) ?_ k n ps
  intro k n ps ih w o len cap hs hsz
  have HS := Lib.hid hs
  have IH := Lib.hid ih
  have hl := hs.1
  have hll := Fo.length_le ps
  rw [← hl] at hll
  have HL := Lib.hid hl
  have hdp := Fo.depth_le ps
  clear hs ih hl
  unfold tyv
  go_enter Tryd.func48, Tryd.ntmps48
  go_wp2_with fail
  obtain ⟨W0, hW0⟩ : ∃ W0, W0 = w.alloc (.cells #[.int .i64 k, .int .i64 n, .slice o len cap] 24) := ⟨_, rfl⟩
  have HB0 : Hid (∀ W, Quiet0 W0 W → W.cell? ⟨w.heap.size, 0, none⟩ = some (.int .i64 k)) := by
    intro W hq; rw [hW0] at hq; exact (box_cells w k n o len cap _ W hq).1
  have HB1 : Hid (∀ W, Quiet0 W0 W → W.cell? ⟨w.heap.size, 1, none⟩ = some (.int .i64 n)) := by
    intro W hq; rw [hW0] at hq; exact (box_cells w k n o len cap _ W hq).2.1
  have HB : Hid (∀ W, Quiet0 W0 W → W.cell? ⟨w.heap.size, 2, none⟩ = some (.slice o len cap)) := by
    intro W hq; rw [hW0] at hq; exact (box_cells w k n o len cap _ W hq).2.2
  have HQ0 : Hid (Quiet0 w W0) := by rw [hW0]; exact Quiet0.alloc _ _
  change Code.wp _ _ _ _ (w.alloc (.cells #[.int .i64 k, .int .i64 n, .slice o len cap] 24))
  rw [← hW0]
  clear hW0
  generalize w.heap.size = nb at *
  go_loopw [3, 4] (fun s t wr => ∃ (i m : Nat), t = .int .i64 i ∧ s = .int .i64 m ∧ i ≤ len ∧ 1 ≤ m ∧ max m ((ps.drop i).depth + 1) = ps.depth + 1 ∧ Quiet0 W0 wr) (fun _ t _ => len - (intOf t).toNat)
  case atStart => exact ⟨0, 1, rfl, rfl, Nat.zero_le _, Nat.le_refl _, by rw [Fo.drop_zero]; omega, Quiet0.refl _⟩
  case round =>
    obtain ⟨i, m, rfl, rfl, hi, hm1, hm, hq⟩ := hrel
    have HM := Lib.hid hm
    have HQ := Lib.hid hq
    have c2 := HB.out wr hq
    have hmb : m ≤ 1000001 := by omega
    clear hm hq
    by_cases hlt : i < len
    · have hlt' : (i : Int) < len := by omega
      obtain ⟨b, off, k', n', qs, o', len', cap', rfl, hd, hg, e0, e1, e2, hs'⟩ := (HS.out.stay (HQ0.out.trans HQ.out)).nth hlt
      have hsq := Fo.size_get ps i k' n' qs hg
      have hqd := Fo.depth_le qs
      have hqs : qs.depth ≤ 1000001 := by omega
      have HC := Lib.hid (IH.out i k' n' qs hg wr o' len' cap' hs' (by omega))
      have HD : Hid (max (max m (qs.depth + 1 + 1)) ((ps.drop (i + 1)).depth + 1) = ps.depth + 1) := by
        have := HM.out; rw [hd] at this; simp only [Fo.depth] at this; show _ = _; omega
      unfold tyv at HC
      clear hd hg hs' hsq hqd
      by_cases hgt : m < qs.depth + 1 + 1
      · have hgt' : (m : Int) < (qs.depth : Int) + 1 + 1 := by omega
        go_wp2_with fail
        refine HC.out.mono ?_; rintro e w1 ⟨rfl, hq1⟩
        have HQ1 := Lib.hid (HQ.out.trans hq1)
        clear hq1
        go_wp2_with fail
        go_roundw
        case rel => exact ⟨i + 1, qs.depth + 1 + 1, by go_num, by go_num, by omega, by omega, by have := HD.out; omega, HQ1.out⟩
        case measure => simp [intOf]; omega
      · have hgt' : ¬ (m : Int) < (qs.depth : Int) + 1 + 1 := by omega
        go_wp2_with fail
        refine HC.out.mono ?_; rintro e w1 ⟨rfl, hq1⟩
        have HQ1 := Lib.hid (HQ.out.trans hq1)
        clear hq1
        go_wp2_with fail
        go_roundw
        case rel => exact ⟨i + 1, m, by go_num, rfl, by omega, by omega, by have := HD.out; omega, HQ1.out⟩
        case measure => simp [intOf]; omega
    · have hlt' : ¬ (i : Int) < len := by omega
      go_wp2_with fail
      go_ret
      refine ⟨ret_int (a := (m : Nat)) ?_, HQ0.out.trans HQ.out⟩
      have := HM.out
      rw [Fo.drop_end ps i (by have := HL.out; omega)] at this
      simp only [Fo.depth] at this
      omega

/-- numbers in a row -/
def IntsAt (w : World) (o : Option Addr) (l : List Int) : Prop := ∀ i x, l[i]? = some x → ∃ b off, o = some ⟨b, off, none⟩ ∧ w.cell? ⟨b, off + i, none⟩ = some (.int .i64 x)
theorem IntsAt.stay {w w' : World} {o : Option Addr} {l : List Int} (h : IntsAt w o l) (hq : Quiet0 w w') : IntsAt w' o l := by
  intro i x hi
  obtain ⟨b, off, ho, hc⟩ := h i x hi
  exact ⟨b, off, ho, hq.at hc⟩
theorem drop_some {α : Type} {l : List α} {k : Nat} {t : α} (h : l[k]? = some t) : l.drop k = t :: l.drop (k + 1) := by
  obtain ⟨hl, rfl⟩ := List.getElem?_eq_some_iff.1 h
  exact List.drop_eq_getElem_cons hl
set_option maxHeartbeats 1000000 in
theorem refIn_any (o : Option Addr) (len cap : Nat) (l : List Int) (v : Int) (w : World) (h : IntsAt w o l) (hl : len = l.length) (hb : len ≤ 1000000) :
    Calls Tryd.prog 51 #[.slice o len cap, .int .i64 v] w fun e w' => e = .returned (.bool (inB l v)) ∧ w = w' := by
  have H := Lib.hid h
  have HL := Lib.hid hl
  clear h hl
  go_enter Tryd.func51, Tryd.ntmps51
  go_wp2_with fail
  go_loop [5] (fun t => ∃ i : Nat, t = .int .i64 i ∧ i ≤ len ∧ inB l v = inB (l.drop i) v) (fun t => len - (intOf t).toNat)
  case atStart => exact ⟨0, rfl, Nat.zero_le _, rfl⟩
  case round =>
    obtain ⟨i, rfl, hi, hc⟩ := hrel
    have HC := Lib.hid hc
    clear hc
    by_cases hlt : i < len
    · have hlt' : (i : Int) < len := by omega
      obtain ⟨x, hx⟩ : ∃ x, l[i]? = some x := ⟨_, List.getElem?_eq_getElem (by have := HL.out; omega)⟩
      obtain ⟨b, off, rfl, c⟩ := H.out i x hx
      have HD := Lib.hid (drop_some hx)
      clear hx
      cases hxv : (x == v)
      · have HX : Hid ((v == x) = false) := by
          show _ = _
          rw [beq_eq_false_iff_ne] at hxv ⊢; exact fun h => hxv h.symm
        go_wp2_with fail
        go_round
        case rel => exact ⟨i + 1, by go_num, by omega, by rw [HC.out, HD.out, inB_cons, HX.out]; rfl⟩
        case measure => simp [intOf]; omega
      · have HX : Hid (v = x) := by show _ = _; exact (beq_iff_eq.1 hxv).symm
        go_wp2_with fail
        go_ret
        exact ⟨by rw [HC.out, HD.out, inB_cons, HX.out]; simp, rfl⟩
    · have hlt' : ¬ (i : Int) < len := by omega
      go_wp2_with fail
      go_ret
      exact ⟨by rw [HC.out, List.drop_eq_nil_of_le (by have := HL.out; omega)]; rfl, rfl⟩

/-- the law's room -/
def LRoom (k n : Int) (ps : Fo) : Prop := ∀ (w : World) (o : Option Addr) (len cap : Nat) (d : Nat) (m : Int) (di : Int), di = d → Slc w o len ps → 0 ≤ m → m ≤ 100000 → d ≤ 100000 →
  Calls Tryd.prog 68 #[tyv k n o len cap, .int .i64 m, .int .i64 di] w fun e w' => e = .returned (.int .i64 (if d = 0 then -1 else Fo.room (d - 1) (m - 1) ps)) ∧ Quiet0 w w'
set_option maxHeartbeats 2000000 in
theorem room_any (k n : Int) (ps : Fo) : LRoom k n ps := by
  refine Fo.ind' (T := LRoom) ?_ k n ps
  intro k n ps ih w o len cap d m di ed hs hm0 hm1 hd1
  subst ed
  have HS := Lib.hid hs
  have IH := Lib.hid ih
  have HL := Lib.hid hs.1
  have hmx := hs.2.1
  unfold maxLen at hmx
  clear hs ih
  by_cases hd0 : d = 0
  · subst hd0
    unfold tyv
    go_enter Tryd.func68, Tryd.ntmps68
    go_wp2_with fail
    go_ret
    exact ⟨rfl, Quiet0.alloc _ _⟩
  · obtain ⟨D, hD⟩ : ∃ D, D = d - 1 := ⟨_, rfl⟩
    have hd0' : ((d : Int) == 0) = false := by simp; omega
    have hdD : d = D + 1 := by omega
    obtain ⟨res, hres⟩ : ∃ res, res = Fo.room D (m - 1) ps := ⟨_, rfl⟩
    have HRES := Lib.hid hres
    have HF : Hid ((if d = 0 then -1 else Fo.room (d - 1) (m - 1) ps) = res) := by show _ = _; rw [if_neg (by omega), ← hD, hres]
    rw [HF.out]
    have HDD := Lib.hid hdD
    have hD1 : D ≤ 100000 := by omega
    have hd1' : 1 ≤ d := by omega
    clear hres hd0 hD hdD
    unfold tyv
    go_enter Tryd.func68, Tryd.ntmps68
    go_wp2_with fail
    obtain ⟨W0, hW0⟩ : ∃ W0, W0 = w.alloc (.cells #[.int .i64 k, .int .i64 n, .slice o len cap] 24) := ⟨_, rfl⟩
    have HB0 : Hid (∀ W, Quiet0 W0 W → W.cell? ⟨w.heap.size, 0, none⟩ = some (.int .i64 k)) := by
      intro W hq; rw [hW0] at hq; exact (box_cells w k n o len cap _ W hq).1
    have HB1 : Hid (∀ W, Quiet0 W0 W → W.cell? ⟨w.heap.size, 1, none⟩ = some (.int .i64 n)) := by
      intro W hq; rw [hW0] at hq; exact (box_cells w k n o len cap _ W hq).2.1
    have HB : Hid (∀ W, Quiet0 W0 W → W.cell? ⟨w.heap.size, 2, none⟩ = some (.slice o len cap)) := by
      intro W hq; rw [hW0] at hq; exact (box_cells w k n o len cap _ W hq).2.2
    have HQ0 : Hid (Quiet0 w W0) := by rw [hW0]; exact Quiet0.alloc _ _
    change Code.wp _ _ _ _ (w.alloc (.cells #[.int .i64 k, .int .i64 n, .slice o len cap] 24))
    rw [← hW0]
    clear hW0
    generalize w.heap.size = nb at *
    go_loopw [1, 7] (fun s t wr => ∃ (i : Nat) (x : Int), t = .int .i64 i ∧ s = .int .i64 x ∧ i ≤ len ∧ -1 ≤ x ∧ x ≤ 100000 ∧ res = Fo.room D x (ps.drop i) ∧ Quiet0 W0 wr) (fun _ t _ => len - (intOf t).toNat)
    case atStart => exact ⟨0, m - 1, rfl, rfl, Nat.zero_le _, by omega, by omega, by rw [Fo.drop_zero]; exact HRES.out, Quiet0.refl _⟩
    case round =>
      obtain ⟨i, x, rfl, rfl, hi, hx0, hx1, hr, hq⟩ := hrel
      have HR := Lib.hid hr
      have HQ := Lib.hid hq
      have c2 := HB.out wr hq
      clear hr hq
      by_cases hlt : i < len
      · have hlt' : (i : Int) < len := by omega
        by_cases hx : 0 ≤ x
        · obtain ⟨b, off, k', n', qs, o', len', cap', rfl, hd, hg, e0, e1, e2, hs'⟩ := (HS.out.stay (HQ0.out.trans HQ.out)).nth hlt
          have HD := Lib.hid hd
          have HC := Lib.hid (IH.out i k' n' qs hg wr o' len' cap' D x ((d : Int) - 1) (by have := HDD.out; omega) hs' hx hx1 hD1)
          obtain ⟨y, hy⟩ : ∃ y, y = if D = 0 then -1 else Fo.room (D - 1) (x - 1) qs := ⟨_, rfl⟩
          have hyb : -1 ≤ y ∧ y ≤ 100000 := by
            rw [hy]; split
            · omega
            · by_cases h1 : 0 ≤ x - 1
              · have := Fo.room_le qs (D - 1) (x - 1) h1; omega
              · rw [Fo.room_neg _ _ _ (by omega)]; omega
          have HY : Hid (res = Fo.room D y (ps.drop (i + 1))) := by
            show _ = _
            rw [HR.out, hd, hy]
            cases D with
            | zero => conv => lhs; unfold Fo.room
                      rw [if_neg (by omega)]; rfl
            | succ E => conv => lhs; unfold Fo.room
                        rw [if_neg (by omega), if_neg (by omega)]; rfl
          rw [← hy] at HC
          unfold tyv at HC
          clear hd hg hs' hy
          go_wp2_with fail
          refine HC.out.mono ?_; rintro e w1 ⟨rfl, hq1⟩
          have HQ1 := Lib.hid (HQ.out.trans hq1)
          clear hq1
          go_wp2_with fail
          go_roundw
          case rel => exact ⟨i + 1, y, by go_num, rfl, by omega, hyb.1, hyb.2, HY.out, HQ1.out⟩
          case measure => simp [intOf]; omega
        · have hx' : x < 0 := by omega
          have HY : Hid (res = x) := by show _ = _; rw [HR.out]; exact Fo.room_neg _ _ _ hx'
          go_wp2_with fail
          go_ret
          exact ⟨by rw [HY.out]; rfl, HQ0.out.trans HQ.out⟩
      · have hlt' : ¬ (i : Int) < len := by omega
        have HY : Hid (res = x) := by
          show _ = _
          rw [HR.out, Fo.drop_end ps i (by have := HL.out; omega)]
          unfold Fo.room; rfl
        go_wp2_with fail
        go_ret
        exact ⟨by rw [HY.out]; rfl, HQ0.out.trans HQ.out⟩
/-- Great: is there more than is asked of? -/
def greatF (ps : Fo) : Bool := decide (Fo.room 39 299 ps < 0)
theorem great_size {ps : Fo} (h : greatF ps = false) : ps.size + 1 ≤ 300 := by
  unfold greatF at h
  have h0 : 0 ≤ Fo.room 39 299 ps := by simpa using h
  have := Fo.room_size ps 39 299 h0
  omega
set_option maxHeartbeats 1000000 in
theorem great_any (k n : Int) (ps : Fo) (w : World) (o : Option Addr) (len cap : Nat) (hs : Slc w o len ps) :
    Calls Tryd.prog 14 #[tyv k n o len cap] w fun e w' => e = .returned (.bool (greatF ps)) ∧ Quiet0 w w' := by
  have HC := Lib.hid (fun (W : World) (hq : Quiet0 w W) => room_any k n ps W o len cap 40 300 40 rfl (hs.stay hq) (by omega) (by omega) (by omega))
  unfold greatF
  rw [if_neg (by omega), show (40 : Nat) - 1 = 39 from rfl, show (300 : Int) - 1 = 299 from rfl] at HC
  generalize Fo.room 39 299 ps = r at *
  unfold tyv at *
  go_enter Tryd.func14, Tryd.ntmps14
  go_wp2_with fail
  refine (HC.out _ (Quiet0.alloc _ _)).mono ?_; rintro e w1 ⟨rfl, hq⟩
  go_wp2_with fail
  go_ret
  exact ⟨rfl, (Quiet0.alloc _ _).trans hq⟩
end Go.Proofs.YtggidhgifaekbaaDoor
/-
  The reference's Same and Right on types. Condition: the types lie in memory as told.
-/
namespace Go.Proofs.YtggidhgifaekbaaDoor
open Go.RowKit

def sameT (k n : Int) (ps : Fo) (k' n' : Int) (ps' : Fo) : Bool := (k == k') && (n == n') && ps.same ps'
theorem same_cons (k n : Int) (ps r : Fo) (k' n' : Int) (ps' r' : Fo) : (Fo.cons k n ps r).same (Fo.cons k' n' ps' r') = (sameT k n ps k' n' ps' && r.same r') := by simp [Fo.same, sameT]
/-- ref.Same -/
def RSame (k n : Int) (ps : Fo) : Prop := ∀ (k' n' : Int) (ps' : Fo) (w : World) (o : Option Addr) (len cap : Nat) (o' : Option Addr) (len' cap' : Nat), Slc w o len ps → Slc w o' len' ps' →
  Calls Tryd.prog 19 #[tyv k n o len cap, tyv k' n' o' len' cap'] w fun e w' => e = .returned (.bool (sameT k n ps k' n' ps')) ∧ Quiet0 w w'
theorem box_cells2 (w : World) (k n : Int) (o : Option Addr) (len cap : Nat) (k' n' : Int) (o' : Option Addr) (len' cap' : Nat) (t : TypeId) (W : World) (hW : Quiet0 ((w.alloc (.cells #[.int .i64 k, .int .i64 n, .slice o len cap] t)).alloc (.cells #[.int .i64 k', .int .i64 n', .slice o' len' cap'] t)) W) :
    (W.cell? ⟨w.heap.size, 0, none⟩ = some (.int .i64 k) ∧ W.cell? ⟨w.heap.size, 1, none⟩ = some (.int .i64 n) ∧ W.cell? ⟨w.heap.size, 2, none⟩ = some (.slice o len cap)) ∧
    (W.cell? ⟨w.heap.size + 1, 0, none⟩ = some (.int .i64 k') ∧ W.cell? ⟨w.heap.size + 1, 1, none⟩ = some (.int .i64 n') ∧ W.cell? ⟨w.heap.size + 1, 2, none⟩ = some (.slice o' len' cap')) := by
  refine ⟨box_cells w k n o len cap t W ((Quiet0.alloc _ _).trans hW), ?_⟩
  have h := box_cells (w.alloc (.cells #[.int .i64 k, .int .i64 n, .slice o len cap] t)) k' n' o' len' cap' t W hW
  have e : (w.alloc (.cells #[.int .i64 k, .int .i64 n, .slice o len cap] t)).heap.size = w.heap.size + 1 := by simp
  rw [e] at h
  exact h

set_option maxRecDepth 100000 in
set_option maxHeartbeats 2000000 in
theorem refSame_any (k n : Int) (ps : Fo) : RSame k n ps := by
  refine Fo.ind' (T := RSame) ?_ k n ps
  intro k n ps ih k' n' ps' w o len cap o' len' cap' hs hs'
  have HS := Lib.hid hs
  have HS' := Lib.hid hs'
  have IH := Lib.hid ih
  have HL := Lib.hid hs.1
  have HL' := Lib.hid hs'.1
  have hmx := hs.2.1
  unfold maxLen at hmx
  clear hs hs' ih
  obtain ⟨res, hres⟩ : ∃ res, res = sameT k n ps k' n' ps' := ⟨_, rfl⟩
  have HRES := Lib.hid hres
  rw [← hres]
  clear hres
  by_cases hk : k = k'
  · by_cases hn : n = n'
    · by_cases hlen : len = len'
      · have HR2 : Hid (res = ps.same ps') := by show _ = _; rw [HRES.out]; simp [sameT, hk, hn]
        subst hk hn hlen
        have b1 : (k != k) = false := by simp
        have b2 : (n != n) = false := by simp
        have b3 : ((len : Int) != (len : Int)) = false := by simp
        unfold tyv
        go_enter Tryd.func19, Tryd.ntmps19
        go_wp2_with fail
        obtain ⟨W0, hW0⟩ : ∃ W0, W0 = (w.alloc (.cells #[.int .i64 k, .int .i64 n, .slice o len cap] 24)).alloc (.cells #[.int .i64 k, .int .i64 n, .slice o' len cap'] 24) := ⟨_, rfl⟩
        have HBB : Hid (∀ W, Quiet0 W0 W → W.cell? ⟨w.heap.size, 2, none⟩ = some (.slice o len cap) ∧ W.cell? ⟨w.heap.size + 1, 2, none⟩ = some (.slice o' len cap')) := by
          intro W hq; rw [hW0] at hq
          have := box_cells2 w k n o len cap k n o' len cap' _ W hq
          exact ⟨this.1.2.2, this.2.2.2⟩
        have HQ0 : Hid (Quiet0 w W0) := by rw [hW0]; exact (Quiet0.alloc _ _).trans (Quiet0.alloc _ _)
        change Code.wp _ _ _ _ ((w.alloc (.cells #[.int .i64 k, .int .i64 n, .slice o len cap] 24)).alloc (.cells #[.int .i64 k, .int .i64 n, .slice o' len cap'] 24))
        rw [← hW0]
        clear hW0
        generalize w.heap.size = nb at *
        go_loopw [5] (fun t wr => ∃ (i : Nat), t = .int .i64 i ∧ i ≤ len ∧ res = (ps.drop i).same (ps'.drop i) ∧ Quiet0 W0 wr) (fun t _ => len - (intOf t).toNat)
        case atStart => exact ⟨0, rfl, Nat.zero_le _, by rw [Fo.drop_zero, Fo.drop_zero]; exact HR2.out, Quiet0.refl _⟩
        case round =>
          obtain ⟨i, rfl, hi, hr, hq⟩ := hrel
          have HR := Lib.hid hr
          have HQ := Lib.hid hq
          obtain ⟨c1, c2⟩ := HBB.out wr hq
          clear hr hq
          by_cases hlt : i < len
          · have hlt' : (i : Int) < len := by omega
            obtain ⟨b, off, k1, n1, qs1, o1, len1, cap1, rfl, hd1, hg1, e0, e1, e2, hs1⟩ := (HS.out.stay (HQ0.out.trans HQ.out)).nth hlt
            obtain ⟨b2, off2, k2, n2, qs2, o2, len2, cap2, rfl, hd2, hg2, f0, f1, f2, hs2⟩ := (HS'.out.stay (HQ0.out.trans HQ.out)).nth hlt
            have HC := Lib.hid (fun (W : World) (hq : Quiet0 wr W) => IH.out i k1 n1 qs1 hg1 k2 n2 qs2 W o1 len1 cap1 o2 len2 cap2 (hs1.stay hq) (hs2.stay hq))
            have HN : Hid (res = (sameT k1 n1 qs1 k2 n2 qs2 && (ps.drop (i + 1)).same (ps'.drop (i + 1)))) := by
              show _ = _
              rw [HR.out, hd1, hd2, same_cons]
            unfold tyv at HC
            clear hd1 hg1 hs1 hd2 hg2 hs2
            cases hb : sameT k1 n1 qs1 k2 n2 qs2
            all_goals
              have HBV := Lib.hid hb
              clear hb
              go_wp2_with fail
              refine wp_region_still_tail 10 (by kernel_rfl) (by kernel_rfl) ?_
              simp only [List.take_succ_cons, List.take_zero, List.drop_succ_cons, List.drop_zero]
              change wpStill _ _ (World.drew wr) _ _ _
              repeat still_step
              refine wpStill_nil ?_
              change wpList _ _ _ _ _ (World.drew wr)
              go_wp2_with fail
              refine (HC.out _ (Quiet0.drew _)).mono ?_; rintro e w1 ⟨rfl, hq1⟩
              rw [HBV.out]
              have HQ1 := Lib.hid ((HQ.out.trans (Quiet0.drew _)).trans hq1)
              clear hq1
              go_wp2_with fail
            · go_ret
              exact ⟨by rw [HN.out, HBV.out]; rfl, HQ0.out.trans HQ1.out⟩
            · go_roundw
              case rel => exact ⟨i + 1, by go_num, by omega, by rw [HN.out, HBV.out]; rfl, HQ1.out⟩
              case measure => simp [intOf]; omega
          · have hlt' : ¬ (i : Int) < len := by omega
            have HY : Hid (res = true) := by
              show _ = _
              rw [HR.out, Fo.drop_end ps i (by have := HL.out; omega), Fo.drop_end ps' i (by have := HL'.out; omega)]; rfl
            go_wp2_with fail
            go_ret
            exact ⟨by rw [HY.out]; rfl, HQ0.out.trans HQ.out⟩
      · have HF : Hid (res = false) := by
          show _ = _
          rw [HRES.out]
          have : ps.same ps' = false := by
            cases h : ps.same ps'
            · rfl
            · exact absurd (Fo.same_length _ _ h) (by have := HL.out; have := HL'.out; omega)
          simp [sameT, this]
        subst hk hn
        have b1 : (k != k) = false := by simp
        have b2 : (n != n) = false := by simp
        have b3 : ((len : Int) != (len' : Int)) = true := by simp; omega
        unfold tyv
        go_enter Tryd.func19, Tryd.ntmps19
        go_wp2_with fail
        go_ret
        exact ⟨by rw [HF.out]; rfl, (Quiet0.alloc _ _).trans (Quiet0.alloc _ _)⟩
    · have HF : Hid (res = false) := by show _ = _; rw [HRES.out]; simp [sameT, hn]
      subst hk
      have b1 : (k != k) = false := by simp
      have b2 : (n != n') = true := by simpa using hn
      clear hn
      unfold tyv
      go_enter Tryd.func19, Tryd.ntmps19
      go_wp2_with fail
      go_ret
      exact ⟨by rw [HF.out]; rfl, (Quiet0.alloc _ _).trans (Quiet0.alloc _ _)⟩
  · have HF : Hid (res = false) := by show _ = _; rw [HRES.out]; simp [sameT, hk]
    have b1 : (k != k') = true := by simpa using hk
    clear hk
    unfold tyv
    go_enter Tryd.func19, Tryd.ntmps19
    go_wp2_with fail
    go_ret
    exact ⟨by rw [HF.out]; rfl, (Quiet0.alloc _ _).trans (Quiet0.alloc _ _)⟩
end Go.Proofs.YtggidhgifaekbaaDoor
