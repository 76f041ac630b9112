/-
  Texts laid together (TyPlain, TePlain, EmPlain, Mem, Mem2, Quiet, Blk, TyMem, TyIn, TeMem): laws and walks, with their conditions.
-/
import Derived.WalkKit
import Derived.WalkSpells
import Derived.WalkLawsBesides
import Derived.Lib.Hide
import Derived.Deep.DeepCutAuto
import Derived.Deep.RegionHeld3
import Derived.Deep.AppendLies
import Derived.Test.YtcninopmelmajaaGreatDoorProg
set_option maxHeartbeats 8000000
set_option maxRecDepth 1000000
namespace Go.Proofs.YtcninopmelmajaaGreatDoor
section
inductive Fo where
 | nil : Fo
 | cons (k n : Int) (ps : Fo) (rest : Fo) : Fo
def inB (l : List Int) (v : Int) : Bool := l.contains v
theorem inB_cons (a : Int) (l : List Int) (v : Int) : inB (a :: l) v = (v == a || inB l v) := by unfold inB; rw [List.contains_cons]
namespace Fo
def length : Fo -> Nat
 | nil => 0
 | cons _ _ _ r => r.length + 1
def drop : Fo -> Nat -> Fo
 | f, 0 => f
 | nil, _ + 1 => nil
 | cons _ _ _ r, i + 1 => r.drop i
def get : Fo -> Nat -> Option (Int × Int × Fo)
 | nil, _ => none
 | cons k n ps _, 0 => some (k, n, ps)
 | cons _ _ _ r, i + 1 => r.get i
def app : Fo -> Fo -> Fo
 | nil, g => g
 | cons k n ps r, g => cons k n ps (r.app g)
def size : Fo -> Nat
 | nil => 0
 | cons _ _ ps r => ps.size + 1 + r.size
def depth : Fo -> Nat
 | nil => 0
 | cons _ _ ps r => max (ps.depth + 1) r.depth
def same : Fo -> Fo -> Bool
 | nil, nil => true
 | cons k n ps r, cons k' n' ps' r' => (k == k') && (n == n') && ps.same ps' && r.same r'
 | _, _ => false
def vars : List Int -> Fo -> List Int
 | l, nil => l
 | l, cons k n ps r => vars (vars (if k == 1 && !inB l n then l ++ [n] else l) ps) r
def plain (k n : Int) (m : Nat) : Bool :=
 if k == 1 then decide (0 <= n) && decide (n < 1073741824) && decide (m = 0)
 else if k == 2 || k == 3 then n == 0 && decide (m = 0)
 else if k == 4 then n == 0 && decide (m = 2)
 else if k == 5 then n == 0 && decide (2 <= m) && decide (m <= 8)
 else false
def right : Fo -> Bool
 | nil => true
 | cons k n ps r => plain k n ps.length && ps.right && r.right
def change (p : Int -> Int) : Fo -> Fo
 | nil => nil
 | cons k n ps r => cons k (if k == 1 then p n else n) (ps.change p) (r.change p)
theorem drop_zero (f : Fo) : f.drop 0 = f := by cases f <;> rfl
theorem drop_get : ∀ (f : Fo) (i : Nat), i < f.length -> ∃ k n ps, f.drop i = cons k n ps (f.drop (i + 1)) /\ f.get i = some (k, n, ps)
 | nil, i, h => by simp [length] at h
 | cons k n ps r, 0, _ => ⟨k, n, ps, by simp [drop, drop_zero], rfl⟩
 | cons k n ps r, i + 1, h => by
  obtain ⟨k', n', ps', h1, h2⟩ := drop_get r i (by simp [length] at h; omega)
  exact ⟨k', n', ps', by simp only [drop]; rw [h1], h2⟩
theorem drop_end : ∀ (f : Fo) (i : Nat), f.length <= i -> f.drop i = nil
 | nil, 0, _ => rfl
 | nil, i + 1, _ => rfl
 | cons k n ps r, 0, h => by simp [length] at h
 | cons k n ps r, i + 1, h => drop_end r i (by simp [length] at h; omega)
theorem get_lt : ∀ (f : Fo) (i : Nat) (t : Int × Int × Fo), f.get i = some t -> i < f.length
 | nil, i, t, h => by simp [get] at h
 | cons k n ps r, 0, t, _ => by simp [length]
 | cons k n ps r, i + 1, t, h => by have := get_lt r i t h; simp [length]; omega
theorem length_le : ∀ f : Fo, f.length <= f.size
 | nil => Nat.le_refl _
 | cons k n ps r => by have := length_le r; simp only [length, size]; omega
theorem size_drop : ∀ (f : Fo) (i : Nat), (f.drop i).size <= f.size
 | f, 0 => by rw [drop_zero]; exact Nat.le_refl _
 | nil, i + 1 => Nat.le_refl _
 | cons k n ps r, i + 1 => by have := size_drop r i; simp only [drop, size]; omega
theorem size_get (f : Fo) (i : Nat) (k n : Int) (ps : Fo) (h : f.get i = some (k, n, ps)) : ps.size + 1 <= f.size := by
 obtain ⟨k', n', ps', h1, h2⟩ := drop_get f i (get_lt _ _ _ h)
 rw [h] at h2
 cases h2
 have := size_drop f i
 rw [h1] at this
 simp only [size] at this
 omega
theorem same_refl : ∀ f : Fo, f.same f = true
 | nil => rfl
 | cons k n ps r => by simp [same, same_refl ps, same_refl r]
theorem same_eq : ∀ f g : Fo, f.same g = true -> f = g
 | nil, nil, _ => rfl
 | nil, cons _ _ _ _, h => by simp [same] at h
 | cons _ _ _ _, nil, h => by simp [same] at h
 | cons k n ps r, cons k' n' ps' r', h => by
  simp [same] at h
  obtain ⟨⟨⟨rfl, rfl⟩, h3⟩, h4⟩ := h
  rw [same_eq ps ps' h3, same_eq r r' h4]
theorem same_length : ∀ f g : Fo, f.same g = true -> f.length = g.length := fun f g h => by rw [same_eq f g h]
theorem change_size (p : Int -> Int) : ∀ f : Fo, (f.change p).size = f.size
 | nil => rfl
 | cons k n ps r => by simp [change, size, change_size p r, change_size p ps]
theorem change_id : ∀ f : Fo, f.change (fun n => n) = f
 | nil => rfl
 | cons k n ps r => by simp [change, change_id r, change_id ps]
theorem app_nil : ∀ f : Fo, f.app nil = f
 | nil => rfl
 | cons k n ps r => by simp [app, app_nil r]
theorem app_assoc : ∀ f g h : Fo, (f.app g).app h = f.app (g.app h)
 | nil, _, _ => rfl
 | cons k n ps r, g, h => by simp [app, app_assoc r g h]
theorem app_length : ∀ f g : Fo, (f.app g).length = f.length + g.length
 | nil, g => by simp [app, length]
 | cons k n ps r, g => by simp [app, length, app_length r g]; omega
theorem ind {T : Int -> Int -> Fo -> Prop} (step : ∀ k n ps, (∀ i k' n' qs, ps.get i = some (k', n', qs) -> T k' n' qs) -> T k n ps) : ∀ (f : Fo) (i : Nat) (k n : Int) (ps : Fo), f.get i = some (k, n, ps) -> T k n ps
 | nil, i, k, n, ps, h => by simp [get] at h
 | cons k n ps r, 0, k', n', qs, h => by
  simp [get] at h
  obtain ⟨rfl, rfl, rfl⟩ := h
  exact step k n ps (ind step ps)
 | cons k n ps r, i + 1, k', n', qs, h => ind step r i k' n' qs h
theorem ind' {T : Int -> Int -> Fo -> Prop} (step : ∀ k n ps, (∀ i k' n' qs, ps.get i = some (k', n', qs) -> T k' n' qs) -> T k n ps) (k n : Int) (ps : Fo) : T k n ps :=
 step k n ps (fun i k' n' qs h => ind step ps i k' n' qs h)
def room : Nat -> Int -> Fo -> Int
 | _, m, nil => m
 | d, m, cons _ _ ps r => if m < 0 then m else
     match d with
     | 0 => room 0 (-1) r
     | d + 1 => room (d + 1) (room d (m - 1) ps) r
theorem room_neg : ∀ (f : Fo) (d : Nat) (m : Int), m < 0 -> room d m f = m
 | nil, _, _, _ => by unfold room; rfl
 | cons k n ps r, d, m, h => by unfold room; rw [if_pos h]
theorem room_le : ∀ (f : Fo) (d : Nat) (m : Int), 0 <= m -> room d m f <= m /\ -1 <= room d m f
 | nil, _, _, _ => by unfold room; omega
 | cons k n ps r, d, m, h => by
  unfold room
  rw [if_neg (by omega)]
  cases d with
  | zero => simp only; rw [room_neg r 0 (-1) (by omega)]; omega
  | succ d =>
   simp only
   by_cases hm : 0 <= m - 1
   ·have h1 := room_le ps d (m - 1) hm
    by_cases h0 : 0 <= room d (m - 1) ps
    ·have h2 := room_le r (d + 1) _ h0; omega
    ·rw [room_neg r _ _ (by omega)]; omega
   ·rw [room_neg ps _ _ (by omega), room_neg r _ _ (by omega)]; omega
theorem room_size : ∀ (f : Fo) (d : Nat) (m : Int), 0 <= room d m f -> room d m f = m - f.size /\ 0 <= m
 | nil, _, m, h => by unfold room at h ⊢; simp [size]; exact h
 | cons k n ps r, d, m, h => by
  unfold room at h ⊢
  by_cases hm : m < 0
  ·rw [if_pos hm] at h; omega
  ·rw [if_neg hm] at h ⊢
   cases d with
   | zero => simp only at h; rw [room_neg r 0 (-1) (by omega)] at h; omega
   | succ d =>
    simp only at h ⊢
    obtain ⟨h1, h2⟩ := room_size r (d + 1) _ h
    obtain ⟨h3, h4⟩ := room_size ps d (m - 1) h2
    rw [h1, h3]
    simp only [size]; omega
end Fo
def allF (G : Int -> Prop) : Fo -> Prop
 | .nil => True
 | .cons _ n ps r => G n /\ allF G ps /\ allF G r
theorem allF_get {G : Int -> Prop} : ∀ (f : Fo) (i : Nat) (k n : Int) (ps : Fo), allF G f -> f.get i = some (k, n, ps) -> G n /\ allF G ps
 | .nil, i, k, n, ps, _, h => by simp [Fo.get] at h
 | .cons k n ps r, 0, k', n', ps', hw, h => by
  simp [Fo.get] at h
  obtain ⟨rfl, rfl, rfl⟩ := h
  exact ⟨hw.1, hw.2.1⟩
 | .cons k n ps r, i + 1, k', n', ps', hw, h => allF_get r i k' n' ps' hw.2.2 h
theorem allF_true {G : Int -> Prop} (h : ∀ n, G n) : ∀ f : Fo, allF G f
 | .nil => trivial
 | .cons _ n ps r => ⟨h n, allF_true h ps, allF_true h r⟩
end
section
structure Nd where
 k : Int
 nm : ByteArray
 n : Int
 tk : Int
 tn : Int
 tp : Fo
 fr : Int
 en : Int
inductive To where
 | nil : To
 | cons (h : Nd) (ps : To) (rest : To)
namespace To
def length : To -> Nat
 | nil => 0
 | cons _ _ r => r.length + 1
def drop : To -> Nat -> To
 | f, 0 => f
 | nil, _ + 1 => nil
 | cons _ _ r, i + 1 => r.drop i
def get : To -> Nat -> Option (Nd × To)
 | nil, _ => none
 | cons h ps _, 0 => some (h, ps)
 | cons _ _ r, i + 1 => r.get i
def app : To -> To -> To
 | nil, g => g
 | cons h ps r, g => cons h ps (r.app g)
def size : To -> Nat
 | nil => 0
 | cons _ ps r => ps.size + 1 + r.size
def depth : To -> Nat
 | nil => 0
 | cons _ ps r => max (ps.depth + 1) r.depth
def flat : To -> List (Nd × To)
 | nil => []
 | cons h ps r => (h, ps) :: (ps.flat ++ r.flat)
theorem drop_zero (f : To) : f.drop 0 = f := by cases f <;> rfl
theorem drop_get : ∀ (f : To) (i : Nat), i < f.length -> ∃ h ps, f.drop i = cons h ps (f.drop (i + 1)) /\ f.get i = some (h, ps)
 | nil, i, h => by simp [length] at h
 | cons h ps r, 0, _ => ⟨h, ps, by simp [drop, drop_zero], rfl⟩
 | cons h ps r, i + 1, hi => by
  obtain ⟨h', ps', h1, h2⟩ := drop_get r i (by simp [length] at hi; omega)
  exact ⟨h', ps', by simp only [drop]; rw [h1], h2⟩
theorem drop_end : ∀ (f : To) (i : Nat), f.length <= i -> f.drop i = nil
 | nil, 0, _ => rfl
 | nil, i + 1, _ => rfl
 | cons h ps r, 0, hi => by simp [length] at hi
 | cons h ps r, i + 1, hi => drop_end r i (by simp [length] at hi; omega)
theorem get_lt : ∀ (f : To) (i : Nat) (t : Nd × To), f.get i = some t -> i < f.length
 | nil, i, t, h => by simp [get] at h
 | cons h ps r, 0, t, _ => by simp [length]
 | cons h ps r, i + 1, t, hi => by have := get_lt r i t hi; simp [length]; omega
theorem length_le : ∀ f : To, f.length <= f.size
 | nil => Nat.le_refl _
 | cons h ps r => by have := length_le r; simp only [length, size]; omega
theorem size_drop : ∀ (f : To) (i : Nat), (f.drop i).size <= f.size
 | f, 0 => by rw [drop_zero]; exact Nat.le_refl _
 | nil, i + 1 => Nat.le_refl _
 | cons h ps r, i + 1 => by have := size_drop r i; simp only [drop, size]; omega
theorem size_get (f : To) (i : Nat) (h : Nd) (ps : To) (hg : f.get i = some (h, ps)) : ps.size + 1 <= f.size := by
 obtain ⟨h', ps', h1, h2⟩ := drop_get f i (get_lt _ _ _ hg)
 rw [hg] at h2
 cases h2
 have := size_drop f i
 rw [h1] at this
 simp only [size] at this
 omega
theorem app_nil : ∀ f : To, f.app nil = f
 | nil => rfl
 | cons h ps r => by simp [app, app_nil r]
theorem app_assoc : ∀ f g h : To, (f.app g).app h = f.app (g.app h)
 | nil, _, _ => rfl
 | cons k ps r, g, h => by simp [app, app_assoc r g h]
theorem app_length : ∀ f g : To, (f.app g).length = f.length + g.length
 | nil, g => by simp [app, length]
 | cons h ps r, g => by simp [app, length, app_length r g]; omega
theorem flat_length : ∀ f : To, f.flat.length = f.size
 | nil => rfl
 | cons h ps r => by simp [flat, size, flat_length r, flat_length ps]; omega
theorem ind {T : Nd -> To -> Prop} (step : ∀ h ps, (∀ i h' qs, ps.get i = some (h', qs) -> T h' qs) -> T h ps) : ∀ (f : To) (i : Nat) (h : Nd) (ps : To), f.get i = some (h, ps) -> T h ps
 | nil, i, h, ps, e => by simp [get] at e
 | cons h ps r, 0, h', qs, e => by
  simp [get] at e
  obtain ⟨rfl, rfl⟩ := e
  exact step h ps (ind step ps)
 | cons h ps r, i + 1, h', qs, e => ind step r i h' qs e
theorem ind' {T : Nd -> To -> Prop} (step : ∀ h ps, (∀ i h' qs, ps.get i = some (h', qs) -> T h' qs) -> T h ps) (h : Nd) (ps : To) : T h ps :=
 step h ps (fun i h' qs e => ind step ps i h' qs e)
end To
def allT (G : Nd -> Prop) : To -> Prop
 | .nil => True
 | .cons h ps r => G h /\ allT G ps /\ allT G r
theorem allT_get {G : Nd -> Prop} : ∀ (f : To) (i : Nat) (h : Nd) (ps : To), allT G f -> f.get i = some (h, ps) -> G h /\ allT G ps
 | .nil, i, h, ps, _, e => by simp [To.get] at e
 | .cons h ps r, 0, h', ps', hw, e => by
  simp [To.get] at e
  obtain ⟨rfl, rfl⟩ := e
  exact ⟨hw.1, hw.2.1⟩
 | .cons h ps r, i + 1, h', ps', hw, e => allT_get r i h' ps' hw.2.2 e
theorem allT_mono {G H : Nd -> Prop} (hh : ∀ h, G h -> H h) : ∀ f : To, allT G f -> allT H f
 | .nil, _ => trivial
 | .cons h ps r, e => ⟨hh h e.1, allT_mono hh ps e.2.1, allT_mono hh r e.2.2⟩
theorem allT_flat {G : Nd -> Prop} : ∀ (f : To), allT G f -> ∀ t ∈ f.flat, G t.1 /\ allT G t.2
 | .nil, _, t, h => by simp [To.flat] at h
 | .cons h ps r, e, t, ht => by
  simp [To.flat] at ht
  rcases ht with rfl | ht | ht
  ·exact ⟨e.1, e.2.1⟩
  ·exact allT_flat ps e.2.1 t ht
  ·exact allT_flat r e.2.2 t ht
end
section
namespace Em
abbrev Ty := Int × Int × Fo
abbrev Eqn := Ty × Ty × Int × Int
structure Mk where
 eqs : List Eqn
 next : Nat
 many : Bool
abbrev Pm (α : Type) := Mk -> α × Mk
def bd {α β : Type} (f : Pm α) (g : α -> Pm β) : Pm β := fun m => g (f m).1 (f m).2
def pu {α : Type} (a : α) : Pm α := fun m => (a, m)
def getP : Pm Mk := fun m => (m, m)
def tv (n : Nat) : Ty := (1, (n : Int), .nil)
def takeP : Pm Ty := fun m => (tv m.next, { m with next := m.next + 1 })
def bumpP (d : Nat) : Pm Unit := fun m => ((), { m with next := m.next + d })
def eqP (most : Int) (l r : Ty) (fr en : Int) : Pm Unit := fun m => ((), if most <= m.eqs.length then { m with many := true } else { m with eqs := m.eqs ++ [(l, r, fr, en)] })
def ifMany {α : Type} (x : α) (f : Pm α) : Pm α := fun m => if m.many then (x, m) else f m
def arrT (a b : Ty) : Ty := (4, 0, .cons a.1 a.2.1 a.2.2 (.cons b.1 b.2.1 b.2.2 .nil))
def foOf : List Ty -> Fo
 | [] => .nil
 | t :: r => .cons t.1 t.2.1 t.2.2 (foOf r)
def shN (fr tt by_ : Nat) (n : Int) : Int := if (fr : Int) <= n /\ n < tt then n + by_ else n
def shT (fr tt by_ : Nat) (t : Ty) : Ty := (t.1, if t.1 == 1 then shN fr tt by_ t.2.1 else t.2.1, t.2.2.change (shN fr tt by_))
abbrev Env := List (ByteArray × Pm Ty)
def keptP (most : Int) (sh : Ty -> Ty) : List Eqn -> Pm Unit
 | [] => pu ()
 | e :: r => ifMany () (bd (eqP most (sh e.1) (sh e.2.1) e.2.2.1 e.2.2.2) fun _ => keptP most sh r)
def copied (most : Int) (kept : List Eqn) (v : Ty) (fr tt : Nat) : Pm Ty := bd getP fun a => bd (bumpP (tt - fr)) fun _ => bd (keptP most (shT fr tt (a.next - fr)) kept) fun _ => pu (shT fr tt (a.next - fr) v)
def lookE : Env -> ByteArray -> Pm Ty
 | [], _ => pu (tv 0)
 | x :: r, s => if x.1 = s then x.2 else lookE r s
def mapE (e : Env) : List (Env -> Pm Ty) -> Pm (List Ty)
 | [] => pu []
 | v :: r => bd (v e) fun t => bd (mapE e r) fun l => pu (t :: l)
abbrev vat (vs : List (Env -> Pm Ty)) (i : Nat) (e : Env) : Pm Ty := vs.getD i (fun _ => pu (tv 0)) e
abbrev tat (l : List Ty) (i : Nat) : Ty := l.getD i (0, 0, .nil)
def spanAt (ps : To) (i : Nat) : Int × Int := match ps.get i with
 | some (h, _) => (h.fr, h.en)
 | none => (0, 0)
def letP (most : Int) (_ : Nd) (first : Pm Ty) (second : Pm Ty -> Pm Ty) : Pm Ty :=
 bd getP fun a => bd first fun v => bd getP fun b => second (copied most (b.eqs.drop a.eqs.length) v a.next b.next)
def oneM (most : Int) (h : Nd) (ps : To) (vs : List (Env -> Pm Ty)) (e : Env) : Pm Ty := bd takeP fun own => ifMany own (
 if h.k = 2 then bd (eqP most own (2, 0, .nil) h.fr h.en) fun _ => pu own
 else if h.k = 3 then bd (eqP most own (3, 0, .nil) h.fr h.en) fun _ => pu own
 else if h.k = 1 then bd (lookE e h.nm) fun t => bd (eqP most own t h.fr h.en) fun _ => pu own
 else if h.k = 4 then bd takeP fun b => bd (vat vs 0 ((h.nm, pu b) :: e)) fun t => bd (eqP most own (arrT b t) h.fr h.en) fun _ => pu own
 else if h.k = 6 then bd (letP most h (vat vs 0 e) fun c => vat vs 1 ((h.nm, c) :: e)) fun t => bd (eqP most own t h.fr h.en) fun _ => pu own
 else if h.k = 7 then bd (letP most h (bd takeP fun v => bd (vat vs 0 ((h.nm, pu v) :: e)) fun t => bd (eqP most v t h.fr h.en) fun _ => pu v) fun c => vat vs 1 ((h.nm, c) :: e)) fun t => bd (eqP most own t h.fr h.en) fun _ => pu own
 else bd (mapE e vs) fun p =>
  if h.k = 5 then bd (eqP most (tat p 0) (arrT (tat p 1) own) h.fr h.en) fun _ => pu own
  else if h.k = 8 then bd (eqP most (tat p 0) (3, 0, .nil) (spanAt ps 0).1 (spanAt ps 0).2) fun _ => bd (eqP most own (tat p 1) (spanAt ps 1).1 (spanAt ps 1).2) fun _ => bd (eqP most own (tat p 2) (spanAt ps 2).1 (spanAt ps 2).2) fun _ => pu own
  else if h.k = 9 then bd (eqP most own (5, 0, foOf p) h.fr h.en) fun _ => pu own
  else if h.k = 10 then bd (eqP most (tat p 0) (h.tk, h.tn, h.tp) (spanAt ps 0).1 (spanAt ps 0).2) fun _ => bd (eqP most own (h.tk, h.tn, h.tp) h.fr h.en) fun _ => pu own
  else pu own)
def valsM (most : Int) : To -> List (Env -> Pm Ty)
 | .nil => []
 | .cons h ps r => oneM most h ps (valsM most ps) :: valsM most r
def termM (most : Int) (h : Nd) (ps : To) (e : Env) : Pm Ty := oneM most h ps (valsM most ps) e
theorem valsM_get (most : Int) : ∀ (f : To) (i : Nat) (h : Nd) (qs : To), f.get i = some (h, qs) -> (valsM most f)[i]? = some (termM most h qs)
 | .nil, i, h, qs, e => by simp [To.get] at e
 | .cons h' ps r, 0, h, qs, e => by
  simp [To.get] at e
  obtain ⟨rfl, rfl⟩ := e
  rfl
 | .cons h' ps r, i + 1, h, qs, e => by
  show (valsM most r)[i]? = _
  exact valsM_get most r i h qs e
theorem valsM_length (most : Int) : ∀ f : To, (valsM most f).length = f.length
 | .nil => rfl
 | .cons _ _ r => by simp only [valsM, List.length_cons, To.length]; rw [valsM_length most r]
structure Step {α : Type} (N : Nat) (f g : Pm α) : Prop where
 up : ∀ m, m.eqs.length <= (f m).2.eqs.length /\ (m.many = true -> (f m).2.many = true)
 up' : ∀ m, m.many = true -> (g m).2.many = true
 lock : ∀ m, m.many = false -> m.eqs.length <= N -> ((f m).2.many = false /\ (f m).2.eqs.length <= N /\ g m = f m) ∨ ((g m).2.many = true /\ ((f m).2.many = true ∨ N < (f m).2.eqs.length))
theorem Step.pu {α : Type} (N : Nat) (a : α) : Step N (pu a) (pu a) := ⟨fun _ => ⟨Nat.le_refl _, id⟩, fun _ h => h, fun _ h1 h2 => .inl ⟨h1, h2, rfl⟩⟩
theorem Step.getP (N : Nat) : Step N getP getP := ⟨fun _ => ⟨Nat.le_refl _, id⟩, fun _ h => h, fun _ h1 h2 => .inl ⟨h1, h2, rfl⟩⟩
theorem Step.takeP (N : Nat) : Step N takeP takeP := ⟨fun _ => ⟨Nat.le_refl _, id⟩, fun _ h => h, fun _ h1 h2 => .inl ⟨h1, h2, rfl⟩⟩
theorem Step.bumpP (N d : Nat) : Step N (bumpP d) (bumpP d) := ⟨fun _ => ⟨Nat.le_refl _, id⟩, fun _ h => h, fun _ h1 h2 => .inl ⟨h1, h2, rfl⟩⟩
theorem Step.bd {α β : Type} {N : Nat} {f f' : Pm α} {g g' : α -> Pm β} (h : Step N f f') (k : ∀ a, Step N (g a) (g' a)) : Step N (bd f g) (bd f' g') := by
 refine ⟨fun m => ?_, fun m hm => ?_, fun m hm hn => ?_⟩
 ·have h1 := h.up m
  have h2 := (k (f m).1).up (f m).2
  exact ⟨Nat.le_trans h1.1 h2.1, fun e => h2.2 (h1.2 e)⟩
 ·exact (k (f' m).1).up' _ (h.up' m hm)
 ·rcases h.lock m hm hn with ⟨h1, h2, h3⟩ | ⟨h1, h2⟩
  ·have h4 := (k (f m).1).lock (f m).2 h1 h2
   unfold Em.bd
   rw [h3]
   exact h4
  ·refine .inr ⟨(k (f' m).1).up' _ h1, ?_⟩
   have h4 := (k (f m).1).up (f m).2
   rcases h2 with h2 | h2
   ·exact .inl (h4.2 h2)
   ·exact .inr (Nat.lt_of_lt_of_le h2 h4.1)
theorem Step.ifMany {α : Type} {N : Nat} (x : α) {f f' : Pm α} (h : Step N f f') : Step N (ifMany x f) (ifMany x f') := by
 refine ⟨fun m => ?_, fun m hm => ?_, fun m hm hn => ?_⟩
 ·unfold Em.ifMany
  cases hm : m.many
  ·simp only [Bool.false_eq_true, if_false]; exact ⟨(h.up m).1, fun e => absurd e (by simp)⟩
  ·simp only [if_true]; exact ⟨Nat.le_refl _, fun _ => hm⟩
 ·unfold Em.ifMany; rw [hm]; exact hm
 ·unfold Em.ifMany; rw [hm]; simp only [Bool.false_eq_true, if_false]; exact h.lock m hm hn
theorem Step.ite {α : Type} {N : Nat} {c : Prop} [Decidable c] {f f' g g' : Pm α} (h1 : Step N f f') (h2 : Step N g g') : Step N (if c then f else g) (if c then f' else g') := by
 by_cases hc : c
 ·rw [if_pos hc, if_pos hc]; exact h1
 ·rw [if_neg hc, if_neg hc]; exact h2
theorem Step.eqP {M N : Int} {n : Nat} (hN : N = n) (hM : N <= M) (l r : Ty) (fr en : Int) : Step n (eqP M l r fr en) (eqP N l r fr en) := by
 subst hN
 refine ⟨fun m => ?_, fun m hm => ?_, fun m hm hn => ?_⟩
 ·unfold Em.eqP; dsimp only; split
  ·exact ⟨Nat.le_refl _, fun _ => rfl⟩
  ·exact ⟨by simp, id⟩
 ·unfold Em.eqP; dsimp only; split
  ·rfl
  ·exact hm
 ·unfold Em.eqP; dsimp only
  by_cases h1 : (n : Int) <= m.eqs.length
  ·refine .inr ⟨by rw [if_pos h1], ?_⟩
   split
   ·exact .inl rfl
   ·refine .inr ?_
    simp; omega
  ·rw [if_neg h1, if_neg (by omega)]
   exact .inl ⟨hm, by simp; omega, rfl⟩
inductive EnvS (N : Nat) : Env -> Env -> Prop
 | nil : EnvS N [] []
 | cons {s : ByteArray} {f g : Pm Ty} {e e' : Env} : Step N f g -> EnvS N e e' -> EnvS N ((s, f) :: e) ((s, g) :: e')
theorem EnvS.look {N : Nat} {e e' : Env} (h : EnvS N e e') (s : ByteArray) : Step N (lookE e s) (lookE e' s) := by
 induction h with
 | nil => exact Step.pu N _
 | cons h1 _ ih =>
  unfold lookE
  split
  ·exact h1
  ·exact ih
def VS (N : Nat) (v v' : Env -> Pm Ty) : Prop := ∀ e e', EnvS N e e' -> Step N (v e) (v' e')
inductive VsS (N : Nat) : List (Env -> Pm Ty) -> List (Env -> Pm Ty) -> Prop
 | nil : VsS N [] []
 | cons {v v' : Env -> Pm Ty} {l l' : List (Env -> Pm Ty)} : VS N v v' -> VsS N l l' -> VsS N (v :: l) (v' :: l')
theorem VsS.at {N : Nat} {l l' : List (Env -> Pm Ty)} (h : VsS N l l') : ∀ (i : Nat) {e e' : Env}, EnvS N e e' -> Step N (vat l i e) (vat l' i e') := by
 induction h with
 | nil => intro i e e' _; exact Step.pu N _
 | cons h1 _ ih =>
  intro i e e' he
  cases i with
  | zero => exact h1 _ _ he
  | succ i => exact ih i he
theorem VsS.map {N : Nat} {e e' : Env} (he : EnvS N e e') {l l' : List (Env -> Pm Ty)} (h : VsS N l l') : Step N (mapE e l) (mapE e' l') := by
 induction h with
 | nil => exact Step.pu N _
 | cons h1 _ ih => exact Step.bd (h1 _ _ he) fun t => Step.bd ih fun l => Step.pu N _
section
variable {M N : Int} {n : Nat}
theorem keptP_step (hN : N = n) (hM : N <= M) (sh : Ty -> Ty) : ∀ l : List Eqn, Step n (keptP M sh l) (keptP N sh l)
 | [] => Step.pu n _
 | _ :: r => Step.ifMany _ (Step.bd (Step.eqP hN hM _ _ _ _) fun _ => keptP_step hN hM sh r)
theorem copied_step (hN : N = n) (hM : N <= M) (kept : List Eqn) (v : Ty) (fr tt : Nat) : Step n (copied M kept v fr tt) (copied N kept v fr tt) :=
 Step.bd (Step.getP n) fun _ => Step.bd (Step.bumpP n _) fun _ => Step.bd (keptP_step hN hM _ kept) fun _ => Step.pu n _
theorem letP_step (hN : N = n) (hM : N <= M) (h : Nd) {f f' : Pm Ty} {g g' : Pm Ty -> Pm Ty} (hf : Step n f f') (hg : ∀ c c', Step n c c' -> Step n (g c) (g' c')) : Step n (letP M h f g) (letP N h f' g') :=
 Step.bd (Step.getP n) fun _ => Step.bd hf fun _ => Step.bd (Step.getP n) fun _ => hg _ _ (copied_step hN hM _ _ _ _)
theorem oneM_step (hN : N = n) (hM : N <= M) (h : Nd) (ps : To) {vs vs' : List (Env -> Pm Ty)} (hv : VsS n vs vs') : VS n (oneM M h ps vs) (oneM N h ps vs') := by
 intro e e' he
 have q : ∀ (l r : Ty) (fr en : Int), Step n (eqP M l r fr en) (eqP N l r fr en) := Step.eqP hN hM
 unfold oneM
 refine Step.bd (Step.takeP n) fun own => Step.ifMany _ ?_
 have fin : ∀ (l r : Ty) (fr en : Int), Step n (bd (eqP M l r fr en) fun _ => pu own) (bd (eqP N l r fr en) fun _ => pu own) := fun l r fr en => Step.bd (q _ _ _ _) fun _ => Step.pu n _
 refine Step.ite (fin _ _ _ _) (Step.ite (fin _ _ _ _) (Step.ite (Step.bd (he.look _) fun t => fin _ _ _ _) (Step.ite ?_ (Step.ite ?_ (Step.ite ?_ ?_)))))
 ·exact Step.bd (Step.takeP n) fun b => Step.bd (hv.at 0 (.cons (Step.pu n b) he)) fun t => fin _ _ _ _
 ·exact Step.bd (letP_step hN hM h (hv.at 0 he) fun c c' hc => hv.at 1 (.cons hc he)) fun t => fin _ _ _ _
 ·exact Step.bd (letP_step hN hM h (Step.bd (Step.takeP n) fun v => Step.bd (hv.at 0 (.cons (Step.pu n v) he)) fun t => Step.bd (q _ _ _ _) fun _ => Step.pu n _) fun c c' hc => hv.at 1 (.cons hc he)) fun t => fin _ _ _ _
 refine Step.bd (VsS.map he hv) fun p => ?_
 exact Step.ite (fin _ _ _ _) (Step.ite (Step.bd (q _ _ _ _) fun _ => Step.bd (q _ _ _ _) fun _ => fin _ _ _ _) (Step.ite (fin _ _ _ _) (Step.ite (Step.bd (q _ _ _ _) fun _ => fin _ _ _ _) (Step.pu n _))))
theorem valsM_step (hN : N = n) (hM : N <= M) : ∀ f : To, VsS n (valsM M f) (valsM N f)
 | .nil => .nil
 | .cons h ps r => .cons (oneM_step hN hM h ps (valsM_step hN hM ps)) (valsM_step hN hM r)
theorem termM_step (hN : N = n) (hM : N <= M) (h : Nd) (ps : To) : Step n (termM M h ps []) (termM N h ps []) := oneM_step hN hM h ps (valsM_step hN hM ps) [] [] .nil
end
end Em
end
section
open Go.RowKit
structure Fr (S : Nat -> Prop) (w w' : World) : Prop where
 os : w'.os = w.os
 tape : w'.tape = w.tape
 output : w'.output = w.output
 size : w.heap.size <= w'.heap.size
 block : ∀ k, k < w.heap.size -> ¬ S k -> w'.heap[k]? = w.heap[k]?
theorem Fr.refl (S : Nat -> Prop) (w : World) : Fr S w w := ⟨rfl, rfl, rfl, Nat.le_refl _, fun _ _ _ => rfl⟩
theorem Fr.trans {S : Nat -> Prop} {a b c : World} (h : Fr S a b) (k : Fr S b c) : Fr S a c :=
 ⟨k.os.trans h.os, k.tape.trans h.tape, k.output.trans h.output, Nat.le_trans h.size k.size,
  fun i hi hs => (k.block i (Nat.lt_of_lt_of_le hi h.size) hs).trans (h.block i hi hs)⟩
theorem Fr.trans' {S T : Nat -> Prop} {a b c : World} (h : Fr S a b) (k : Fr T b c) (hT : ∀ i, i < a.heap.size -> T i -> S i) : Fr S a c :=
 ⟨k.os.trans h.os, k.tape.trans h.tape, k.output.trans h.output, Nat.le_trans h.size k.size,
  fun i hi hs => (k.block i (Nat.lt_of_lt_of_le hi h.size) (fun ht => hs (hT i hi ht))).trans (h.block i hi hs)⟩
theorem Fr.mono {S T : Nat -> Prop} {w w' : World} (h : Fr S w w') (hT : ∀ k, k < w.heap.size -> S k -> T k) : Fr T w w' :=
 ⟨h.os, h.tape, h.output, h.size, fun k hk hs => h.block k hk (fun hh => hs (hT k hk hh))⟩
theorem Fr.setCell (S : Nat -> Prop) (w : World) (p : Addr) (u : Value) (hp : S p.block) : Fr S w (w.setCell p u) :=
 ⟨rfl, rfl, rfl, by simp [World.setCell], fun k _ hs => Below.heap_setCell _ _ _ _ (fun e => hs (by rw [e]; exact hp))⟩
theorem Fr.alloc (S : Nat -> Prop) (w : World) (o : Obj) : Fr S w (w.alloc o) :=
 ⟨rfl, rfl, rfl, by simp, fun k hk _ => Below.heap_alloc _ _ _ hk⟩
theorem Fr.drew (S : Nat -> Prop) (w : World) : Fr S w w.drew := ⟨rfl, rfl, rfl, Nat.le_refl _, fun _ _ _ => rfl⟩
theorem Fr.drewN (S : Nat -> Prop) (w : World) (n : Nat) : Fr S w (w.drewN n) := ⟨rfl, rfl, rfl, Nat.le_refl _, fun _ _ _ => rfl⟩
theorem Fr.grown {S : Nat -> Prop} {w w' : World} {row : Option Nat} (h : w.grownBy w' row) (hS : ∀ k, row = some k -> S k) : Fr S w w' :=
 ⟨h.os, h.tape, h.output, h.size, fun k hk hs => h.block k hk (fun e => hs (hS k e.symm))⟩
theorem Fr.below {S : Nat -> Prop} {w w' : World} {B : Nat} (h : Fr S w w') (hB : B <= w.heap.size) (hS : ∀ k, S k -> B <= k) : Below B w w' :=
 ⟨h.os, h.tape, h.output, h.size, fun k hk => h.block k (Nat.lt_of_lt_of_le hk hB) (fun e => by have := hS k e; omega)⟩
theorem Fr.cell {S : Nat -> Prop} {w w' : World} (h : Fr S w w') {a : Addr} (hk : a.block < w.heap.size) (hs : ¬ S a.block) : w'.cell? a = w.cell? a := by
 simp [World.cell?, h.block _ hk hs]
theorem ownsRow_base {w : World} {base base' : Nat} {e : TypeId} {size : Nat} {v : Value} {n : Nat} {xs : List Value} (h : w.ownsRow base e size v n xs) (hb : ∀ k, v.ownBlock = some k -> base' <= k) : w.ownsRow base' e size v n xs := by
 refine ⟨h.1, ?_⟩
 rcases h.2 with hn | ⟨g, cap, cur, rfl, hb', rest⟩
 ·exact .inl hn
 ·exact .inr ⟨g, cap, cur, rfl, hb g rfl, rest⟩
theorem ownsRow_same {w w' : World} {base : Nat} {e : TypeId} {size : Nat} {v : Value} {n : Nat} {xs : List Value} (h : w.ownsRow base e size v n xs) (hb : ∀ k, v.ownBlock = some k -> w'.heap[k]? = w.heap[k]?) : w'.ownsRow base e size v n xs := by
 refine ⟨h.1, ?_⟩
 rcases h.2 with hn | ⟨g, cap, cur, rfl, hb', hgg, rest⟩
 ·exact .inl hn
 ·exact .inr ⟨g, cap, cur, rfl, hb', by rw [hb g rfl]; exact hgg, rest⟩
theorem ownsRow_setCell_other {w : World} {base : Nat} {e : TypeId} {size : Nat} {v : Value} {n : Nat} {xs : List Value} (h : w.ownsRow base e size v n xs) (p : Addr) (u : Value) (hb : v.ownBlock ≠ some p.block) : (w.setCell p u).ownsRow base e size v n xs :=
 ownsRow_same h (fun k hk => Below.heap_setCell _ _ _ _ (fun e => hb (by rw [hk, e])))
theorem ownsRow_fr {S : Nat -> Prop} {w w' : World} {base : Nat} {e : TypeId} {size : Nat} {v : Value} {n : Nat} {xs : List Value} (h : w.ownsRow base e size v n xs) (hf : Fr S w w') (hb : ∀ k, v.ownBlock = some k -> ¬ S k) : w'.ownsRow base e size v n xs :=
 ownsRow_same h (fun k hk => hf.block k (h.lt k hk).2 (hb k hk))
theorem wpList_append_two {P : Program} (w : World) {ops : Array Oper} {rest : List Oper} {o : Oper} {a : Act} {Q : Exit -> Act -> World -> Prop}
    (hg : o.guard = none) (s x : Operand) (t : TypeId) (hop : o.op = Op.call { callee := Callee.builtin Builtin.append, args := #[s, x], argTypes := #[t, t] })
    (base : Nat) (e : TypeId) (i : TypeInfo) (z : Value) (size bytes : Nat) (h1 : P.underlying t = some (.slice e)) (h2 : P.info? e = some i) (h3 : i.zero = some z) (h4 : i.size = size) (h5 : i.bytes = bytes) (h6 : z.cells.size = size) (h7 : 0 < size)
    (v : Value) (n : Nat) (xs : List Value) (hs : a.eval s = v) (hown : w.ownsRow base e size v n xs)
    (ad : Addr) (m c : Nat) (news : List Value) (hx : a.eval x = .slice (some ad) m c) (hn : news.length = m * size) (hc : ∀ j u, news[j]? = some u -> w.cell? (ad.add j) = some u) (h1c : ∀ u ∈ news, u.oneCell' = true)
    (hm : 0 < m) (b1 : n + m <= maxLen) (b2 : (n + m) * bytes <= 140737488355328) (b3 : base <= w.heap.size)
    (hK : ∀ v' w', w'.ownsRow base e size v' (n + m) (xs ++ news) -> w.grownBy w' v.ownBlock -> (∃ k, v'.ownBlock = some k /\ (v.ownBlock = some k ∨ w.heap.size <= k)) -> wpList P ops Q rest (a.put o.dst v') w') :
    wpList P ops Q (o :: rest) a w := by
 rcases hown.2 with ⟨rfl, rfl⟩ | ⟨g, cap, cur, rfl, hbg, hgg, hnc, hcm, hcs, htake⟩
 ·have hx0 : xs = [] := List.eq_nil_of_length_eq_zero (by simpa using hown.1)
  subst hx0
  refine wpList_append_grows w hg s x t hop e i z size bytes h1 h2 h3 h4 h5 h6 h7 none 0 0 [] hs (fun _ => ⟨rfl, rfl⟩) (by simp) (fun b hb => by cases hb) ad m c news hx hn hc h1c (by omega) b1 b2 ?_
  intro v' w' ho hgr
  have hlt := ho.lt
  rcases ho.2 with ⟨rfl, h0⟩ | ⟨k, cap, cur, rfl, hk, _⟩
  ·omega
  ·exact hK _ _ (ownsRow_base ho (fun k' hk' => Nat.le_trans b3 (hlt k' hk').1)) ⟨hgr.os, hgr.tape, hgr.output, hgr.size, fun k hk hne => hgr.block k hk (by simp)⟩ ⟨k, rfl, .inr hk⟩
 ·by_cases hroom : n + m <= cap
  ·refine wpList_append_fits w hg s x t hop base e i size h1 h2 h4 g n cap xs hs hown ad m c news hx hn hc h1c hroom ?_
   intro w' ho hgr
   exact hK _ _ ho hgr ⟨g, rfl, .inl rfl⟩
  ·refine wpList_append_grows w hg s x t hop e i z size bytes h1 h2 h3 h4 h5 h6 h7 (some ⟨g, 0, none⟩) n cap xs hs (fun hh => by cases hh) hown.1 ?_ ad m c news hx hn hc h1c (by omega) b1 b2 ?_
   ·intro b hb j u hu
    cases hb
    exact hown.cells (g := g) rfl j u hu
   ·intro v' w' ho hgr
    have hlt := ho.lt
    rcases ho.2 with ⟨rfl, h0⟩ | ⟨k, cap', cur', rfl, hk, _⟩
    ·omega
    ·exact hK _ _ (ownsRow_base ho (fun k' hk' => Nat.le_trans b3 (hlt k' hk').1)) ⟨hgr.os, hgr.tape, hgr.output, hgr.size, fun k hk hne => hgr.block k hk (by simp)⟩ ⟨k, rfl, .inr hk⟩
end
section
open Go.RowKit
theorem Fr.cellb {S : Nat -> Prop} {w w' : World} (h : Fr S w w') {b off : Nat} (hk : b < w.heap.size) (hs : ¬ S b) : w'.cell? ⟨b, off, none⟩ = w.cell? ⟨b, off, none⟩ := h.cell hk hs
structure Elem (P : Program) (t e : TypeId) (z : Value) (size bytes : Nat) : Prop where
 under : P.underlying t = some (.slice e)
 info : (P.info? e).map (fun i => (i.zero, i.size, i.bytes)) = some (some z, size, bytes)
 cells : z.cells.size = size
 pos : 0 < size
theorem wpList_append_one {P : Program} (W : World) {ops : Array Oper} {rest : List Oper} {o : Oper} {a : Act} {Q : Exit -> Act -> World -> Prop}
    (hg : o.guard = none) (s x : Operand) (t : TypeId) (hop : o.op = Op.call { callee := Callee.builtin Builtin.append, args := #[s, x], argTypes := #[t, t] })
    (e : TypeId) (z : Value) (size bytes : Nat) (he : Elem P t e z size bytes)
    (v : Value) (n : Nat) (xs : List Value) (hs : a.eval s = v) (hown : W.ownsRow 0 e size v n xs)
    (news : Array Value) (hx : a.eval x = .slice (some ⟨W.heap.size, 0, none⟩) 1 1) (hn : news.size = size) (h1c : ∀ u ∈ news.toList, u.oneCell' = true)
    (b1 : n + 1 <= maxLen) (b2 : (n + 1) * bytes <= 140737488355328)
    (hK : ∀ g c w', w'.ownsRow 0 e size (.slice (some ⟨g, 0, none⟩) (n + 1) c) (n + 1) (xs ++ news.toList) -> Fr (fun k => v.ownBlock = some k) W w' -> (v.ownBlock = some g ∨ W.heap.size <= g) -> wpList P ops Q rest (a.put o.dst (.slice (some ⟨g, 0, none⟩) (n + 1) c)) w') :
    wpList P ops Q (o :: rest) a (W.alloc (.cells news e)) := by
 obtain ⟨i0, hi, hz0, hz1, hz2⟩ := info_parts he.info
 refine wpList_append_two (W.alloc (.cells news e)) hg s x t hop 0 e i0 z size bytes he.under hi hz0 hz1 hz2 he.cells he.pos v n xs hs (hown.alloc _) ⟨W.heap.size, 0, none⟩ 1 1 news.toList hx (by simpa using hn) ?_ h1c (by omega) b1 b2 (Nat.zero_le _) ?_
 ·intro j u hu
  rw [Addr.add_lit, cell_of_row (W.alloc (.cells news e)) W.heap.size (0 + j) news e (0, 0) (heap_alloc_new W _)]
  simpa using hu
 ·intro v' w' ho hgr hblk
  obtain ⟨k, hk, hk'⟩ := hblk
  rcases ho.2 with ⟨rfl, h0⟩ | ⟨g, cap, cur, rfl, _⟩
  ·omega
  ·simp [Value.ownBlock] at hk
   subst hk
   refine hK g cap w' ho ((Fr.alloc _ W _).trans (Fr.grown hgr (fun k hk => hk))) ?_
   rcases hk' with h | h
   ·exact .inl h
   ·exact .inr (by simp at h; omega)
end
section
open Go.RowKit
def Quiet0 (w w' : World) : Prop := Fr (fun _ => False) w w'
theorem Quiet0.refl (w : World) : Quiet0 w w := Fr.refl _ w
theorem Quiet0.trans {a b c : World} (h : Quiet0 a b) (k : Quiet0 b c) : Quiet0 a c := Fr.trans h k
theorem Quiet0.alloc (w : World) (o : Obj) : Quiet0 w (w.alloc o) := Fr.alloc _ w o
theorem Quiet0.below {w w' : World} (h : Quiet0 w w') : Below w.heap.size w w' := Fr.below h (Nat.le_refl _) (fun _ h => h.elim)
theorem Quiet0.drewN (w : World) (n : Nat) : Quiet0 w (w.drewN n) := Fr.drewN _ w n
theorem Quiet0.drew (w : World) : Quiet0 w w.drew := Fr.drew _ w
theorem jq {a b : World} {o : Obj} (h : Quiet0 a b) : Quiet0 a (b.alloc o) := h.trans (Quiet0.alloc _ _)
theorem jr {a b : World} (h : Quiet0 a b) : Quiet0 a b.drew := h.trans (Quiet0.drew _)
theorem Quiet0.at {w w' : World} (h : Quiet0 w w') {b off : Nat} {v : Value} (hc : w.cell? ⟨b, off, none⟩ = some v) : w'.cell? ⟨b, off, none⟩ = some v :=
 (h.cellb (World.block_lt_of_cell? w _ hc) (fun h => h)).trans hc
end
section
open Go.RowKit
theorem with_q {w0 W w3 : World} {G : Prop} (h : Quiet0 w0 W) (hq : Quiet0 W w3) (k : Quiet0 w0 w3 -> G) : G := k (h.trans hq)
theorem blk_new (w : World) (b : Nat) (cs : Array Value) (t : TypeId) (h : b = w.heap.size) : (w.alloc (.cells cs t)).heap[b]? = some (.cells cs t (0, 0)) := by
 subst h; exact heap_alloc_new w _
theorem blk_after {w W : World} {b : Nat} {o : Obj} (hq : Quiet0 w W) (h : w.heap[b]? = some o) : W.heap[b]? = some o := by
 have hlt : b < w.heap.size := (Array.getElem?_eq_some_iff.1 h).1
 rw [hq.block b hlt (fun h => h)]; exact h
theorem blk_drew {w : World} {b : Nat} {o : Obj} (h : w.heap[b]? = some o) : w.drew.heap[b]? = some o := h
theorem Quiet0.fr {S : Nat -> Prop} {w w' : World} (h : Quiet0 w w') : Fr S w w' := h.mono (fun _ _ h => h.elim)
theorem with_frq {S : Nat -> Prop} {w0 W w3 : World} {G : Prop} (h : Fr S w0 W) (hq : Quiet0 W w3) (k : Fr S w0 w3 -> G) : G := k (h.trans hq.fr)
theorem set_block {w : World} {b i : Nat} {cs : Array Value} {u : Value} {t : TypeId} {z : Nat × Nat} (h : w.heap[b]? = some (.cells cs t z)) : (w.setCell ⟨b, i, none⟩ u).heap[b]? = some (.cells (cs.setIfInBounds i u) t z) := by
 have hlt := (Array.getElem?_eq_some_iff.1 h).1
 have h' : w.heap[b] = .cells cs t z := by simpa [Array.getElem?_eq_getElem hlt] using h
 show (w.heap.modify b _)[b]? = _
 rw [Array.getElem?_eq_getElem (by simpa using hlt), Array.getElem_modify_self, h']
 rfl
theorem blk_fr {S : Nat -> Prop} {w W : World} {b : Nat} {o : Obj} (hf : Fr S w W) (hb : ¬ S b) (h : w.heap[b]? = some o) : W.heap[b]? = some o := by
 rw [hf.block b (Array.getElem?_eq_some_iff.1 h).1 hb]; exact h
theorem with_fr2 {w0 W w3 : World} {S : Nat -> Prop} {G : Prop} (h : Quiet0 w0 W) (hf : Fr S W w3) (hS : ∀ k, S k -> w0.heap.size <= k) (k : Quiet0 w0 w3 -> w0.heap.size <= w3.heap.size -> G) : G :=
 have hq : Quiet0 w0 w3 := Fr.trans' h hf (fun i hi hs => by have := hS i hs; omega)
 k hq hq.size
end
section
open Go.RowKit
def At (w : World) : Nat -> Nat -> Fo -> Prop
 | _, _, .nil => True
 | b, off, .cons k n ps r => w.cell? ⟨b, off, none⟩ = some (.int .i64 k) /\ w.cell? ⟨b, off + 1, none⟩ = some (.int .i64 n) /\
     (∃ o len cap, w.cell? ⟨b, off + 2, none⟩ = some (.slice o len cap) /\ len = ps.length /\ len <= maxLen /\ (0 < len -> ∃ b' off', o = some ⟨b', off', none⟩ /\ At w b' off' ps)) /\ At w b (off + 3) r
def Slc (w : World) (o : Option Addr) (len : Nat) (f : Fo) : Prop := len = f.length /\ len <= maxLen /\ (0 < len -> ∃ b off, o = some ⟨b, off, none⟩ /\ At w b off f)
theorem Slc.nil (w : World) (o : Option Addr) : Slc w o 0 .nil := ⟨rfl, Nat.zero_le _, fun h => absurd h (Nat.lt_irrefl _)⟩
theorem At.stay {w w' : World} (hq : Quiet0 w w') : ∀ (f : Fo) (b off : Nat), At w b off f -> At w' b off f
 | .nil, _, _, _ => trivial
 | .cons k n ps r, b, off, h => by
  obtain ⟨h1, h2, ⟨o, len, cap, h3, h4, h4', h5⟩, h6⟩ := h
  refine ⟨hq.at h1, hq.at h2, ⟨o, len, cap, hq.at h3, h4, h4', fun hl => ?_⟩, At.stay hq r b (off + 3) h6⟩
  obtain ⟨b', off', ho, ha⟩ := h5 hl
  exact ⟨b', off', ho, At.stay hq ps b' off' ha⟩
theorem Slc.stay {w w' : World} {o : Option Addr} {len : Nat} {f : Fo} (h : Slc w o len f) (hq : Quiet0 w w') : Slc w' o len f := by
 refine ⟨h.1, h.2.1, fun hl => ?_⟩
 obtain ⟨b, off, ho, ha⟩ := h.2.2 hl
 exact ⟨b, off, ho, At.stay hq f b off ha⟩
theorem At.nth {w : World} : ∀ (f : Fo) (b off i : Nat), At w b off f -> i < f.length -> ∃ k n ps o len cap, f.drop i = .cons k n ps (f.drop (i + 1)) /\ f.get i = some (k, n, ps) /\
    w.cell? ⟨b, off + i * 3, none⟩ = some (.int .i64 k) /\ w.cell? ⟨b, off + i * 3 + 1, none⟩ = some (.int .i64 n) /\ w.cell? ⟨b, off + i * 3 + 2, none⟩ = some (.slice o len cap) /\ Slc w o len ps
 | .nil, _, _, _, _, h => by simp [Fo.length] at h
 | .cons k n ps r, b, off, 0, h, _ => by
  obtain ⟨h1, h2, ⟨o, len, cap, h3, h4, h4', h5⟩, h6⟩ := h
  exact ⟨k, n, ps, o, len, cap, by simp [Fo.drop, Fo.drop_zero], rfl, by simpa using h1, by simpa using h2, by simpa using h3, h4, h4', h5⟩
 | .cons k n ps r, b, off, i + 1, h, hi => by
  obtain ⟨_, _, _, h6⟩ := h
  obtain ⟨k', n', ps', o, len, cap, e1, e2, c1, c2, c3, hs⟩ := At.nth r b (off + 3) i h6 (by simp [Fo.length] at hi; omega)
  refine ⟨k', n', ps', o, len, cap, by simp only [Fo.drop]; rw [e1], e2, ?_, ?_, ?_, hs⟩
  ·rw [show off + (i + 1) * 3 = off + 3 + i * 3 from by omega]; exact c1
  ·rw [show off + (i + 1) * 3 = off + 3 + i * 3 from by omega]; exact c2
  ·rw [show off + (i + 1) * 3 = off + 3 + i * 3 from by omega]; exact c3
theorem Slc.nth {w : World} {o : Option Addr} {len : Nat} {f : Fo} (h : Slc w o len f) {i : Nat} (hi : i < len) : ∃ b off k n ps o' len' cap', o = some ⟨b, off, none⟩ /\ f.drop i = .cons k n ps (f.drop (i + 1)) /\ f.get i = some (k, n, ps) /\
    w.cell? ⟨b, off + i * 3, none⟩ = some (.int .i64 k) /\ w.cell? ⟨b, off + i * 3 + 1, none⟩ = some (.int .i64 n) /\ w.cell? ⟨b, off + i * 3 + 2, none⟩ = some (.slice o' len' cap') /\ Slc w o' len' ps := by
 obtain ⟨b, off, rfl, ha⟩ := h.2.2 (by omega)
 obtain ⟨k, n, ps, o', len', cap', h1⟩ := At.nth f b off i ha (by have := h.1; omega)
 exact ⟨b, off, k, n, ps, o', len', cap', rfl, h1⟩
def tyv (k n : Int) (o : Option Addr) (len cap : Nat) : Value := .agg #[.int .i64 k, .int .i64 n, .slice o len cap]
theorem box_cells (w : World) (k n : Int) (o : Option Addr) (len cap : Nat) (t : TypeId) (W : World) (hW : Quiet0 (w.alloc (.cells #[.int .i64 k, .int .i64 n, .slice o len cap] t)) W) :
    W.cell? ⟨w.heap.size, 0, none⟩ = some (.int .i64 k) /\ W.cell? ⟨w.heap.size, 1, none⟩ = some (.int .i64 n) /\ W.cell? ⟨w.heap.size, 2, none⟩ = some (.slice o len cap) := by
 refine ⟨hW.at ?_, hW.at ?_, hW.at ?_⟩ <;> (rw [cell_of_row _ _ _ _ _ (0, 0) (heap_alloc_new w _)]; rfl)
end
section
open Go.RowKit
def AtIn (R : Nat -> Prop) (w : World) : Nat -> Nat -> Fo -> Prop
 | _, _, .nil => True
 | b, off, .cons k n ps r => R b /\ w.cell? ⟨b, off, none⟩ = some (.int .i64 k) /\ w.cell? ⟨b, off + 1, none⟩ = some (.int .i64 n) /\
     (∃ o len cap, w.cell? ⟨b, off + 2, none⟩ = some (.slice o len cap) /\ len = ps.length /\ len <= maxLen /\ (0 < len -> ∃ b' off', o = some ⟨b', off', none⟩ /\ AtIn R w b' off' ps)) /\ AtIn R w b (off + 3) r
def SlcIn (R : Nat -> Prop) (w : World) (o : Option Addr) (len : Nat) (f : Fo) : Prop := len = f.length /\ len <= maxLen /\ (0 < len -> ∃ b off, o = some ⟨b, off, none⟩ /\ AtIn R w b off f)
theorem AtIn.at {R : Nat -> Prop} {w : World} : ∀ (f : Fo) (b off : Nat), AtIn R w b off f -> At w b off f
 | .nil, _, _, _ => trivial
 | .cons k n ps r, b, off, h => by
  obtain ⟨_, h1, h2, ⟨o, len, cap, h3, h4, h4', h5⟩, h6⟩ := h
  refine ⟨h1, h2, ⟨o, len, cap, h3, h4, h4', fun hl => ?_⟩, AtIn.at r b (off + 3) h6⟩
  obtain ⟨b', off', ho, ha⟩ := h5 hl
  exact ⟨b', off', ho, AtIn.at ps b' off' ha⟩
theorem SlcIn.slc {R : Nat -> Prop} {w : World} {o : Option Addr} {len : Nat} {f : Fo} (h : SlcIn R w o len f) : Slc w o len f := by
 refine ⟨h.1, h.2.1, fun hl => ?_⟩
 obtain ⟨b, off, ho, ha⟩ := h.2.2 hl
 exact ⟨b, off, ho, AtIn.at f b off ha⟩
theorem AtIn.fr {R T S : Nat -> Prop} {w w' : World} (hf : Fr S w w') (hR : ∀ k, k < w.heap.size -> R k -> T k /\ ¬ S k) : ∀ (f : Fo) (b off : Nat), AtIn R w b off f -> AtIn T w' b off f
 | .nil, _, _, _ => trivial
 | .cons k n ps r, b, off, h => by
  obtain ⟨h0, h1, h2, ⟨o, len, cap, h3, h4, h4', h5⟩, h6⟩ := h
  have hb : b < w.heap.size := World.block_lt_of_cell? w _ h1
  obtain ⟨hT, hS⟩ := hR b hb h0
  refine ⟨hT, (hf.cellb hb hS).trans h1, (hf.cellb hb hS).trans h2, ⟨o, len, cap, (hf.cellb hb hS).trans h3, h4, h4', fun hl => ?_⟩, AtIn.fr hf hR r b (off + 3) h6⟩
  obtain ⟨b', off', ho, ha⟩ := h5 hl
  exact ⟨b', off', ho, AtIn.fr hf hR ps b' off' ha⟩
theorem SlcIn.fr {R T S : Nat -> Prop} {w w' : World} {o : Option Addr} {len : Nat} {f : Fo} (h : SlcIn R w o len f) (hf : Fr S w w') (hR : ∀ k, k < w.heap.size -> R k -> T k /\ ¬ S k) : SlcIn T w' o len f := by
 refine ⟨h.1, h.2.1, fun hl => ?_⟩
 obtain ⟨b, off, ho, ha⟩ := h.2.2 hl
 exact ⟨b, off, ho, AtIn.fr hf hR f b off ha⟩
theorem SlcIn.nil (R : Nat -> Prop) (w : World) (o : Option Addr) : SlcIn R w o 0 .nil := ⟨rfl, Nat.zero_le _, fun h => absurd h (Nat.lt_irrefl _)⟩
def RowOf (R : Nat -> Prop) (w : World) : List Value -> Fo -> Prop
 | xs, .nil => xs = []
 | xs, .cons k n ps r => ∃ o len cap ys, xs = .int .i64 k :: .int .i64 n :: .slice o len cap :: ys /\ SlcIn R w o len ps /\ RowOf R w ys r
theorem RowOf.fr {R T S : Nat -> Prop} {w w' : World} (hf : Fr S w w') (hR : ∀ k, k < w.heap.size -> R k -> T k /\ ¬ S k) : ∀ (f : Fo) (xs : List Value), RowOf R w xs f -> RowOf T w' xs f
 | .nil, _, h => h
 | .cons k n ps r, xs, h => by
  obtain ⟨o, len, cap, ys, rfl, hs, hr⟩ := h
  exact ⟨o, len, cap, ys, rfl, hs.fr hf hR, RowOf.fr hf hR r ys hr⟩
theorem RowOf.snoc {R : Nat -> Prop} {w : World} {k n : Int} {ps : Fo} {o : Option Addr} {len cap : Nat} (hs : SlcIn R w o len ps) : ∀ (f : Fo) (xs : List Value), RowOf R w xs f -> RowOf R w (xs ++ [.int .i64 k, .int .i64 n, .slice o len cap]) (f.app (.cons k n ps .nil))
 | .nil, xs, h => by
  cases h
  exact ⟨o, len, cap, [], rfl, hs, rfl⟩
 | .cons k' n' ps' r, xs, h => by
  obtain ⟨o', len', cap', ys, rfl, hs', hr⟩ := h
  exact ⟨o', len', cap', _, rfl, hs', RowOf.snoc hs r ys hr⟩
theorem RowOf.at {R : Nat -> Prop} {w : World} {g : Nat} (hg : R g) : ∀ (f : Fo) (xs : List Value) (off : Nat), RowOf R w xs f -> (∀ j u, xs[j]? = some u -> w.cell? ⟨g, off + j, none⟩ = some u) -> AtIn R w g off f
 | .nil, _, _, _, _ => trivial
 | .cons k n ps r, xs, off, h, hc => by
  obtain ⟨o, len, cap, ys, rfl, hs, hr⟩ := h
  refine ⟨hg, hc 0 _ rfl, hc 1 _ rfl, ⟨o, len, cap, hc 2 _ rfl, hs.1, hs.2.1, hs.2.2⟩, RowOf.at hg r ys (off + 3) hr ?_⟩
  intro j u hj
  have := hc (j + 3) u (by simpa using hj)
  rw [<- this]; congr 2; omega
structure TyRow (w : World) (B : Nat) (v : Value) (f : Fo) (xs : List Value) : Prop where
 own : w.ownsRow 0 24 3 v f.length xs
 low : ∀ k, v.ownBlock = some k -> B <= k
 cells : RowOf (fun k => B <= k /\ v.ownBlock ≠ some k) w xs f
theorem TyRow.nil (w : World) (B : Nat) : TyRow w B (.slice none 0 0) .nil [] := ⟨World.ownsRow_nil _ _ _ _, fun k hk => (by cases hk), rfl⟩
theorem TyRow.fr {w w' : World} {B : Nat} {v : Value} {f : Fo} {xs : List Value} {S : Nat -> Prop} (h : TyRow w B v f xs) (hf : Fr S w w') (hS : ∀ k, S k -> k < B) : TyRow w' B v f xs := by
 refine ⟨ownsRow_fr h.own hf (fun k hk hs => ?_), h.low, RowOf.fr hf (fun k _ hk => ⟨hk, fun hs => ?_⟩) f xs h.cells⟩
 ·have := h.low k hk; have := hS k hs; omega
 ·have := hS k hs; omega
theorem TyRow.stay {w w' : World} {B : Nat} {v : Value} {f : Fo} {xs : List Value} (h : TyRow w B v f xs) (hf : Quiet0 w w') : TyRow w' B v f xs := h.fr hf (fun _ hk => hk.elim)
theorem TyRow.snoc {W w1 : World} {B : Nat} {v : Value} {f : Fo} {xs : List Value} {k n : Int} {ps : Fo} {o : Option Addr} {len cap g c : Nat} (hr : TyRow W B v f xs)
    (hs : SlcIn (fun k => B <= k /\ v.ownBlock ≠ some k) W o len ps)
    (ho : w1.ownsRow 0 24 3 (.slice (some ⟨g, 0, none⟩) (f.length + 1) c) (f.length + 1) (xs ++ [.int .i64 k, .int .i64 n, .slice o len cap])) (hf : Fr (fun k => v.ownBlock = some k) W w1) (hg : v.ownBlock = some g ∨ W.heap.size <= g) (hB : B <= W.heap.size) :
    TyRow w1 B (.slice (some ⟨g, 0, none⟩) (f.length + 1) c) (f.app (.cons k n ps .nil)) (xs ++ [.int .i64 k, .int .i64 n, .slice o len cap]) := by
 refine ⟨by rw [Fo.app_length]; exact ho, ?_, ?_⟩
 ·intro k hk
  simp [Value.ownBlock] at hk
  subst hk
  rcases hg with h | h
  ·exact hr.low g h
  ·omega
 ·have hk : ∀ k, k < W.heap.size -> (B <= k /\ v.ownBlock ≠ some k) -> ((B <= k /\ (Value.slice (some ⟨g, 0, none⟩) (f.length + 1) c).ownBlock ≠ some k) /\ ¬ v.ownBlock = some k) := by
    rintro k hk ⟨h1, h2⟩
    refine ⟨⟨h1, fun h => ?_⟩, h2⟩
    simp [Value.ownBlock] at h
    subst h
    rcases hg with h | h
    ·exact h2 h
    ·omega
  exact RowOf.snoc (hs.fr hf hk) f xs (RowOf.fr hf hk f xs hr.cells)
theorem TyRow.slc {w : World} {B : Nat} {o : Option Addr} {len cap : Nat} {f : Fo} {xs : List Value} (h : TyRow w B (.slice o len cap) f xs) (hl : len = f.length) (hm : len <= maxLen) : SlcIn (fun k => B <= k) w o len f := by
 refine ⟨hl, hm, fun h0 => ?_⟩
 rcases h.own.2 with ⟨_, h2⟩ | ⟨g, cap', cur, he, _⟩
 ·omega
 ·injection he with h1 h2 h3
  subst h1
  refine ⟨g, 0, rfl, RowOf.at (h.low g rfl) f xs 0 (RowOf.fr (Fr.refl (fun _ => False) w) (fun k _ hk => ⟨hk.1, fun h => h⟩) f xs h.cells) ?_⟩
  intro j u hj
  have := h.own.cells (g := g) rfl j u hj
  simpa [Addr.add_lit] using this
end
section
open Go.RowKit
def tmv (h : Nd) (o1 : Option Addr) (l1 c1 : Nat) (o2 : Option Addr) (l2 c2 : Nat) : Value :=
 .agg #[.int .i64 h.k, .string h.nm, .int .i64 h.n, .int .i64 h.tk, .int .i64 h.tn, .slice o1 l1 c1, .slice o2 l2 c2, .int .i64 h.fr, .int .i64 h.en]
def Cells9 (w : World) (b off : Nat) (h : Nd) (o1 : Option Addr) (l1 c1 : Nat) (o2 : Option Addr) (l2 c2 : Nat) : Prop :=
 w.cell? ⟨b, off, none⟩ = some (.int .i64 h.k) /\ w.cell? ⟨b, off + 1, none⟩ = some (.string h.nm) /\ w.cell? ⟨b, off + 2, none⟩ = some (.int .i64 h.n) /\
 w.cell? ⟨b, off + 3, none⟩ = some (.int .i64 h.tk) /\ w.cell? ⟨b, off + 4, none⟩ = some (.int .i64 h.tn) /\ w.cell? ⟨b, off + 5, none⟩ = some (.slice o1 l1 c1) /\
 w.cell? ⟨b, off + 6, none⟩ = some (.slice o2 l2 c2) /\ w.cell? ⟨b, off + 7, none⟩ = some (.int .i64 h.fr) /\ w.cell? ⟨b, off + 8, none⟩ = some (.int .i64 h.en)
theorem Cells9.fr {S : Nat -> Prop} {w w' : World} {b off : Nat} {h : Nd} {o1 : Option Addr} {l1 c1 : Nat} {o2 : Option Addr} {l2 c2 : Nat} (hc : Cells9 w b off h o1 l1 c1 o2 l2 c2) (hf : Fr S w w') (hs : ¬ S b) : Cells9 w' b off h o1 l1 c1 o2 l2 c2 := by
 obtain ⟨h0, h1, h2, h3, h4, h5, h6, h7, h8⟩ := hc
 have hb := World.block_lt_of_cell? w _ h0
 exact ⟨(hf.cellb hb hs).trans h0, (hf.cellb hb hs).trans h1, (hf.cellb hb hs).trans h2, (hf.cellb hb hs).trans h3, (hf.cellb hb hs).trans h4, (hf.cellb hb hs).trans h5, (hf.cellb hb hs).trans h6, (hf.cellb hb hs).trans h7, (hf.cellb hb hs).trans h8⟩
theorem Cells9.lt {w : World} {b off : Nat} {h : Nd} {o1 : Option Addr} {l1 c1 : Nat} {o2 : Option Addr} {l2 c2 : Nat} (hc : Cells9 w b off h o1 l1 c1 o2 l2 c2) : b < w.heap.size := World.block_lt_of_cell? w _ hc.1
def TIn (R : Nat -> Prop) (w : World) : Nat -> Nat -> To -> Prop
 | _, _, .nil => True
 | b, off, .cons h ps r => R b /\ (∃ o1 l1 c1 o2 l2 c2, Cells9 w b off h o1 l1 c1 o2 l2 c2 /\ SlcIn R w o1 l1 h.tp /\ l2 = ps.length /\ l2 <= maxLen /\ (0 < l2 -> ∃ b' off', o2 = some ⟨b', off', none⟩ /\ TIn R w b' off' ps)) /\ TIn R w b (off + 9) r
def TSlc (R : Nat -> Prop) (w : World) (o : Option Addr) (len : Nat) (f : To) : Prop := len = f.length /\ len <= maxLen /\ (0 < len -> ∃ b off, o = some ⟨b, off, none⟩ /\ TIn R w b off f)
theorem TSlc.nil (R : Nat -> Prop) (w : World) (o : Option Addr) : TSlc R w o 0 .nil := ⟨rfl, Nat.zero_le _, fun h => absurd h (Nat.lt_irrefl _)⟩
theorem TIn.fr {R T S : Nat -> Prop} {w w' : World} (hf : Fr S w w') (hR : ∀ k, k < w.heap.size -> R k -> T k /\ ¬ S k) : ∀ (f : To) (b off : Nat), TIn R w b off f -> TIn T w' b off f
 | .nil, _, _, _ => trivial
 | .cons h ps r, b, off, ht => by
  obtain ⟨h0, ⟨o1, l1, c1, o2, l2, c2, hc, hs, h4, h4', h5⟩, h6⟩ := ht
  obtain ⟨hT, hS⟩ := hR b hc.lt h0
  refine ⟨hT, ⟨o1, l1, c1, o2, l2, c2, hc.fr hf hS, hs.fr hf hR, h4, h4', fun hl => ?_⟩, TIn.fr hf hR r b (off + 9) h6⟩
  obtain ⟨b', off', ho, ha⟩ := h5 hl
  exact ⟨b', off', ho, TIn.fr hf hR ps b' off' ha⟩
theorem TSlc.fr {R T S : Nat -> Prop} {w w' : World} {o : Option Addr} {len : Nat} {f : To} (h : TSlc R w o len f) (hf : Fr S w w') (hR : ∀ k, k < w.heap.size -> R k -> T k /\ ¬ S k) : TSlc T w' o len f := by
 refine ⟨h.1, h.2.1, fun hl => ?_⟩
 obtain ⟨b, off, ho, ha⟩ := h.2.2 hl
 exact ⟨b, off, ho, TIn.fr hf hR f b off ha⟩
theorem TSlc.stay {R : Nat -> Prop} {w w' : World} {o : Option Addr} {len : Nat} {f : To} (h : TSlc R w o len f) (hq : Quiet0 w w') : TSlc R w' o len f := h.fr hq (fun _ _ hk => ⟨hk, fun h => h⟩)
theorem SlcIn.stay {R : Nat -> Prop} {w w' : World} {o : Option Addr} {len : Nat} {f : Fo} (h : SlcIn R w o len f) (hq : Quiet0 w w') : SlcIn R w' o len f := h.fr hq (fun _ _ hk => ⟨hk, fun h => h⟩)
theorem SlcIn.mono {R T : Nat -> Prop} {w : World} {o : Option Addr} {len : Nat} {f : Fo} (h : SlcIn R w o len f) (hk : ∀ k, k < w.heap.size -> R k -> T k) : SlcIn T w o len f := h.fr (Fr.refl (fun _ => False) w) (fun k hl hr => ⟨hk k hl hr, fun h => h⟩)
theorem TSlc.mono {R T : Nat -> Prop} {w : World} {o : Option Addr} {len : Nat} {f : To} (h : TSlc R w o len f) (hk : ∀ k, k < w.heap.size -> R k -> T k) : TSlc T w o len f := h.fr (Fr.refl (fun _ => False) w) (fun k hl hr => ⟨hk k hl hr, fun h => h⟩)
theorem TIn.nth {R : Nat -> Prop} {w : World} : ∀ (f : To) (b off i : Nat), TIn R w b off f -> i < f.length -> ∃ h ps o1 l1 c1 o2 l2 c2, f.drop i = .cons h ps (f.drop (i + 1)) /\ f.get i = some (h, ps) /\ R b /\
    Cells9 w b (off + i * 9) h o1 l1 c1 o2 l2 c2 /\ SlcIn R w o1 l1 h.tp /\ TSlc R w o2 l2 ps
 | .nil, _, _, _, _, h => by simp [To.length] at h
 | .cons h ps r, b, off, 0, ht, _ => by
  obtain ⟨h0, ⟨o1, l1, c1, o2, l2, c2, hc, hs, h4, h4', h5⟩, h6⟩ := ht
  exact ⟨h, ps, o1, l1, c1, o2, l2, c2, by simp [To.drop, To.drop_zero], rfl, h0, by simpa using hc, hs, h4, h4', h5⟩
 | .cons h ps r, b, off, i + 1, ht, hi => by
  obtain ⟨_, _, h6⟩ := ht
  obtain ⟨h', ps', o1, l1, c1, o2, l2, c2, e1, e2, hb, hc, hs⟩ := TIn.nth r b (off + 9) i h6 (by simp [To.length] at hi; omega)
  refine ⟨h', ps', o1, l1, c1, o2, l2, c2, by simp only [To.drop]; rw [e1], e2, hb, ?_, hs⟩
  rw [show off + (i + 1) * 9 = off + 9 + i * 9 from by omega]; exact hc
theorem TSlc.nth {R : Nat -> Prop} {w : World} {o : Option Addr} {len : Nat} {f : To} (h : TSlc R w o len f) {i : Nat} (hi : i < len) : ∃ b off hd ps o1 l1 c1 o2 l2 c2, o = some ⟨b, off, none⟩ /\ f.drop i = .cons hd ps (f.drop (i + 1)) /\ f.get i = some (hd, ps) /\ R b /\
    Cells9 w b (off + i * 9) hd o1 l1 c1 o2 l2 c2 /\ SlcIn R w o1 l1 hd.tp /\ TSlc R w o2 l2 ps := by
 obtain ⟨b, off, rfl, ha⟩ := h.2.2 (by omega)
 obtain ⟨hd, ps, o1, l1, c1, o2, l2, c2, h1⟩ := TIn.nth f b off i ha (by have := h.1; omega)
 exact ⟨b, off, hd, ps, o1, l1, c1, o2, l2, c2, rfl, h1⟩
abbrev cells9 (h : Nd) (o1 : Option Addr) (l1 c1 : Nat) (o2 : Option Addr) (l2 c2 : Nat) : Array Value :=
 #[.int .i64 h.k, .string h.nm, .int .i64 h.n, .int .i64 h.tk, .int .i64 h.tn, .slice o1 l1 c1, .slice o2 l2 c2, .int .i64 h.fr, .int .i64 h.en]
theorem cells9_block {w : World} {B : Nat} {h : Nd} {o1 : Option Addr} {l1 c1 : Nat} {o2 : Option Addr} {l2 c2 : Nat} {t : TypeId} {z : Nat × Nat} (hb : w.heap[B]? = some (.cells (cells9 h o1 l1 c1 o2 l2 c2) t z)) : Cells9 w B 0 h o1 l1 c1 o2 l2 c2 := by
 refine ⟨?_, ?_, ?_, ?_, ?_, ?_, ?_, ?_, ?_⟩ <;> (rw [cell_of_row _ _ _ _ _ z hb]; rfl)
theorem cells9_new (w : World) (h : Nd) (o1 : Option Addr) (l1 c1 : Nat) (o2 : Option Addr) (l2 c2 : Nat) (t : TypeId) : Cells9 (w.alloc (.cells (cells9 h o1 l1 c1 o2 l2 c2) t)) w.heap.size 0 h o1 l1 c1 o2 l2 c2 := cells9_block (heap_alloc_new w _)
def RowT (R : Nat -> Prop) (w : World) : List Value -> To -> Prop
 | xs, .nil => xs = []
 | xs, .cons h ps r => ∃ o1 l1 c1 o2 l2 c2 ys, xs = (cells9 h o1 l1 c1 o2 l2 c2).toList ++ ys /\ SlcIn R w o1 l1 h.tp /\ TSlc R w o2 l2 ps /\ RowT R w ys r
theorem RowT.fr {R T S : Nat -> Prop} {w w' : World} (hf : Fr S w w') (hR : ∀ k, k < w.heap.size -> R k -> T k /\ ¬ S k) : ∀ (f : To) (xs : List Value), RowT R w xs f -> RowT T w' xs f
 | .nil, _, h => h
 | .cons h ps r, xs, ht => by
  obtain ⟨o1, l1, c1, o2, l2, c2, ys, rfl, hs, ht, hr⟩ := ht
  exact ⟨o1, l1, c1, o2, l2, c2, ys, rfl, hs.fr hf hR, ht.fr hf hR, RowT.fr hf hR r ys hr⟩
theorem RowT.snoc {R : Nat -> Prop} {w : World} {h : Nd} {ps : To} {o1 : Option Addr} {l1 c1 : Nat} {o2 : Option Addr} {l2 c2 : Nat} (hs : SlcIn R w o1 l1 h.tp) (ht : TSlc R w o2 l2 ps) : ∀ (f : To) (xs : List Value), RowT R w xs f -> RowT R w (xs ++ (cells9 h o1 l1 c1 o2 l2 c2).toList) (f.app (.cons h ps .nil))
 | .nil, xs, e => by
  cases e
  exact ⟨o1, l1, c1, o2, l2, c2, [], by simp, hs, ht, rfl⟩
 | .cons h' ps' r, xs, e => by
  obtain ⟨p1, m1, d1, p2, m2, d2, ys, rfl, hs', ht', hr⟩ := e
  exact ⟨p1, m1, d1, p2, m2, d2, _, by rw [List.append_assoc], hs', ht', RowT.snoc hs ht r ys hr⟩
theorem RowT.at {R : Nat -> Prop} {w : World} {g : Nat} (hg : R g) : ∀ (f : To) (xs : List Value) (off : Nat), RowT R w xs f -> (∀ j u, xs[j]? = some u -> w.cell? ⟨g, off + j, none⟩ = some u) -> TIn R w g off f
 | .nil, _, _, _, _ => trivial
 | .cons h ps r, xs, off, e, hc => by
  obtain ⟨o1, l1, c1, o2, l2, c2, ys, rfl, hs, ht, hr⟩ := e
  refine ⟨hg, ⟨o1, l1, c1, o2, l2, c2, ⟨hc 0 _ rfl, hc 1 _ rfl, hc 2 _ rfl, hc 3 _ rfl, hc 4 _ rfl, hc 5 _ rfl, hc 6 _ rfl, hc 7 _ rfl, hc 8 _ rfl⟩, hs, ht.1, ht.2.1, ht.2.2⟩, RowT.at hg r ys (off + 9) hr ?_⟩
  intro j u hj
  have := hc (j + 9) u (by simpa using hj)
  rw [<- this]; congr 2; omega
structure TmRow (w : World) (B : Nat) (v : Value) (f : To) (xs : List Value) : Prop where
 own : w.ownsRow 0 29 9 v f.length xs
 low : ∀ k, v.ownBlock = some k -> B <= k
 cells : RowT (fun k => B <= k /\ v.ownBlock ≠ some k) w xs f
theorem TmRow.nil (w : World) (B : Nat) : TmRow w B (.slice none 0 0) .nil [] := ⟨World.ownsRow_nil _ _ _ _, fun k hk => (by cases hk), rfl⟩
theorem TmRow.fr {w w' : World} {B : Nat} {v : Value} {f : To} {xs : List Value} {S : Nat -> Prop} (h : TmRow w B v f xs) (hf : Fr S w w') (hS : ∀ k, S k -> k < B) : TmRow w' B v f xs := by
 refine ⟨ownsRow_fr h.own hf (fun k hk hs => ?_), h.low, RowT.fr hf (fun k _ hk => ⟨hk, fun hs => ?_⟩) f xs h.cells⟩
 ·have := h.low k hk; have := hS k hs; omega
 ·have := hS k hs; omega
theorem TmRow.stay {w w' : World} {B : Nat} {v : Value} {f : To} {xs : List Value} (h : TmRow w B v f xs) (hf : Quiet0 w w') : TmRow w' B v f xs := h.fr hf (fun _ hk => hk.elim)
theorem TmRow.snoc {W w1 : World} {B : Nat} {v : Value} {f : To} {xs : List Value} {h : Nd} {ps : To} {o1 : Option Addr} {l1 c1 : Nat} {o2 : Option Addr} {l2 c2 g c : Nat} (hr : TmRow W B v f xs)
    (hs : SlcIn (fun k => B <= k /\ v.ownBlock ≠ some k) W o1 l1 h.tp) (ht : TSlc (fun k => B <= k /\ v.ownBlock ≠ some k) W o2 l2 ps)
    (ho : w1.ownsRow 0 29 9 (.slice (some ⟨g, 0, none⟩) (f.length + 1) c) (f.length + 1) (xs ++ (cells9 h o1 l1 c1 o2 l2 c2).toList)) (hf : Fr (fun k => v.ownBlock = some k) W w1) (hg : v.ownBlock = some g ∨ W.heap.size <= g) (hB : B <= W.heap.size) :
    TmRow w1 B (.slice (some ⟨g, 0, none⟩) (f.length + 1) c) (f.app (.cons h ps .nil)) (xs ++ (cells9 h o1 l1 c1 o2 l2 c2).toList) := by
 refine ⟨by rw [To.app_length]; exact ho, ?_, ?_⟩
 ·intro k hk
  simp [Value.ownBlock] at hk
  subst hk
  rcases hg with h | h
  ·exact hr.low g h
  ·omega
 ·have hk : ∀ k, k < W.heap.size -> (B <= k /\ v.ownBlock ≠ some k) -> ((B <= k /\ (Value.slice (some ⟨g, 0, none⟩) (f.length + 1) c).ownBlock ≠ some k) /\ ¬ v.ownBlock = some k) := by
    rintro k hk ⟨h1, h2⟩
    refine ⟨⟨h1, fun h => ?_⟩, h2⟩
    simp [Value.ownBlock] at h
    subst h
    rcases hg with h | h
    ·exact h2 h
    ·omega
  exact RowT.snoc (hs.fr hf hk) (ht.fr hf hk) f xs (RowT.fr hf hk f xs hr.cells)
theorem TmRow.slc {w : World} {B : Nat} {o : Option Addr} {len cap : Nat} {f : To} {xs : List Value} (h : TmRow w B (.slice o len cap) f xs) (hl : len = f.length) (hm : len <= maxLen) : TSlc (fun k => B <= k) w o len f := by
 refine ⟨hl, hm, fun h0 => ?_⟩
 rcases h.own.2 with ⟨_, h2⟩ | ⟨g, cap', cur, he, _⟩
 ·omega
 ·injection he with h1 h2 h3
  subst h1
  refine ⟨g, 0, rfl, RowT.at (h.low g rfl) f xs 0 (RowT.fr (Fr.refl (fun _ => False) w) (fun k _ hk => ⟨hk.1, fun h => h⟩) f xs h.cells) ?_⟩
  intro j u hj
  have := h.own.cells (g := g) rfl j u hj
  simpa [Addr.add_lit] using this
theorem elemTm : Elem Tryz.prog 25 29 (.agg #[.int .i64 0, .string ⟨#[]⟩, .int .i64 0, .int .i64 0, .int .i64 0, .slice none 0 0, .slice none 0 0, .int .i64 0, .int .i64 0]) 9 112 :=
 ⟨Tryz.underlying25, by kernel_rfl, by decide, by decide⟩
end
end Go.Proofs.YtcninopmelmajaaGreatDoor
