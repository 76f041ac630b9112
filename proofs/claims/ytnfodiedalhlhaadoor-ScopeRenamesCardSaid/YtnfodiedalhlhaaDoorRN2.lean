/-
  Texts laid together (TyPlain, TePlain, ScPlain, Mem, Mem2, Quiet, TyMem, TyIn): laws and walks, with their conditions in their statements.
-/
import Derived.WalkKit
import Derived.WalkSpells
import Derived.WalkLawsBesides
import Derived.Lib.Hide
import Derived.Test.YtnfodiedalhlhaaDoorProg
section
namespace Go.Proofs.YtnfodiedalhlhaaDoor
inductive Fo where
  | nil : Fo
  | cons (k n : Int) (ps : Fo) (rest : Fo) : Fo
def inB (l : List Int) (v : Int) : Bool := l.contains v
theorem inB_cons (a : Int) (l : List Int) (v : Int) : inB (a :: l) v = (v == a || inB l v) := by unfold inB; rw [List.contains_cons]
namespace Fo
def length : Fo → Nat
  | nil => 0
  | cons _ _ _ r => r.length + 1
def drop : Fo → Nat → Fo
  | f, 0 => f
  | nil, _ + 1 => nil
  | cons _ _ _ r, i + 1 => r.drop i
def get : Fo → Nat → Option (Int × Int × Fo)
  | nil, _ => none
  | cons k n ps _, 0 => some (k, n, ps)
  | cons _ _ _ r, i + 1 => r.get i
def app : Fo → Fo → Fo
  | nil, g => g
  | cons k n ps r, g => cons k n ps (r.app g)
def size : Fo → Nat
  | nil => 0
  | cons _ _ ps r => ps.size + 1 + r.size
def depth : Fo → Nat
  | nil => 0
  | cons _ _ ps r => max (ps.depth + 1) r.depth
def same : Fo → Fo → Bool
  | nil, nil => true
  | cons k n ps r, cons k' n' ps' r' => (k == k') && (n == n') && ps.same ps' && r.same r'
  | _, _ => false
def vars : List Int → Fo → List Int
  | l, nil => l
  | l, cons k n ps r => vars (vars (if k == 1 && !inB l n then l ++ [n] else l) ps) r
def plain (k n : Int) (m : Nat) : Bool :=
  if k == 1 then decide (0 ≤ n) && decide (n < 1073741824) && decide (m = 0)
  else if k == 2 || k == 3 then n == 0 && decide (m = 0)
  else if k == 4 then n == 0 && decide (m = 2)
  else if k == 5 then n == 0 && decide (2 ≤ m) && decide (m ≤ 8)
  else false
def right : Fo → Bool
  | nil => true
  | cons k n ps r => plain k n ps.length && ps.right && r.right
def change (p : Int → Int) : Fo → Fo
  | nil => nil
  | cons k n ps r => cons k (if k == 1 then p n else n) (ps.change p) (r.change p)
theorem drop_zero (f : Fo) : f.drop 0 = f := by cases f <;> rfl
theorem drop_get : ∀ (f : Fo) (i : Nat), i < f.length → ∃ k n ps, f.drop i = cons k n ps (f.drop (i + 1)) ∧ f.get i = some (k, n, ps)
  | nil, i, h => by simp [length] at h
  | cons k n ps r, 0, _ => ⟨k, n, ps, by simp [drop, drop_zero], rfl⟩
  | cons k n ps r, i + 1, h => by
    obtain ⟨k', n', ps', h1, h2⟩ := drop_get r i (by simp [length] at h; omega)
    exact ⟨k', n', ps', by simp only [drop]; rw [h1], h2⟩
theorem drop_end : ∀ (f : Fo) (i : Nat), f.length ≤ i → f.drop i = nil
  | nil, 0, _ => rfl
  | nil, i + 1, _ => rfl
  | cons k n ps r, 0, h => by simp [length] at h
  | cons k n ps r, i + 1, h => drop_end r i (by simp [length] at h; omega)
theorem get_lt : ∀ (f : Fo) (i : Nat) (t : Int × Int × Fo), f.get i = some t → i < f.length
  | nil, i, t, h => by simp [get] at h
  | cons k n ps r, 0, t, _ => by simp [length]
  | cons k n ps r, i + 1, t, h => by have := get_lt r i t h; simp [length]; omega
theorem length_le : ∀ f : Fo, f.length ≤ f.size
  | nil => Nat.le_refl _
  | cons k n ps r => by have := length_le r; simp only [length, size]; omega
theorem size_drop : ∀ (f : Fo) (i : Nat), (f.drop i).size ≤ f.size
  | f, 0 => by rw [drop_zero]; exact Nat.le_refl _
  | nil, i + 1 => Nat.le_refl _
  | cons k n ps r, i + 1 => by have := size_drop r i; simp only [drop, size]; omega
theorem size_get (f : Fo) (i : Nat) (k n : Int) (ps : Fo) (h : f.get i = some (k, n, ps)) : ps.size + 1 ≤ f.size := by
  obtain ⟨k', n', ps', h1, h2⟩ := drop_get f i (get_lt _ _ _ h)
  rw [h] at h2
  cases h2
  have := size_drop f i
  rw [h1] at this
  simp only [size] at this
  omega
theorem same_refl : ∀ f : Fo, f.same f = true
  | nil => rfl
  | cons k n ps r => by simp [same, same_refl ps, same_refl r]
theorem same_eq : ∀ f g : Fo, f.same g = true → f = g
  | nil, nil, _ => rfl
  | nil, cons _ _ _ _, h => by simp [same] at h
  | cons _ _ _ _, nil, h => by simp [same] at h
  | cons k n ps r, cons k' n' ps' r', h => by
    simp [same] at h
    obtain ⟨⟨⟨rfl, rfl⟩, h3⟩, h4⟩ := h
    rw [same_eq ps ps' h3, same_eq r r' h4]
theorem same_length : ∀ f g : Fo, f.same g = true → f.length = g.length := fun f g h => by rw [same_eq f g h]
theorem change_id : ∀ f : Fo, f.change (fun n => n) = f
  | nil => rfl
  | cons k n ps r => by simp [change, change_id r, change_id ps]
theorem app_nil : ∀ f : Fo, f.app nil = f
  | nil => rfl
  | cons k n ps r => by simp [app, app_nil r]
theorem app_assoc : ∀ f g h : Fo, (f.app g).app h = f.app (g.app h)
  | nil, _, _ => rfl
  | cons k n ps r, g, h => by simp [app, app_assoc r g h]
theorem app_length : ∀ f g : Fo, (f.app g).length = f.length + g.length
  | nil, g => by simp [app, length]
  | cons k n ps r, g => by simp [app, length, app_length r g]; omega
theorem ind {T : Int → Int → Fo → Prop} (step : ∀ k n ps, (∀ i k' n' qs, ps.get i = some (k', n', qs) → T k' n' qs) → T k n ps) : ∀ (f : Fo) (i : Nat) (k n : Int) (ps : Fo), f.get i = some (k, n, ps) → T k n ps
  | nil, i, k, n, ps, h => by simp [get] at h
  | cons k n ps r, 0, k', n', qs, h => by
    simp [get] at h
    obtain ⟨rfl, rfl, rfl⟩ := h
    exact step k n ps (ind step ps)
  | cons k n ps r, i + 1, k', n', qs, h => ind step r i k' n' qs h
theorem ind' {T : Int → Int → Fo → Prop} (step : ∀ k n ps, (∀ i k' n' qs, ps.get i = some (k', n', qs) → T k' n' qs) → T k n ps) (k n : Int) (ps : Fo) : T k n ps :=
  step k n ps (fun i k' n' qs h => ind step ps i k' n' qs h)
def room : Nat → Int → Fo → Int
  | _, m, nil => m
  | d, m, cons _ _ ps r => if m < 0 then m else
      match d with
      | 0 => room 0 (-1) r
      | d + 1 => room (d + 1) (room d (m - 1) ps) r
theorem room_neg : ∀ (f : Fo) (d : Nat) (m : Int), m < 0 → room d m f = m
  | nil, _, _, _ => by unfold room; rfl
  | cons k n ps r, d, m, h => by unfold room; rw [if_pos h]
theorem room_le : ∀ (f : Fo) (d : Nat) (m : Int), 0 ≤ m → room d m f ≤ m ∧ -1 ≤ room d m f
  | nil, _, _, _ => by unfold room; omega
  | cons k n ps r, d, m, h => by
    unfold room
    rw [if_neg (by omega)]
    cases d with
    | zero => simp only; rw [room_neg r 0 (-1) (by omega)]; omega
    | succ d =>
      simp only
      by_cases hm : 0 ≤ m - 1
      · have h1 := room_le ps d (m - 1) hm
        by_cases h0 : 0 ≤ room d (m - 1) ps
        · have h2 := room_le r (d + 1) _ h0; omega
        · rw [room_neg r _ _ (by omega)]; omega
      · rw [room_neg ps _ _ (by omega), room_neg r _ _ (by omega)]; omega
theorem room_size : ∀ (f : Fo) (d : Nat) (m : Int), 0 ≤ room d m f → room d m f = m - f.size ∧ 0 ≤ m
  | nil, _, m, h => by unfold room at h ⊢; simp [size]; exact h
  | cons k n ps r, d, m, h => by
    unfold room at h ⊢
    by_cases hm : m < 0
    · rw [if_pos hm] at h; omega
    · rw [if_neg hm] at h ⊢
      cases d with
      | zero => simp only at h; rw [room_neg r 0 (-1) (by omega)] at h; omega
      | succ d =>
        simp only at h ⊢
        obtain ⟨h1, h2⟩ := room_size r (d + 1) _ h
        obtain ⟨h3, h4⟩ := room_size ps d (m - 1) h2
        rw [h1, h3]
        simp only [size]; omega
end Fo
def allF (G : Int → Prop) : Fo → Prop
  | .nil => True
  | .cons _ n ps r => G n ∧ allF G ps ∧ allF G r
theorem allF_get {G : Int → Prop} : ∀ (f : Fo) (i : Nat) (k n : Int) (ps : Fo), allF G f → f.get i = some (k, n, ps) → G n ∧ allF G ps
  | .nil, i, k, n, ps, _, h => by simp [Fo.get] at h
  | .cons k n ps r, 0, k', n', ps', hw, h => by
    simp [Fo.get] at h
    obtain ⟨rfl, rfl, rfl⟩ := h
    exact ⟨hw.1, hw.2.1⟩
  | .cons k n ps r, i + 1, k', n', ps', hw, h => allF_get r i k' n' ps' hw.2.2 h
theorem allF_true {G : Int → Prop} (h : ∀ n, G n) : ∀ f : Fo, allF G f
  | .nil => trivial
  | .cons _ n ps r => ⟨h n, allF_true h ps, allF_true h r⟩
end Go.Proofs.YtnfodiedalhlhaaDoor
end
section
namespace Go.Proofs.YtnfodiedalhlhaaDoor
structure Nd where
  k : Int
  nm : ByteArray
  n : Int
  tk : Int
  tn : Int
  tp : Fo
  fr : Int
  en : Int
inductive To where
  | nil : To
  | cons (h : Nd) (ps : To) (rest : To)
namespace To
def length : To → Nat
  | nil => 0
  | cons _ _ r => r.length + 1
def drop : To → Nat → To
  | f, 0 => f
  | nil, _ + 1 => nil
  | cons _ _ r, i + 1 => r.drop i
def get : To → Nat → Option (Nd × To)
  | nil, _ => none
  | cons h ps _, 0 => some (h, ps)
  | cons _ _ r, i + 1 => r.get i
def app : To → To → To
  | nil, g => g
  | cons h ps r, g => cons h ps (r.app g)
def size : To → Nat
  | nil => 0
  | cons _ ps r => ps.size + 1 + r.size
def depth : To → Nat
  | nil => 0
  | cons _ ps r => max (ps.depth + 1) r.depth
def flat : To → List (Nd × To)
  | nil => []
  | cons h ps r => (h, ps) :: (ps.flat ++ r.flat)
def alike (p : Nd → Nd → Bool) : To → To → Bool
  | nil, nil => true
  | cons h ps r, cons h' ps' r' => p h h' && ps.alike p ps' && r.alike p r'
  | _, _ => false
theorem drop_zero (f : To) : f.drop 0 = f := by cases f <;> rfl
theorem drop_get : ∀ (f : To) (i : Nat), i < f.length → ∃ h ps, f.drop i = cons h ps (f.drop (i + 1)) ∧ f.get i = some (h, ps)
  | nil, i, h => by simp [length] at h
  | cons h ps r, 0, _ => ⟨h, ps, by simp [drop, drop_zero], rfl⟩
  | cons h ps r, i + 1, hi => by
    obtain ⟨h', ps', h1, h2⟩ := drop_get r i (by simp [length] at hi; omega)
    exact ⟨h', ps', by simp only [drop]; rw [h1], h2⟩
theorem drop_end : ∀ (f : To) (i : Nat), f.length ≤ i → f.drop i = nil
  | nil, 0, _ => rfl
  | nil, i + 1, _ => rfl
  | cons h ps r, 0, hi => by simp [length] at hi
  | cons h ps r, i + 1, hi => drop_end r i (by simp [length] at hi; omega)
theorem get_lt : ∀ (f : To) (i : Nat) (t : Nd × To), f.get i = some t → i < f.length
  | nil, i, t, h => by simp [get] at h
  | cons h ps r, 0, t, _ => by simp [length]
  | cons h ps r, i + 1, t, hi => by have := get_lt r i t hi; simp [length]; omega
theorem length_le : ∀ f : To, f.length ≤ f.size
  | nil => Nat.le_refl _
  | cons h ps r => by have := length_le r; simp only [length, size]; omega
theorem size_drop : ∀ (f : To) (i : Nat), (f.drop i).size ≤ f.size
  | f, 0 => by rw [drop_zero]; exact Nat.le_refl _
  | nil, i + 1 => Nat.le_refl _
  | cons h ps r, i + 1 => by have := size_drop r i; simp only [drop, size]; omega
theorem size_get (f : To) (i : Nat) (h : Nd) (ps : To) (hg : f.get i = some (h, ps)) : ps.size + 1 ≤ f.size := by
  obtain ⟨h', ps', h1, h2⟩ := drop_get f i (get_lt _ _ _ hg)
  rw [hg] at h2
  cases h2
  have := size_drop f i
  rw [h1] at this
  simp only [size] at this
  omega
theorem app_nil : ∀ f : To, f.app nil = f
  | nil => rfl
  | cons h ps r => by simp [app, app_nil r]
theorem app_assoc : ∀ f g h : To, (f.app g).app h = f.app (g.app h)
  | nil, _, _ => rfl
  | cons k ps r, g, h => by simp [app, app_assoc r g h]
theorem app_length : ∀ f g : To, (f.app g).length = f.length + g.length
  | nil, g => by simp [app, length]
  | cons h ps r, g => by simp [app, length, app_length r g]; omega
theorem flat_length : ∀ f : To, f.flat.length = f.size
  | nil => rfl
  | cons h ps r => by simp [flat, size, flat_length r, flat_length ps]; omega
theorem alike_length (p : Nd → Nd → Bool) : ∀ f g : To, f.alike p g = true → f.length = g.length
  | nil, nil, _ => rfl
  | nil, cons _ _ _, h => by simp [alike] at h
  | cons _ _ _, nil, h => by simp [alike] at h
  | cons h ps r, cons h' ps' r', e => by
    simp [alike] at e
    simp [length, alike_length p r r' e.2]
theorem alike_refl {p : Nd → Nd → Bool} (hp : ∀ h, p h h = true) : ∀ f : To, f.alike p f = true
  | nil => rfl
  | cons h ps r => by simp [alike, hp, alike_refl hp ps, alike_refl hp r]
theorem ind {T : Nd → To → Prop} (step : ∀ h ps, (∀ i h' qs, ps.get i = some (h', qs) → T h' qs) → T h ps) : ∀ (f : To) (i : Nat) (h : Nd) (ps : To), f.get i = some (h, ps) → T h ps
  | nil, i, h, ps, e => by simp [get] at e
  | cons h ps r, 0, h', qs, e => by
    simp [get] at e
    obtain ⟨rfl, rfl⟩ := e
    exact step h ps (ind step ps)
  | cons h ps r, i + 1, h', qs, e => ind step r i h' qs e
theorem ind' {T : Nd → To → Prop} (step : ∀ h ps, (∀ i h' qs, ps.get i = some (h', qs) → T h' qs) → T h ps) (h : Nd) (ps : To) : T h ps :=
  step h ps (fun i h' qs e => ind step ps i h' qs e)
end To
def allT (G : Nd → Prop) : To → Prop
  | .nil => True
  | .cons h ps r => G h ∧ allT G ps ∧ allT G r
theorem allT_get {G : Nd → Prop} : ∀ (f : To) (i : Nat) (h : Nd) (ps : To), allT G f → f.get i = some (h, ps) → G h ∧ allT G ps
  | .nil, i, h, ps, _, e => by simp [To.get] at e
  | .cons h ps r, 0, h', ps', hw, e => by
    simp [To.get] at e
    obtain ⟨rfl, rfl⟩ := e
    exact ⟨hw.1, hw.2.1⟩
  | .cons h ps r, i + 1, h', ps', hw, e => allT_get r i h' ps' hw.2.2 e
theorem allT_mono {G H : Nd → Prop} (hh : ∀ h, G h → H h) : ∀ f : To, allT G f → allT H f
  | .nil, _ => trivial
  | .cons h ps r, e => ⟨hh h e.1, allT_mono hh ps e.2.1, allT_mono hh r e.2.2⟩
theorem allT_flat {G : Nd → Prop} : ∀ (f : To), allT G f → ∀ t ∈ f.flat, G t.1 ∧ allT G t.2
  | .nil, _, t, h => by simp [To.flat] at h
  | .cons h ps r, e, t, ht => by
    simp [To.flat] at ht
    rcases ht with rfl | ht | ht
    · exact ⟨e.1, e.2.1⟩
    · exact allT_flat ps e.2.1 t ht
    · exact allT_flat r e.2.2 t ht
end Go.Proofs.YtnfodiedalhlhaaDoor
end
section
namespace Go.Proofs.YtnfodiedalhlhaaDoor
namespace Sc
def ixE : List ByteArray → ByteArray → Nat → Int
  | [], _, _ => -1
  | a :: r, s, k => if a = s then (k : Int) else ixE r s (k + 1)
def ix (e : List ByteArray) (s : ByteArray) : Int := ixE e s 0
theorem ixE_spec : ∀ (e : List ByteArray) (s : ByteArray) (k : Nat), (ixE e s k = -1 ∧ s ∉ e) ∨ ∃ j, ixE e s k = ((k + j : Nat) : Int) ∧ e[j]? = some s ∧ s ∉ e.take j
  | [], s, k => .inl ⟨rfl, by simp⟩
  | a :: r, s, k => by
    unfold ixE
    by_cases h : a = s
    · rw [if_pos h]; exact .inr ⟨0, by simp, by simp [h], by simp⟩
    · rw [if_neg h]
      rcases ixE_spec r s (k + 1) with ⟨h1, h2⟩ | ⟨j, h1, h2, h3⟩
      · refine .inl ⟨h1, ?_⟩
        simp only [List.mem_cons, not_or]; exact ⟨fun e => h e.symm, h2⟩
      · refine .inr ⟨j + 1, by rw [h1]; congr 1; omega, by simpa using h2, ?_⟩
        simp only [List.take_succ_cons, List.mem_cons, not_or]; exact ⟨fun e => h e.symm, h3⟩
theorem ix_ge (e : List ByteArray) (s : ByteArray) : -1 ≤ ix e s ∧ ix e s < e.length := by
  unfold ix
  rcases ixE_spec e s 0 with ⟨h1, _⟩ | ⟨j, h1, h2, _⟩
  · omega
  · have := (List.getElem?_eq_some_iff.1 h2).1; omega
theorem ixE_hit {e : List ByteArray} {s : ByteArray} {i : Nat} (h : e[i]? = some s) (hn : s ∉ e.take i) : ix e s = i := by
  unfold ix
  rcases ixE_spec e s 0 with ⟨_, h2⟩ | ⟨j, h1, h2, h3⟩
  · exact absurd (List.mem_of_getElem? h) h2
  · rcases Nat.lt_trichotomy i j with hl | he | hl
    · exact absurd (List.mem_of_getElem? (by rw [List.getElem?_take, if_pos hl]; exact h)) h3
    · subst he; simpa using h1
    · exact absurd (List.mem_of_getElem? (by rw [List.getElem?_take, if_pos hl]; exact h2)) hn
theorem ixE_miss {e : List ByteArray} {s : ByteArray} (h : s ∉ e) : ix e s = -1 := by
  unfold ix
  rcases ixE_spec e s 0 with ⟨h1, _⟩ | ⟨j, _, h2, _⟩
  · exact h1
  · exact absurd (List.mem_of_getElem? h2) h
def bindsB (k : Int) (i : Nat) : Bool := k == 4 || k == 7 || (k == 6 && i == 1)
def envOf (k : Int) (nm : ByteArray) (i : Nat) (e : List ByteArray) : List ByteArray := if bindsB k i then nm :: e else e
def bindK (k : Int) : Bool := k == 4 || k == 6 || k == 7
section
variable {σ : Type} (stp : σ → Nd → List ByteArray → σ) (out : Nd → List ByteArray → Nd)
def wk : Int → ByteArray → Nat → σ → List ByteArray → To → σ × To
  | _, _, _, s, _, .nil => (s, .nil)
  | bk, nm, i, s, e, .cons h ps r =>
    let q : σ × Nd × To := if h.k = 1 then (stp s h (envOf bk nm i e), out h (envOf bk nm i e), ps) else
      ((wk h.k h.nm 0 s (envOf bk nm i e) ps).1, h, (wk h.k h.nm 0 s (envOf bk nm i e) ps).2)
    ((wk bk nm (i + 1) q.1 e r).1, .cons q.2.1 q.2.2 (wk bk nm (i + 1) q.1 e r).2)
def wk1 (s : σ) (e : List ByteArray) (h : Nd) (ps : To) : σ × Nd × To :=
  if h.k = 1 then (stp s h e, out h e, ps) else ((wk stp out h.k h.nm 0 s e ps).1, h, (wk stp out h.k h.nm 0 s e ps).2)
theorem wk_cons (bk : Int) (nm : ByteArray) (i : Nat) (s : σ) (e : List ByteArray) (h : Nd) (ps r : To) : wk stp out bk nm i s e (.cons h ps r) =
    ((wk stp out bk nm (i + 1) (wk1 stp out s (envOf bk nm i e) h ps).1 e r).1, .cons (wk1 stp out s (envOf bk nm i e) h ps).2.1 (wk1 stp out s (envOf bk nm i e) h ps).2.2 (wk stp out bk nm (i + 1) (wk1 stp out s (envOf bk nm i e) h ps).1 e r).2) := rfl
end
def fr (e : List ByteArray) : Nd → To → List (Nd × To) := fun h ps => (wk1 (fun s x e => if ix e x.nm < 0 then s ++ [(x, To.nil)] else s) (fun x _ => x) [] e h ps).1
def rsO (x : Nd) (e : List ByteArray) : Nd := if 0 ≤ ix e x.nm then { x with n := ix e x.nm } else x
def brO (x : Nd) (e : List ByteArray) : Nd := { x with n := ix e x.nm, nm := if 0 ≤ ix e x.nm then ByteArray.empty else x.nm }
end Sc
end Go.Proofs.YtnfodiedalhlhaaDoor
end
section
namespace Go.Proofs.YtnfodiedalhlhaaDoor
open Go.RowKit
structure Fr (S : Nat → Prop) (w w' : World) : Prop where
  os : w'.os = w.os
  tape : w'.tape = w.tape
  output : w'.output = w.output
  size : w.heap.size ≤ w'.heap.size
  block : ∀ k, k < w.heap.size → ¬ S k → w'.heap[k]? = w.heap[k]?
theorem Fr.refl (S : Nat → Prop) (w : World) : Fr S w w := ⟨rfl, rfl, rfl, Nat.le_refl _, fun _ _ _ => rfl⟩
theorem Fr.trans {S : Nat → Prop} {a b c : World} (h : Fr S a b) (k : Fr S b c) : Fr S a c :=
  ⟨k.os.trans h.os, k.tape.trans h.tape, k.output.trans h.output, Nat.le_trans h.size k.size,
    fun i hi hs => (k.block i (Nat.lt_of_lt_of_le hi h.size) hs).trans (h.block i hi hs)⟩
theorem Fr.trans' {S T : Nat → Prop} {a b c : World} (h : Fr S a b) (k : Fr T b c) (hT : ∀ i, i < a.heap.size → T i → S i) : Fr S a c :=
  ⟨k.os.trans h.os, k.tape.trans h.tape, k.output.trans h.output, Nat.le_trans h.size k.size,
    fun i hi hs => (k.block i (Nat.lt_of_lt_of_le hi h.size) (fun ht => hs (hT i hi ht))).trans (h.block i hi hs)⟩
theorem Fr.mono {S T : Nat → Prop} {w w' : World} (h : Fr S w w') (hT : ∀ k, k < w.heap.size → S k → T k) : Fr T w w' :=
  ⟨h.os, h.tape, h.output, h.size, fun k hk hs => h.block k hk (fun hh => hs (hT k hk hh))⟩
theorem Fr.setCell (S : Nat → Prop) (w : World) (p : Addr) (u : Value) (hp : S p.block) : Fr S w (w.setCell p u) :=
  ⟨rfl, rfl, rfl, by simp [World.setCell], fun k _ hs => Below.heap_setCell _ _ _ _ (fun e => hs (by rw [e]; exact hp))⟩
theorem Fr.alloc (S : Nat → Prop) (w : World) (o : Obj) : Fr S w (w.alloc o) :=
  ⟨rfl, rfl, rfl, by simp, fun k hk _ => Below.heap_alloc _ _ _ hk⟩
theorem Fr.drew (S : Nat → Prop) (w : World) : Fr S w w.drew := ⟨rfl, rfl, rfl, Nat.le_refl _, fun _ _ _ => rfl⟩
theorem Fr.drewN (S : Nat → Prop) (w : World) (n : Nat) : Fr S w (w.drewN n) := ⟨rfl, rfl, rfl, Nat.le_refl _, fun _ _ _ => rfl⟩
theorem Fr.grown {S : Nat → Prop} {w w' : World} {row : Option Nat} (h : w.grownBy w' row) (hS : ∀ k, row = some k → S k) : Fr S w w' :=
  ⟨h.os, h.tape, h.output, h.size, fun k hk hs => h.block k hk (fun e => hs (hS k e.symm))⟩
theorem Fr.below {S : Nat → Prop} {w w' : World} {B : Nat} (h : Fr S w w') (hB : B ≤ w.heap.size) (hS : ∀ k, S k → B ≤ k) : Below B w w' :=
  ⟨h.os, h.tape, h.output, h.size, fun k hk => h.block k (Nat.lt_of_lt_of_le hk hB) (fun e => by have := hS k e; omega)⟩
theorem Fr.cell {S : Nat → Prop} {w w' : World} (h : Fr S w w') {a : Addr} (hk : a.block < w.heap.size) (hs : ¬ S a.block) : w'.cell? a = w.cell? a := by
  simp [World.cell?, h.block _ hk hs]
theorem ownsRow_base {w : World} {base base' : Nat} {e : TypeId} {size : Nat} {v : Value} {n : Nat} {xs : List Value} (h : w.ownsRow base e size v n xs) (hb : ∀ k, v.ownBlock = some k → base' ≤ k) : w.ownsRow base' e size v n xs := by
  refine ⟨h.1, ?_⟩
  rcases h.2 with hn | ⟨g, cap, cur, rfl, hb', rest⟩
  · exact .inl hn
  · exact .inr ⟨g, cap, cur, rfl, hb g rfl, rest⟩
theorem ownsRow_same {w w' : World} {base : Nat} {e : TypeId} {size : Nat} {v : Value} {n : Nat} {xs : List Value} (h : w.ownsRow base e size v n xs) (hb : ∀ k, v.ownBlock = some k → w'.heap[k]? = w.heap[k]?) : w'.ownsRow base e size v n xs := by
  refine ⟨h.1, ?_⟩
  rcases h.2 with hn | ⟨g, cap, cur, rfl, hb', hgg, rest⟩
  · exact .inl hn
  · exact .inr ⟨g, cap, cur, rfl, hb', by rw [hb g rfl]; exact hgg, rest⟩
theorem ownsRow_setCell_other {w : World} {base : Nat} {e : TypeId} {size : Nat} {v : Value} {n : Nat} {xs : List Value} (h : w.ownsRow base e size v n xs) (p : Addr) (u : Value) (hb : v.ownBlock ≠ some p.block) : (w.setCell p u).ownsRow base e size v n xs :=
  ownsRow_same h (fun k hk => Below.heap_setCell _ _ _ _ (fun e => hb (by rw [hk, e])))
theorem ownsRow_fr {S : Nat → Prop} {w w' : World} {base : Nat} {e : TypeId} {size : Nat} {v : Value} {n : Nat} {xs : List Value} (h : w.ownsRow base e size v n xs) (hf : Fr S w w') (hb : ∀ k, v.ownBlock = some k → ¬ S k) : w'.ownsRow base e size v n xs :=
  ownsRow_same h (fun k hk => hf.block k (h.lt k hk).2 (hb k hk))
theorem wpList_append_two {P : Program} (w : World) {ops : Array Oper} {rest : List Oper} {o : Oper} {a : Act} {Q : Exit → Act → World → Prop}
    (hg : o.guard = none) (s x : Operand) (t : TypeId) (hop : o.op = Op.call { callee := Callee.builtin Builtin.append, args := #[s, x], argTypes := #[t, t] })
    (base : Nat) (e : TypeId) (i : TypeInfo) (z : Value) (size bytes : Nat) (h1 : P.underlying t = some (.slice e)) (h2 : P.info? e = some i) (h3 : i.zero = some z) (h4 : i.size = size) (h5 : i.bytes = bytes) (h6 : z.cells.size = size) (h7 : 0 < size)
    (v : Value) (n : Nat) (xs : List Value) (hs : a.eval s = v) (hown : w.ownsRow base e size v n xs)
    (ad : Addr) (m c : Nat) (news : List Value) (hx : a.eval x = .slice (some ad) m c) (hn : news.length = m * size) (hc : ∀ j u, news[j]? = some u → w.cell? (ad.add j) = some u) (h1c : ∀ u ∈ news, u.oneCell' = true)
    (hm : 0 < m) (b1 : n + m ≤ maxLen) (b2 : (n + m) * bytes ≤ 140737488355328) (b3 : base ≤ w.heap.size)
    (hK : ∀ v' w', w'.ownsRow base e size v' (n + m) (xs ++ news) → w.grownBy w' v.ownBlock → (∃ k, v'.ownBlock = some k ∧ (v.ownBlock = some k ∨ w.heap.size ≤ k)) → wpList P ops Q rest (a.put o.dst v') w') :
    wpList P ops Q (o :: rest) a w := by
  rcases hown.2 with ⟨rfl, rfl⟩ | ⟨g, cap, cur, rfl, hbg, hgg, hnc, hcm, hcs, htake⟩
  · have hx0 : xs = [] := List.eq_nil_of_length_eq_zero (by simpa using hown.1)
    subst hx0
    refine wpList_append_grows w hg s x t hop e i z size bytes h1 h2 h3 h4 h5 h6 h7 none 0 0 [] hs (fun _ => ⟨rfl, rfl⟩) (by simp) (fun b hb => by cases hb) ad m c news hx hn hc h1c (by omega) b1 b2 ?_
    intro v' w' ho hgr
    have hlt := ho.lt
    rcases ho.2 with ⟨rfl, h0⟩ | ⟨k, cap, cur, rfl, hk, _⟩
    · omega
    · exact hK _ _ (ownsRow_base ho (fun k' hk' => Nat.le_trans b3 (hlt k' hk').1)) ⟨hgr.os, hgr.tape, hgr.output, hgr.size, fun k hk hne => hgr.block k hk (by simp)⟩ ⟨k, rfl, .inr hk⟩
  · by_cases hroom : n + m ≤ cap
    · refine wpList_append_fits w hg s x t hop base e i size h1 h2 h4 g n cap xs hs hown ad m c news hx hn hc h1c hroom ?_
      intro w' ho hgr
      exact hK _ _ ho hgr ⟨g, rfl, .inl rfl⟩
    · refine wpList_append_grows w hg s x t hop e i z size bytes h1 h2 h3 h4 h5 h6 h7 (some ⟨g, 0, none⟩) n cap xs hs (fun hh => by cases hh) hown.1 ?_ ad m c news hx hn hc h1c (by omega) b1 b2 ?_
      · intro b hb j u hu
        cases hb
        exact hown.cells (g := g) rfl j u hu
      · intro v' w' ho hgr
        have hlt := ho.lt
        rcases ho.2 with ⟨rfl, h0⟩ | ⟨k, cap', cur', rfl, hk, _⟩
        · omega
        · exact hK _ _ (ownsRow_base ho (fun k' hk' => Nat.le_trans b3 (hlt k' hk').1)) ⟨hgr.os, hgr.tape, hgr.output, hgr.size, fun k hk hne => hgr.block k hk (by simp)⟩ ⟨k, rfl, .inr hk⟩
end Go.Proofs.YtnfodiedalhlhaaDoor
end
section
namespace Go.Proofs.YtnfodiedalhlhaaDoor
open Go.RowKit
theorem Fr.cellb {S : Nat → Prop} {w w' : World} (h : Fr S w w') {b off : Nat} (hk : b < w.heap.size) (hs : ¬ S b) : w'.cell? ⟨b, off, none⟩ = w.cell? ⟨b, off, none⟩ := h.cell hk hs
structure Elem (P : Program) (t e : TypeId) (z : Value) (size bytes : Nat) : Prop where
  under : P.underlying t = some (.slice e)
  info : (P.info? e).map (fun i => (i.zero, i.size, i.bytes)) = some (some z, size, bytes)
  cells : z.cells.size = size
  pos : 0 < size
theorem wpList_append_one {P : Program} (W : World) {ops : Array Oper} {rest : List Oper} {o : Oper} {a : Act} {Q : Exit → Act → World → Prop}
    (hg : o.guard = none) (s x : Operand) (t : TypeId) (hop : o.op = Op.call { callee := Callee.builtin Builtin.append, args := #[s, x], argTypes := #[t, t] })
    (e : TypeId) (z : Value) (size bytes : Nat) (he : Elem P t e z size bytes)
    (v : Value) (n : Nat) (xs : List Value) (hs : a.eval s = v) (hown : W.ownsRow 0 e size v n xs)
    (news : Array Value) (hx : a.eval x = .slice (some ⟨W.heap.size, 0, none⟩) 1 1) (hn : news.size = size) (h1c : ∀ u ∈ news.toList, u.oneCell' = true)
    (b1 : n + 1 ≤ maxLen) (b2 : (n + 1) * bytes ≤ 140737488355328)
    (hK : ∀ g c w', w'.ownsRow 0 e size (.slice (some ⟨g, 0, none⟩) (n + 1) c) (n + 1) (xs ++ news.toList) → Fr (fun k => v.ownBlock = some k) W w' → (v.ownBlock = some g ∨ W.heap.size ≤ g) → wpList P ops Q rest (a.put o.dst (.slice (some ⟨g, 0, none⟩) (n + 1) c)) w') :
    wpList P ops Q (o :: rest) a (W.alloc (.cells news e)) := by
  obtain ⟨i0, hi, hz0, hz1, hz2⟩ := info_parts he.info
  refine wpList_append_two (W.alloc (.cells news e)) hg s x t hop 0 e i0 z size bytes he.under hi hz0 hz1 hz2 he.cells he.pos v n xs hs (hown.alloc _) ⟨W.heap.size, 0, none⟩ 1 1 news.toList hx (by simpa using hn) ?_ h1c (by omega) b1 b2 (Nat.zero_le _) ?_
  · intro j u hu
    rw [Addr.add_lit, cell_of_row (W.alloc (.cells news e)) W.heap.size (0 + j) news e (0, 0) (heap_alloc_new W _)]
    simpa using hu
  · intro v' w' ho hgr hblk
    obtain ⟨k, hk, hk'⟩ := hblk
    rcases ho.2 with ⟨rfl, h0⟩ | ⟨g, cap, cur, rfl, _⟩
    · omega
    · simp [Value.ownBlock] at hk
      subst hk
      refine hK g cap w' ho ((Fr.alloc _ W _).trans (Fr.grown hgr (fun k hk => hk))) ?_
      rcases hk' with h | h
      · exact .inl h
      · exact .inr (by simp at h; omega)
end Go.Proofs.YtnfodiedalhlhaaDoor
end
section
namespace Go.Proofs.YtnfodiedalhlhaaDoor
open Go.RowKit
def Quiet0 (w w' : World) : Prop := Fr (fun _ => False) w w'
theorem Quiet0.refl (w : World) : Quiet0 w w := Fr.refl _ w
theorem Quiet0.trans {a b c : World} (h : Quiet0 a b) (k : Quiet0 b c) : Quiet0 a c := Fr.trans h k
theorem Quiet0.alloc (w : World) (o : Obj) : Quiet0 w (w.alloc o) := Fr.alloc _ w o
theorem Quiet0.below {w w' : World} (h : Quiet0 w w') : Below w.heap.size w w' := Fr.below h (Nat.le_refl _) (fun _ h => h.elim)
theorem Quiet0.drewN (w : World) (n : Nat) : Quiet0 w (w.drewN n) := Fr.drewN _ w n
theorem Quiet0.drew (w : World) : Quiet0 w w.drew := Fr.drew _ w
theorem Quiet0.at {w w' : World} (h : Quiet0 w w') {b off : Nat} {v : Value} (hc : w.cell? ⟨b, off, none⟩ = some v) : w'.cell? ⟨b, off, none⟩ = some v :=
  (h.cellb (World.block_lt_of_cell? w _ hc) (fun h => h)).trans hc
end Go.Proofs.YtnfodiedalhlhaaDoor
end
section
namespace Go.Proofs.YtnfodiedalhlhaaDoor
open Go.RowKit
def At (w : World) : Nat → Nat → Fo → Prop
  | _, _, .nil => True
  | b, off, .cons k n ps r => w.cell? ⟨b, off, none⟩ = some (.int .i64 k) ∧ w.cell? ⟨b, off + 1, none⟩ = some (.int .i64 n) ∧
      (∃ o len cap, w.cell? ⟨b, off + 2, none⟩ = some (.slice o len cap) ∧ len = ps.length ∧ len ≤ maxLen ∧ (0 < len → ∃ b' off', o = some ⟨b', off', none⟩ ∧ At w b' off' ps)) ∧ At w b (off + 3) r
def Slc (w : World) (o : Option Addr) (len : Nat) (f : Fo) : Prop := len = f.length ∧ len ≤ maxLen ∧ (0 < len → ∃ b off, o = some ⟨b, off, none⟩ ∧ At w b off f)
theorem Slc.nil (w : World) (o : Option Addr) : Slc w o 0 .nil := ⟨rfl, Nat.zero_le _, fun h => absurd h (Nat.lt_irrefl _)⟩
theorem At.stay {w w' : World} (hq : Quiet0 w w') : ∀ (f : Fo) (b off : Nat), At w b off f → At w' b off f
  | .nil, _, _, _ => trivial
  | .cons k n ps r, b, off, h => by
    obtain ⟨h1, h2, ⟨o, len, cap, h3, h4, h4', h5⟩, h6⟩ := h
    refine ⟨hq.at h1, hq.at h2, ⟨o, len, cap, hq.at h3, h4, h4', fun hl => ?_⟩, At.stay hq r b (off + 3) h6⟩
    obtain ⟨b', off', ho, ha⟩ := h5 hl
    exact ⟨b', off', ho, At.stay hq ps b' off' ha⟩
theorem Slc.stay {w w' : World} {o : Option Addr} {len : Nat} {f : Fo} (h : Slc w o len f) (hq : Quiet0 w w') : Slc w' o len f := by
  refine ⟨h.1, h.2.1, fun hl => ?_⟩
  obtain ⟨b, off, ho, ha⟩ := h.2.2 hl
  exact ⟨b, off, ho, At.stay hq f b off ha⟩
theorem At.nth {w : World} : ∀ (f : Fo) (b off i : Nat), At w b off f → i < f.length → ∃ k n ps o len cap, f.drop i = .cons k n ps (f.drop (i + 1)) ∧ f.get i = some (k, n, ps) ∧
    w.cell? ⟨b, off + i * 3, none⟩ = some (.int .i64 k) ∧ w.cell? ⟨b, off + i * 3 + 1, none⟩ = some (.int .i64 n) ∧ w.cell? ⟨b, off + i * 3 + 2, none⟩ = some (.slice o len cap) ∧ Slc w o len ps
  | .nil, _, _, _, _, h => by simp [Fo.length] at h
  | .cons k n ps r, b, off, 0, h, _ => by
    obtain ⟨h1, h2, ⟨o, len, cap, h3, h4, h4', h5⟩, h6⟩ := h
    exact ⟨k, n, ps, o, len, cap, by simp [Fo.drop, Fo.drop_zero], rfl, by simpa using h1, by simpa using h2, by simpa using h3, h4, h4', h5⟩
  | .cons k n ps r, b, off, i + 1, h, hi => by
    obtain ⟨_, _, _, h6⟩ := h
    obtain ⟨k', n', ps', o, len, cap, e1, e2, c1, c2, c3, hs⟩ := At.nth r b (off + 3) i h6 (by simp [Fo.length] at hi; omega)
    refine ⟨k', n', ps', o, len, cap, by simp only [Fo.drop]; rw [e1], e2, ?_, ?_, ?_, hs⟩
    · rw [show off + (i + 1) * 3 = off + 3 + i * 3 from by omega]; exact c1
    · rw [show off + (i + 1) * 3 = off + 3 + i * 3 from by omega]; exact c2
    · rw [show off + (i + 1) * 3 = off + 3 + i * 3 from by omega]; exact c3
theorem Slc.nth {w : World} {o : Option Addr} {len : Nat} {f : Fo} (h : Slc w o len f) {i : Nat} (hi : i < len) : ∃ b off k n ps o' len' cap', o = some ⟨b, off, none⟩ ∧ f.drop i = .cons k n ps (f.drop (i + 1)) ∧ f.get i = some (k, n, ps) ∧
    w.cell? ⟨b, off + i * 3, none⟩ = some (.int .i64 k) ∧ w.cell? ⟨b, off + i * 3 + 1, none⟩ = some (.int .i64 n) ∧ w.cell? ⟨b, off + i * 3 + 2, none⟩ = some (.slice o' len' cap') ∧ Slc w o' len' ps := by
  obtain ⟨b, off, rfl, ha⟩ := h.2.2 (by omega)
  obtain ⟨k, n, ps, o', len', cap', h1⟩ := At.nth f b off i ha (by have := h.1; omega)
  exact ⟨b, off, k, n, ps, o', len', cap', rfl, h1⟩
def tyv (k n : Int) (o : Option Addr) (len cap : Nat) : Value := .agg #[.int .i64 k, .int .i64 n, .slice o len cap]
theorem box_cells (w : World) (k n : Int) (o : Option Addr) (len cap : Nat) (t : TypeId) (W : World) (hW : Quiet0 (w.alloc (.cells #[.int .i64 k, .int .i64 n, .slice o len cap] t)) W) :
    W.cell? ⟨w.heap.size, 0, none⟩ = some (.int .i64 k) ∧ W.cell? ⟨w.heap.size, 1, none⟩ = some (.int .i64 n) ∧ W.cell? ⟨w.heap.size, 2, none⟩ = some (.slice o len cap) := by
  refine ⟨hW.at ?_, hW.at ?_, hW.at ?_⟩ <;> (rw [cell_of_row _ _ _ _ _ (0, 0) (heap_alloc_new w _)]; rfl)
end Go.Proofs.YtnfodiedalhlhaaDoor
end
section
namespace Go.Proofs.YtnfodiedalhlhaaDoor
open Go.RowKit
def AtIn (R : Nat → Prop) (w : World) : Nat → Nat → Fo → Prop
  | _, _, .nil => True
  | b, off, .cons k n ps r => R b ∧ w.cell? ⟨b, off, none⟩ = some (.int .i64 k) ∧ w.cell? ⟨b, off + 1, none⟩ = some (.int .i64 n) ∧
      (∃ o len cap, w.cell? ⟨b, off + 2, none⟩ = some (.slice o len cap) ∧ len = ps.length ∧ len ≤ maxLen ∧ (0 < len → ∃ b' off', o = some ⟨b', off', none⟩ ∧ AtIn R w b' off' ps)) ∧ AtIn R w b (off + 3) r
def SlcIn (R : Nat → Prop) (w : World) (o : Option Addr) (len : Nat) (f : Fo) : Prop := len = f.length ∧ len ≤ maxLen ∧ (0 < len → ∃ b off, o = some ⟨b, off, none⟩ ∧ AtIn R w b off f)
theorem AtIn.at {R : Nat → Prop} {w : World} : ∀ (f : Fo) (b off : Nat), AtIn R w b off f → At w b off f
  | .nil, _, _, _ => trivial
  | .cons k n ps r, b, off, h => by
    obtain ⟨_, h1, h2, ⟨o, len, cap, h3, h4, h4', h5⟩, h6⟩ := h
    refine ⟨h1, h2, ⟨o, len, cap, h3, h4, h4', fun hl => ?_⟩, AtIn.at r b (off + 3) h6⟩
    obtain ⟨b', off', ho, ha⟩ := h5 hl
    exact ⟨b', off', ho, AtIn.at ps b' off' ha⟩
theorem SlcIn.slc {R : Nat → Prop} {w : World} {o : Option Addr} {len : Nat} {f : Fo} (h : SlcIn R w o len f) : Slc w o len f := by
  refine ⟨h.1, h.2.1, fun hl => ?_⟩
  obtain ⟨b, off, ho, ha⟩ := h.2.2 hl
  exact ⟨b, off, ho, AtIn.at f b off ha⟩
theorem AtIn.fr {R T S : Nat → Prop} {w w' : World} (hf : Fr S w w') (hR : ∀ k, k < w.heap.size → R k → T k ∧ ¬ S k) : ∀ (f : Fo) (b off : Nat), AtIn R w b off f → AtIn T w' b off f
  | .nil, _, _, _ => trivial
  | .cons k n ps r, b, off, h => by
    obtain ⟨h0, h1, h2, ⟨o, len, cap, h3, h4, h4', h5⟩, h6⟩ := h
    have hb : b < w.heap.size := World.block_lt_of_cell? w _ h1
    obtain ⟨hT, hS⟩ := hR b hb h0
    refine ⟨hT, (hf.cellb hb hS).trans h1, (hf.cellb hb hS).trans h2, ⟨o, len, cap, (hf.cellb hb hS).trans h3, h4, h4', fun hl => ?_⟩, AtIn.fr hf hR r b (off + 3) h6⟩
    obtain ⟨b', off', ho, ha⟩ := h5 hl
    exact ⟨b', off', ho, AtIn.fr hf hR ps b' off' ha⟩
theorem SlcIn.fr {R T S : Nat → Prop} {w w' : World} {o : Option Addr} {len : Nat} {f : Fo} (h : SlcIn R w o len f) (hf : Fr S w w') (hR : ∀ k, k < w.heap.size → R k → T k ∧ ¬ S k) : SlcIn T w' o len f := by
  refine ⟨h.1, h.2.1, fun hl => ?_⟩
  obtain ⟨b, off, ho, ha⟩ := h.2.2 hl
  exact ⟨b, off, ho, AtIn.fr hf hR f b off ha⟩
theorem SlcIn.nil (R : Nat → Prop) (w : World) (o : Option Addr) : SlcIn R w o 0 .nil := ⟨rfl, Nat.zero_le _, fun h => absurd h (Nat.lt_irrefl _)⟩
def RowOf (R : Nat → Prop) (w : World) : List Value → Fo → Prop
  | xs, .nil => xs = []
  | xs, .cons k n ps r => ∃ o len cap ys, xs = .int .i64 k :: .int .i64 n :: .slice o len cap :: ys ∧ SlcIn R w o len ps ∧ RowOf R w ys r
theorem RowOf.fr {R T S : Nat → Prop} {w w' : World} (hf : Fr S w w') (hR : ∀ k, k < w.heap.size → R k → T k ∧ ¬ S k) : ∀ (f : Fo) (xs : List Value), RowOf R w xs f → RowOf T w' xs f
  | .nil, _, h => h
  | .cons k n ps r, xs, h => by
    obtain ⟨o, len, cap, ys, rfl, hs, hr⟩ := h
    exact ⟨o, len, cap, ys, rfl, hs.fr hf hR, RowOf.fr hf hR r ys hr⟩
theorem RowOf.snoc {R : Nat → Prop} {w : World} {k n : Int} {ps : Fo} {o : Option Addr} {len cap : Nat} (hs : SlcIn R w o len ps) : ∀ (f : Fo) (xs : List Value), RowOf R w xs f → RowOf R w (xs ++ [.int .i64 k, .int .i64 n, .slice o len cap]) (f.app (.cons k n ps .nil))
  | .nil, xs, h => by
    cases h
    exact ⟨o, len, cap, [], rfl, hs, rfl⟩
  | .cons k' n' ps' r, xs, h => by
    obtain ⟨o', len', cap', ys, rfl, hs', hr⟩ := h
    exact ⟨o', len', cap', _, rfl, hs', RowOf.snoc hs r ys hr⟩
theorem RowOf.length {R : Nat → Prop} {w : World} : ∀ (f : Fo) (xs : List Value), RowOf R w xs f → xs.length = 3 * f.length
  | .nil, xs, h => by cases h; rfl
  | .cons k' n' ps' r, xs, h => by
    obtain ⟨o', len', cap', ys, rfl, hs', hr⟩ := h
    have := RowOf.length r ys hr
    simp [Fo.length]; omega
theorem RowOf.at {R : Nat → Prop} {w : World} {g : Nat} (hg : R g) : ∀ (f : Fo) (xs : List Value) (off : Nat), RowOf R w xs f → (∀ j u, xs[j]? = some u → w.cell? ⟨g, off + j, none⟩ = some u) → AtIn R w g off f
  | .nil, _, _, _, _ => trivial
  | .cons k n ps r, xs, off, h, hc => by
    obtain ⟨o, len, cap, ys, rfl, hs, hr⟩ := h
    refine ⟨hg, hc 0 _ rfl, hc 1 _ rfl, ⟨o, len, cap, hc 2 _ rfl, hs.1, hs.2.1, hs.2.2⟩, RowOf.at hg r ys (off + 3) hr ?_⟩
    intro j u hj
    have := hc (j + 3) u (by simpa using hj)
    rw [← this]; congr 2; omega
structure TyRow (w : World) (B : Nat) (v : Value) (f : Fo) (xs : List Value) : Prop where
  own : w.ownsRow 0 25 3 v f.length xs
  low : ∀ k, v.ownBlock = some k → B ≤ k
  cells : RowOf (fun k => B ≤ k ∧ v.ownBlock ≠ some k) w xs f
theorem TyRow.nil (w : World) (B : Nat) : TyRow w B (.slice none 0 0) .nil [] := ⟨World.ownsRow_nil _ _ _ _, fun k hk => (by cases hk), rfl⟩
theorem TyRow.fr {w w' : World} {B : Nat} {v : Value} {f : Fo} {xs : List Value} {S : Nat → Prop} (h : TyRow w B v f xs) (hf : Fr S w w') (hS : ∀ k, S k → k < B) : TyRow w' B v f xs := by
  refine ⟨ownsRow_fr h.own hf (fun k hk hs => ?_), h.low, RowOf.fr hf (fun k _ hk => ⟨hk, fun hs => ?_⟩) f xs h.cells⟩
  · have := h.low k hk; have := hS k hs; omega
  · have := hS k hs; omega
theorem TyRow.stay {w w' : World} {B : Nat} {v : Value} {f : Fo} {xs : List Value} (h : TyRow w B v f xs) (hf : Quiet0 w w') : TyRow w' B v f xs := h.fr hf (fun _ hk => hk.elim)
theorem TyRow.snoc {W w1 : World} {B : Nat} {v : Value} {f : Fo} {xs : List Value} {k n : Int} {ps : Fo} {o : Option Addr} {len cap g c : Nat} (hr : TyRow W B v f xs)
    (hs : SlcIn (fun k => B ≤ k ∧ v.ownBlock ≠ some k) W o len ps)
    (ho : w1.ownsRow 0 25 3 (.slice (some ⟨g, 0, none⟩) (f.length + 1) c) (f.length + 1) (xs ++ [.int .i64 k, .int .i64 n, .slice o len cap])) (hf : Fr (fun k => v.ownBlock = some k) W w1) (hg : v.ownBlock = some g ∨ W.heap.size ≤ g) (hB : B ≤ W.heap.size) :
    TyRow w1 B (.slice (some ⟨g, 0, none⟩) (f.length + 1) c) (f.app (.cons k n ps .nil)) (xs ++ [.int .i64 k, .int .i64 n, .slice o len cap]) := by
  refine ⟨by rw [Fo.app_length]; exact ho, ?_, ?_⟩
  · intro k hk
    simp [Value.ownBlock] at hk
    subst hk
    rcases hg with h | h
    · exact hr.low g h
    · omega
  · have hk : ∀ k, k < W.heap.size → (B ≤ k ∧ v.ownBlock ≠ some k) → ((B ≤ k ∧ (Value.slice (some ⟨g, 0, none⟩) (f.length + 1) c).ownBlock ≠ some k) ∧ ¬ v.ownBlock = some k) := by
      rintro k hk ⟨h1, h2⟩
      refine ⟨⟨h1, fun h => ?_⟩, h2⟩
      simp [Value.ownBlock] at h
      subst h
      rcases hg with h | h
      · exact h2 h
      · omega
    exact RowOf.snoc (hs.fr hf hk) f xs (RowOf.fr hf hk f xs hr.cells)
theorem TyRow.slc {w : World} {B : Nat} {o : Option Addr} {len cap : Nat} {f : Fo} {xs : List Value} (h : TyRow w B (.slice o len cap) f xs) (hl : len = f.length) (hm : len ≤ maxLen) : SlcIn (fun k => B ≤ k) w o len f := by
  refine ⟨hl, hm, fun h0 => ?_⟩
  rcases h.own.2 with ⟨_, h2⟩ | ⟨g, cap', cur, he, _⟩
  · omega
  · injection he with h1 h2 h3
    subst h1
    refine ⟨g, 0, rfl, RowOf.at (h.low g rfl) f xs 0 (RowOf.fr (Fr.refl (fun _ => False) w) (fun k _ hk => ⟨hk.1, fun h => h⟩) f xs h.cells) ?_⟩
    intro j u hj
    have := h.own.cells (g := g) rfl j u hj
    simpa [Addr.add_lit] using this
end Go.Proofs.YtnfodiedalhlhaaDoor
end
