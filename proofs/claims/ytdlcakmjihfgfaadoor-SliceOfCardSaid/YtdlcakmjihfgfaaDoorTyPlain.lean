/-
  Types as trees, in plain words: a list of types is a 'Fo' (first one: its kind, its number, its parts; and the rest). No program in sight.
-/
import Derived.WalkKit
namespace Go.Proofs.YtdlcakmjihfgfaaDoor

inductive Fo where
  | nil : Fo
  | cons (k n : Int) (ps : Fo) (rest : Fo) : Fo

def inB (l : List Int) (v : Int) : Bool := l.contains v
theorem inB_cons (a : Int) (l : List Int) (v : Int) : inB (a :: l) v = (v == a || inB l v) := by unfold inB; rw [List.contains_cons]
namespace Fo
def length : Fo → Nat
  | nil => 0
  | cons _ _ _ r => r.length + 1
def drop : Fo → Nat → Fo
  | f, 0 => f
  | nil, _ + 1 => nil
  | cons _ _ _ r, i + 1 => r.drop i
def get : Fo → Nat → Option (Int × Int × Fo)
  | nil, _ => none
  | cons k n ps _, 0 => some (k, n, ps)
  | cons _ _ _ r, i + 1 => r.get i
def app : Fo → Fo → Fo
  | nil, g => g
  | cons k n ps r, g => cons k n ps (r.app g)
/-- how many types all in all -/
def size : Fo → Nat
  | nil => 0
  | cons _ _ ps r => ps.size + 1 + r.size
/-- how deep the deepest one is -/
def depth : Fo → Nat
  | nil => 0
  | cons _ _ ps r => max (ps.depth + 1) r.depth
def same : Fo → Fo → Bool
  | nil, nil => true
  | cons k n ps r, cons k' n' ps' r' => (k == k') && (n == n') && ps.same ps' && r.same r'
  | _, _ => false
def vars : List Int → Fo → List Int
  | l, nil => l
  | l, cons k n ps r => vars (vars (if k == 1 && !inB l n then l ++ [n] else l) ps) r
def plain (k n : Int) (m : Nat) : Bool :=
  if k == 1 then decide (0 ≤ n) && decide (n < 1073741824) && decide (m = 0)
  else if k == 2 || k == 3 then n == 0 && decide (m = 0)
  else if k == 4 then n == 0 && decide (m = 2)
  else if k == 5 then n == 0 && decide (2 ≤ m) && decide (m ≤ 8)
  else false
def right : Fo → Bool
  | nil => true
  | cons k n ps r => plain k n ps.length && ps.right && r.right
/-- each variable's number by a function -/
def change (p : Int → Int) : Fo → Fo
  | nil => nil
  | cons k n ps r => cons k (if k == 1 then p n else n) (ps.change p) (r.change p)

theorem drop_zero (f : Fo) : f.drop 0 = f := by cases f <;> rfl
theorem drop_get : ∀ (f : Fo) (i : Nat), i < f.length → ∃ k n ps, f.drop i = cons k n ps (f.drop (i + 1)) ∧ f.get i = some (k, n, ps)
  | nil, i, h => by simp [length] at h
  | cons k n ps r, 0, _ => ⟨k, n, ps, by simp [drop, drop_zero], rfl⟩
  | cons k n ps r, i + 1, h => by
    obtain ⟨k', n', ps', h1, h2⟩ := drop_get r i (by simp [length] at h; omega)
    exact ⟨k', n', ps', by simp only [drop]; rw [h1], h2⟩
theorem drop_end : ∀ (f : Fo) (i : Nat), f.length ≤ i → f.drop i = nil
  | nil, 0, _ => rfl
  | nil, i + 1, _ => rfl
  | cons k n ps r, 0, h => by simp [length] at h
  | cons k n ps r, i + 1, h => drop_end r i (by simp [length] at h; omega)
theorem get_lt : ∀ (f : Fo) (i : Nat) (t : Int × Int × Fo), f.get i = some t → i < f.length
  | nil, i, t, h => by simp [get] at h
  | cons k n ps r, 0, t, _ => by simp [length]
  | cons k n ps r, i + 1, t, h => by have := get_lt r i t h; simp [length]; omega
theorem length_le : ∀ f : Fo, f.length ≤ f.size
  | nil => Nat.le_refl _
  | cons k n ps r => by have := length_le r; simp only [length, size]; omega
theorem size_drop : ∀ (f : Fo) (i : Nat), (f.drop i).size ≤ f.size
  | f, 0 => by rw [drop_zero]; exact Nat.le_refl _
  | nil, i + 1 => Nat.le_refl _
  | cons k n ps r, i + 1 => by have := size_drop r i; simp only [drop, size]; omega
theorem size_get (f : Fo) (i : Nat) (k n : Int) (ps : Fo) (h : f.get i = some (k, n, ps)) : ps.size + 1 ≤ f.size := by
  obtain ⟨k', n', ps', h1, h2⟩ := drop_get f i (get_lt _ _ _ h)
  rw [h] at h2
  cases h2
  have := size_drop f i
  rw [h1] at this
  simp only [size] at this
  omega
theorem depth_le : ∀ f : Fo, f.depth ≤ f.size
  | nil => Nat.le_refl _
  | cons k n ps r => by have h1 := depth_le ps; have h2 := depth_le r; simp only [depth, size]; omega
theorem same_refl : ∀ f : Fo, f.same f = true
  | nil => rfl
  | cons k n ps r => by simp [same, same_refl ps, same_refl r]
theorem same_eq : ∀ f g : Fo, f.same g = true → f = g
  | nil, nil, _ => rfl
  | nil, cons _ _ _ _, h => by simp [same] at h
  | cons _ _ _ _, nil, h => by simp [same] at h
  | cons k n ps r, cons k' n' ps' r', h => by
    simp [same] at h
    obtain ⟨⟨⟨rfl, rfl⟩, h3⟩, h4⟩ := h
    rw [same_eq ps ps' h3, same_eq r r' h4]
theorem same_length : ∀ f g : Fo, f.same g = true → f.length = g.length := fun f g h => by rw [same_eq f g h]
theorem change_length (p : Int → Int) : ∀ f : Fo, (f.change p).length = f.length
  | nil => rfl
  | cons k n ps r => by simp [change, length, change_length p r]
theorem change_size (p : Int → Int) : ∀ f : Fo, (f.change p).size = f.size
  | nil => rfl
  | cons k n ps r => by simp [change, size, change_size p r, change_size p ps]
theorem change_id : ∀ f : Fo, f.change (fun n => n) = f
  | nil => rfl
  | cons k n ps r => by simp [change, change_id r, change_id ps]

theorem app_nil : ∀ f : Fo, f.app nil = f
  | nil => rfl
  | cons k n ps r => by simp [app, app_nil r]
theorem app_assoc : ∀ f g h : Fo, (f.app g).app h = f.app (g.app h)
  | nil, _, _ => rfl
  | cons k n ps r, g, h => by simp [app, app_assoc r g h]
theorem app_length : ∀ f g : Fo, (f.app g).length = f.length + g.length
  | nil, g => by simp [app, length]
  | cons k n ps r, g => by simp [app, length, app_length r g]; omega
/-- what is so of a type if it is so of its parts is so of every type -/
theorem ind {T : Int → Int → Fo → Prop} (step : ∀ k n ps, (∀ i k' n' qs, ps.get i = some (k', n', qs) → T k' n' qs) → T k n ps) : ∀ (f : Fo) (i : Nat) (k n : Int) (ps : Fo), f.get i = some (k, n, ps) → T k n ps
  | nil, i, k, n, ps, h => by simp [get] at h
  | cons k n ps r, 0, k', n', qs, h => by
    simp [get] at h
    obtain ⟨rfl, rfl, rfl⟩ := h
    exact step k n ps (ind step ps)
  | cons k n ps r, i + 1, k', n', qs, h => ind step r i k' n' qs h
theorem ind' {T : Int → Int → Fo → Prop} (step : ∀ k n ps, (∀ i k' n' qs, ps.get i = some (k', n', qs) → T k' n' qs) → T k n ps) (k n : Int) (ps : Fo) : T k n ps :=
  step k n ps (fun i k' n' qs h => ind step ps i k' n' qs h)

/-- how much is left of m, types taken from it (the law's room, over parts that lie d deep at most) -/
def room : Nat → Int → Fo → Int
  | _, m, nil => m
  | d, m, cons _ _ ps r => if m < 0 then m else
      match d with
      | 0 => room 0 (-1) r
      | d + 1 => room (d + 1) (room d (m - 1) ps) r
theorem room_neg : ∀ (f : Fo) (d : Nat) (m : Int), m < 0 → room d m f = m
  | nil, _, _, _ => by unfold room; rfl
  | cons k n ps r, d, m, h => by unfold room; rw [if_pos h]
theorem room_le : ∀ (f : Fo) (d : Nat) (m : Int), 0 ≤ m → room d m f ≤ m ∧ -1 ≤ room d m f
  | nil, _, _, _ => by unfold room; omega
  | cons k n ps r, d, m, h => by
    unfold room
    rw [if_neg (by omega)]
    cases d with
    | zero => simp only; rw [room_neg r 0 (-1) (by omega)]; omega
    | succ d =>
      simp only
      by_cases hm : 0 ≤ m - 1
      · have h1 := room_le ps d (m - 1) hm
        by_cases h0 : 0 ≤ room d (m - 1) ps
        · have h2 := room_le r (d + 1) _ h0; omega
        · rw [room_neg r _ _ (by omega)]; omega
      · rw [room_neg ps _ _ (by omega), room_neg r _ _ (by omega)]; omega
theorem room_size : ∀ (f : Fo) (d : Nat) (m : Int), 0 ≤ room d m f → room d m f = m - f.size ∧ 0 ≤ m
  | nil, _, m, h => by unfold room at h ⊢; simp [size]; exact h
  | cons k n ps r, d, m, h => by
    unfold room at h ⊢
    by_cases hm : m < 0
    · rw [if_pos hm] at h; omega
    · rw [if_neg hm] at h ⊢
      cases d with
      | zero => simp only at h; rw [room_neg r 0 (-1) (by omega)] at h; omega
      | succ d =>
        simp only at h ⊢
        obtain ⟨h1, h2⟩ := room_size r (d + 1) _ h
        obtain ⟨h3, h4⟩ := room_size ps d (m - 1) h2
        rw [h1, h3]
        simp only [size]; omega
end Fo
/-- all numbers in a row of types are such -/
def allF (G : Int → Prop) : Fo → Prop
  | .nil => True
  | .cons _ n ps r => G n ∧ allF G ps ∧ allF G r
theorem allF_get {G : Int → Prop} : ∀ (f : Fo) (i : Nat) (k n : Int) (ps : Fo), allF G f → f.get i = some (k, n, ps) → G n ∧ allF G ps
  | .nil, i, k, n, ps, _, h => by simp [Fo.get] at h
  | .cons k n ps r, 0, k', n', ps', hw, h => by
    simp [Fo.get] at h
    obtain ⟨rfl, rfl, rfl⟩ := h
    exact ⟨hw.1, hw.2.1⟩
  | .cons k n ps r, i + 1, k', n', ps', hw, h => allF_get r i k' n' ps' hw.2.2 h
theorem allF_true {G : Int → Prop} (h : ∀ n, G n) : ∀ f : Fo, allF G f
  | .nil => trivial
  | .cons _ n ps r => ⟨h n, allF_true h ps, allF_true h r⟩
end Go.Proofs.YtdlcakmjihfgfaaDoor
