/-
  Terms as trees, in plain words: a row of terms is a 'To' (the first one's head, its parts; and the rest). No program in sight.
-/
import Derived.Test.YtggidhgifaekbaaDoorTyPlain
namespace Go.Proofs.YtggidhgifaekbaaDoor

/-- what a term says but for its parts -/
structure Nd where
  k : Int
  nm : ByteArray
  n : Int
  tk : Int
  tn : Int
  tp : Fo
  fr : Int
  en : Int

inductive To where
  | nil : To
  | cons (h : Nd) (ps : To) (rest : To)

namespace To
def length : To → Nat
  | nil => 0
  | cons _ _ r => r.length + 1
def drop : To → Nat → To
  | f, 0 => f
  | nil, _ + 1 => nil
  | cons _ _ r, i + 1 => r.drop i
def get : To → Nat → Option (Nd × To)
  | nil, _ => none
  | cons h ps _, 0 => some (h, ps)
  | cons _ _ r, i + 1 => r.get i
def app : To → To → To
  | nil, g => g
  | cons h ps r, g => cons h ps (r.app g)
def size : To → Nat
  | nil => 0
  | cons _ ps r => ps.size + 1 + r.size
def depth : To → Nat
  | nil => 0
  | cons _ ps r => max (ps.depth + 1) r.depth
/-- all terms, in order -/
def flat : To → List (Nd × To)
  | nil => []
  | cons h ps r => (h, ps) :: (ps.flat ++ r.flat)
/-- of each head whether it is such -/
def every (p : Nd → To → Bool) : To → Bool
  | nil => true
  | cons h ps r => p h ps && ps.every p && r.every p
/-- alike, head by head -/
def alike (p : Nd → Nd → Bool) : To → To → Bool
  | nil, nil => true
  | cons h ps r, cons h' ps' r' => p h h' && ps.alike p ps' && r.alike p r'
  | _, _ => false

theorem drop_zero (f : To) : f.drop 0 = f := by cases f <;> rfl
theorem drop_get : ∀ (f : To) (i : Nat), i < f.length → ∃ h ps, f.drop i = cons h ps (f.drop (i + 1)) ∧ f.get i = some (h, ps)
  | nil, i, h => by simp [length] at h
  | cons h ps r, 0, _ => ⟨h, ps, by simp [drop, drop_zero], rfl⟩
  | cons h ps r, i + 1, hi => by
    obtain ⟨h', ps', h1, h2⟩ := drop_get r i (by simp [length] at hi; omega)
    exact ⟨h', ps', by simp only [drop]; rw [h1], h2⟩
theorem drop_end : ∀ (f : To) (i : Nat), f.length ≤ i → f.drop i = nil
  | nil, 0, _ => rfl
  | nil, i + 1, _ => rfl
  | cons h ps r, 0, hi => by simp [length] at hi
  | cons h ps r, i + 1, hi => drop_end r i (by simp [length] at hi; omega)
theorem get_lt : ∀ (f : To) (i : Nat) (t : Nd × To), f.get i = some t → i < f.length
  | nil, i, t, h => by simp [get] at h
  | cons h ps r, 0, t, _ => by simp [length]
  | cons h ps r, i + 1, t, hi => by have := get_lt r i t hi; simp [length]; omega
theorem length_le : ∀ f : To, f.length ≤ f.size
  | nil => Nat.le_refl _
  | cons h ps r => by have := length_le r; simp only [length, size]; omega
theorem size_drop : ∀ (f : To) (i : Nat), (f.drop i).size ≤ f.size
  | f, 0 => by rw [drop_zero]; exact Nat.le_refl _
  | nil, i + 1 => Nat.le_refl _
  | cons h ps r, i + 1 => by have := size_drop r i; simp only [drop, size]; omega
theorem size_get (f : To) (i : Nat) (h : Nd) (ps : To) (hg : f.get i = some (h, ps)) : ps.size + 1 ≤ f.size := by
  obtain ⟨h', ps', h1, h2⟩ := drop_get f i (get_lt _ _ _ hg)
  rw [hg] at h2
  cases h2
  have := size_drop f i
  rw [h1] at this
  simp only [size] at this
  omega
theorem app_nil : ∀ f : To, f.app nil = f
  | nil => rfl
  | cons h ps r => by simp [app, app_nil r]
theorem app_assoc : ∀ f g h : To, (f.app g).app h = f.app (g.app h)
  | nil, _, _ => rfl
  | cons k ps r, g, h => by simp [app, app_assoc r g h]
theorem app_length : ∀ f g : To, (f.app g).length = f.length + g.length
  | nil, g => by simp [app, length]
  | cons h ps r, g => by simp [app, length, app_length r g]; omega
theorem app_size : ∀ f g : To, (f.app g).size = f.size + g.size
  | nil, g => by simp [app, size]
  | cons h ps r, g => by simp [app, size, app_size r g]; omega
theorem flat_length : ∀ f : To, f.flat.length = f.size
  | nil => rfl
  | cons h ps r => by simp [flat, size, flat_length r, flat_length ps]; omega
theorem every_flat (p : Nd → To → Bool) : ∀ f : To, f.every p = f.flat.all (fun t => p t.1 t.2)
  | nil => rfl
  | cons h ps r => by simp [flat, every, every_flat p r, every_flat p ps, Bool.and_assoc]
theorem alike_length (p : Nd → Nd → Bool) : ∀ f g : To, f.alike p g = true → f.length = g.length
  | nil, nil, _ => rfl
  | nil, cons _ _ _, h => by simp [alike] at h
  | cons _ _ _, nil, h => by simp [alike] at h
  | cons h ps r, cons h' ps' r', e => by
    simp [alike] at e
    simp [length, alike_length p r r' e.2]
theorem alike_refl {p : Nd → Nd → Bool} (hp : ∀ h, p h h = true) : ∀ f : To, f.alike p f = true
  | nil => rfl
  | cons h ps r => by simp [alike, hp, alike_refl hp ps, alike_refl hp r]
/-- what is so of a term if it is so of its parts is so of every term -/
theorem ind {T : Nd → To → Prop} (step : ∀ h ps, (∀ i h' qs, ps.get i = some (h', qs) → T h' qs) → T h ps) : ∀ (f : To) (i : Nat) (h : Nd) (ps : To), f.get i = some (h, ps) → T h ps
  | nil, i, h, ps, e => by simp [get] at e
  | cons h ps r, 0, h', qs, e => by
    simp [get] at e
    obtain ⟨rfl, rfl⟩ := e
    exact step h ps (ind step ps)
  | cons h ps r, i + 1, h', qs, e => ind step r i h' qs e
theorem ind' {T : Nd → To → Prop} (step : ∀ h ps, (∀ i h' qs, ps.get i = some (h', qs) → T h' qs) → T h ps) (h : Nd) (ps : To) : T h ps :=
  step h ps (fun i h' qs e => ind step ps i h' qs e)
theorem depth_drop : ∀ (f : To) (i : Nat), (f.drop i).depth ≤ f.depth
  | f, 0 => by rw [drop_zero]; exact Nat.le_refl _
  | nil, i + 1 => Nat.le_refl _
  | cons h ps r, i + 1 => by have := depth_drop r i; simp only [drop, depth]; omega
theorem depth_le : ∀ f : To, f.depth ≤ f.size
  | nil => Nat.le_refl _
  | cons h ps r => by have h1 := depth_le ps; have h2 := depth_le r; simp only [depth, size]; omega
end To
/-- all heads in a row of terms are such -/
def allT (G : Nd → Prop) : To → Prop
  | .nil => True
  | .cons h ps r => G h ∧ allT G ps ∧ allT G r
theorem allT_get {G : Nd → Prop} : ∀ (f : To) (i : Nat) (h : Nd) (ps : To), allT G f → f.get i = some (h, ps) → G h ∧ allT G ps
  | .nil, i, h, ps, _, e => by simp [To.get] at e
  | .cons h ps r, 0, h', ps', hw, e => by
    simp [To.get] at e
    obtain ⟨rfl, rfl⟩ := e
    exact ⟨hw.1, hw.2.1⟩
  | .cons h ps r, i + 1, h', ps', hw, e => allT_get r i h' ps' hw.2.2 e
theorem allT_mono {G H : Nd → Prop} (hh : ∀ h, G h → H h) : ∀ f : To, allT G f → allT H f
  | .nil, _ => trivial
  | .cons h ps r, e => ⟨hh h e.1, allT_mono hh ps e.2.1, allT_mono hh r e.2.2⟩
theorem allT_flat {G : Nd → Prop} : ∀ (f : To), allT G f → ∀ t ∈ f.flat, G t.1 ∧ allT G t.2
  | .nil, _, t, h => by simp [To.flat] at h
  | .cons h ps r, e, t, ht => by
    simp [To.flat] at ht
    rcases ht with rfl | ht | ht
    · exact ⟨e.1, e.2.1⟩
    · exact allT_flat ps e.2.1 t ht
    · exact allT_flat r e.2.2 t ht
end Go.Proofs.YtggidhgifaekbaaDoor
