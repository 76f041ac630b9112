/-
  Types in memory, in blocks of which something is so; a row of them that a call owns. No condition.
-/
import Derived.Test.YtdlcakmjihfgfaaDoorTyMem
namespace Go.Proofs.YtdlcakmjihfgfaaDoor
open Go.RowKit

def AtIn (R : Nat → Prop) (w : World) : Nat → Nat → Fo → Prop
  | _, _, .nil => True
  | b, off, .cons k n ps r => R b ∧ w.cell? ⟨b, off, none⟩ = some (.int .i64 k) ∧ w.cell? ⟨b, off + 1, none⟩ = some (.int .i64 n) ∧
      (∃ o len cap, w.cell? ⟨b, off + 2, none⟩ = some (.slice o len cap) ∧ len = ps.length ∧ len ≤ maxLen ∧ (0 < len → ∃ b' off', o = some ⟨b', off', none⟩ ∧ AtIn R w b' off' ps)) ∧ AtIn R w b (off + 3) r
def SlcIn (R : Nat → Prop) (w : World) (o : Option Addr) (len : Nat) (f : Fo) : Prop := len = f.length ∧ len ≤ maxLen ∧ (0 < len → ∃ b off, o = some ⟨b, off, none⟩ ∧ AtIn R w b off f)
theorem AtIn.at {R : Nat → Prop} {w : World} : ∀ (f : Fo) (b off : Nat), AtIn R w b off f → At w b off f
  | .nil, _, _, _ => trivial
  | .cons k n ps r, b, off, h => by
    obtain ⟨_, h1, h2, ⟨o, len, cap, h3, h4, h4', h5⟩, h6⟩ := h
    refine ⟨h1, h2, ⟨o, len, cap, h3, h4, h4', fun hl => ?_⟩, AtIn.at r b (off + 3) h6⟩
    obtain ⟨b', off', ho, ha⟩ := h5 hl
    exact ⟨b', off', ho, AtIn.at ps b' off' ha⟩
theorem SlcIn.slc {R : Nat → Prop} {w : World} {o : Option Addr} {len : Nat} {f : Fo} (h : SlcIn R w o len f) : Slc w o len f := by
  refine ⟨h.1, h.2.1, fun hl => ?_⟩
  obtain ⟨b, off, ho, ha⟩ := h.2.2 hl
  exact ⟨b, off, ho, AtIn.at f b off ha⟩
theorem AtIn.fr {R T S : Nat → Prop} {w w' : World} (hf : Fr S w w') (hR : ∀ k, k < w.heap.size → R k → T k ∧ ¬ S k) : ∀ (f : Fo) (b off : Nat), AtIn R w b off f → AtIn T w' b off f
  | .nil, _, _, _ => trivial
  | .cons k n ps r, b, off, h => by
    obtain ⟨h0, h1, h2, ⟨o, len, cap, h3, h4, h4', h5⟩, h6⟩ := h
    have hb : b < w.heap.size := World.block_lt_of_cell? w _ h1
    obtain ⟨hT, hS⟩ := hR b hb h0
    refine ⟨hT, (hf.cellb hb hS).trans h1, (hf.cellb hb hS).trans h2, ⟨o, len, cap, (hf.cellb hb hS).trans h3, h4, h4', fun hl => ?_⟩, AtIn.fr hf hR r b (off + 3) h6⟩
    obtain ⟨b', off', ho, ha⟩ := h5 hl
    exact ⟨b', off', ho, AtIn.fr hf hR ps b' off' ha⟩
theorem SlcIn.fr {R T S : Nat → Prop} {w w' : World} {o : Option Addr} {len : Nat} {f : Fo} (h : SlcIn R w o len f) (hf : Fr S w w') (hR : ∀ k, k < w.heap.size → R k → T k ∧ ¬ S k) : SlcIn T w' o len f := by
  refine ⟨h.1, h.2.1, fun hl => ?_⟩
  obtain ⟨b, off, ho, ha⟩ := h.2.2 hl
  exact ⟨b, off, ho, AtIn.fr hf hR f b off ha⟩
theorem SlcIn.nil (R : Nat → Prop) (w : World) (o : Option Addr) : SlcIn R w o 0 .nil := ⟨rfl, Nat.zero_le _, fun h => absurd h (Nat.lt_irrefl _)⟩
/-- cells that are types -/
def RowOf (R : Nat → Prop) (w : World) : List Value → Fo → Prop
  | xs, .nil => xs = []
  | xs, .cons k n ps r => ∃ o len cap ys, xs = .int .i64 k :: .int .i64 n :: .slice o len cap :: ys ∧ SlcIn R w o len ps ∧ RowOf R w ys r
theorem RowOf.fr {R T S : Nat → Prop} {w w' : World} (hf : Fr S w w') (hR : ∀ k, k < w.heap.size → R k → T k ∧ ¬ S k) : ∀ (f : Fo) (xs : List Value), RowOf R w xs f → RowOf T w' xs f
  | .nil, _, h => h
  | .cons k n ps r, xs, h => by
    obtain ⟨o, len, cap, ys, rfl, hs, hr⟩ := h
    exact ⟨o, len, cap, ys, rfl, hs.fr hf hR, RowOf.fr hf hR r ys hr⟩
theorem RowOf.snoc {R : Nat → Prop} {w : World} {k n : Int} {ps : Fo} {o : Option Addr} {len cap : Nat} (hs : SlcIn R w o len ps) : ∀ (f : Fo) (xs : List Value), RowOf R w xs f → RowOf R w (xs ++ [.int .i64 k, .int .i64 n, .slice o len cap]) (f.app (.cons k n ps .nil))
  | .nil, xs, h => by
    cases h
    exact ⟨o, len, cap, [], rfl, hs, rfl⟩
  | .cons k' n' ps' r, xs, h => by
    obtain ⟨o', len', cap', ys, rfl, hs', hr⟩ := h
    exact ⟨o', len', cap', _, rfl, hs', RowOf.snoc hs r ys hr⟩
theorem RowOf.length {R : Nat → Prop} {w : World} : ∀ (f : Fo) (xs : List Value), RowOf R w xs f → xs.length = 3 * f.length
  | .nil, xs, h => by cases h; rfl
  | .cons k' n' ps' r, xs, h => by
    obtain ⟨o', len', cap', ys, rfl, hs', hr⟩ := h
    have := RowOf.length r ys hr
    simp [Fo.length]; omega
theorem RowOf.at {R : Nat → Prop} {w : World} {g : Nat} (hg : R g) : ∀ (f : Fo) (xs : List Value) (off : Nat), RowOf R w xs f → (∀ j u, xs[j]? = some u → w.cell? ⟨g, off + j, none⟩ = some u) → AtIn R w g off f
  | .nil, _, _, _, _ => trivial
  | .cons k n ps r, xs, off, h, hc => by
    obtain ⟨o, len, cap, ys, rfl, hs, hr⟩ := h
    refine ⟨hg, hc 0 _ rfl, hc 1 _ rfl, ⟨o, len, cap, hc 2 _ rfl, hs.1, hs.2.1, hs.2.2⟩, RowOf.at hg r ys (off + 3) hr ?_⟩
    intro j u hj
    have := hc (j + 3) u (by simpa using hj)
    rw [← this]; congr 2; omega
/-- a row of types of the call's own -/
structure TyRow (w : World) (B : Nat) (v : Value) (f : Fo) (xs : List Value) : Prop where
  own : w.ownsRow 0 63 3 v f.length xs
  low : ∀ k, v.ownBlock = some k → B ≤ k
  cells : RowOf (fun k => B ≤ k ∧ v.ownBlock ≠ some k) w xs f
theorem TyRow.nil (w : World) (B : Nat) : TyRow w B (.slice none 0 0) .nil [] := ⟨World.ownsRow_nil _ _ _ _, fun k hk => (by cases hk), rfl⟩
theorem TyRow.fr {w w' : World} {B : Nat} {v : Value} {f : Fo} {xs : List Value} {S : Nat → Prop} (h : TyRow w B v f xs) (hf : Fr S w w') (hS : ∀ k, S k → k < B) : TyRow w' B v f xs := by
  refine ⟨ownsRow_fr h.own hf (fun k hk hs => ?_), h.low, RowOf.fr hf (fun k _ hk => ⟨hk, fun hs => ?_⟩) f xs h.cells⟩
  · have := h.low k hk; have := hS k hs; omega
  · have := hS k hs; omega
theorem TyRow.stay {w w' : World} {B : Nat} {v : Value} {f : Fo} {xs : List Value} (h : TyRow w B v f xs) (hf : Quiet0 w w') : TyRow w' B v f xs := h.fr hf (fun _ hk => hk.elim)
theorem TyRow.snoc {W w1 : World} {B : Nat} {v : Value} {f : Fo} {xs : List Value} {k n : Int} {ps : Fo} {o : Option Addr} {len cap g c : Nat} (hr : TyRow W B v f xs)
    (hs : SlcIn (fun k => B ≤ k ∧ v.ownBlock ≠ some k) W o len ps)
    (ho : w1.ownsRow 0 63 3 (.slice (some ⟨g, 0, none⟩) (f.length + 1) c) (f.length + 1) (xs ++ [.int .i64 k, .int .i64 n, .slice o len cap])) (hf : Fr (fun k => v.ownBlock = some k) W w1) (hg : v.ownBlock = some g ∨ W.heap.size ≤ g) (hB : B ≤ W.heap.size) :
    TyRow w1 B (.slice (some ⟨g, 0, none⟩) (f.length + 1) c) (f.app (.cons k n ps .nil)) (xs ++ [.int .i64 k, .int .i64 n, .slice o len cap]) := by
  refine ⟨by rw [Fo.app_length]; exact ho, ?_, ?_⟩
  · intro k hk
    simp [Value.ownBlock] at hk
    subst hk
    rcases hg with h | h
    · exact hr.low g h
    · omega
  · have hk : ∀ k, k < W.heap.size → (B ≤ k ∧ v.ownBlock ≠ some k) → ((B ≤ k ∧ (Value.slice (some ⟨g, 0, none⟩) (f.length + 1) c).ownBlock ≠ some k) ∧ ¬ v.ownBlock = some k) := by
      rintro k hk ⟨h1, h2⟩
      refine ⟨⟨h1, fun h => ?_⟩, h2⟩
      simp [Value.ownBlock] at h
      subst h
      rcases hg with h | h
      · exact h2 h
      · omega
    exact RowOf.snoc (hs.fr hf hk) f xs (RowOf.fr hf hk f xs hr.cells)
theorem TyRow.slc {w : World} {B : Nat} {o : Option Addr} {len cap : Nat} {f : Fo} {xs : List Value} (h : TyRow w B (.slice o len cap) f xs) (hl : len = f.length) (hm : len ≤ maxLen) : SlcIn (fun k => B ≤ k) w o len f := by
  refine ⟨hl, hm, fun h0 => ?_⟩
  rcases h.own.2 with ⟨_, h2⟩ | ⟨g, cap', cur, he, _⟩
  · omega
  · injection he with h1 h2 h3
    subst h1
    refine ⟨g, 0, rfl, RowOf.at (h.low g rfl) f xs 0 (RowOf.fr (Fr.refl (fun _ => False) w) (fun k _ hk => ⟨hk.1, fun h => h⟩) f xs h.cells) ?_⟩
    intro j u hj
    have := h.own.cells (g := g) rfl j u hj
    simpa [Addr.add_lit] using this
end Go.Proofs.YtdlcakmjihfgfaaDoor
