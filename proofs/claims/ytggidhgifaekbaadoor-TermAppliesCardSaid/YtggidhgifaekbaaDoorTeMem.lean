/-
  Terms as they lie in memory, in blocks of which something is so; a row of them that a call owns. No condition.
-/
import Derived.Test.YtggidhgifaekbaaDoorTyIn
import Derived.Test.YtggidhgifaekbaaDoorTePlain
namespace Go.Proofs.YtggidhgifaekbaaDoor
open Go.RowKit

/-- a term as a value -/
def tmv (h : Nd) (o1 : Option Addr) (l1 c1 : Nat) (o2 : Option Addr) (l2 c2 : Nat) : Value :=
  .agg #[.int .i64 h.k, .string h.nm, .int .i64 h.n, .int .i64 h.tk, .int .i64 h.tn, .slice o1 l1 c1, .slice o2 l2 c2, .int .i64 h.fr, .int .i64 h.en]
/-- the nine cells of a term -/
def Cells9 (w : World) (b off : Nat) (h : Nd) (o1 : Option Addr) (l1 c1 : Nat) (o2 : Option Addr) (l2 c2 : Nat) : Prop :=
  w.cell? ⟨b, off, none⟩ = some (.int .i64 h.k) ∧ w.cell? ⟨b, off + 1, none⟩ = some (.string h.nm) ∧ w.cell? ⟨b, off + 2, none⟩ = some (.int .i64 h.n) ∧
  w.cell? ⟨b, off + 3, none⟩ = some (.int .i64 h.tk) ∧ w.cell? ⟨b, off + 4, none⟩ = some (.int .i64 h.tn) ∧ w.cell? ⟨b, off + 5, none⟩ = some (.slice o1 l1 c1) ∧
  w.cell? ⟨b, off + 6, none⟩ = some (.slice o2 l2 c2) ∧ w.cell? ⟨b, off + 7, none⟩ = some (.int .i64 h.fr) ∧ w.cell? ⟨b, off + 8, none⟩ = some (.int .i64 h.en)
theorem Cells9.fr {S : Nat → Prop} {w w' : World} {b off : Nat} {h : Nd} {o1 : Option Addr} {l1 c1 : Nat} {o2 : Option Addr} {l2 c2 : Nat} (hc : Cells9 w b off h o1 l1 c1 o2 l2 c2) (hf : Fr S w w') (hs : ¬ S b) : Cells9 w' b off h o1 l1 c1 o2 l2 c2 := by
  obtain ⟨h0, h1, h2, h3, h4, h5, h6, h7, h8⟩ := hc
  have hb := World.block_lt_of_cell? w _ h0
  exact ⟨(hf.cellb hb hs).trans h0, (hf.cellb hb hs).trans h1, (hf.cellb hb hs).trans h2, (hf.cellb hb hs).trans h3, (hf.cellb hb hs).trans h4, (hf.cellb hb hs).trans h5, (hf.cellb hb hs).trans h6, (hf.cellb hb hs).trans h7, (hf.cellb hb hs).trans h8⟩
theorem Cells9.lt {w : World} {b off : Nat} {h : Nd} {o1 : Option Addr} {l1 c1 : Nat} {o2 : Option Addr} {l2 c2 : Nat} (hc : Cells9 w b off h o1 l1 c1 o2 l2 c2) : b < w.heap.size := World.block_lt_of_cell? w _ hc.1
def TIn (R : Nat → Prop) (w : World) : Nat → Nat → To → Prop
  | _, _, .nil => True
  | b, off, .cons h ps r => R b ∧ (∃ o1 l1 c1 o2 l2 c2, Cells9 w b off h o1 l1 c1 o2 l2 c2 ∧ SlcIn R w o1 l1 h.tp ∧ l2 = ps.length ∧ l2 ≤ maxLen ∧ (0 < l2 → ∃ b' off', o2 = some ⟨b', off', none⟩ ∧ TIn R w b' off' ps)) ∧ TIn R w b (off + 9) r
def TSlc (R : Nat → Prop) (w : World) (o : Option Addr) (len : Nat) (f : To) : Prop := len = f.length ∧ len ≤ maxLen ∧ (0 < len → ∃ b off, o = some ⟨b, off, none⟩ ∧ TIn R w b off f)
theorem TSlc.nil (R : Nat → Prop) (w : World) (o : Option Addr) : TSlc R w o 0 .nil := ⟨rfl, Nat.zero_le _, fun h => absurd h (Nat.lt_irrefl _)⟩
theorem TIn.fr {R T S : Nat → Prop} {w w' : World} (hf : Fr S w w') (hR : ∀ k, k < w.heap.size → R k → T k ∧ ¬ S k) : ∀ (f : To) (b off : Nat), TIn R w b off f → TIn T w' b off f
  | .nil, _, _, _ => trivial
  | .cons h ps r, b, off, ht => by
    obtain ⟨h0, ⟨o1, l1, c1, o2, l2, c2, hc, hs, h4, h4', h5⟩, h6⟩ := ht
    obtain ⟨hT, hS⟩ := hR b hc.lt h0
    refine ⟨hT, ⟨o1, l1, c1, o2, l2, c2, hc.fr hf hS, hs.fr hf hR, h4, h4', fun hl => ?_⟩, TIn.fr hf hR r b (off + 9) h6⟩
    obtain ⟨b', off', ho, ha⟩ := h5 hl
    exact ⟨b', off', ho, TIn.fr hf hR ps b' off' ha⟩
theorem TSlc.fr {R T S : Nat → Prop} {w w' : World} {o : Option Addr} {len : Nat} {f : To} (h : TSlc R w o len f) (hf : Fr S w w') (hR : ∀ k, k < w.heap.size → R k → T k ∧ ¬ S k) : TSlc T w' o len f := by
  refine ⟨h.1, h.2.1, fun hl => ?_⟩
  obtain ⟨b, off, ho, ha⟩ := h.2.2 hl
  exact ⟨b, off, ho, TIn.fr hf hR f b off ha⟩
theorem TSlc.stay {R : Nat → Prop} {w w' : World} {o : Option Addr} {len : Nat} {f : To} (h : TSlc R w o len f) (hq : Quiet0 w w') : TSlc R w' o len f := h.fr hq (fun _ _ hk => ⟨hk, fun h => h⟩)
theorem SlcIn.stay {R : Nat → Prop} {w w' : World} {o : Option Addr} {len : Nat} {f : Fo} (h : SlcIn R w o len f) (hq : Quiet0 w w') : SlcIn R w' o len f := h.fr hq (fun _ _ hk => ⟨hk, fun h => h⟩)
theorem SlcIn.mono {R T : Nat → Prop} {w : World} {o : Option Addr} {len : Nat} {f : Fo} (h : SlcIn R w o len f) (hk : ∀ k, k < w.heap.size → R k → T k) : SlcIn T w o len f := h.fr (Fr.refl (fun _ => False) w) (fun k hl hr => ⟨hk k hl hr, fun h => h⟩)
theorem TSlc.mono {R T : Nat → Prop} {w : World} {o : Option Addr} {len : Nat} {f : To} (h : TSlc R w o len f) (hk : ∀ k, k < w.heap.size → R k → T k) : TSlc T w o len f := h.fr (Fr.refl (fun _ => False) w) (fun k hl hr => ⟨hk k hl hr, fun h => h⟩)
theorem TIn.nth {R : Nat → Prop} {w : World} : ∀ (f : To) (b off i : Nat), TIn R w b off f → i < f.length → ∃ h ps o1 l1 c1 o2 l2 c2, f.drop i = .cons h ps (f.drop (i + 1)) ∧ f.get i = some (h, ps) ∧ R b ∧
    Cells9 w b (off + i * 9) h o1 l1 c1 o2 l2 c2 ∧ SlcIn R w o1 l1 h.tp ∧ TSlc R w o2 l2 ps
  | .nil, _, _, _, _, h => by simp [To.length] at h
  | .cons h ps r, b, off, 0, ht, _ => by
    obtain ⟨h0, ⟨o1, l1, c1, o2, l2, c2, hc, hs, h4, h4', h5⟩, h6⟩ := ht
    exact ⟨h, ps, o1, l1, c1, o2, l2, c2, by simp [To.drop, To.drop_zero], rfl, h0, by simpa using hc, hs, h4, h4', h5⟩
  | .cons h ps r, b, off, i + 1, ht, hi => by
    obtain ⟨_, _, h6⟩ := ht
    obtain ⟨h', ps', o1, l1, c1, o2, l2, c2, e1, e2, hb, hc, hs⟩ := TIn.nth r b (off + 9) i h6 (by simp [To.length] at hi; omega)
    refine ⟨h', ps', o1, l1, c1, o2, l2, c2, by simp only [To.drop]; rw [e1], e2, hb, ?_, hs⟩
    rw [show off + (i + 1) * 9 = off + 9 + i * 9 from by omega]; exact hc
/-- the term at a place of a slice -/
theorem TSlc.nth {R : Nat → Prop} {w : World} {o : Option Addr} {len : Nat} {f : To} (h : TSlc R w o len f) {i : Nat} (hi : i < len) : ∃ b off hd ps o1 l1 c1 o2 l2 c2, o = some ⟨b, off, none⟩ ∧ f.drop i = .cons hd ps (f.drop (i + 1)) ∧ f.get i = some (hd, ps) ∧ R b ∧
    Cells9 w b (off + i * 9) hd o1 l1 c1 o2 l2 c2 ∧ SlcIn R w o1 l1 hd.tp ∧ TSlc R w o2 l2 ps := by
  obtain ⟨b, off, rfl, ha⟩ := h.2.2 (by omega)
  obtain ⟨hd, ps, o1, l1, c1, o2, l2, c2, h1⟩ := TIn.nth f b off i ha (by have := h.1; omega)
  exact ⟨b, off, hd, ps, o1, l1, c1, o2, l2, c2, rfl, h1⟩
/-- a box with a term in it -/
abbrev cells9 (h : Nd) (o1 : Option Addr) (l1 c1 : Nat) (o2 : Option Addr) (l2 c2 : Nat) : Array Value :=
  #[.int .i64 h.k, .string h.nm, .int .i64 h.n, .int .i64 h.tk, .int .i64 h.tn, .slice o1 l1 c1, .slice o2 l2 c2, .int .i64 h.fr, .int .i64 h.en]
theorem cells9_block {w : World} {B : Nat} {h : Nd} {o1 : Option Addr} {l1 c1 : Nat} {o2 : Option Addr} {l2 c2 : Nat} {t : TypeId} {z : Nat × Nat} (hb : w.heap[B]? = some (.cells (cells9 h o1 l1 c1 o2 l2 c2) t z)) : Cells9 w B 0 h o1 l1 c1 o2 l2 c2 := by
  refine ⟨?_, ?_, ?_, ?_, ?_, ?_, ?_, ?_, ?_⟩ <;> (rw [cell_of_row _ _ _ _ _ z hb]; rfl)
theorem cells9_new (w : World) (h : Nd) (o1 : Option Addr) (l1 c1 : Nat) (o2 : Option Addr) (l2 c2 : Nat) (t : TypeId) : Cells9 (w.alloc (.cells (cells9 h o1 l1 c1 o2 l2 c2) t)) w.heap.size 0 h o1 l1 c1 o2 l2 c2 := cells9_block (heap_alloc_new w _)
/-- cells that are terms -/
def RowT (R : Nat → Prop) (w : World) : List Value → To → Prop
  | xs, .nil => xs = []
  | xs, .cons h ps r => ∃ o1 l1 c1 o2 l2 c2 ys, xs = (cells9 h o1 l1 c1 o2 l2 c2).toList ++ ys ∧ SlcIn R w o1 l1 h.tp ∧ TSlc R w o2 l2 ps ∧ RowT R w ys r
theorem RowT.fr {R T S : Nat → Prop} {w w' : World} (hf : Fr S w w') (hR : ∀ k, k < w.heap.size → R k → T k ∧ ¬ S k) : ∀ (f : To) (xs : List Value), RowT R w xs f → RowT T w' xs f
  | .nil, _, h => h
  | .cons h ps r, xs, ht => by
    obtain ⟨o1, l1, c1, o2, l2, c2, ys, rfl, hs, ht, hr⟩ := ht
    exact ⟨o1, l1, c1, o2, l2, c2, ys, rfl, hs.fr hf hR, ht.fr hf hR, RowT.fr hf hR r ys hr⟩
theorem RowT.snoc {R : Nat → Prop} {w : World} {h : Nd} {ps : To} {o1 : Option Addr} {l1 c1 : Nat} {o2 : Option Addr} {l2 c2 : Nat} (hs : SlcIn R w o1 l1 h.tp) (ht : TSlc R w o2 l2 ps) : ∀ (f : To) (xs : List Value), RowT R w xs f → RowT R w (xs ++ (cells9 h o1 l1 c1 o2 l2 c2).toList) (f.app (.cons h ps .nil))
  | .nil, xs, e => by
    cases e
    exact ⟨o1, l1, c1, o2, l2, c2, [], by simp, hs, ht, rfl⟩
  | .cons h' ps' r, xs, e => by
    obtain ⟨p1, m1, d1, p2, m2, d2, ys, rfl, hs', ht', hr⟩ := e
    exact ⟨p1, m1, d1, p2, m2, d2, _, by rw [List.append_assoc], hs', ht', RowT.snoc hs ht r ys hr⟩
theorem RowT.at {R : Nat → Prop} {w : World} {g : Nat} (hg : R g) : ∀ (f : To) (xs : List Value) (off : Nat), RowT R w xs f → (∀ j u, xs[j]? = some u → w.cell? ⟨g, off + j, none⟩ = some u) → TIn R w g off f
  | .nil, _, _, _, _ => trivial
  | .cons h ps r, xs, off, e, hc => by
    obtain ⟨o1, l1, c1, o2, l2, c2, ys, rfl, hs, ht, hr⟩ := e
    refine ⟨hg, ⟨o1, l1, c1, o2, l2, c2, ⟨hc 0 _ rfl, hc 1 _ rfl, hc 2 _ rfl, hc 3 _ rfl, hc 4 _ rfl, hc 5 _ rfl, hc 6 _ rfl, hc 7 _ rfl, hc 8 _ rfl⟩, hs, ht.1, ht.2.1, ht.2.2⟩, RowT.at hg r ys (off + 9) hr ?_⟩
    intro j u hj
    have := hc (j + 9) u (by simpa using hj)
    rw [← this]; congr 2; omega
/-- a row of terms of the call's own -/
structure TmRow (w : World) (B : Nat) (v : Value) (f : To) (xs : List Value) : Prop where
  own : w.ownsRow 0 35 9 v f.length xs
  low : ∀ k, v.ownBlock = some k → B ≤ k
  cells : RowT (fun k => B ≤ k ∧ v.ownBlock ≠ some k) w xs f
theorem TmRow.nil (w : World) (B : Nat) : TmRow w B (.slice none 0 0) .nil [] := ⟨World.ownsRow_nil _ _ _ _, fun k hk => (by cases hk), rfl⟩
theorem TmRow.fr {w w' : World} {B : Nat} {v : Value} {f : To} {xs : List Value} {S : Nat → Prop} (h : TmRow w B v f xs) (hf : Fr S w w') (hS : ∀ k, S k → k < B) : TmRow w' B v f xs := by
  refine ⟨ownsRow_fr h.own hf (fun k hk hs => ?_), h.low, RowT.fr hf (fun k _ hk => ⟨hk, fun hs => ?_⟩) f xs h.cells⟩
  · have := h.low k hk; have := hS k hs; omega
  · have := hS k hs; omega
theorem TmRow.stay {w w' : World} {B : Nat} {v : Value} {f : To} {xs : List Value} (h : TmRow w B v f xs) (hf : Quiet0 w w') : TmRow w' B v f xs := h.fr hf (fun _ hk => hk.elim)
theorem TmRow.lt {w : World} {B : Nat} {v : Value} {f : To} {xs : List Value} (h : TmRow w B v f xs) : ∀ k, v.ownBlock = some k → k < w.heap.size := fun k hk => (h.own.lt k hk).2
theorem TmRow.snoc {W w1 : World} {B : Nat} {v : Value} {f : To} {xs : List Value} {h : Nd} {ps : To} {o1 : Option Addr} {l1 c1 : Nat} {o2 : Option Addr} {l2 c2 g c : Nat} (hr : TmRow W B v f xs)
    (hs : SlcIn (fun k => B ≤ k ∧ v.ownBlock ≠ some k) W o1 l1 h.tp) (ht : TSlc (fun k => B ≤ k ∧ v.ownBlock ≠ some k) W o2 l2 ps)
    (ho : w1.ownsRow 0 35 9 (.slice (some ⟨g, 0, none⟩) (f.length + 1) c) (f.length + 1) (xs ++ (cells9 h o1 l1 c1 o2 l2 c2).toList)) (hf : Fr (fun k => v.ownBlock = some k) W w1) (hg : v.ownBlock = some g ∨ W.heap.size ≤ g) (hB : B ≤ W.heap.size) :
    TmRow w1 B (.slice (some ⟨g, 0, none⟩) (f.length + 1) c) (f.app (.cons h ps .nil)) (xs ++ (cells9 h o1 l1 c1 o2 l2 c2).toList) := by
  refine ⟨by rw [To.app_length]; exact ho, ?_, ?_⟩
  · intro k hk
    simp [Value.ownBlock] at hk
    subst hk
    rcases hg with h | h
    · exact hr.low g h
    · omega
  · have hk : ∀ k, k < W.heap.size → (B ≤ k ∧ v.ownBlock ≠ some k) → ((B ≤ k ∧ (Value.slice (some ⟨g, 0, none⟩) (f.length + 1) c).ownBlock ≠ some k) ∧ ¬ v.ownBlock = some k) := by
      rintro k hk ⟨h1, h2⟩
      refine ⟨⟨h1, fun h => ?_⟩, h2⟩
      simp [Value.ownBlock] at h
      subst h
      rcases hg with h | h
      · exact h2 h
      · omega
    exact RowT.snoc (hs.fr hf hk) (ht.fr hf hk) f xs (RowT.fr hf hk f xs hr.cells)
theorem TmRow.slc {w : World} {B : Nat} {o : Option Addr} {len cap : Nat} {f : To} {xs : List Value} (h : TmRow w B (.slice o len cap) f xs) (hl : len = f.length) (hm : len ≤ maxLen) : TSlc (fun k => B ≤ k) w o len f := by
  refine ⟨hl, hm, fun h0 => ?_⟩
  rcases h.own.2 with ⟨_, h2⟩ | ⟨g, cap', cur, he, _⟩
  · omega
  · injection he with h1 h2 h3
    subst h1
    refine ⟨g, 0, rfl, RowT.at (h.low g rfl) f xs 0 (RowT.fr (Fr.refl (fun _ => False) w) (fun k _ hk => ⟨hk.1, fun h => h⟩) f xs h.cells) ?_⟩
    intro j u hj
    have := h.own.cells (g := g) rfl j u hj
    simpa [Addr.add_lit] using this
theorem elemTm : Elem Tryd.prog 31 35 (.agg #[.int .i64 0, .string ⟨#[]⟩, .int .i64 0, .int .i64 0, .int .i64 0, .slice none 0 0, .slice none 0 0, .int .i64 0, .int .i64 0]) 9 112 :=
  ⟨Tryd.underlying31, by kernel_rfl, by decide, by decide⟩
end Go.Proofs.YtggidhgifaekbaaDoor
