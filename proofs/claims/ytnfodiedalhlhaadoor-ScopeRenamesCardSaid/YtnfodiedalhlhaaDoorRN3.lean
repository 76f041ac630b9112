/-
  Texts laid together (TeMem, Blk, ScNm, ScIdx, TyRef, TySame): laws and walks, with their conditions in their statements.
-/
import Derived.Deep.DeepCutAuto
import Derived.Deep.RegionHeld3
import Derived.Deep.AppendLies
import Derived.ArgAppend
import Derived.Deep.RegionLawGrows
import Derived.StillTailTactics
import Derived.BigQuiet
import Derived.Test.YtnfodiedalhlhaaDoorRN2
section
namespace Go.Proofs.YtnfodiedalhlhaaDoor
open Go.RowKit
def tmv (h : Nd) (o1 : Option Addr) (l1 c1 : Nat) (o2 : Option Addr) (l2 c2 : Nat) : Value :=
  .agg #[.int .i64 h.k, .string h.nm, .int .i64 h.n, .int .i64 h.tk, .int .i64 h.tn, .slice o1 l1 c1, .slice o2 l2 c2, .int .i64 h.fr, .int .i64 h.en]
def Cells9 (w : World) (b off : Nat) (h : Nd) (o1 : Option Addr) (l1 c1 : Nat) (o2 : Option Addr) (l2 c2 : Nat) : Prop :=
  w.cell? ⟨b, off, none⟩ = some (.int .i64 h.k) ∧ w.cell? ⟨b, off + 1, none⟩ = some (.string h.nm) ∧ w.cell? ⟨b, off + 2, none⟩ = some (.int .i64 h.n) ∧
  w.cell? ⟨b, off + 3, none⟩ = some (.int .i64 h.tk) ∧ w.cell? ⟨b, off + 4, none⟩ = some (.int .i64 h.tn) ∧ w.cell? ⟨b, off + 5, none⟩ = some (.slice o1 l1 c1) ∧
  w.cell? ⟨b, off + 6, none⟩ = some (.slice o2 l2 c2) ∧ w.cell? ⟨b, off + 7, none⟩ = some (.int .i64 h.fr) ∧ w.cell? ⟨b, off + 8, none⟩ = some (.int .i64 h.en)
theorem Cells9.fr {S : Nat → Prop} {w w' : World} {b off : Nat} {h : Nd} {o1 : Option Addr} {l1 c1 : Nat} {o2 : Option Addr} {l2 c2 : Nat} (hc : Cells9 w b off h o1 l1 c1 o2 l2 c2) (hf : Fr S w w') (hs : ¬ S b) : Cells9 w' b off h o1 l1 c1 o2 l2 c2 := by
  obtain ⟨h0, h1, h2, h3, h4, h5, h6, h7, h8⟩ := hc
  have hb := World.block_lt_of_cell? w _ h0
  exact ⟨(hf.cellb hb hs).trans h0, (hf.cellb hb hs).trans h1, (hf.cellb hb hs).trans h2, (hf.cellb hb hs).trans h3, (hf.cellb hb hs).trans h4, (hf.cellb hb hs).trans h5, (hf.cellb hb hs).trans h6, (hf.cellb hb hs).trans h7, (hf.cellb hb hs).trans h8⟩
theorem Cells9.lt {w : World} {b off : Nat} {h : Nd} {o1 : Option Addr} {l1 c1 : Nat} {o2 : Option Addr} {l2 c2 : Nat} (hc : Cells9 w b off h o1 l1 c1 o2 l2 c2) : b < w.heap.size := World.block_lt_of_cell? w _ hc.1
def TIn (R : Nat → Prop) (w : World) : Nat → Nat → To → Prop
  | _, _, .nil => True
  | b, off, .cons h ps r => R b ∧ (∃ o1 l1 c1 o2 l2 c2, Cells9 w b off h o1 l1 c1 o2 l2 c2 ∧ SlcIn R w o1 l1 h.tp ∧ l2 = ps.length ∧ l2 ≤ maxLen ∧ (0 < l2 → ∃ b' off', o2 = some ⟨b', off', none⟩ ∧ TIn R w b' off' ps)) ∧ TIn R w b (off + 9) r
def TSlc (R : Nat → Prop) (w : World) (o : Option Addr) (len : Nat) (f : To) : Prop := len = f.length ∧ len ≤ maxLen ∧ (0 < len → ∃ b off, o = some ⟨b, off, none⟩ ∧ TIn R w b off f)
theorem TSlc.nil (R : Nat → Prop) (w : World) (o : Option Addr) : TSlc R w o 0 .nil := ⟨rfl, Nat.zero_le _, fun h => absurd h (Nat.lt_irrefl _)⟩
theorem TIn.fr {R T S : Nat → Prop} {w w' : World} (hf : Fr S w w') (hR : ∀ k, k < w.heap.size → R k → T k ∧ ¬ S k) : ∀ (f : To) (b off : Nat), TIn R w b off f → TIn T w' b off f
  | .nil, _, _, _ => trivial
  | .cons h ps r, b, off, ht => by
    obtain ⟨h0, ⟨o1, l1, c1, o2, l2, c2, hc, hs, h4, h4', h5⟩, h6⟩ := ht
    obtain ⟨hT, hS⟩ := hR b hc.lt h0
    refine ⟨hT, ⟨o1, l1, c1, o2, l2, c2, hc.fr hf hS, hs.fr hf hR, h4, h4', fun hl => ?_⟩, TIn.fr hf hR r b (off + 9) h6⟩
    obtain ⟨b', off', ho, ha⟩ := h5 hl
    exact ⟨b', off', ho, TIn.fr hf hR ps b' off' ha⟩
theorem TSlc.fr {R T S : Nat → Prop} {w w' : World} {o : Option Addr} {len : Nat} {f : To} (h : TSlc R w o len f) (hf : Fr S w w') (hR : ∀ k, k < w.heap.size → R k → T k ∧ ¬ S k) : TSlc T w' o len f := by
  refine ⟨h.1, h.2.1, fun hl => ?_⟩
  obtain ⟨b, off, ho, ha⟩ := h.2.2 hl
  exact ⟨b, off, ho, TIn.fr hf hR f b off ha⟩
theorem TSlc.stay {R : Nat → Prop} {w w' : World} {o : Option Addr} {len : Nat} {f : To} (h : TSlc R w o len f) (hq : Quiet0 w w') : TSlc R w' o len f := h.fr hq (fun _ _ hk => ⟨hk, fun h => h⟩)
theorem SlcIn.stay {R : Nat → Prop} {w w' : World} {o : Option Addr} {len : Nat} {f : Fo} (h : SlcIn R w o len f) (hq : Quiet0 w w') : SlcIn R w' o len f := h.fr hq (fun _ _ hk => ⟨hk, fun h => h⟩)
theorem SlcIn.mono {R T : Nat → Prop} {w : World} {o : Option Addr} {len : Nat} {f : Fo} (h : SlcIn R w o len f) (hk : ∀ k, k < w.heap.size → R k → T k) : SlcIn T w o len f := h.fr (Fr.refl (fun _ => False) w) (fun k hl hr => ⟨hk k hl hr, fun h => h⟩)
theorem TSlc.mono {R T : Nat → Prop} {w : World} {o : Option Addr} {len : Nat} {f : To} (h : TSlc R w o len f) (hk : ∀ k, k < w.heap.size → R k → T k) : TSlc T w o len f := h.fr (Fr.refl (fun _ => False) w) (fun k hl hr => ⟨hk k hl hr, fun h => h⟩)
theorem TIn.nth {R : Nat → Prop} {w : World} : ∀ (f : To) (b off i : Nat), TIn R w b off f → i < f.length → ∃ h ps o1 l1 c1 o2 l2 c2, f.drop i = .cons h ps (f.drop (i + 1)) ∧ f.get i = some (h, ps) ∧ R b ∧
    Cells9 w b (off + i * 9) h o1 l1 c1 o2 l2 c2 ∧ SlcIn R w o1 l1 h.tp ∧ TSlc R w o2 l2 ps
  | .nil, _, _, _, _, h => by simp [To.length] at h
  | .cons h ps r, b, off, 0, ht, _ => by
    obtain ⟨h0, ⟨o1, l1, c1, o2, l2, c2, hc, hs, h4, h4', h5⟩, h6⟩ := ht
    exact ⟨h, ps, o1, l1, c1, o2, l2, c2, by simp [To.drop, To.drop_zero], rfl, h0, by simpa using hc, hs, h4, h4', h5⟩
  | .cons h ps r, b, off, i + 1, ht, hi => by
    obtain ⟨_, _, h6⟩ := ht
    obtain ⟨h', ps', o1, l1, c1, o2, l2, c2, e1, e2, hb, hc, hs⟩ := TIn.nth r b (off + 9) i h6 (by simp [To.length] at hi; omega)
    refine ⟨h', ps', o1, l1, c1, o2, l2, c2, by simp only [To.drop]; rw [e1], e2, hb, ?_, hs⟩
    rw [show off + (i + 1) * 9 = off + 9 + i * 9 from by omega]; exact hc
theorem TSlc.nth {R : Nat → Prop} {w : World} {o : Option Addr} {len : Nat} {f : To} (h : TSlc R w o len f) {i : Nat} (hi : i < len) : ∃ b off hd ps o1 l1 c1 o2 l2 c2, o = some ⟨b, off, none⟩ ∧ f.drop i = .cons hd ps (f.drop (i + 1)) ∧ f.get i = some (hd, ps) ∧ R b ∧
    Cells9 w b (off + i * 9) hd o1 l1 c1 o2 l2 c2 ∧ SlcIn R w o1 l1 hd.tp ∧ TSlc R w o2 l2 ps := by
  obtain ⟨b, off, rfl, ha⟩ := h.2.2 (by omega)
  obtain ⟨hd, ps, o1, l1, c1, o2, l2, c2, h1⟩ := TIn.nth f b off i ha (by have := h.1; omega)
  exact ⟨b, off, hd, ps, o1, l1, c1, o2, l2, c2, rfl, h1⟩
abbrev cells9 (h : Nd) (o1 : Option Addr) (l1 c1 : Nat) (o2 : Option Addr) (l2 c2 : Nat) : Array Value :=
  #[.int .i64 h.k, .string h.nm, .int .i64 h.n, .int .i64 h.tk, .int .i64 h.tn, .slice o1 l1 c1, .slice o2 l2 c2, .int .i64 h.fr, .int .i64 h.en]
theorem cells9_block {w : World} {B : Nat} {h : Nd} {o1 : Option Addr} {l1 c1 : Nat} {o2 : Option Addr} {l2 c2 : Nat} {t : TypeId} {z : Nat × Nat} (hb : w.heap[B]? = some (.cells (cells9 h o1 l1 c1 o2 l2 c2) t z)) : Cells9 w B 0 h o1 l1 c1 o2 l2 c2 := by
  refine ⟨?_, ?_, ?_, ?_, ?_, ?_, ?_, ?_, ?_⟩ <;> (rw [cell_of_row _ _ _ _ _ z hb]; rfl)
theorem cells9_new (w : World) (h : Nd) (o1 : Option Addr) (l1 c1 : Nat) (o2 : Option Addr) (l2 c2 : Nat) (t : TypeId) : Cells9 (w.alloc (.cells (cells9 h o1 l1 c1 o2 l2 c2) t)) w.heap.size 0 h o1 l1 c1 o2 l2 c2 := cells9_block (heap_alloc_new w _)
def RowT (R : Nat → Prop) (w : World) : List Value → To → Prop
  | xs, .nil => xs = []
  | xs, .cons h ps r => ∃ o1 l1 c1 o2 l2 c2 ys, xs = (cells9 h o1 l1 c1 o2 l2 c2).toList ++ ys ∧ SlcIn R w o1 l1 h.tp ∧ TSlc R w o2 l2 ps ∧ RowT R w ys r
theorem RowT.fr {R T S : Nat → Prop} {w w' : World} (hf : Fr S w w') (hR : ∀ k, k < w.heap.size → R k → T k ∧ ¬ S k) : ∀ (f : To) (xs : List Value), RowT R w xs f → RowT T w' xs f
  | .nil, _, h => h
  | .cons h ps r, xs, ht => by
    obtain ⟨o1, l1, c1, o2, l2, c2, ys, rfl, hs, ht, hr⟩ := ht
    exact ⟨o1, l1, c1, o2, l2, c2, ys, rfl, hs.fr hf hR, ht.fr hf hR, RowT.fr hf hR r ys hr⟩
theorem RowT.snoc {R : Nat → Prop} {w : World} {h : Nd} {ps : To} {o1 : Option Addr} {l1 c1 : Nat} {o2 : Option Addr} {l2 c2 : Nat} (hs : SlcIn R w o1 l1 h.tp) (ht : TSlc R w o2 l2 ps) : ∀ (f : To) (xs : List Value), RowT R w xs f → RowT R w (xs ++ (cells9 h o1 l1 c1 o2 l2 c2).toList) (f.app (.cons h ps .nil))
  | .nil, xs, e => by
    cases e
    exact ⟨o1, l1, c1, o2, l2, c2, [], by simp, hs, ht, rfl⟩
  | .cons h' ps' r, xs, e => by
    obtain ⟨p1, m1, d1, p2, m2, d2, ys, rfl, hs', ht', hr⟩ := e
    exact ⟨p1, m1, d1, p2, m2, d2, _, by rw [List.append_assoc], hs', ht', RowT.snoc hs ht r ys hr⟩
theorem RowT.at {R : Nat → Prop} {w : World} {g : Nat} (hg : R g) : ∀ (f : To) (xs : List Value) (off : Nat), RowT R w xs f → (∀ j u, xs[j]? = some u → w.cell? ⟨g, off + j, none⟩ = some u) → TIn R w g off f
  | .nil, _, _, _, _ => trivial
  | .cons h ps r, xs, off, e, hc => by
    obtain ⟨o1, l1, c1, o2, l2, c2, ys, rfl, hs, ht, hr⟩ := e
    refine ⟨hg, ⟨o1, l1, c1, o2, l2, c2, ⟨hc 0 _ rfl, hc 1 _ rfl, hc 2 _ rfl, hc 3 _ rfl, hc 4 _ rfl, hc 5 _ rfl, hc 6 _ rfl, hc 7 _ rfl, hc 8 _ rfl⟩, hs, ht.1, ht.2.1, ht.2.2⟩, RowT.at hg r ys (off + 9) hr ?_⟩
    intro j u hj
    have := hc (j + 9) u (by simpa using hj)
    rw [← this]; congr 2; omega
structure TmRow (w : World) (B : Nat) (v : Value) (f : To) (xs : List Value) : Prop where
  own : w.ownsRow 0 30 9 v f.length xs
  low : ∀ k, v.ownBlock = some k → B ≤ k
  cells : RowT (fun k => B ≤ k ∧ v.ownBlock ≠ some k) w xs f
theorem TmRow.nil (w : World) (B : Nat) : TmRow w B (.slice none 0 0) .nil [] := ⟨World.ownsRow_nil _ _ _ _, fun k hk => (by cases hk), rfl⟩
theorem TmRow.fr {w w' : World} {B : Nat} {v : Value} {f : To} {xs : List Value} {S : Nat → Prop} (h : TmRow w B v f xs) (hf : Fr S w w') (hS : ∀ k, S k → k < B) : TmRow w' B v f xs := by
  refine ⟨ownsRow_fr h.own hf (fun k hk hs => ?_), h.low, RowT.fr hf (fun k _ hk => ⟨hk, fun hs => ?_⟩) f xs h.cells⟩
  · have := h.low k hk; have := hS k hs; omega
  · have := hS k hs; omega
theorem TmRow.stay {w w' : World} {B : Nat} {v : Value} {f : To} {xs : List Value} (h : TmRow w B v f xs) (hf : Quiet0 w w') : TmRow w' B v f xs := h.fr hf (fun _ hk => hk.elim)
theorem TmRow.lt {w : World} {B : Nat} {v : Value} {f : To} {xs : List Value} (h : TmRow w B v f xs) : ∀ k, v.ownBlock = some k → k < w.heap.size := fun k hk => (h.own.lt k hk).2
theorem TmRow.snoc {W w1 : World} {B : Nat} {v : Value} {f : To} {xs : List Value} {h : Nd} {ps : To} {o1 : Option Addr} {l1 c1 : Nat} {o2 : Option Addr} {l2 c2 g c : Nat} (hr : TmRow W B v f xs)
    (hs : SlcIn (fun k => B ≤ k ∧ v.ownBlock ≠ some k) W o1 l1 h.tp) (ht : TSlc (fun k => B ≤ k ∧ v.ownBlock ≠ some k) W o2 l2 ps)
    (ho : w1.ownsRow 0 30 9 (.slice (some ⟨g, 0, none⟩) (f.length + 1) c) (f.length + 1) (xs ++ (cells9 h o1 l1 c1 o2 l2 c2).toList)) (hf : Fr (fun k => v.ownBlock = some k) W w1) (hg : v.ownBlock = some g ∨ W.heap.size ≤ g) (hB : B ≤ W.heap.size) :
    TmRow w1 B (.slice (some ⟨g, 0, none⟩) (f.length + 1) c) (f.app (.cons h ps .nil)) (xs ++ (cells9 h o1 l1 c1 o2 l2 c2).toList) := by
  refine ⟨by rw [To.app_length]; exact ho, ?_, ?_⟩
  · intro k hk
    simp [Value.ownBlock] at hk
    subst hk
    rcases hg with h | h
    · exact hr.low g h
    · omega
  · have hk : ∀ k, k < W.heap.size → (B ≤ k ∧ v.ownBlock ≠ some k) → ((B ≤ k ∧ (Value.slice (some ⟨g, 0, none⟩) (f.length + 1) c).ownBlock ≠ some k) ∧ ¬ v.ownBlock = some k) := by
      rintro k hk ⟨h1, h2⟩
      refine ⟨⟨h1, fun h => ?_⟩, h2⟩
      simp [Value.ownBlock] at h
      subst h
      rcases hg with h | h
      · exact h2 h
      · omega
    exact RowT.snoc (hs.fr hf hk) (ht.fr hf hk) f xs (RowT.fr hf hk f xs hr.cells)
theorem TmRow.slc {w : World} {B : Nat} {o : Option Addr} {len cap : Nat} {f : To} {xs : List Value} (h : TmRow w B (.slice o len cap) f xs) (hl : len = f.length) (hm : len ≤ maxLen) : TSlc (fun k => B ≤ k) w o len f := by
  refine ⟨hl, hm, fun h0 => ?_⟩
  rcases h.own.2 with ⟨_, h2⟩ | ⟨g, cap', cur, he, _⟩
  · omega
  · injection he with h1 h2 h3
    subst h1
    refine ⟨g, 0, rfl, RowT.at (h.low g rfl) f xs 0 (RowT.fr (Fr.refl (fun _ => False) w) (fun k _ hk => ⟨hk.1, fun h => h⟩) f xs h.cells) ?_⟩
    intro j u hj
    have := h.own.cells (g := g) rfl j u hj
    simpa [Addr.add_lit] using this
theorem elemTm : Elem Tryd.prog 26 30 (.agg #[.int .i64 0, .string ⟨#[]⟩, .int .i64 0, .int .i64 0, .int .i64 0, .slice none 0 0, .slice none 0 0, .int .i64 0, .int .i64 0]) 9 112 :=
  ⟨Tryd.underlying26, by kernel_rfl, by decide, by decide⟩
end Go.Proofs.YtnfodiedalhlhaaDoor
end
section
namespace Go.Proofs.YtnfodiedalhlhaaDoor
open Go.RowKit
theorem with_q {w0 W w3 : World} {G : Prop} (h : Quiet0 w0 W) (hq : Quiet0 W w3) (k : Quiet0 w0 w3 → G) : G := k (h.trans hq)
theorem blk_new (w : World) (b : Nat) (cs : Array Value) (t : TypeId) (h : b = w.heap.size) : (w.alloc (.cells cs t)).heap[b]? = some (.cells cs t (0, 0)) := by
  subst h; exact heap_alloc_new w _
theorem blk_after {w W : World} {b : Nat} {o : Obj} (hq : Quiet0 w W) (h : w.heap[b]? = some o) : W.heap[b]? = some o := by
  have hlt : b < w.heap.size := (Array.getElem?_eq_some_iff.1 h).1
  rw [hq.block b hlt (fun h => h)]; exact h
theorem blk_drew {w : World} {b : Nat} {o : Obj} (h : w.heap[b]? = some o) : w.drew.heap[b]? = some o := h
theorem Quiet0.fr {S : Nat → Prop} {w w' : World} (h : Quiet0 w w') : Fr S w w' := h.mono (fun _ _ h => h.elim)
theorem with_frq {S : Nat → Prop} {w0 W w3 : World} {G : Prop} (h : Fr S w0 W) (hq : Quiet0 W w3) (k : Fr S w0 w3 → G) : G := k (h.trans hq.fr)
theorem set_block {w : World} {b i : Nat} {cs : Array Value} {u : Value} {t : TypeId} {z : Nat × Nat} (h : w.heap[b]? = some (.cells cs t z)) : (w.setCell ⟨b, i, none⟩ u).heap[b]? = some (.cells (cs.setIfInBounds i u) t z) := by
  have hlt := (Array.getElem?_eq_some_iff.1 h).1
  have h' : w.heap[b] = .cells cs t z := by simpa [Array.getElem?_eq_getElem hlt] using h
  show (w.heap.modify b _)[b]? = _
  rw [Array.getElem?_eq_getElem (by simpa using hlt), Array.getElem_modify_self, h']
  rfl
theorem blk_fr {S : Nat → Prop} {w W : World} {b : Nat} {o : Obj} (hf : Fr S w W) (hb : ¬ S b) (h : w.heap[b]? = some o) : W.heap[b]? = some o := by
  rw [hf.block b (Array.getElem?_eq_some_iff.1 h).1 hb]; exact h
theorem with_fr2 {w0 W w3 : World} {S : Nat → Prop} {G : Prop} (h : Quiet0 w0 W) (hf : Fr S W w3) (hS : ∀ k, S k → w0.heap.size ≤ k) (k : Quiet0 w0 w3 → w0.heap.size ≤ w3.heap.size → G) : G :=
  have hq : Quiet0 w0 w3 := Fr.trans' h hf (fun i hi hs => by have := hS i hs; omega)
  k hq hq.size
end Go.Proofs.YtnfodiedalhlhaaDoor
end
section
namespace Go.Proofs.YtnfodiedalhlhaaDoor
open Go.RowKit
namespace Sc
def NmIn (T : Nat → Prop) (w : World) (o : Option Addr) (n : Nat) (e : List ByteArray) : Prop :=
  n = e.length ∧ n ≤ maxLen ∧ (0 < n → ∃ b, o = some ⟨b, 0, none⟩ ∧ T b ∧ ∀ i s, e.reverse[i]? = some s → w.cell? ⟨b, i, none⟩ = some (.string s))
theorem NmIn.nil (T : Nat → Prop) (w : World) (o : Option Addr) : NmIn T w o 0 [] := ⟨rfl, Nat.zero_le _, fun h => absurd h (Nat.lt_irrefl _)⟩
theorem NmIn.lt {T : Nat → Prop} {w : World} {b n : Nat} {e : List ByteArray} (h : NmIn T w (some ⟨b, 0, none⟩) n e) (hn : 0 < n) : b < w.heap.size ∧ T b := by
  obtain ⟨b', he, ht, hc⟩ := h.2.2 hn
  injection he with he; injection he with he
  subst he
  have hl : 0 < e.reverse.length := by simp; have := h.1; omega
  exact ⟨World.block_lt_of_cell? w _ (hc 0 _ (List.getElem?_eq_getElem hl)), ht⟩
theorem NmIn.fr {T T' S : Nat → Prop} {w w' : World} {o : Option Addr} {n : Nat} {e : List ByteArray} (h : NmIn T w o n e) (hf : Fr S w w') (hT : ∀ k, k < w.heap.size → T k → T' k ∧ ¬ S k) : NmIn T' w' o n e := by
  refine ⟨h.1, h.2.1, fun hn => ?_⟩
  obtain ⟨b, he, ht, hc⟩ := h.2.2 hn
  subst he
  have hl := (h.lt hn).1
  obtain ⟨h1, h2⟩ := hT b hl ht
  exact ⟨b, rfl, h1, fun i s hi => (hf.cellb hl h2).trans (hc i s hi)⟩
theorem NmIn.stay {T : Nat → Prop} {w w' : World} {o : Option Addr} {n : Nat} {e : List ByteArray} (h : NmIn T w o n e) (hq : Quiet0 w w') : NmIn T w' o n e := h.fr hq (fun _ _ hk => ⟨hk, fun h => h⟩)
theorem NmIn.at {T : Nat → Prop} {w : World} {o : Option Addr} {n : Nat} {e : List ByteArray} (h : NmIn T w o n e) {i : Nat} {s : ByteArray} (hi : e[i]? = some s) : ∃ b, o = some ⟨b, 0, none⟩ ∧ w.cell? ⟨b, n - 1 - i, none⟩ = some (.string s) := by
  have hl := (List.getElem?_eq_some_iff.1 hi).1
  obtain ⟨b, he, _, hc⟩ := h.2.2 (by have := h.1; omega)
  refine ⟨b, he, hc _ s ?_⟩
  rw [List.getElem?_reverse (by have := h.1; omega), h.1]
  rw [← hi]; congr 1; omega
theorem NmIn.of_own {T : Nat → Prop} {w : World} {base g n c : Nat} {e : List ByteArray} {s : ByteArray} (ho : w.ownsRow base 9 1 (.slice (some ⟨g, 0, none⟩) n c) n (e.reverse.map Value.string ++ [.string s])) (hn : n = e.length + 1) (hm : n ≤ maxLen) (ht : T g) : NmIn T w (some ⟨g, 0, none⟩) n (s :: e) := by
  refine ⟨by simpa using hn, hm, fun _ => ⟨g, rfl, ht, fun i u hi => ?_⟩⟩
  have hx : (e.reverse.map Value.string ++ [.string s])[i]? = some (.string u) := by
    have : e.reverse.map Value.string ++ [Value.string s] = ((s :: e).reverse).map Value.string := by simp
    rw [this, List.getElem?_map, hi]; rfl
  have := ho.cells (g := g) rfl i (.string u) hx
  simpa [Addr.add_lit] using this
theorem elemStr : Elem Tryd.prog 40 9 (.string ⟨#[]⟩) 1 16 :=
  ⟨Tryd.underlying40, by kernel_rfl, by decide, by decide⟩
theorem NmIn.none {T : Nat → Prop} {w : World} {n : Nat} {e : List ByteArray} (h : NmIn T w none n e) : n = 0 := by
  rcases Nat.eq_zero_or_pos n with h0 | h0
  · exact h0
  · obtain ⟨b, he, _⟩ := h.2.2 h0; cases he
theorem names_cells {T : Nat → Prop} {w : World} {o : Option Addr} {n : Nat} {e : List ByteArray} (h : NmIn T w o n e) : ∀ b, o = some b → ∀ j u, (e.reverse.map Value.string)[j]? = some u → w.cell? (b.add j) = some u := by
  rintro b rfl j u hj
  have hl := (List.getElem?_eq_some_iff.1 hj).1
  obtain ⟨b', he, _, hc⟩ := h.2.2 (by have := h.1; simp at hl; omega)
  injection he with he
  subst he
  rw [List.getElem?_map] at hj
  obtain ⟨s, hs, rfl⟩ := Option.map_eq_some_iff.1 hj
  rw [Addr.add_lit, Nat.zero_add]
  exact hc j s hs
theorem ix_take {e : List ByteArray} {s : ByteArray} {i : Nat} (hn : s ∉ e.take i) (hi : e.length ≤ i) : ix e s = -1 := ixE_miss (by rwa [List.take_of_length_le hi] at hn)
theorem take_no {e : List ByteArray} {s a : ByteArray} {i : Nat} (hn : s ∉ e.take i) (hi : e[i]? = some a) (ha : a ≠ s) : s ∉ e.take (i + 1) := by
  rw [List.take_add_one, hi]
  simp only [Option.toList_some, List.mem_append, List.mem_singleton, not_or]
  exact ⟨hn, fun h => ha h.symm⟩
theorem str_eq {a s : ByteArray} : (a.toList == s.toList) = true ↔ a = s := by
  rw [beq_iff_eq]
  constructor
  · intro h
    rw [ByteArray.toList_eq, ByteArray.toList_eq] at h
    exact ByteArray.ext (Array.toList_inj.1 h)
  · intro h; rw [h]
end Sc
end Go.Proofs.YtnfodiedalhlhaaDoor
end
section
namespace Go.Proofs.YtnfodiedalhlhaaDoor
open Go.RowKit
namespace Sc
theorem binds_any (k : Int) (i : Nat) (w : World) : Calls Tryd.prog 47 #[.int .i64 k, .int .i64 (i : Nat)] w fun e w' => e = .returned (.bool (bindsB k i)) ∧ w = w' := by
  unfold bindsB
  have e1 : ((i : Int) == 1) = (i == 1) := by rw [Bool.eq_iff_iff, beq_iff_eq, beq_iff_eq]; omega
  generalize (i == 1) = r at *
  cases h4 : (k == 4)
  · cases h7 : (k == 7)
    · cases h6 : (k == 6)
      · go_enter Tryd.func47, Tryd.ntmps47
        go_wp2_with fail
        go_ret
        exact ⟨rfl, rfl⟩
      · go_enter Tryd.func47, Tryd.ntmps47
        go_wp2_with fail
        go_ret
        exact ⟨by simp, rfl⟩
    · go_enter Tryd.func47, Tryd.ntmps47
      go_wp2_with fail
      go_ret
      exact ⟨rfl, rfl⟩
  · go_enter Tryd.func47, Tryd.ntmps47
    go_wp2_with fail
    go_ret
    exact ⟨rfl, rfl⟩
theorem clip_any (o : Option Addr) (n c : Nat) (w : World) (hc : n ≤ c) (_ : o = none → n = 0) : Calls Tryd.prog 55 #[.slice o n c] w fun e w' => e = .returned (.slice o n n) ∧ w = w' := by
  go_enter Tryd.func55, Tryd.ntmps55
  go_wp2_with fail
  go_ret
  exact ⟨rfl, rfl⟩
set_option maxHeartbeats 1000000 in
theorem index_any (T : Nat → Prop) (e : List ByteArray) (s : ByteArray) (o : Option Addr) (n c : Nat) (w : World) (h : NmIn T w o n e) (hz : n ≤ 1000000) : Calls Tryd.prog 53 #[.slice o n c, .string s] w fun x w' => x = .returned (.int .i64 (ix e s)) ∧ w = w' := by
  have H := Lib.hid h
  have HN := Lib.hid h.1
  clear h
  go_enter Tryd.func53, Tryd.ntmps53
  go_wp2_with fail
  go_loopw [8] (fun t wr => ∃ i : Nat, t = .int .i64 i ∧ i ≤ n ∧ s ∉ e.take i ∧ w = wr) (fun t _ => n - (intOf t).toNat)
  case atStart => exact ⟨0, rfl, Nat.zero_le _, by simp, rfl⟩
  case round =>
    obtain ⟨i, rfl, hi, hns, rfl⟩ := hrel
    by_cases hlt : i < n
    · have hlt' : (i : Int) < n := by omega
      obtain ⟨a, ha⟩ : ∃ a, e[i]? = some a := ⟨_, List.getElem?_eq_getElem (by have := HN.out; omega)⟩
      obtain ⟨b, rfl, c0⟩ := H.out.at ha
      have hidx : ((n : Int) - 1 - i) = ((n - 1 - i : Nat) : Int) := by omega
      have hb1 : (0 : Int) ≤ (n : Int) - 1 - i := by omega
      have hb2 : (n : Int) - 1 - i < n := by omega
      have HNS := Lib.hid hns
      have HA := Lib.hid ha
      clear hns ha
      cases hx : (a.toList == s.toList)
      · go_wp2_with fail
        go_roundw
        case rel => exact ⟨i + 1, by go_num, by omega, take_no HNS.out HA.out (fun e => by rw [str_eq.2 e] at hx; cases hx), trivial⟩
        case measure => simp [intOf]; omega
      · have HR : Hid (ix e s = i) := ixE_hit (by rw [← str_eq.1 hx]; exact HA.out) HNS.out
        go_wp2_with fail
        go_ret
        exact ⟨by first | (rw [HR.out]; done) | (rw [HR.out]; rfl), rfl⟩
    · have hlt' : ¬ (i : Int) < n := by omega
      have HR : Hid (ix e s = -1) := ix_take hns (by have := HN.out; omega)
      clear hns
      go_wp2_with fail
      go_ret
      exact ⟨by first | (rw [HR.out]; done) | (rw [HR.out]; rfl), rfl⟩
set_option maxHeartbeats 1000000 in
theorem refIndex_any (T : Nat → Prop) (e : List ByteArray) (s : ByteArray) (o : Option Addr) (n c : Nat) (w : World) (h : NmIn T w o n e) (hz : n ≤ 1000000) : Calls Tryd.prog 20 #[.slice o n c, .string s] w fun x w' => x = .returned (.int .i64 (ix e s)) ∧ w = w' := by
  have H := Lib.hid h
  have HN := Lib.hid h.1
  clear h
  go_enter Tryd.func20, Tryd.ntmps20
  go_wp2_with fail
  go_loopw [5] (fun t wr => ∃ (i : Nat) (p : Int), t = .int .i64 p ∧ p = (n : Int) - 1 - i ∧ i ≤ n ∧ s ∉ e.take i ∧ w = wr) (fun t _ => (intOf t + 1).toNat)
  case atStart => exact ⟨0, (n : Int) - 1, rfl, by omega, Nat.zero_le _, by simp, rfl⟩
  case round =>
    obtain ⟨i, p, rfl, hp, hi, hns, rfl⟩ := hrel
    by_cases hlt : i < n
    · have hp0 : (0 : Int) ≤ p := by omega
      have hp0' : p ≥ 0 := hp0
      have hpn : p < n := by omega
      obtain ⟨q, hq⟩ : ∃ q : Nat, p = q := ⟨p.toNat, by omega⟩
      subst hq
      obtain ⟨a, ha⟩ : ∃ a, e[i]? = some a := ⟨_, List.getElem?_eq_getElem (by have := HN.out; omega)⟩
      obtain ⟨b, rfl, c0⟩ := H.out.at ha
      rw [show n - 1 - i = q from by omega] at c0
      have hidx : (n : Int) - 1 - q = i := by omega
      have HNS := Lib.hid hns
      have HA := Lib.hid ha
      have HP := Lib.hid hp
      clear hns ha hp
      cases hx : (a.toList == s.toList)
      · go_wp2_with fail
        go_roundw
        case rel => exact ⟨i + 1, (q : Int) - 1, rfl, by have := HP.out; omega, by omega, take_no HNS.out HA.out (fun e => by rw [str_eq.2 e] at hx; cases hx), trivial⟩
        case measure => simp [intOf] <;> omega
      · have HR : Hid (ix e s = i) := ixE_hit (by rw [← str_eq.1 hx]; exact HA.out) HNS.out
        go_wp2_with fail
        go_ret
        exact ⟨by first | (rw [HR.out]; done) | (rw [HR.out]; rfl), rfl⟩
    · have hp0 : ¬ (0 : Int) ≤ p := by omega
      have hp0' : ¬ p ≥ 0 := hp0
      have HR : Hid (ix e s = -1) := ix_take hns (by have := HN.out; omega)
      clear hns hp
      go_wp2_with fail
      go_ret
      exact ⟨by first | (rw [HR.out]; done) | (rw [HR.out]; rfl), rfl⟩
end Sc
end Go.Proofs.YtnfodiedalhlhaaDoor
end
section
namespace Go.Proofs.YtnfodiedalhlhaaDoor
open Go.RowKit
def IntsAt (w : World) (o : Option Addr) (l : List Int) : Prop := ∀ i x, l[i]? = some x → ∃ b off, o = some ⟨b, off, none⟩ ∧ w.cell? ⟨b, off + i, none⟩ = some (.int .i64 x)
theorem IntsAt.stay {w w' : World} {o : Option Addr} {l : List Int} (h : IntsAt w o l) (hq : Quiet0 w w') : IntsAt w' o l := by
  intro i x hi
  obtain ⟨b, off, ho, hc⟩ := h i x hi
  exact ⟨b, off, ho, hq.at hc⟩
theorem drop_some {α : Type} {l : List α} {k : Nat} {t : α} (h : l[k]? = some t) : l.drop k = t :: l.drop (k + 1) := by
  obtain ⟨hl, rfl⟩ := List.getElem?_eq_some_iff.1 h
  exact List.drop_eq_getElem_cons hl
set_option maxHeartbeats 1000000 in
theorem refIn_any (o : Option Addr) (len cap : Nat) (l : List Int) (v : Int) (w : World) (h : IntsAt w o l) (hl : len = l.length) (hb : len ≤ 1000000) :
    Calls Tryd.prog 104 #[.slice o len cap, .int .i64 v] w fun e w' => e = .returned (.bool (inB l v)) ∧ w = w' := by
  have H := Lib.hid h
  have HL := Lib.hid hl
  clear h hl
  go_enter Tryd.func104, Tryd.ntmps104
  go_wp2_with fail
  go_loop [5] (fun t => ∃ i : Nat, t = .int .i64 i ∧ i ≤ len ∧ inB l v = inB (l.drop i) v) (fun t => len - (intOf t).toNat)
  case atStart => exact ⟨0, rfl, Nat.zero_le _, rfl⟩
  case round =>
    obtain ⟨i, rfl, hi, hc⟩ := hrel
    have HC := Lib.hid hc
    clear hc
    by_cases hlt : i < len
    · have hlt' : (i : Int) < len := by omega
      obtain ⟨x, hx⟩ : ∃ x, l[i]? = some x := ⟨_, List.getElem?_eq_getElem (by have := HL.out; omega)⟩
      obtain ⟨b, off, rfl, c⟩ := H.out i x hx
      have HD := Lib.hid (drop_some hx)
      clear hx
      cases hxv : (x == v)
      · have HX : Hid ((v == x) = false) := by
          show _ = _
          rw [beq_eq_false_iff_ne] at hxv ⊢; exact fun h => hxv h.symm
        go_wp2_with fail
        go_round
        case rel => exact ⟨i + 1, by go_num, by omega, by rw [HC.out, HD.out, inB_cons, HX.out]; rfl⟩
        case measure => simp [intOf]; omega
      · have HX : Hid (v = x) := by show _ = _; exact (beq_iff_eq.1 hxv).symm
        go_wp2_with fail
        go_ret
        exact ⟨by rw [HC.out, HD.out, inB_cons, HX.out]; simp, rfl⟩
    · have hlt' : ¬ (i : Int) < len := by omega
      go_wp2_with fail
      go_ret
      exact ⟨by rw [HC.out, List.drop_eq_nil_of_le (by have := HL.out; omega)]; rfl, rfl⟩
def LRoom (k n : Int) (ps : Fo) : Prop := ∀ (w : World) (o : Option Addr) (len cap : Nat) (d : Nat) (m : Int) (di : Int), di = d → Slc w o len ps → 0 ≤ m → m ≤ 100000 → d ≤ 100000 →
  Calls Tryd.prog 103 #[tyv k n o len cap, .int .i64 m, .int .i64 di] w fun e w' => e = .returned (.int .i64 (if d = 0 then -1 else Fo.room (d - 1) (m - 1) ps)) ∧ Quiet0 w w'
set_option maxHeartbeats 2000000 in
theorem room_any (k n : Int) (ps : Fo) : LRoom k n ps := by
  refine Fo.ind' (T := LRoom) ?_ k n ps
  intro k n ps ih w o len cap d m di ed hs hm0 hm1 hd1
  subst ed
  have HS := Lib.hid hs
  have IH := Lib.hid ih
  have HL := Lib.hid hs.1
  have hmx := hs.2.1
  unfold maxLen at hmx
  clear hs ih
  by_cases hd0 : d = 0
  · subst hd0
    unfold tyv
    go_enter Tryd.func103, Tryd.ntmps103
    go_wp2_with fail
    go_ret
    exact ⟨rfl, Quiet0.alloc _ _⟩
  · obtain ⟨D, hD⟩ : ∃ D, D = d - 1 := ⟨_, rfl⟩
    have hd0' : ((d : Int) == 0) = false := by simp; omega
    have hdD : d = D + 1 := by omega
    obtain ⟨res, hres⟩ : ∃ res, res = Fo.room D (m - 1) ps := ⟨_, rfl⟩
    have HRES := Lib.hid hres
    have HF : Hid ((if d = 0 then -1 else Fo.room (d - 1) (m - 1) ps) = res) := by show _ = _; rw [if_neg (by omega), ← hD, hres]
    rw [HF.out]
    have HDD := Lib.hid hdD
    have hD1 : D ≤ 100000 := by omega
    have hd1' : 1 ≤ d := by omega
    clear hres hd0 hD hdD
    unfold tyv
    go_enter Tryd.func103, Tryd.ntmps103
    go_wp2_with fail
    obtain ⟨W0, hW0⟩ : ∃ W0, W0 = w.alloc (.cells #[.int .i64 k, .int .i64 n, .slice o len cap] 25) := ⟨_, rfl⟩
    have HB0 : Hid (∀ W, Quiet0 W0 W → W.cell? ⟨w.heap.size, 0, none⟩ = some (.int .i64 k)) := by
      intro W hq; rw [hW0] at hq; exact (box_cells w k n o len cap _ W hq).1
    have HB1 : Hid (∀ W, Quiet0 W0 W → W.cell? ⟨w.heap.size, 1, none⟩ = some (.int .i64 n)) := by
      intro W hq; rw [hW0] at hq; exact (box_cells w k n o len cap _ W hq).2.1
    have HB : Hid (∀ W, Quiet0 W0 W → W.cell? ⟨w.heap.size, 2, none⟩ = some (.slice o len cap)) := by
      intro W hq; rw [hW0] at hq; exact (box_cells w k n o len cap _ W hq).2.2
    have HQ0 : Hid (Quiet0 w W0) := by rw [hW0]; exact Quiet0.alloc _ _
    change Code.wp _ _ _ _ (w.alloc (.cells #[.int .i64 k, .int .i64 n, .slice o len cap] 25))
    rw [← hW0]
    clear hW0
    generalize w.heap.size = nb at *
    go_loopw [1, 7] (fun s t wr => ∃ (i : Nat) (x : Int), t = .int .i64 i ∧ s = .int .i64 x ∧ i ≤ len ∧ -1 ≤ x ∧ x ≤ 100000 ∧ res = Fo.room D x (ps.drop i) ∧ Quiet0 W0 wr) (fun _ t _ => len - (intOf t).toNat)
    case atStart => exact ⟨0, m - 1, rfl, rfl, Nat.zero_le _, by omega, by omega, by rw [Fo.drop_zero]; exact HRES.out, Quiet0.refl _⟩
    case round =>
      obtain ⟨i, x, rfl, rfl, hi, hx0, hx1, hr, hq⟩ := hrel
      have HR := Lib.hid hr
      have HQ := Lib.hid hq
      have c2 := HB.out wr hq
      clear hr hq
      by_cases hlt : i < len
      · have hlt' : (i : Int) < len := by omega
        by_cases hx : 0 ≤ x
        · obtain ⟨b, off, k', n', qs, o', len', cap', rfl, hd, hg, e0, e1, e2, hs'⟩ := (HS.out.stay (HQ0.out.trans HQ.out)).nth hlt
          have HD := Lib.hid hd
          have HC := Lib.hid (IH.out i k' n' qs hg wr o' len' cap' D x ((d : Int) - 1) (by have := HDD.out; omega) hs' hx hx1 hD1)
          obtain ⟨y, hy⟩ : ∃ y, y = if D = 0 then -1 else Fo.room (D - 1) (x - 1) qs := ⟨_, rfl⟩
          have hyb : -1 ≤ y ∧ y ≤ 100000 := by
            rw [hy]; split
            · omega
            · by_cases h1 : 0 ≤ x - 1
              · have := Fo.room_le qs (D - 1) (x - 1) h1; omega
              · rw [Fo.room_neg _ _ _ (by omega)]; omega
          have HY : Hid (res = Fo.room D y (ps.drop (i + 1))) := by
            show _ = _
            rw [HR.out, hd, hy]
            cases D with
            | zero => conv => lhs; unfold Fo.room
                      rw [if_neg (by omega)]; rfl
            | succ E => conv => lhs; unfold Fo.room
                        rw [if_neg (by omega), if_neg (by omega)]; rfl
          rw [← hy] at HC
          unfold tyv at HC
          clear hd hg hs' hy
          go_wp2_with fail
          refine HC.out.mono ?_; rintro e w1 ⟨rfl, hq1⟩
          have HQ1 := Lib.hid (HQ.out.trans hq1)
          clear hq1
          go_wp2_with fail
          go_roundw
          case rel => exact ⟨i + 1, y, by go_num, rfl, by omega, hyb.1, hyb.2, HY.out, HQ1.out⟩
          case measure => simp [intOf]; omega
        · have hx' : x < 0 := by omega
          have HY : Hid (res = x) := by show _ = _; rw [HR.out]; exact Fo.room_neg _ _ _ hx'
          go_wp2_with fail
          go_ret
          exact ⟨by rw [HY.out]; rfl, HQ0.out.trans HQ.out⟩
      · have hlt' : ¬ (i : Int) < len := by omega
        have HY : Hid (res = x) := by
          show _ = _
          rw [HR.out, Fo.drop_end ps i (by have := HL.out; omega)]
          unfold Fo.room; rfl
        go_wp2_with fail
        go_ret
        exact ⟨by rw [HY.out]; rfl, HQ0.out.trans HQ.out⟩
def greatF (ps : Fo) : Bool := decide (Fo.room 39 299 ps < 0)
theorem great_size {ps : Fo} (h : greatF ps = false) : ps.size + 1 ≤ 300 := by
  unfold greatF at h
  have h0 : 0 ≤ Fo.room 39 299 ps := by simpa using h
  have := Fo.room_size ps 39 299 h0
  omega
set_option maxHeartbeats 1000000 in
theorem great_any (k n : Int) (ps : Fo) (w : World) (o : Option Addr) (len cap : Nat) (hs : Slc w o len ps) :
    Calls Tryd.prog 74 #[tyv k n o len cap] w fun e w' => e = .returned (.bool (greatF ps)) ∧ Quiet0 w w' := by
  have HC := Lib.hid (fun (W : World) (hq : Quiet0 w W) => room_any k n ps W o len cap 40 300 40 rfl (hs.stay hq) (by omega) (by omega) (by omega))
  unfold greatF
  rw [if_neg (by omega), show (40 : Nat) - 1 = 39 from rfl, show (300 : Int) - 1 = 299 from rfl] at HC
  generalize Fo.room 39 299 ps = r at *
  unfold tyv at *
  go_enter Tryd.func74, Tryd.ntmps74
  go_wp2_with fail
  refine (HC.out _ (Quiet0.alloc _ _)).mono ?_; rintro e w1 ⟨rfl, hq⟩
  go_wp2_with fail
  go_ret
  exact ⟨rfl, (Quiet0.alloc _ _).trans hq⟩
end Go.Proofs.YtnfodiedalhlhaaDoor
end
section
namespace Go.Proofs.YtnfodiedalhlhaaDoor
open Go.RowKit
def sameT (k n : Int) (ps : Fo) (k' n' : Int) (ps' : Fo) : Bool := (k == k') && (n == n') && ps.same ps'
theorem same_cons (k n : Int) (ps r : Fo) (k' n' : Int) (ps' r' : Fo) : (Fo.cons k n ps r).same (Fo.cons k' n' ps' r') = (sameT k n ps k' n' ps' && r.same r') := by simp [Fo.same, sameT]
def RSame (k n : Int) (ps : Fo) : Prop := ∀ (k' n' : Int) (ps' : Fo) (w : World) (o : Option Addr) (len cap : Nat) (o' : Option Addr) (len' cap' : Nat), Slc w o len ps → Slc w o' len' ps' →
  Calls Tryd.prog 48 #[tyv k n o len cap, tyv k' n' o' len' cap'] w fun e w' => e = .returned (.bool (sameT k n ps k' n' ps')) ∧ Quiet0 w w'
theorem box_cells2 (w : World) (k n : Int) (o : Option Addr) (len cap : Nat) (k' n' : Int) (o' : Option Addr) (len' cap' : Nat) (t : TypeId) (W : World) (hW : Quiet0 ((w.alloc (.cells #[.int .i64 k, .int .i64 n, .slice o len cap] t)).alloc (.cells #[.int .i64 k', .int .i64 n', .slice o' len' cap'] t)) W) :
    (W.cell? ⟨w.heap.size, 0, none⟩ = some (.int .i64 k) ∧ W.cell? ⟨w.heap.size, 1, none⟩ = some (.int .i64 n) ∧ W.cell? ⟨w.heap.size, 2, none⟩ = some (.slice o len cap)) ∧
    (W.cell? ⟨w.heap.size + 1, 0, none⟩ = some (.int .i64 k') ∧ W.cell? ⟨w.heap.size + 1, 1, none⟩ = some (.int .i64 n') ∧ W.cell? ⟨w.heap.size + 1, 2, none⟩ = some (.slice o' len' cap')) := by
  refine ⟨box_cells w k n o len cap t W ((Quiet0.alloc _ _).trans hW), ?_⟩
  have h := box_cells (w.alloc (.cells #[.int .i64 k, .int .i64 n, .slice o len cap] t)) k' n' o' len' cap' t W hW
  have e : (w.alloc (.cells #[.int .i64 k, .int .i64 n, .slice o len cap] t)).heap.size = w.heap.size + 1 := by simp
  rw [e] at h
  exact h
set_option maxRecDepth 100000 in
set_option maxHeartbeats 2000000 in
theorem refSame_any (k n : Int) (ps : Fo) : RSame k n ps := by
  refine Fo.ind' (T := RSame) ?_ k n ps
  intro k n ps ih k' n' ps' w o len cap o' len' cap' hs hs'
  have HS := Lib.hid hs
  have HS' := Lib.hid hs'
  have IH := Lib.hid ih
  have HL := Lib.hid hs.1
  have HL' := Lib.hid hs'.1
  have hmx := hs.2.1
  unfold maxLen at hmx
  clear hs hs' ih
  obtain ⟨res, hres⟩ : ∃ res, res = sameT k n ps k' n' ps' := ⟨_, rfl⟩
  have HRES := Lib.hid hres
  rw [← hres]
  clear hres
  by_cases hk : k = k'
  · by_cases hn : n = n'
    · by_cases hlen : len = len'
      · have HR2 : Hid (res = ps.same ps') := by show _ = _; rw [HRES.out]; simp [sameT, hk, hn]
        subst hk hn hlen
        have b1 : (k != k) = false := by simp
        have b2 : (n != n) = false := by simp
        have b3 : ((len : Int) != (len : Int)) = false := by simp
        unfold tyv
        go_enter Tryd.func48, Tryd.ntmps48
        go_wp2_with fail
        obtain ⟨W0, hW0⟩ : ∃ W0, W0 = (w.alloc (.cells #[.int .i64 k, .int .i64 n, .slice o len cap] 25)).alloc (.cells #[.int .i64 k, .int .i64 n, .slice o' len cap'] 25) := ⟨_, rfl⟩
        have HBB : Hid (∀ W, Quiet0 W0 W → W.cell? ⟨w.heap.size, 2, none⟩ = some (.slice o len cap) ∧ W.cell? ⟨w.heap.size + 1, 2, none⟩ = some (.slice o' len cap')) := by
          intro W hq; rw [hW0] at hq
          have := box_cells2 w k n o len cap k n o' len cap' _ W hq
          exact ⟨this.1.2.2, this.2.2.2⟩
        have HQ0 : Hid (Quiet0 w W0) := by rw [hW0]; exact (Quiet0.alloc _ _).trans (Quiet0.alloc _ _)
        change Code.wp _ _ _ _ ((w.alloc (.cells #[.int .i64 k, .int .i64 n, .slice o len cap] 25)).alloc (.cells #[.int .i64 k, .int .i64 n, .slice o' len cap'] 25))
        rw [← hW0]
        clear hW0
        generalize w.heap.size = nb at *
        go_loopw [5] (fun t wr => ∃ (i : Nat), t = .int .i64 i ∧ i ≤ len ∧ res = (ps.drop i).same (ps'.drop i) ∧ Quiet0 W0 wr) (fun t _ => len - (intOf t).toNat)
        case atStart => exact ⟨0, rfl, Nat.zero_le _, by rw [Fo.drop_zero, Fo.drop_zero]; exact HR2.out, Quiet0.refl _⟩
        case round =>
          obtain ⟨i, rfl, hi, hr, hq⟩ := hrel
          have HR := Lib.hid hr
          have HQ := Lib.hid hq
          obtain ⟨c1, c2⟩ := HBB.out wr hq
          clear hr hq
          by_cases hlt : i < len
          · have hlt' : (i : Int) < len := by omega
            obtain ⟨b, off, k1, n1, qs1, o1, len1, cap1, rfl, hd1, hg1, e0, e1, e2, hs1⟩ := (HS.out.stay (HQ0.out.trans HQ.out)).nth hlt
            obtain ⟨b2, off2, k2, n2, qs2, o2, len2, cap2, rfl, hd2, hg2, f0, f1, f2, hs2⟩ := (HS'.out.stay (HQ0.out.trans HQ.out)).nth hlt
            have HC := Lib.hid (fun (W : World) (hq : Quiet0 wr W) => IH.out i k1 n1 qs1 hg1 k2 n2 qs2 W o1 len1 cap1 o2 len2 cap2 (hs1.stay hq) (hs2.stay hq))
            have HN : Hid (res = (sameT k1 n1 qs1 k2 n2 qs2 && (ps.drop (i + 1)).same (ps'.drop (i + 1)))) := by
              show _ = _
              rw [HR.out, hd1, hd2, same_cons]
            unfold tyv at HC
            clear hd1 hg1 hs1 hd2 hg2 hs2
            cases hb : sameT k1 n1 qs1 k2 n2 qs2
            all_goals
              have HBV := Lib.hid hb
              clear hb
              go_wp2_with fail
              refine wp_region_still_tail 10 (by kernel_rfl) (by kernel_rfl) ?_
              simp only [List.take_succ_cons, List.take_zero, List.drop_succ_cons, List.drop_zero]
              change wpStill _ _ (World.drew wr) _ _ _
              repeat still_step
              refine wpStill_nil ?_
              change wpList _ _ _ _ _ (World.drew wr)
              go_wp2_with fail
              refine (HC.out _ (Quiet0.drew _)).mono ?_; rintro e w1 ⟨rfl, hq1⟩
              rw [HBV.out]
              have HQ1 := Lib.hid ((HQ.out.trans (Quiet0.drew _)).trans hq1)
              clear hq1
              go_wp2_with fail
            · go_ret
              exact ⟨by rw [HN.out, HBV.out]; rfl, HQ0.out.trans HQ1.out⟩
            · go_roundw
              case rel => exact ⟨i + 1, by go_num, by omega, by rw [HN.out, HBV.out]; rfl, HQ1.out⟩
              case measure => simp [intOf]; omega
          · have hlt' : ¬ (i : Int) < len := by omega
            have HY : Hid (res = true) := by
              show _ = _
              rw [HR.out, Fo.drop_end ps i (by have := HL.out; omega), Fo.drop_end ps' i (by have := HL'.out; omega)]; rfl
            go_wp2_with fail
            go_ret
            exact ⟨by rw [HY.out]; rfl, HQ0.out.trans HQ.out⟩
      · have HF : Hid (res = false) := by
          show _ = _
          rw [HRES.out]
          have : ps.same ps' = false := by
            cases h : ps.same ps'
            · rfl
            · exact absurd (Fo.same_length _ _ h) (by have := HL.out; have := HL'.out; omega)
          simp [sameT, this]
        subst hk hn
        have b1 : (k != k) = false := by simp
        have b2 : (n != n) = false := by simp
        have b3 : ((len : Int) != (len' : Int)) = true := by simp; omega
        unfold tyv
        go_enter Tryd.func48, Tryd.ntmps48
        go_wp2_with fail
        go_ret
        exact ⟨by rw [HF.out]; rfl, (Quiet0.alloc _ _).trans (Quiet0.alloc _ _)⟩
    · have HF : Hid (res = false) := by show _ = _; rw [HRES.out]; simp [sameT, hn]
      subst hk
      have b1 : (k != k) = false := by simp
      have b2 : (n != n') = true := by simpa using hn
      clear hn
      unfold tyv
      go_enter Tryd.func48, Tryd.ntmps48
      go_wp2_with fail
      go_ret
      exact ⟨by rw [HF.out]; rfl, (Quiet0.alloc _ _).trans (Quiet0.alloc _ _)⟩
  · have HF : Hid (res = false) := by show _ = _; rw [HRES.out]; simp [sameT, hk]
    have b1 : (k != k') = true := by simpa using hk
    clear hk
    unfold tyv
    go_enter Tryd.func48, Tryd.ntmps48
    go_wp2_with fail
    go_ret
    exact ⟨by rw [HF.out]; rfl, (Quiet0.alloc _ _).trans (Quiet0.alloc _ _)⟩
end Go.Proofs.YtnfodiedalhlhaaDoor
end
