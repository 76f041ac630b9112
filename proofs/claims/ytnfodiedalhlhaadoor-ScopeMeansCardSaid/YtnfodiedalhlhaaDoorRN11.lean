/-
  Texts laid together (TeOwn, ScWalk0): laws and walks, with their conditions in their statements.
-/
import Derived.Test.YtnfodiedalhlhaaDoorRN10
section
namespace Go.Proofs.YtnfodiedalhlhaaDoor
open Go.RowKit
abbrev TermB (w : World) (b : Nat) : Prop := ∃ cur, w.heap[b]? = some (.cells cur 30 (0, 0))
def TOI (R : Nat → Prop) (w : World) : (Nat → Nat → Prop) → Nat → Nat → To → Prop
  | _, _, _, .nil => True
  | D, b, off, .cons h ps r => (∃ o1 l1 c1 o2 l2 c2, Cells9 w b off h o1 l1 c1 o2 l2 c2 ∧ SlcIn R w o1 l1 h.tp ∧ l2 = ps.length ∧ l2 ≤ maxLen ∧
      (0 < l2 → ∃ b' E, o2 = some ⟨b', 0, none⟩ ∧ D 0 b' ∧ TermB w b' ∧ (∀ j k, E j k → D 0 k ∧ k ≠ b') ∧ (∀ i j k, E i k → E j k → i = j) ∧ TOI R w E b' 0 ps)) ∧ TOI R w (fun j => D (j + 1)) b (off + 9) r
def TO (R : Nat → Prop) (w : World) (D : Nat → Prop) (o : Option Addr) (len : Nat) (f : To) : Prop := len = f.length ∧ len ≤ maxLen ∧
  (0 < len → ∃ b E, o = some ⟨b, 0, none⟩ ∧ D b ∧ TermB w b ∧ (∀ j k, E j k → D k ∧ k ≠ b) ∧ (∀ i j k, E i k → E j k → i = j) ∧ TOI R w E b 0 f)
theorem TO.nil (R : Nat → Prop) (w : World) (D : Nat → Prop) (o : Option Addr) : TO R w D o 0 .nil := ⟨rfl, Nat.zero_le _, fun h => absurd h (Nat.lt_irrefl _)⟩
theorem toi_cons {R : Nat → Prop} {w : World} {D : Nat → Nat → Prop} {b off : Nat} {h : Nd} {ps r : To} : TOI R w D b off (.cons h ps r) ↔
    (∃ o1 l1 c1 o2 l2 c2, Cells9 w b off h o1 l1 c1 o2 l2 c2 ∧ SlcIn R w o1 l1 h.tp ∧ TO R w (D 0) o2 l2 ps) ∧ TOI R w (fun j => D (j + 1)) b (off + 9) r := Iff.rfl
theorem TermB.fr {S : Nat → Prop} {w w' : World} {b : Nat} (h : TermB w b) (hf : Fr S w w') (hs : ¬ S b) : TermB w' b := by
  obtain ⟨cur, hc⟩ := h
  exact ⟨cur, (hf.block _ (lt_of_block hc) hs).trans hc⟩
theorem TermB.set {w : World} {b i : Nat} {v : Value} (h : TermB w b) : TermB (w.setCell ⟨b, i, none⟩ v) b := by
  obtain ⟨cur, hc⟩ := h
  exact ⟨_, set_block hc⟩
theorem TOI.keep {R T S : Nat → Prop} {w w' : World} (hf : Fr S w w') (hR : ∀ k, k < w.heap.size → R k → T k ∧ ¬ S k) : ∀ (f : To) (D : Nat → Nat → Prop) (b off : Nat), TOI R w D b off f → (∀ c, off ≤ c → c < off + 9 * f.length → w'.cell? ⟨b, c, none⟩ = w.cell? ⟨b, c, none⟩) → (∀ j k, D j k → ¬ S k) → TOI T w' D b off f
  | .nil, _, _, _, _, _, _ => trivial
  | .cons h ps r, D, b, off, ht, hc, hD => by
    obtain ⟨⟨o1, l1, c1, o2, l2, c2, ⟨a0, a1, a2, a3, a4, a5, a6, a7, a8⟩, hs, h4, h4', h5⟩, h6⟩ := ht
    have hl : 9 ≤ 9 * (To.cons h ps r).length := by simp [To.length]; omega
    refine ⟨⟨o1, l1, c1, o2, l2, c2, ⟨?_, ?_, ?_, ?_, ?_, ?_, ?_, ?_, ?_⟩, hs.fr hf hR, h4, h4', fun hl => ?_⟩, TOI.keep hf hR r _ b (off + 9) h6 (fun c k1 k2 => hc c (by omega) (by simp only [To.length]; omega)) (fun j k hk => hD _ k hk)⟩
    · rw [hc off (by omega) (by omega)]; exact a0
    · rw [hc _ (by omega) (by omega)]; exact a1
    · rw [hc _ (by omega) (by omega)]; exact a2
    · rw [hc _ (by omega) (by omega)]; exact a3
    · rw [hc _ (by omega) (by omega)]; exact a4
    · rw [hc _ (by omega) (by omega)]; exact a5
    · rw [hc _ (by omega) (by omega)]; exact a6
    · rw [hc _ (by omega) (by omega)]; exact a7
    · rw [hc _ (by omega) (by omega)]; exact a8
    · obtain ⟨b', E, ho, hd, hb, hE, hdj, ha⟩ := h5 hl
      have hnb := hD 0 b' hd
      refine ⟨b', E, ho, hd, hb.fr hf hnb, hE, hdj, TOI.keep hf hR ps E b' 0 ha (fun c _ _ => ?_) (fun j k hk => hD 0 k (hE j k hk).1)⟩
      obtain ⟨cur, hcur⟩ := hb
      simp only [World.cell?, hf.block _ (lt_of_block hcur) hnb]
theorem TO.fr {R T S : Nat → Prop} {w w' : World} {D : Nat → Prop} {o : Option Addr} {len : Nat} {f : To} (h : TO R w D o len f) (hf : Fr S w w') (hR : ∀ k, k < w.heap.size → R k → T k ∧ ¬ S k) (hD : ∀ k, D k → ¬ S k) : TO T w' D o len f := by
  refine ⟨h.1, h.2.1, fun h0 => ?_⟩
  obtain ⟨b, E, ho, hd, hb, hE, hdj, ha⟩ := h.2.2 h0
  refine ⟨b, E, ho, hd, hb.fr hf (hD b hd), hE, hdj, TOI.keep hf hR f E b 0 ha (fun c _ _ => ?_) (fun j k hk => hD k (hE j k hk).1)⟩
  obtain ⟨cur, hcur⟩ := hb
  simp only [World.cell?, hf.block _ (lt_of_block hcur) (hD b hd)]
theorem TO.stay {R : Nat → Prop} {w w' : World} {D : Nat → Prop} {o : Option Addr} {len : Nat} {f : To} (h : TO R w D o len f) (hq : Quiet0 w w') : TO R w' D o len f := h.fr hq (fun _ _ hk => ⟨hk, fun h => h⟩) (fun _ _ h => h)
theorem TO.mono {R T : Nat → Prop} {w : World} {D D' : Nat → Prop} {o : Option Addr} {len : Nat} {f : To} (h : TO R w D o len f) (hR : ∀ k, k < w.heap.size → R k → T k) (hD : ∀ k, k < w.heap.size → D k → D' k) : TO T w (fun k => D' k ∧ k < w.heap.size) o len f := by
  have key : ∀ (f : To) (E : Nat → Nat → Prop) (b off : Nat), TOI R w E b off f → TOI T w (fun j k => E j k ∧ k < w.heap.size) b off f := by
    intro f
    induction f with
    | nil => intro _ _ _ _; trivial
    | cons h ps r ihp ihr =>
      intro E b off ht
      obtain ⟨⟨o1, l1, c1, o2, l2, c2, hc, hs, h4, h4', h5⟩, h6⟩ := ht
      refine ⟨⟨o1, l1, c1, o2, l2, c2, hc, hs.mono hR, h4, h4', fun hl => ?_⟩, ihr _ _ _ h6⟩
      obtain ⟨b', F, ho, hd, hb, hF, hdj, ha⟩ := h5 hl
      obtain ⟨cur, hcur⟩ := hb
      exact ⟨b', _, ho, ⟨hd, lt_of_block hcur⟩, ⟨cur, hcur⟩, fun j k hk => ⟨⟨(hF j k hk.1).1, hk.2⟩, (hF j k hk.1).2⟩, fun i j k h1 h2 => hdj i j k h1.1 h2.1, ihp F b' 0 ha⟩
  refine ⟨h.1, h.2.1, fun h0 => ?_⟩
  obtain ⟨b, E, ho, hd, hb, hE, hdj, ha⟩ := h.2.2 h0
  obtain ⟨cur, hcur⟩ := hb
  exact ⟨b, _, ho, ⟨hD _ (lt_of_block hcur) hd, lt_of_block hcur⟩, ⟨cur, hcur⟩, fun j k hk => ⟨⟨hD k hk.2 (hE j k hk.1).1, hk.2⟩, (hE j k hk.1).2⟩, fun i j k h1 h2 => hdj i j k h1.1 h2.1, key f E b 0 ha⟩
theorem TO.weak {R : Nat → Prop} {w : World} {D D' : Nat → Prop} {o : Option Addr} {len : Nat} {f : To} (h : TO R w D o len f) (hD : ∀ k, D k → D' k) : TO R w D' o len f := by
  refine ⟨h.1, h.2.1, fun h0 => ?_⟩
  obtain ⟨b, E, ho, hd, hb, hE, hdj, ha⟩ := h.2.2 h0
  exact ⟨b, E, ho, hD _ hd, hb, fun j k hk => ⟨hD _ (hE j k hk).1, (hE j k hk).2⟩, hdj, ha⟩
theorem TOI.tin {R : Nat → Prop} {w : World} {T : Nat → Prop} (hR : ∀ k, k < w.heap.size → R k → T k) : ∀ (f : To) (D : Nat → Nat → Prop) (b off : Nat), T b → (∀ j k, D j k → T k) → TOI R w D b off f → TIn T w b off f
  | .nil, _, _, _, _, _, _ => trivial
  | .cons h ps r, D, b, off, hb, hD, ht => by
    obtain ⟨⟨o1, l1, c1, o2, l2, c2, hc, hs, h4, h4', h5⟩, h6⟩ := ht
    refine ⟨hb, ⟨o1, l1, c1, o2, l2, c2, hc, hs.mono hR, h4, h4', fun hl => ?_⟩, TOI.tin hR r _ b (off + 9) hb (fun j k hk => hD _ k hk) h6⟩
    obtain ⟨b', E, ho, hd, _, hE, _, ha⟩ := h5 hl
    exact ⟨b', 0, ho, TOI.tin hR ps E b' 0 (hD 0 _ hd) (fun j k hk => hD 0 k (hE j k hk).1) ha⟩
theorem TO.tslc {R : Nat → Prop} {w : World} {D T : Nat → Prop} {o : Option Addr} {len : Nat} {f : To} (h : TO R w D o len f) (hR : ∀ k, k < w.heap.size → R k → T k) (hD : ∀ k, D k → T k) : TSlc T w o len f := by
  refine ⟨h.1, h.2.1, fun h0 => ?_⟩
  obtain ⟨b, E, ho, hd, _, hE, _, ha⟩ := h.2.2 h0
  exact ⟨b, 0, ho, TOI.tin hR f E b 0 (hD b hd) (fun j k hk => hD k (hE j k hk).1) ha⟩
theorem TOI.nth {R : Nat → Prop} {w : World} : ∀ (p : To) (D : Nat → Nat → Prop) (b off : Nat) (h : Nd) (ps r : To), TOI R w D b off (p.app (.cons h ps r)) →
    ∃ o1 l1 c1 o2 l2 c2, Cells9 w b (off + p.length * 9) h o1 l1 c1 o2 l2 c2 ∧ SlcIn R w o1 l1 h.tp ∧ TO R w (D p.length) o2 l2 ps
  | .nil, D, b, off, h, ps, r, ht => by
    obtain ⟨⟨o1, l1, c1, o2, l2, c2, hc, hs, hto⟩, _⟩ := toi_cons.1 ht
    exact ⟨o1, l1, c1, o2, l2, c2, by simpa [To.length] using hc, hs, hto⟩
  | .cons h' ps' p, D, b, off, h, ps, r, ht => by
    obtain ⟨_, h6⟩ := toi_cons.1 ht
    obtain ⟨o1, l1, c1, o2, l2, c2, hc, hs, hto⟩ := TOI.nth p _ b (off + 9) h ps r h6
    refine ⟨o1, l1, c1, o2, l2, c2, ?_, hs, hto⟩
    rw [show off + (To.cons h' ps' p).length * 9 = off + 9 + p.length * 9 from by simp [To.length]; omega]; exact hc
theorem TOI.put {R S : Nat → Prop} {w w' : World} (hf : Fr S w w') (hR : ∀ k, k < w.heap.size → R k → ¬ S k) : ∀ (p : To) (D : Nat → Nat → Prop) (b off : Nat) (h h' : Nd) (ps ps' r : To), TOI R w D b off (p.app (.cons h ps r)) →
    (∀ c, off ≤ c → (c < off + p.length * 9 ∨ off + p.length * 9 + 9 ≤ c) → w'.cell? ⟨b, c, none⟩ = w.cell? ⟨b, c, none⟩) → (∀ j k, D j k → j ≠ p.length → ¬ S k) →
    (∃ o1 l1 c1 o2 l2 c2, Cells9 w' b (off + p.length * 9) h' o1 l1 c1 o2 l2 c2 ∧ SlcIn R w' o1 l1 h'.tp ∧ TO R w' (D p.length) o2 l2 ps') → TOI R w' D b off (p.app (.cons h' ps' r))
  | .nil, D, b, off, h, h', ps, ps', r, ht, hc, hD, hn => by
    obtain ⟨_, h6⟩ := toi_cons.1 ht
    refine toi_cons.2 ⟨by simpa [To.length] using hn, TOI.keep hf (fun k h1 h2 => ⟨h2, hR k h1 h2⟩) r _ b (off + 9) h6 (fun c k1 _ => hc c (by omega) (.inr (by simp [To.length]; omega))) (fun j k hk => hD _ k hk (by simp [To.length]))⟩
  | .cons g qs p, D, b, off, h, h', ps, ps', r, ht, hc, hD, hn => by
    obtain ⟨⟨o1, l1, c1, o2, l2, c2, ⟨a0, a1, a2, a3, a4, a5, a6, a7, a8⟩, hs, hto⟩, h6⟩ := toi_cons.1 ht
    have hlen : (To.cons g qs p).length = p.length + 1 := rfl
    refine toi_cons.2 ⟨⟨o1, l1, c1, o2, l2, c2, ⟨?_, ?_, ?_, ?_, ?_, ?_, ?_, ?_, ?_⟩, hs.fr hf (fun k h1 h2 => ⟨h2, hR k h1 h2⟩), hto.fr hf (fun k h1 h2 => ⟨h2, hR k h1 h2⟩) (fun k hk => hD 0 k hk (by simp [To.length]))⟩, TOI.put hf hR p _ b (off + 9) h h' ps ps' r h6 (fun c k1 k2 => hc c (by omega) (by rw [hlen]; omega)) (fun j k hk hj => hD _ k hk (by rw [hlen]; omega)) ?_⟩
    · rw [hc off (by omega) (.inl (by rw [hlen]; omega))]; exact a0
    · rw [hc _ (by omega) (.inl (by rw [hlen]; omega))]; exact a1
    · rw [hc _ (by omega) (.inl (by rw [hlen]; omega))]; exact a2
    · rw [hc _ (by omega) (.inl (by rw [hlen]; omega))]; exact a3
    · rw [hc _ (by omega) (.inl (by rw [hlen]; omega))]; exact a4
    · rw [hc _ (by omega) (.inl (by rw [hlen]; omega))]; exact a5
    · rw [hc _ (by omega) (.inl (by rw [hlen]; omega))]; exact a6
    · rw [hc _ (by omega) (.inl (by rw [hlen]; omega))]; exact a7
    · rw [hc _ (by omega) (.inl (by rw [hlen]; omega))]; exact a8
    · rw [hlen, show off + (p.length + 1) * 9 = off + 9 + p.length * 9 from by omega] at hn; exact hn
def RowO (R : Nat → Prop) (w : World) : (Nat → Nat → Prop) → List Value → To → Prop
  | _, xs, .nil => xs = []
  | E, xs, .cons h ps r => ∃ o1 l1 c1 o2 l2 c2 ys, xs = (cells9 h o1 l1 c1 o2 l2 c2).toList ++ ys ∧ SlcIn R w o1 l1 h.tp ∧ TO R w (E 0) o2 l2 ps ∧ RowO R w (fun j => E (j + 1)) ys r
theorem RowO.fr {R T S : Nat → Prop} {w w' : World} (hf : Fr S w w') (hR : ∀ k, k < w.heap.size → R k → T k ∧ ¬ S k) : ∀ (f : To) (E : Nat → Nat → Prop) (xs : List Value), RowO R w E xs f → (∀ j k, E j k → ¬ S k) → RowO T w' E xs f
  | .nil, _, _, h, _ => h
  | .cons h ps r, E, xs, ht, hE => by
    obtain ⟨o1, l1, c1, o2, l2, c2, ys, rfl, hs, ht, hr⟩ := ht
    exact ⟨o1, l1, c1, o2, l2, c2, ys, rfl, hs.fr hf hR, ht.fr hf hR (fun k hk => hE 0 k hk), RowO.fr hf hR r _ ys hr (fun j k hk => hE _ k hk)⟩
theorem RowO.snoc {R : Nat → Prop} {w : World} {h : Nd} {ps : To} {o1 : Option Addr} {l1 c1 : Nat} {o2 : Option Addr} {l2 c2 : Nat} {Dn : Nat → Prop} (hs : SlcIn R w o1 l1 h.tp) (ht : TO R w Dn o2 l2 ps) : ∀ (f : To) (E : Nat → Nat → Prop) (xs : List Value), RowO R w E xs f →
    RowO R w (fun j k => (j < f.length ∧ E j k) ∨ (j = f.length ∧ Dn k)) (xs ++ (cells9 h o1 l1 c1 o2 l2 c2).toList) (f.app (.cons h ps .nil))
  | .nil, E, xs, e => by
    cases e
    exact ⟨o1, l1, c1, o2, l2, c2, [], by simp, hs, ht.weak (fun k hk => .inr ⟨rfl, hk⟩), rfl⟩
  | .cons h' ps' r, E, xs, e => by
    obtain ⟨p1, m1, d1, p2, m2, d2, ys, rfl, hs', ht', hr⟩ := e
    have ih := RowO.snoc (h := h) (c1 := c1) (c2 := c2) hs ht r _ ys hr
    refine ⟨p1, m1, d1, p2, m2, d2, _, by rw [List.append_assoc], hs', ht'.weak (fun k hk => .inl ⟨by simp [To.length], hk⟩), ?_⟩
    have he : (fun j k => ((j + 1 < (To.cons h' ps' r).length ∧ E (j + 1) k) ∨ (j + 1 = (To.cons h' ps' r).length ∧ Dn k))) = (fun j k => (j < r.length ∧ E (j + 1) k) ∨ (j = r.length ∧ Dn k)) := by
      funext j k; simp [To.length]
    show RowO R w (fun j k => ((j + 1 < (To.cons h' ps' r).length ∧ E (j + 1) k) ∨ (j + 1 = (To.cons h' ps' r).length ∧ Dn k))) _ _
    rw [he]; exact ih
theorem RowO.at {R : Nat → Prop} {w : World} {g : Nat} : ∀ (f : To) (E : Nat → Nat → Prop) (xs : List Value) (off : Nat), RowO R w E xs f → (∀ j u, xs[j]? = some u → w.cell? ⟨g, off + j, none⟩ = some u) → TOI R w E g off f
  | .nil, _, _, _, _, _ => trivial
  | .cons h ps r, E, xs, off, e, hc => by
    obtain ⟨o1, l1, c1, o2, l2, c2, ys, rfl, hs, ht, hr⟩ := e
    refine toi_cons.2 ⟨⟨o1, l1, c1, o2, l2, c2, ⟨hc 0 _ rfl, hc 1 _ rfl, hc 2 _ rfl, hc 3 _ rfl, hc 4 _ rfl, hc 5 _ rfl, hc 6 _ rfl, hc 7 _ rfl, hc 8 _ rfl⟩, hs, ht⟩, RowO.at r _ ys (off + 9) hr ?_⟩
    intro j u hj
    have := hc (j + 9) u (by simpa using hj)
    rw [← this]; congr 2; omega
structure TmRowO (T : Nat → Prop) (w : World) (B : Nat) (v : Value) (f : To) (xs : List Value) (E : Nat → Nat → Prop) : Prop where
  own : w.ownsRow 0 30 9 v f.length xs
  low : ∀ k, v.ownBlock = some k → B ≤ k ∧ ¬ T k
  cells : RowO T w E xs f
  sep : ∀ j k, E j k → B ≤ k ∧ k < w.heap.size ∧ v.ownBlock ≠ some k ∧ ¬ T k
  one : ∀ i j k, E i k → E j k → i = j
  old : ∀ k, T k → k < w.heap.size
theorem TmRowO.nil {T : Nat → Prop} (w : World) (B : Nat) (hT : ∀ k, T k → k < w.heap.size) : TmRowO T w B (.slice none 0 0) .nil [] (fun _ _ => False) :=
  ⟨World.ownsRow_nil _ _ _ _, fun k hk => (by cases hk), rfl, fun _ _ h => h.elim, fun _ _ _ h => h.elim, hT⟩
theorem TmRowO.fr {T S : Nat → Prop} {w w' : World} {B : Nat} {v : Value} {f : To} {xs : List Value} {E : Nat → Nat → Prop} (h : TmRowO T w B v f xs E) (hf : Fr S w w') (hS : ∀ k, S k → ¬ T k ∧ (∀ j, ¬ E j k) ∧ v.ownBlock ≠ some k) : TmRowO T w' B v f xs E := by
  have hz := hf.size
  refine ⟨ownsRow_fr h.own hf (fun k hk hs => (hS k hs).2.2 hk), h.low, RowO.fr hf (fun k _ hk => ⟨hk, fun hs => (hS k hs).1 hk⟩) f E xs h.cells (fun j k hk hs => (hS k hs).2.1 j hk), fun j k hk => ?_, h.one, fun k hk => ?_⟩
  · have := h.sep j k hk; exact ⟨this.1, by omega, this.2.2⟩
  · have := h.old k hk; omega
theorem TmRowO.stay {T : Nat → Prop} {w w' : World} {B : Nat} {v : Value} {f : To} {xs : List Value} {E : Nat → Nat → Prop} (h : TmRowO T w B v f xs E) (hf : Quiet0 w w') : TmRowO T w' B v f xs E := h.fr hf (fun _ hk => hk.elim)
theorem TmRowO.snoc {T Tn Dn : Nat → Prop} {W W1 w1 : World} {B : Nat} {v : Value} {f : To} {xs : List Value} {E : Nat → Nat → Prop} {h : Nd} {ps : To} {o1 : Option Addr} {l1 c1 : Nat} {o2 : Option Addr} {l2 c2 g c : Nat} (hr : TmRowO T W B v f xs E) (hB : B ≤ W.heap.size)
    (hq : Quiet0 W W1) (hs : SlcIn (fun k => T k ∨ Tn k) W1 o1 l1 h.tp) (ht : TO (fun k => T k ∨ Tn k) W1 Dn o2 l2 ps)
    (hTn : ∀ k, Tn k → W.heap.size ≤ k ∧ k < W1.heap.size ∧ ¬ Dn k) (hDn : ∀ k, Dn k → W.heap.size ≤ k ∧ k < W1.heap.size)
    (ho : w1.ownsRow 0 30 9 (.slice (some ⟨g, 0, none⟩) (f.length + 1) c) (f.length + 1) (xs ++ (cells9 h o1 l1 c1 o2 l2 c2).toList)) (hf : Fr (fun k => v.ownBlock = some k) W1 w1) (hg : v.ownBlock = some g ∨ W1.heap.size ≤ g) :
    TmRowO (fun k => T k ∨ Tn k) w1 B (.slice (some ⟨g, 0, none⟩) (f.length + 1) c) (f.app (.cons h ps .nil)) (xs ++ (cells9 h o1 l1 c1 o2 l2 c2).toList) (fun j k => (j < f.length ∧ E j k) ∨ (j = f.length ∧ Dn k)) := by
  have hz := hq.size
  have hz1 := hf.size
  have hvl : ∀ k, v.ownBlock = some k → k < W.heap.size := fun k hk => (hr.own.lt k hk).2
  have hv : ∀ k, v.ownBlock = some k → ¬ (T k ∨ Tn k) := fun k hk hh => by
    rcases hh with h | h
    · exact (hr.low k hk).2 h
    · have := hvl k hk; have := hTn k h; omega
  refine ⟨by rw [To.app_length]; exact ho, ?_, ?_, ?_, ?_, ?_⟩
  · intro k hk
    simp [Value.ownBlock] at hk
    subst hk
    rcases hg with h | h
    · exact ⟨(hr.low g h).1, hv g h⟩
    · refine ⟨by omega, fun hh => ?_⟩
      rcases hh with h' | h'
      · have := hr.old g h'; omega
      · have := hTn g h'; omega
  · refine RowO.fr hf (fun k _ hk => ⟨hk, fun h => hv k h hk⟩) _ _ _ (RowO.snoc hs ht f E xs (RowO.fr hq (fun k _ hk => ⟨.inl hk, fun h => h⟩) f E xs hr.cells (fun _ _ _ h => h))) ?_
    rintro j k (⟨_, hk⟩ | ⟨_, hk⟩) h
    · exact (hr.sep j k hk).2.2.1 h
    · have := hvl k h; have := hDn k hk; omega
  · rintro j k (⟨_, hk⟩ | ⟨_, hk⟩)
    · have h1 := hr.sep j k hk
      refine ⟨h1.1, by omega, fun h => ?_, fun hh => ?_⟩
      · simp [Value.ownBlock] at h
        subst h
        rcases hg with h | h
        · exact h1.2.2.1 h
        · omega
      · rcases hh with h' | h'
        · exact h1.2.2.2 h'
        · have := hTn k h'; omega
    · have h1 := hDn k hk
      refine ⟨by omega, by omega, fun h => ?_, fun hh => ?_⟩
      · simp [Value.ownBlock] at h
        subst h
        rcases hg with h | h
        · have := hvl _ h; omega
        · omega
      · rcases hh with h' | h'
        · have := hr.old k h'; omega
        · exact (hTn k h').2.2 hk
  · rintro i j k (⟨hi, h1⟩ | ⟨hi, h1⟩) (⟨hj, h2⟩ | ⟨hj, h2⟩)
    · exact hr.one i j k h1 h2
    · have := hr.sep i k h1; have := hDn k h2; omega
    · have := hr.sep j k h2; have := hDn k h1; omega
    · omega
  · intro k hk
    rcases hk with h | h
    · have := hr.old k h; omega
    · have := hTn k h; omega
theorem TmRowO.to {T : Nat → Prop} {w : World} {B : Nat} {o : Option Addr} {len cap : Nat} {f : To} {xs : List Value} {E : Nat → Nat → Prop} (h : TmRowO T w B (.slice o len cap) f xs E) (hl : len = f.length) (hm : len ≤ maxLen) : TO T w (fun k => B ≤ k ∧ ¬ T k) o len f := by
  refine ⟨hl, hm, fun h0 => ?_⟩
  rcases h.own.2 with ⟨_, h2⟩ | ⟨g, cap', cur, he, _, hg, _⟩
  · omega
  · injection he with h1 h2 h3
    subst h1
    refine ⟨g, E, rfl, h.low g rfl, ⟨cur, hg⟩, fun j k hk => ⟨⟨(h.sep j k hk).1, (h.sep j k hk).2.2.2⟩, fun e => (h.sep j k hk).2.2.1 (by rw [e]; rfl)⟩, h.one, RowO.at f E xs 0 h.cells ?_⟩
    intro j u hj
    have := h.own.cells (g := g) rfl j u hj
    simpa [Addr.add_lit] using this
end Go.Proofs.YtnfodiedalhlhaaDoor
end
section
namespace Go.Proofs.YtnfodiedalhlhaaDoor
open Go.RowKit Go.Shelf
namespace Sc
theorem own_cap {w : World} {base : Nat} {e : TypeId} {size : Nat} {o : Option Addr} {n c : Nat} {xs : List Value} (h : w.ownsRow base e size (.slice o n c) n xs) : n ≤ c := by
  rcases h.2 with ⟨h1, h0⟩ | ⟨g, cap, cur, he, _, _, hc, _⟩
  · omega
  · injection he with _ _ h3; omega
theorem step_name {ops : Array Oper} {op : Oper} {a : Act} {K : Act → World → Prop} {Q : Exit → Act → World → Prop} {E : Prop} (W : World) (hg : op.guard = none) (s x : Operand)
    (hop : op.op = Op.call { callee := Callee.builtin Builtin.append, args := #[s, x], argTypes := #[40, 40] }) {T : Nat → Prop} {ao : Option Addr} {n : Nat} {e : List ByteArray} (hN : NmIn T W ao n e) (str : ByteArray) (H : Nat)
    (hs : a.eval s = .slice ao n n) (hx : a.eval x = .slice (some ⟨H, 0, none⟩) 1 1) (hH : W.heap[H]? = some (.cells #[.string str] 9 (0, 0))) (b1 : n + 1 ≤ 1000000) {Wb : World} (hqb : Quiet0 Wb W)
    (hK : ∀ g c w', NmIn (fun k => Wb.heap.size ≤ k) w' (some ⟨g, 0, none⟩) (n + 1) (str :: e) → n + 1 ≤ c → Quiet0 W w' → K (a.put op.dst (.slice (some ⟨g, 0, none⟩) (n + 1) c)) w') :
    if Region.wanted op (yielded ops a.tmps) = true then Oper.wp Tryd.prog op a W K Q else E := by
  obtain ⟨i0, hi, hz0, hz1, hz2⟩ := info_parts elemStr.info
  refine step_append_grows hg s x 40 hop 9 i0 (.string ⟨#[]⟩) 1 16 elemStr.under hi hz0 hz1 hz2 elemStr.cells elemStr.pos ao n n (e.reverse.map Value.string) hs
    (fun h => by subst h; exact ⟨hN.none, hN.none⟩) (by simp [hN.1]) (names_cells hN) ⟨H, 0, none⟩ 1 1 [.string str] hx rfl ?_ (by simp [Value.oneCell']) (by omega) (by unfold maxLen; omega) (by omega) ?_
  · intro j u hu
    rw [Addr.add_lit, cell_of_row W H (0 + j) #[.string str] 9 (0, 0) hH]
    simpa using hu
  · intro v' w' hown hgr
    obtain ⟨g, c, rfl, hb, _⟩ := hown.form (by omega)
    exact hK g c w' (NmIn.of_own hown (by rw [hN.1]) (by unfold maxLen; omega) (Nat.le_trans hqb.size hb)) (own_cap hown) (Fr.grown hgr (fun k hk => by cases hk))
theorem rowO_snoc {T Dn S : Nat → Prop} {W W1 w1 : World} {B : Nat} {v : Value} {f : To} {xs : List Value} {E : Nat → Nat → Prop} {h : Nd} {ps : To} {o1 : Option Addr} {l1 c1 : Nat} {o2 : Option Addr} {l2 c2 g c : Nat} (hr : TmRowO T W B v f xs E) (hB : B ≤ W.heap.size)
    (hf0 : Fr S W W1) (hS : ∀ k, S k → ¬ T k ∧ (∀ j, ¬ E j k) ∧ v.ownBlock ≠ some k) (hs : SlcIn T W1 o1 l1 h.tp) (ht : TO T W1 Dn o2 l2 ps) (hDn : ∀ k, Dn k → W.heap.size ≤ k ∧ k < W1.heap.size)
    (ho : w1.ownsRow 0 30 9 (.slice (some ⟨g, 0, none⟩) (f.length + 1) c) (f.length + 1) (xs ++ (cells9 h o1 l1 c1 o2 l2 c2).toList)) (hf : Fr (fun k => v.ownBlock = some k) W1 w1) (hg : v.ownBlock = some g ∨ W1.heap.size ≤ g) :
    TmRowO T w1 B (.slice (some ⟨g, 0, none⟩) (f.length + 1) c) (f.app (.cons h ps .nil)) (xs ++ (cells9 h o1 l1 c1 o2 l2 c2).toList) (fun j k => (j < f.length ∧ E j k) ∨ (j = f.length ∧ Dn k)) := by
  have hz := hf0.size
  have hz1 := hf.size
  have hvl : ∀ k, v.ownBlock = some k → k < W.heap.size := fun k hk => (hr.own.lt k hk).2
  have hv : ∀ k, v.ownBlock = some k → ¬ T k := fun k hk hh => (hr.low k hk).2 hh
  have hTn : ∀ k, T k → ¬ Dn k := fun k hk hd => by have := hr.old k hk; have := hDn k hd; omega
  refine ⟨by rw [To.app_length]; exact ho, ?_, ?_, ?_, ?_, ?_⟩
  · intro k hk
    simp [Value.ownBlock] at hk
    subst hk
    rcases hg with h | h
    · exact ⟨(hr.low g h).1, hv g h⟩
    · exact ⟨by omega, fun hh => by have := hr.old g hh; omega⟩
  · refine RowO.fr hf (fun k _ hk => ⟨hk, fun h => hv k h hk⟩) _ _ _ (RowO.snoc hs ht f E xs (RowO.fr hf0 (fun k _ hk => ⟨hk, fun h => (hS k h).1 hk⟩) f E xs hr.cells (fun j k hk h => (hS k h).2.1 j hk))) ?_
    rintro j k (⟨_, hk⟩ | ⟨_, hk⟩) h
    · exact (hr.sep j k hk).2.2.1 h
    · have := hvl k h; have := hDn k hk; omega
  · rintro j k (⟨_, hk⟩ | ⟨_, hk⟩)
    · have h1 := hr.sep j k hk
      refine ⟨h1.1, by omega, fun h => ?_, h1.2.2.2⟩
      simp [Value.ownBlock] at h
      subst h
      rcases hg with h | h
      · exact h1.2.2.1 h
      · omega
    · have h1 := hDn k hk
      refine ⟨by omega, by omega, fun h => ?_, fun hh => hTn k hh hk⟩
      simp [Value.ownBlock] at h
      subst h
      rcases hg with h | h
      · have := hvl _ h; omega
      · omega
  · rintro i j k (⟨hi, h1⟩ | ⟨hi, h1⟩) (⟨hj, h2⟩ | ⟨hj, h2⟩)
    · exact hr.one i j k h1 h2
    · have := hr.sep i k h1; have := hDn k h2; omega
    · have := hr.sep j k h2; have := hDn k h1; omega
    · omega
  · intro k hk
    have := hr.old k hk; omega
theorem rowO_to {T : Nat → Prop} {w : World} {B : Nat} {o : Option Addr} {len cap : Nat} {f : To} {xs : List Value} {E : Nat → Nat → Prop} (h : TmRowO T w B (.slice o len cap) f xs E) (hl : len = f.length) (hm : len ≤ maxLen) : TO T w (fun k => (Value.slice o len cap).ownBlock = some k ∨ ∃ j, E j k) o len f := by
  refine ⟨hl, hm, fun h0 => ?_⟩
  rcases h.own.2 with ⟨_, h2⟩ | ⟨g, cap', cur, he, _, hg, _⟩
  · omega
  · injection he with h1 h2 h3
    subst h1
    refine ⟨g, E, rfl, .inl rfl, ⟨cur, hg⟩, fun j k hk => ⟨.inr ⟨j, hk⟩, fun e => (h.sep j k hk).2.2.1 (by rw [e]; rfl)⟩, h.one, RowO.at f E xs 0 h.cells ?_⟩
    intro j u hj
    have := h.own.cells (g := g) rfl j u hj
    simpa [Addr.add_lit] using this
section
variable {σ : Type}
def DoQ (stp : σ → Nd → List ByteArray → σ) (out : Nd → List ByteArray → Nd) (J : Nat → σ → (Nat → Prop) → World → Prop) (b : Nat) (s : σ) (D : Nat → Prop) (e : List ByteArray) (h : Nd) (o1 : Option Addr) (l1 c1 : Nat) (o2 : Option Addr) (l2 c2 : Nat) (A : World) (x : Ending) (W' : World) : Prop :=
  x = .returned (tmv (out h e) o1 l1 c1 o2 l2 c2) ∧ ∃ D', J b (stp s h e) D' W' ∧ Fr D A W' ∧ ∀ k, D' k → D k ∨ A.heap.size ≤ k
structure DoW (F : Nat) (lb : Array Value) (R : Nat → Prop) (L0 : Nat) (stp : σ → Nd → List ByteArray → σ) (out : Nd → List ByteArray → Nd) (J : Nat → σ → (Nat → Prop) → World → Prop) : Prop where
  own : ∀ b s D A, J b s D A → ∀ k, D k → k < A.heap.size ∧ ¬ R k
  big : ∀ b s D A, J b s D A → L0 ≤ A.heap.size
  weak : ∀ b b' s D A, J b s D A → b' ≤ b → J b' s D A
  stay : ∀ b s D A B, J b s D A → Fr (fun k => L0 ≤ k ∧ ¬ D k) A B → J b s D B
  call : ∀ (b : Nat) (s : σ) (D : Nat → Prop) (A : World) (T : Nat → Prop) (e : List ByteArray) (h : Nd) (o1 : Option Addr) (l1 c1 : Nat) (o2 : Option Addr) (l2 c2 : Nat) (no : Option Addr) (n c : Nat), J (b + 1) s D A → NmIn T A no n e → n ≤ 300000 → SlcIn R A o1 l1 h.tp → h.k = 1 →
    Calls Tryd.prog F (#[tmv h o1 l1 c1 o2 l2 c2, .slice no n c] ++ lb) A (DoQ stp out J b s D e h o1 l1 c1 o2 l2 c2 A)
def WkQ (R : Nat → Prop) (stp : σ → Nd → List ByteArray → σ) (out : Nd → List ByteArray → Nd) (J : Nat → σ → (Nat → Prop) → World → Prop) (b : Nat) (s : σ) (D : Nat → Prop) (e : List ByteArray) (h : Nd) (ps : To) (o1 : Option Addr) (l1 c1 l2 : Nat) (W : World) (x : Ending) (W' : World) : Prop :=
  ∃ (o2 : Option Addr) (c2 : Nat) (D' E : Nat → Prop), x = .returned (tmv (wk1 stp out s e h ps).2.1 o1 l1 c1 o2 l2 c2) ∧ J b (wk1 stp out s e h ps).1 D' W' ∧ TO R W' E o2 l2 (wk1 stp out s e h ps).2.2 ∧ (∀ k, E k → W.heap.size ≤ k ∧ k < W'.heap.size ∧ ¬ D' k) ∧ Fr D W W' ∧ ∀ k, D' k → D k ∨ W.heap.size ≤ k
def TWk (F : Nat) (lb : Array Value) (R : Nat → Prop) (stp : σ → Nd → List ByteArray → σ) (out : Nd → List ByteArray → Nd) (J : Nat → σ → (Nat → Prop) → World → Prop) (h : Nd) (ps : To) : Prop :=
  ∀ (b : Nat) (s : σ) (D : Nat → Prop) (W : World) (T : Nat → Prop) (e : List ByteArray) (o1 : Option Addr) (l1 c1 : Nat) (o2 : Option Addr) (l2 c2 : Nat) (no : Option Addr) (n c : Nat), J (b + (ps.size + 1)) s D W → NmIn T W no n e → n ≤ c → (∀ k, T k → ¬ D k) → n + ps.size ≤ 200000 → SlcIn R W o1 l1 h.tp → TSlc R W o2 l2 ps → varOk h ps → allV ps →
    Calls Tryd.prog 71 #[tmv h o1 l1 c1 o2 l2 c2, .slice no n c, .func (.func F) #[] lb] W (WkQ R stp out J b s D e h ps o1 l1 c1 l2 W)
theorem wk1_var (stp : σ → Nd → List ByteArray → σ) (out : Nd → List ByteArray → Nd) (s : σ) (e : List ByteArray) (h : Nd) (ps : To) (hk : h.k = 1) : wk1 stp out s e h ps = (stp s h e, out h e, ps) := by unfold wk1; rw [if_pos hk]
theorem wk1_no (stp : σ → Nd → List ByteArray → σ) (out : Nd → List ByteArray → Nd) (s : σ) (e : List ByteArray) (h : Nd) (ps : To) (hk : ¬ h.k = 1) : wk1 stp out s e h ps = ((wk stp out h.k h.nm 0 s e ps).1, h, (wk stp out h.k h.nm 0 s e ps).2) := by unfold wk1; rw [if_neg hk]
theorem wk1_tp (stp : σ → Nd → List ByteArray → σ) (out : Nd → List ByteArray → Nd) (hout : ∀ h e, (out h e).tp = h.tp) (s : σ) (e : List ByteArray) (h : Nd) (ps : To) : (wk1 stp out s e h ps).2.1.tp = h.tp := by
  unfold wk1; split
  · exact hout _ _
  · rfl
theorem to_app_assoc' (f : To) (h : Nd) (ps r : To) : f.app (.cons h ps r) = (f.app (.cons h ps .nil)).app r := by rw [To.app_assoc]; rfl
end
end Sc
end Go.Proofs.YtnfodiedalhlhaaDoor
end
