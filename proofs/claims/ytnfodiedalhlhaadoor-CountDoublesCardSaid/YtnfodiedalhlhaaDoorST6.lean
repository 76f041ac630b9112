/-
  Texts laid together (PaRight, PaSize, ScText, ScTextLaw): what each one proves, and its conditions, stands at its head.
-/
import Derived.Test.YtnfodiedalhlhaaDoorSA1
import Derived.Test.YtnfodiedalhlhaaDoorSA2
import Derived.Test.YtnfodiedalhlhaaDoorSA3
import Derived.Test.YtnfodiedalhlhaaDoorSA4
import Derived.Test.YtnfodiedalhlhaaDoorSA5
import Derived.Test.YtnfodiedalhlhaaDoorSA6
import Derived.Test.YtnfodiedalhlhaaDoorSA7
import Derived.Test.YtnfodiedalhlhaaDoorSA8
import Derived.Test.YtnfodiedalhlhaaDoorSA9
import Derived.Test.YtnfodiedalhlhaaDoorSA10
import Derived.Test.YtnfodiedalhlhaaDoorSA11
import Derived.Test.YtnfodiedalhlhaaDoorSA12
import Derived.Test.YtnfodiedalhlhaaDoorSA13
import Derived.Test.YtnfodiedalhlhaaDoorSA14
import Derived.Test.YtnfodiedalhlhaaDoorSA15
import Derived.Test.YtnfodiedalhlhaaDoorSA16
import Derived.Test.YtnfodiedalhlhaaDoorSA17
import Derived.Test.YtnfodiedalhlhaaDoorST1
import Derived.Test.YtnfodiedalhlhaaDoorST2
import Derived.Test.YtnfodiedalhlhaaDoorST3
import Derived.Test.YtnfodiedalhlhaaDoorST4
import Derived.Test.YtnfodiedalhlhaaDoorST5
section
/-
  What the grammar reads is right, and its names are the tokens'. Plain laws. Condition: the tokens are as a text's are.
-/
namespace Go.Proofs.YtnfodiedalhlhaaDoor.Pa
open Lx

/-- no variable in a row of types -/
def noVar : Fo → Bool
  | .nil => true
  | .cons k _ ps r => !(k == 1) && noVar ps && noVar r
theorem vars_none : ∀ (f : Fo) (l : List Int), noVar f = true → Fo.vars l f = l
  | .nil, l, _ => rfl
  | .cons k n ps r, l, h => by
    simp only [noVar, Bool.and_eq_true] at h
    have hk : (k == 1) = false := by simpa using h.1.1
    simp only [Fo.vars, hk, Bool.false_and, Bool.false_eq_true, if_false]
    rw [vars_none ps l h.1.2, vars_none r l h.2]
def TyG' (k m : Int) (qs : Fo) : Prop := rightT k m qs = true ∧ noVar (.cons k m qs .nil) = true
def TyGs (f : Fo) : Prop := f.right = true ∧ noVar f = true
def TyGR : TyR → Prop
  | .inl ((k, m, qs), _) => TyG' k m qs
  | .inr _ => True
theorem noVar_app : ∀ f g : Fo, noVar (f.app g) = (noVar f && noVar g)
  | .nil, g => by simp [Fo.app, noVar]
  | .cons k n ps r, g => by simp [Fo.app, noVar, noVar_app r g, Bool.and_assoc]
theorem right_app' : ∀ f g : Fo, (f.app g).right = (f.right && g.right)
  | .nil, g => by simp [Fo.app, Fo.right]
  | .cons k n ps r, g => by simp [Fo.app, Fo.right, right_app' r g, Bool.and_assoc]
theorem TyG'.one {k m : Int} {qs : Fo} (h : TyG' k m qs) : TyGs (.cons k m qs .nil) := ⟨by rw [right_cons, h.1]; rfl, h.2⟩
theorem TyGs.app {f g : Fo} (h : TyGs f) (h' : TyGs g) : TyGs (f.app g) := ⟨by rw [right_app', h.1, h'.1]; rfl, by rw [noVar_app, h.2, h'.2]; rfl⟩
theorem TyG'.node {k : Int} {ps : Fo} (hk : k = 4 ∧ ps.length = 2 ∨ k = 5 ∧ 2 ≤ ps.length ∧ ps.length ≤ 8) (h : TyGs ps) : TyG' k 0 ps := by
  refine ⟨?_, ?_⟩
  · unfold rightT
    rw [h.1]
    rcases hk with ⟨rfl, h2⟩ | ⟨rfl, h2, h3⟩
    · simp [Fo.plain, h2]
    · simp [Fo.plain, h2, h3]
  · simp only [noVar, h.2]
    rcases hk with ⟨rfl, _⟩ | ⟨rfl, _⟩ <;> rfl
theorem tyStar_good {T : Nat → TyR} {l : List Tok} (hT : ∀ i, TyGR (T i)) : ∀ (n : Nat) (ps : Fo) (i : Nat) (qs : Fo) (j : Nat), TyGs ps → 1 ≤ ps.length → ps.length ≤ 8 → tyStar T l n ps i = .inl (qs, j) → TyGs qs ∧ 1 ≤ qs.length ∧ qs.length ≤ 8
  | 0, ps, i, qs, j, hp, h1, h8, h => by
    unfold tyStar at h; cases h; exact ⟨hp, h1, h8⟩
  | n + 1, ps, i, qs, j, hp, h1, h8, h => by
    unfold tyStar at h
    split at h
    · split at h
      · cases h
      · next h7 =>
        have ht := hT (i + 1)
        split at h
        · cases h
        · next k m us j' he =>
          rw [he] at ht
          exact tyStar_good hT n _ _ qs j (hp.app (TyG'.one ht)) (by rw [Fo.app_length]; omega) (by rw [Fo.app_length]; simp [Fo.length]; omega) h
    · cases h; exact ⟨hp, h1, h8⟩
theorem tyShut_good {l : List Tok} : ∀ (x : Sum (Fo × Nat) (Nat × Nat)), (∀ qs j, x = .inl (qs, j) → TyGs qs ∧ 1 ≤ qs.length ∧ qs.length ≤ 8) → TyGR (tyShut l x)
  | .inr e, _ => trivial
  | .inl (ps, j), h => by
    obtain ⟨h1, h2, h3⟩ := h ps j rfl
    unfold tyShut
    by_cases hc : isT l j 4 sClose = true
    · simp only [hc, if_true]
      split
      · next k m qs =>
        refine ⟨?_, h1.2⟩
        have := h1.1
        rw [right_cons] at this
        simpa [Fo.right] using this
      · next hne =>
        refine TyG'.node (.inr ⟨rfl, ?_, h3⟩) h1
        match ps, hne, h2 with
        | .cons k m qs .nil, hne, _ => exact absurd rfl (hne k m qs)
        | .cons _ _ _ (.cons _ _ _ _), _, _ => simp [Fo.length]
    · simp only [hc, if_false, Bool.false_eq_true]
      trivial
theorem tyQ_good (l : List Tok) : ∀ (f i : Nat), TyGR (tyQ l f i)
  | 0, i => trivial
  | f + 1, i => by
    have ih := fun i => tyQ_good l f i
    have hh : TyGR (tyHead (tyQ l f) l i) := by
      unfold tyHead
      split
      · exact ⟨by decide, by decide⟩
      split
      · exact ⟨by decide, by decide⟩
      split
      · have h2 := ih (i + 1)
        unfold tyBr
        split
        · trivial
        · next k m qs j he =>
          rw [he] at h2
          exact tyShut_good _ (fun us j' h => tyStar_good ih 8 _ _ us j' (TyG'.one h2) (by simp [Fo.length]) (by simp [Fo.length]) h)
      · trivial
    unfold tyQ
    unfold tyArr
    split
    · trivial
    · next k m qs j he =>
      rw [he] at hh
      split
      · have h2 := ih (j + 1)
        unfold tyArr2
        split
        · trivial
        · next k2 m2 qs2 j2 he2 =>
          rw [he2] at h2
          exact TyG'.node (.inl ⟨rfl, by simp [Fo.length]⟩) (TyGs.app (f := .cons k m qs .nil) (TyG'.one hh) (TyG'.one h2))
      · exact hh
theorem TyG'.closed {k m : Int} {qs : Fo} (h : TyG' k m qs) : closedT k m qs = true := by
  unfold closedT
  rw [h.1, vars_none _ _ h.2]; rfl

/-- of each term, with its parts -/
def allN (G : Nd → To → Prop) : To → Prop
  | .nil => True
  | .cons h ps r => G h ps ∧ allN G ps ∧ allN G r
theorem allN_app {G : Nd → To → Prop} : ∀ f g : To, allN G f → allN G g → allN G (f.app g)
  | .nil, _, _, h => h
  | .cons _ _ r, g, h1, h2 => ⟨h1.1, h1.2.1, allN_app r g h1.2.2 h2⟩
theorem allN_mono {G H : Nd → To → Prop} (hh : ∀ h ps, G h ps → H h ps) : ∀ f : To, allN G f → allN H f
  | .nil, _ => trivial
  | .cons _ ps r, k => ⟨hh _ _ k.1, allN_mono hh ps k.2.1, allN_mono hh r k.2.2⟩
theorem to_app_length : ∀ f g : To, (f.app g).length = f.length + g.length
  | .nil, g => by simp [To.app, To.length]
  | .cons h ps r, g => by simp [To.app, To.length, to_app_length r g]; omega
/-- right, and where a name is meant, a token stands -/
def GoodN (l : List Tok) (h : Nd) (ps : To) : Prop := soundB h ps.length = true ∧ (h.k = 1 → ∃ t ∈ l, t.kind = 1 ∧ h.nm = ⟨t.text.toArray⟩ ∧ h.fr = t.fr ∧ h.en = t.to)
def TmGR (l : List Tok) : TmR → Prop
  | .inl ((h, ps), _) => GoodN l h ps ∧ allN (GoodN l) ps
  | .inr _ => True
theorem good_nd {l : List Tok} {k : Int} {nm : List UInt8} {n : Int} {p : Pt} {ps : To} (hk : k ≠ 1) (h1 : 1 ≤ k) (h10 : k ≤ 9) (hn : namedB (nd k nm n p) = true) (h0 : 0 ≤ n) (ht : n ≤ kTop k) (hl : kLeast k ≤ ps.length) (hm : (ps.length : Int) ≤ kMost k) : GoodN l (nd k nm n p) ps := by
  refine ⟨?_, fun e => absurd e hk⟩
  have ht' : typedB (nd k nm n p) = true := by
    unfold typedB nd
    have : (k == 10) = false := by simp; omega
    simp only [this, Bool.false_eq_true, if_false]
    rfl
  unfold soundB
  rw [hn, ht']
  have a1 : decide (1 ≤ (nd k nm n p).k) = true := decide_eq_true h1
  have a2 : decide ((nd k nm n p).k ≤ 10) = true := decide_eq_true (show k ≤ 10 by omega)
  have a3 : decide (0 ≤ (nd k nm n p).n) = true := decide_eq_true h0
  have a4 : decide ((nd k nm n p).n ≤ kTop (nd k nm n p).k) = true := decide_eq_true ht
  have a5 : decide (kLeast (nd k nm n p).k ≤ ps.length) = true := decide_eq_true hl
  have a6 : decide ((ps.length : Int) ≤ kMost (nd k nm n p).k) = true := decide_eq_true hm
  rw [a1, a2, a3, a4, a5, a6]; rfl
theorem named_no {k : Int} {n : Int} {p : Pt} (h : kName k = false) : namedB (nd k [] n p) = true := by
  unfold namedB nd
  simp only [h, Bool.false_eq_true, if_false]
  exact (isEmpty_of _).trans rfl
theorem named_yes {k : Int} {nm : List UInt8} {n : Int} {p : Pt} (h : kName k = true) (hn : nameB nm = true) : namedB (nd k nm n p) = true := by
  unfold namedB nd
  simp only [h, if_true]
  exact hn
theorem comQ_good {E : Nat → TmR} {l : List Tok} (hE : ∀ i, TmGR l (E i)) : ∀ (n : Nat) (ps : To) (i : Nat) (qs : To) (j : Nat), allN (GoodN l) ps → 1 ≤ ps.length → ps.length ≤ 8 → comQ E l n ps i = .inl (qs, j) → allN (GoodN l) qs ∧ 1 ≤ qs.length ∧ qs.length ≤ 8
  | 0, ps, i, qs, j, hp, h1, h8, h => by
    unfold comQ at h; cases h; exact ⟨hp, h1, h8⟩
  | n + 1, ps, i, qs, j, hp, h1, h8, h => by
    unfold comQ at h
    split at h
    · split at h
      · cases h
      · next h7 =>
        have ht := hE (i + 1)
        split at h
        · cases h
        · next hd us x j' he =>
          rw [he] at ht
          exact comQ_good hE n (ps.app (.cons hd us .nil)) _ qs j (allN_app ps (.cons hd us .nil) hp ⟨ht.1, ht.2, trivial⟩) (by rw [to_app_length]; omega) (by rw [to_app_length]; simp [To.length]; omega) h
    · cases h; exact ⟨hp, h1, h8⟩
theorem shutQ_good {l : List Tok} {i0 : Nat} : ∀ (x : Sum (To × Nat) (Nat × Nat)), (∀ qs j, x = .inl (qs, j) → allN (GoodN l) qs ∧ 1 ≤ qs.length ∧ qs.length ≤ 8) → TmGR l (shutQ l i0 x)
  | .inr e, _ => trivial
  | .inl (ps, j), h => by
    obtain ⟨h1, h2, h3⟩ := h ps j rfl
    unfold shutQ
    by_cases hc : isT l j 4 sClose = true
    · simp only [hc, if_true]
      split
      · next hd qs => exact ⟨h1.1, h1.2.1⟩
      · next hne =>
        refine ⟨good_nd (by decide) (by decide) (by decide) (named_no (by decide)) (by decide) (by decide) ?_ (by show (ps.length : Int) ≤ 8; omega), h1⟩
        show (2 : Int) ≤ ps.length
        match ps, hne, h2 with
        | .cons hd qs .nil, hne, _ => exact absurd rfl (hne hd qs)
        | .cons _ _ (.cons _ _ _), _, _ => simp [To.length]; omega
    · simp only [hc, if_false, Bool.false_eq_true]
      trivial
theorem atomQ_good {E : Nat → TmR} {T : Nat → TyR} {l : List Tok} (hl : ∀ t ∈ l, TokG t) (hE : ∀ i, TmGR l (E i)) (hT : ∀ i, TyGR (T i)) (i : Nat) : TmGR l (atomQ E T l i) := by
  unfold atomQ
  split
  · split
    · trivial
    · next t ht =>
      have hm := List.mem_of_getElem? ht
      have hg := hl t hm
      split
      · next h1 =>
        have h1' : t.kind = 1 := by simpa using h1
        refine ⟨⟨?_, fun _ => ⟨t, hm, h1', rfl, rfl, rfl⟩⟩, trivial⟩
        have hn : namedB (nd 1 t.text 0 ((t.fr : Int), (t.to : Int))) = true := named_yes (by decide) (hg.1 h1')
        unfold soundB
        rw [hn]
        rfl
      split
      · next h2 =>
        have h2' := hg.2 (by simpa using h2)
        have hb := numQ_bd h2'.2 h2'.1
        exact ⟨good_nd (by decide) (by decide) (by decide) (named_no (by decide)) hb.1 hb.2 (by decide) (by decide), trivial⟩
      split
      · exact ⟨good_nd (by decide) (by decide) (by decide) (named_no (by decide)) (by decide) (by decide) (by decide) (by decide), trivial⟩
      split
      · have h2 := hE (i + 1)
        unfold brQ
        split
        · trivial
        · next hd qs x j he =>
          rw [he] at h2
          split
          · have h3 := hT (j + 1)
            unfold annQ
            split
            · trivial
            · next k m us j2 he2 =>
              rw [he2] at h3
              by_cases hc : isT l j2 4 sClose = true
              · simp only [hc, if_true]
                refine ⟨⟨?_, fun e => absurd e (by show ¬ (10 : Int) = 1; decide)⟩, ⟨h2.1, h2.2, trivial⟩⟩
                have ht : typedB ⟨10, ByteArray.empty, 0, k, m, us, (joinP (at' l i) (at' l j2)).1, (joinP (at' l i) (at' l j2)).2⟩ = true := by
                  unfold typedB
                  exact TyG'.closed h3
                have hn : namedB ⟨10, ByteArray.empty, 0, k, m, us, (joinP (at' l i) (at' l j2)).1, (joinP (at' l i) (at' l j2)).2⟩ = true := by
                  unfold namedB
                  exact (isEmpty_of _).trans rfl
                unfold soundB
                rw [ht, hn]
                rfl
              · simp only [hc, if_false, Bool.false_eq_true]
                trivial
          · exact shutQ_good _ (fun us j' h => comQ_good hE 8 (.cons hd qs .nil) _ us j' ⟨h2.1, h2.2, trivial⟩ (by simp [To.length]) (by simp [To.length]) h)
      · exact ⟨good_nd (by decide) (by decide) (by decide) (named_no (by decide)) (by decide) (by decide) (by decide) (by decide), trivial⟩
  · trivial
theorem appQ_good {E : Nat → TmR} {T : Nat → TyR} {l : List Tok} (hl : ∀ t ∈ l, TokG t) (hE : ∀ i, TmGR l (E i)) (hT : ∀ i, TyGR (T i)) : ∀ (n : Nat) (t : Nd × To) (x : Pt) (i : Nat), (GoodN l t.1 t.2 ∧ allN (GoodN l) t.2) → TmGR l (appQ E T l n t x i)
  | 0, t, x, i, h => h
  | n + 1, t, x, i, h => by
    unfold appQ
    split
    · have h2 := atomQ_good hl hE hT i
      split
      · trivial
      · next t2 x2 j he =>
        rw [he] at h2
        refine appQ_good hl hE hT n _ _ j ⟨?_, h.1, h.2, h2.1, h2.2, trivial⟩
        exact good_nd (by decide) (by decide) (by decide) (named_no (by decide)) (by decide) (by decide) (by show (2 : Int) ≤ ((2 : Nat) : Int); decide) (by show ((2 : Nat) : Int) ≤ 2; decide)
    · exact h
/-- of the steps: how many parts, and whether a name -/
def nE : List Stp → Nat
  | [] => 0
  | .e :: r => nE r + 1
  | _ :: r => nE r
def hasNm : List Stp → Bool
  | [] => false
  | .n :: _ => true
  | _ :: r => hasNm r
theorem stepsQ_good {E : Nat → TmR} {l : List Tok} (hl : ∀ t ∈ l, TokG t) (hE : ∀ i, TmGR l (E i)) : ∀ (ss : List Stp) (m m' : Fm), allN (GoodN l) m.ps → stepsQ E l ss m = .inl m' → allN (GoodN l) m'.ps ∧ m'.ps.length = m.ps.length + nE ss ∧ (hasNm ss = true → nameB m'.nm = true) ∧ (hasNm ss = false → m'.nm = m.nm) ∧ (nameB m.nm = true → nameB m'.nm = true)
  | [], m, m', hp, h => by
    unfold stepsQ at h; cases h
    exact ⟨hp, rfl, fun e => absurd e (by decide), fun _ => rfl, fun e => e⟩
  | .e :: r, m, m', hp, h => by
    unfold stepsQ stepQ at h
    simp only at h
    have ht := hE m.i
    cases he : E m.i with
    | inr e => rw [he] at h; cases h
    | inl x =>
      obtain ⟨⟨hd, qs⟩, p, j⟩ := x
      rw [he] at h ht
      simp only at h
      have ih := stepsQ_good hl hE r ⟨m.nm, m.ps.app (.cons hd qs .nil), p, j⟩ m' (allN_app m.ps (.cons hd qs .nil) hp ⟨ht.1, ht.2, trivial⟩) h
      refine ⟨ih.1, ?_, ih.2.2.1, ih.2.2.2.1, ih.2.2.2.2⟩
      rw [ih.2.1, to_app_length]
      simp [To.length, nE]; omega
  | .n :: r, m, m', hp, h => by
    unfold stepsQ stepQ at h
    simp only at h
    by_cases hn : nameQ l m.i = true
    · rw [if_pos hn] at h
      simp only at h
      have ih := stepsQ_good hl hE r ⟨txt l m.i, m.ps, m.x, m.i + 1⟩ m' hp h
      have hx : nameB (txt l m.i) = true := by
        unfold nameQ at hn
        unfold txt
        split at hn
        · next t ht => exact (hl t (List.mem_of_getElem? ht)).1 (by simpa using hn)
        · cases hn
      exact ⟨ih.1, ih.2.1, fun _ => ih.2.2.2.2 hx, fun e => absurd e (by simp [hasNm]), fun _ => ih.2.2.2.2 hx⟩
    · rw [if_neg hn] at h; cases h
  | .s t :: r, m, m', hp, h => by
    unfold stepsQ stepQ at h
    simp only at h
    by_cases hn : (isT l m.i 3 t || isT l m.i 4 t) = true
    · rw [if_pos hn] at h
      simp only at h
      have ih := stepsQ_good hl hE r ⟨m.nm, m.ps, m.x, m.i + 1⟩ m' hp h
      exact ⟨ih.1, ih.2.1, ih.2.2.1, ih.2.2.2.1, ih.2.2.2.2⟩
    · rw [if_neg hn] at h; cases h
theorem exQ_good {l : List Tok} (hl : ∀ t ∈ l, TokG t) : ∀ (f i : Nat), TmGR l (exQ l f i)
  | 0, i => trivial
  | f + 1, i => by
    have ih := fun i => exQ_good hl f i
    have iT := fun i => tyQ_good l (f - 1) i
    unfold exQ
    split
    · unfold formQ endF
      split
      · trivial
      · next m he =>
        have h := stepsQ_good hl ih _ _ m (show allN (GoodN l) To.nil from trivial) he
        obtain ⟨h1, h2, h3, h4, _⟩ := h
        refine ⟨?_, h1⟩
        unfold kindF stpsF at *
        cases hL : isT l i 3 wLet
        · simp only [hL, Bool.false_eq_true, if_false] at *
          cases hF : isT l i 3 wFun
          · simp only [hF, Bool.false_eq_true, if_false] at *
            have e : m.nm = [] := h4 rfl
            have e3 : m.ps.length = 3 := h2
            rw [e]
            exact good_nd (by decide) (by decide) (by decide) (named_no (by decide)) (by decide) (by decide) (by rw [e3]; decide) (by rw [e3]; decide)
          · simp only [hF, if_true] at *
            have e1 : m.ps.length = 1 := h2
            exact good_nd (by decide) (by decide) (by decide) (named_yes (by decide) (h3 rfl)) (by decide) (by decide) (by rw [e1]; decide) (by rw [e1]; decide)
        · simp only [hL, if_true] at *
          have e2 : m.ps.length = 2 := h2
          split
          · exact good_nd (by decide) (by decide) (by decide) (named_yes (by decide) (h3 rfl)) (by decide) (by decide) (by rw [e2]; decide) (by rw [e2]; decide)
          · exact good_nd (by decide) (by decide) (by decide) (named_yes (by decide) (h3 rfl)) (by decide) (by decide) (by rw [e2]; decide) (by rw [e2]; decide)
    · have h2 := atomQ_good hl ih iT i
      unfold goQ
      split
      · trivial
      · next t x j he =>
        rw [he] at h2
        exact appQ_good hl ih iT _ _ _ j h2
end Go.Proofs.YtnfodiedalhlhaaDoor.Pa
end
section
/-
  How great what is parsed can be: by the number of tokens. Plain laws. No condition.
-/
namespace Go.Proofs.YtnfodiedalhlhaaDoor.Pa
open Lx

/-- all numbers are 0 -/
def zF : Fo → Prop
  | .nil => True
  | .cons _ m ps r => m = 0 ∧ zF ps ∧ zF r
theorem zF_app : ∀ f g : Fo, zF f → zF g → zF (f.app g)
  | .nil, _, _, h => h
  | .cons _ _ _ r, g, h, h' => ⟨h.1, h.2.1, zF_app r g h.2.2 h'⟩
theorem fo_app_size : ∀ f g : Fo, (f.app g).size = f.size + g.size
  | .nil, _ => by simp [Fo.app, Fo.size]
  | .cons _ _ ps r, g => by simp only [Fo.app, Fo.size]; rw [fo_app_size r g]; omega
def TyZ (i : Nat) : TyR → Prop
  | .inl ((_, m, qs), j) => m = 0 ∧ zF qs ∧ qs.size + 2 + 2 * i ≤ 2 * j
  | .inr _ => True
theorem tyStar_z {T : Nat → TyR} {l : List Tok} (hT : ∀ i, TyZ i (T i)) : ∀ (n : Nat) (ps : Fo) (i i0 : Nat) (qs : Fo) (j : Nat), zF ps → ps.size + 1 + 2 * i0 ≤ 2 * i → tyStar T l n ps i = .inl (qs, j) → zF qs ∧ qs.size + 1 + 2 * i0 ≤ 2 * j
  | 0, ps, i, i0, qs, j, hz, hs, h => by unfold tyStar at h; cases h; exact ⟨hz, hs⟩
  | n + 1, ps, i, i0, qs, j, hz, hs, h => by
    unfold tyStar at h
    split at h
    · split at h
      · cases h
      · have h1 := hT (i + 1)
        split at h
        · cases h
        · next k m us j' he =>
          rw [he] at h1
          obtain ⟨h2, h3, h4⟩ := h1
          refine tyStar_z hT n _ j' i0 qs j (zF_app ps (.cons k m us .nil) hz ⟨h2, h3, trivial⟩) ?_ h
          rw [fo_app_size]; simp only [Fo.size]; omega
    · cases h; exact ⟨hz, hs⟩
theorem tyShut_z {l : List Tok} {i0 : Nat} : ∀ (x : Sum (Fo × Nat) (Nat × Nat)), (∀ qs j, x = .inl (qs, j) → zF qs ∧ qs.size + 1 + 2 * (i0 + 1) ≤ 2 * j) → TyZ i0 (tyShut l x)
  | .inr e, _ => trivial
  | .inl (ps, i), h => by
    obtain ⟨h1, h2⟩ := h ps i rfl
    unfold tyShut
    simp only
    split
    · split
      · next k m qs => simp only [Fo.size] at h2; exact ⟨h1.1, h1.2.1, by omega⟩
      · exact ⟨rfl, h1, by omega⟩
    · trivial
theorem tyQ_z (l : List Tok) : ∀ (f i : Nat), TyZ i (tyQ l f i)
  | 0, i => trivial
  | f + 1, i => by
    have ih := tyQ_z l f
    have hh : TyZ i (tyHead (tyQ l f) l i) := by
      unfold tyHead
      split
      · exact ⟨rfl, trivial, by simp [Fo.size]; omega⟩
      · split
        · exact ⟨rfl, trivial, by simp [Fo.size]; omega⟩
        · split
          · have h1 := ih (i + 1)
            unfold tyBr
            split
            · trivial
            · next k m qs j he =>
              rw [he] at h1
              exact tyShut_z _ (fun us j' h => tyStar_z ih 8 (.cons k m qs .nil) j (i + 1) us j' ⟨h1.1, h1.2.1, trivial⟩ (by simp only [Fo.size]; have := h1.2.2; omega) h)
          · trivial
    unfold tyQ tyArr
    split
    · trivial
    · next k m qs j he =>
      rw [he] at hh
      split
      · have h2 := ih (j + 1)
        unfold tyArr2
        split
        · trivial
        · next k2 m2 qs2 j2 he2 =>
          rw [he2] at h2
          refine ⟨rfl, ⟨hh.1, hh.2.1, h2.1, h2.2.1, trivial⟩, ?_⟩
          have h3 := hh.2.2
          have h4 := h2.2.2
          simp only [Fo.size]; omega
      · exact hh

/-- a head: N bounds the names, J the types -/
def ndZ (N J : Nat) (h : Nd) : Prop := h.nm.size ≤ N ∧ h.tp.size ≤ 2 * J ∧ h.tn = 0 ∧ zF h.tp
theorem ndZ.mono {N J J' : Nat} {h : Nd} (k : ndZ N J h) (hj : J ≤ J') : ndZ N J' h := ⟨k.1, by have := k.2.1; omega, k.2.2.1, k.2.2.2⟩
theorem allT_app {G : Nd → Prop} : ∀ f g : To, allT G f → allT G g → allT G (f.app g)
  | .nil, _, _, h => h
  | .cons _ _ r, g, h, h' => ⟨h.1, h.2.1, allT_app r g h.2.2 h'⟩
theorem to_app_size' (f g : To) : (f.app g).size = f.size + g.size := To.app_size f g
theorem nd_z {N J : Nat} {k : Int} {nm : List UInt8} {n : Int} {p : Pt} (h : nm.length ≤ N) : ndZ N J (nd k nm n p) := ⟨by show nm.toArray.size ≤ N; simpa using h, Nat.zero_le _, rfl, trivial⟩
def TmZ (N i : Nat) : TmR → Prop
  | .inl ((h, ps), _, j) => ndZ N j h ∧ allT (ndZ N j) ps ∧ ps.size + 2 + 2 * i ≤ 2 * j
  | .inr _ => True
theorem comQ_z {E : Nat → TmR} {l : List Tok} {N : Nat} (hE : ∀ i, TmZ N i (E i)) : ∀ (n : Nat) (ps : To) (i i0 : Nat) (qs : To) (j : Nat), allT (ndZ N i) ps → ps.size + 1 + 2 * i0 ≤ 2 * i → comQ E l n ps i = .inl (qs, j) → allT (ndZ N j) qs ∧ qs.size + 1 + 2 * i0 ≤ 2 * j
  | 0, ps, i, i0, qs, j, hz, hs, h => by unfold comQ at h; cases h; exact ⟨hz, hs⟩
  | n + 1, ps, i, i0, qs, j, hz, hs, h => by
    unfold comQ at h
    split at h
    · split at h
      · cases h
      · have h1 := hE (i + 1)
        split at h
        · cases h
        · next hd us p j' he =>
          rw [he] at h1
          obtain ⟨h2, h3, h4⟩ := h1
          refine comQ_z hE n _ j' i0 qs j (allT_app ps (.cons hd us .nil) (allT_mono (fun h hh => hh.mono (by omega)) _ hz) ⟨h2, h3, trivial⟩) ?_ h
          rw [to_app_size']; simp only [To.size]; omega
    · cases h; exact ⟨hz, hs⟩
theorem shutQ_z {l : List Tok} {i0 N : Nat} : ∀ (x : Sum (To × Nat) (Nat × Nat)), (∀ qs j, x = .inl (qs, j) → allT (ndZ N j) qs ∧ qs.size + 1 + 2 * (i0 + 1) ≤ 2 * j) → TmZ N i0 (shutQ l i0 x)
  | .inr e, _ => trivial
  | .inl (ps, i), h => by
    obtain ⟨h1, h2⟩ := h ps i rfl
    unfold shutQ
    simp only
    split
    · split
      · next hd qs => simp only [To.size] at h2; exact ⟨h1.1.mono (by omega), allT_mono (fun h hh => hh.mono (by omega)) _ h1.2.1, by omega⟩
      · exact ⟨nd_z (Nat.zero_le _), allT_mono (fun h hh => hh.mono (by omega)) _ h1, by omega⟩
    · trivial
theorem atomQ_z {E : Nat → TmR} {T : Nat → TyR} {l : List Tok} {N : Nat} (hl : ∀ t ∈ l, t.text.length ≤ N) (hE : ∀ i, TmZ N i (E i)) (hT : ∀ i, TyZ i (T i)) (i : Nat) : TmZ N i (atomQ E T l i) := by
  unfold atomQ
  split
  · split
    · trivial
    · next t ht =>
      have hn := hl t (List.mem_of_getElem? ht)
      split
      · exact ⟨nd_z hn, trivial, by simp [To.size]; omega⟩
      · split
        · exact ⟨nd_z (Nat.zero_le _), trivial, by simp [To.size]; omega⟩
        · split
          · exact ⟨nd_z (Nat.zero_le _), trivial, by simp [To.size]; omega⟩
          · split
            · have h1 := hE (i + 1)
              unfold brQ
              split
              · trivial
              · next hd qs p j he =>
                rw [he] at h1
                obtain ⟨h2, h3, h4⟩ := h1
                split
                · have h5 := hT (j + 1)
                  unfold annQ
                  split
                  · trivial
                  · next k m us j2 he2 =>
                    rw [he2] at h5
                    obtain ⟨h6, h7, h8⟩ := h5
                    split
                    · refine ⟨⟨Nat.zero_le _, ?_, h6, h7⟩, ⟨h2.mono (by omega), allT_mono (fun h hh => hh.mono (by omega)) _ h3, trivial⟩, ?_⟩
                      · show us.size ≤ _; omega
                      · simp only [To.size]; omega
                    · trivial
                · exact shutQ_z _ (fun us j' h => comQ_z hE 8 (.cons hd qs .nil) j (i + 1) us j' ⟨h2, h3, trivial⟩ (by simp only [To.size]; omega) h)
            · exact ⟨nd_z (Nat.zero_le _), trivial, by simp [To.size]; omega⟩
  · trivial
theorem appQ_z {E : Nat → TmR} {T : Nat → TyR} {l : List Tok} {N : Nat} (hl : ∀ t ∈ l, t.text.length ≤ N) (hE : ∀ i, TmZ N i (E i)) (hT : ∀ i, TyZ i (T i)) (i0 : Nat) : ∀ (n : Nat) (t : Nd × To) (x : Pt) (i : Nat), (ndZ N i t.1 ∧ allT (ndZ N i) t.2 ∧ t.2.size + 2 + 2 * i0 ≤ 2 * i) → TmZ N i0 (appQ E T l n t x i)
  | 0, t, x, i, h => h
  | n + 1, t, x, i, h => by
    unfold appQ
    split
    · have h2 := atomQ_z (l := l) hl hE hT i
      split
      · trivial
      · next t2 x2 j he =>
        rw [he] at h2
        obtain ⟨h3, h4, h5⟩ := h2
        obtain ⟨h6, h7, h8⟩ := h
        refine appQ_z hl hE hT i0 n _ _ j ⟨nd_z (Nat.zero_le _), ⟨h6.mono (by omega), allT_mono (fun h hh => hh.mono (by omega)) _ h7, h3, h4, trivial⟩, ?_⟩
        show (To.cons t.1 t.2 (.cons t2.1 t2.2 .nil)).size + 2 + 2 * i0 ≤ 2 * j
        simp only [To.size]; omega
    · exact h
theorem stepsQ_z {E : Nat → TmR} {l : List Tok} {N : Nat} (hl : ∀ t ∈ l, t.text.length ≤ N) (hE : ∀ i, TmZ N i (E i)) (i0 : Nat) : ∀ (ss : List Stp) (m m' : Fm), m.nm.length ≤ N → allT (ndZ N m.i) m.ps → m.ps.size + 2 + 2 * i0 ≤ 2 * m.i → stepsQ E l ss m = .inl m' → m'.nm.length ≤ N ∧ allT (ndZ N m'.i) m'.ps ∧ m'.ps.size + 2 + 2 * i0 ≤ 2 * m'.i
  | [], m, m', hn, hp, hs, h => by unfold stepsQ at h; cases h; exact ⟨hn, hp, hs⟩
  | .e :: r, m, m', hn, hp, hs, h => by
    unfold stepsQ stepQ at h
    simp only at h
    have ht := hE m.i
    cases he : E m.i with
    | inr e => rw [he] at h; cases h
    | inl x =>
      obtain ⟨⟨hd, qs⟩, p, j⟩ := x
      rw [he] at h ht
      obtain ⟨h2, h3, h4⟩ := ht
      refine stepsQ_z hl hE i0 r ⟨m.nm, m.ps.app (.cons hd qs .nil), p, j⟩ m' hn (allT_app m.ps (.cons hd qs .nil) (allT_mono (fun h hh => hh.mono (by show m.i ≤ j; omega)) _ hp) ⟨h2, h3, trivial⟩) ?_ h
      show (m.ps.app (.cons hd qs .nil)).size + 2 + 2 * i0 ≤ 2 * j
      rw [to_app_size']; simp only [To.size]; omega
  | .n :: r, m, m', hn, hp, hs, h => by
    unfold stepsQ stepQ at h
    simp only at h
    by_cases hq : nameQ l m.i = true
    · rw [if_pos hq] at h
      refine stepsQ_z hl hE i0 r ⟨txt l m.i, m.ps, m.x, m.i + 1⟩ m' ?_ (allT_mono (fun h hh => hh.mono (by show m.i ≤ m.i + 1; omega)) _ hp) (by show m.ps.size + 2 + 2 * i0 ≤ 2 * (m.i + 1); omega) h
      show (txt l m.i).length ≤ N
      unfold txt
      split
      · next t ht => exact hl t (List.mem_of_getElem? ht)
      · exact Nat.zero_le _
    · rw [if_neg hq] at h; cases h
  | .s t :: r, m, m', hn, hp, hs, h => by
    unfold stepsQ stepQ at h
    simp only at h
    by_cases hq : (isT l m.i 3 t || isT l m.i 4 t) = true
    · rw [if_pos hq] at h
      exact stepsQ_z hl hE i0 r ⟨m.nm, m.ps, m.x, m.i + 1⟩ m' hn (allT_mono (fun h hh => hh.mono (by show m.i ≤ m.i + 1; omega)) _ hp) (by show m.ps.size + 2 + 2 * i0 ≤ 2 * (m.i + 1); omega) h
    · rw [if_neg hq] at h; cases h
theorem exQ_z {l : List Tok} {N : Nat} (hl : ∀ t ∈ l, t.text.length ≤ N) : ∀ (f i : Nat), TmZ N i (exQ l f i)
  | 0, i => trivial
  | f + 1, i => by
    have ih := exQ_z (l := l) hl f
    have iT := fun i => tyQ_z l (f - 1) i
    unfold exQ
    split
    · unfold formQ endF
      split
      · trivial
      · next m he =>
        have hfr : i + 1 ≤ fromF l i := by unfold fromF; split <;> omega
        obtain ⟨h1, h2, h3⟩ := stepsQ_z hl ih i _ ⟨[], .nil, (0, 0), fromF l i⟩ m (Nat.zero_le _) trivial (by simp only [To.size]; omega) he
        exact ⟨nd_z h1, h2, by omega⟩
    · have h2 := atomQ_z (l := l) hl ih iT i
      unfold goQ
      split
      · trivial
      · next t x j he =>
        rw [he] at h2
        exact appQ_z hl ih iT i _ _ _ _ h2
end Go.Proofs.YtnfodiedalhlhaaDoor.Pa
end
section
/-
  What the term of a text that is read is like, for the law ScopeText. Plain laws. No condition.
-/
namespace Go.Proofs.YtnfodiedalhlhaaDoor
open Go.RowKit Go.Shelf Lx Pa
namespace Sc

theorem allN_sound {l : List Tok} : ∀ f : To, allN (GoodN l) f → allS f = true
  | .nil, _ => rfl
  | .cons h ps r, k => by
    rw [allS_cons, k.1.1, allN_sound ps k.2.1, allN_sound r k.2.2]; rfl
theorem zF_wf : ∀ f : Fo, zF f → wfF f
  | .nil, _ => trivial
  | .cons _ m ps r, h => by
    refine ⟨?_, zF_wf ps h.2.1, zF_wf r h.2.2⟩
    rw [h.1]; exact wfI_of (by decide) (by decide)
theorem ndZ_good {N J : Nat} {h : Nd} (k : ndZ N J h) (hN : N ≤ 100000) (hJ : J ≤ 50000) : GoodH h := by
  refine ⟨by have := k.1; omega, by have := k.2.1; omega, ?_, zF_wf _ k.2.2.2⟩
  rw [k.2.2.1]; exact wfI_of (by decide) (by decide)
theorem freeL_mem {G : Nd → To → Prop} : ∀ (f : To) (bk : Int) (nm : ByteArray) (i : Nat) (e : List ByteArray) (y : Nd), allN G f → y ∈ freeL bk nm i e f → y.k = 1 ∧ ∃ ps, G y ps
  | .nil, _, _, _, _, y, _, h => by simp [freeL] at h
  | .cons hd ps r, bk, nm, i, e, y, k, h => by
    rw [freeL_cons] at h
    rcases List.mem_append.1 h with h | h
    · unfold free1 at h
      split at h
      · next hk =>
        split at h
        · simp at h; subst h; exact ⟨hk, ps, k.1⟩
        · simp at h
      · exact freeL_mem ps _ _ _ _ y k.2.1 h
    · exact freeL_mem r _ _ _ _ y k.2.2 h
theorem free1_mem {G : Nd → To → Prop} {e : List ByteArray} {h : Nd} {ps : To} {y : Nd} (k : G h ps) (kp : allN G ps) (hy : y ∈ free1 e h ps) : y.k = 1 ∧ ∃ qs, G y qs := by
  unfold free1 at hy
  split at hy
  · next hk =>
    split at hy
    · simp at hy; subst hy; exact ⟨hk, ps, k⟩
    · simp at hy
  · exact freeL_mem ps _ _ _ _ y kp hy
/-- a text's term: right, not great; a free name stands where its span says -/
structure TxtOk (s : ByteArray) (h : Nd) (ps : To) : Prop where
  right : RT h ps = true
  good : allT GoodH (.cons h ps .nil)
  size : ps.size ≤ 2 * s.size + 2
  free : ∀ y ∈ free1 [] h ps, ∃ a b : Nat, y.fr = a ∧ y.en = b ∧ a < b ∧ b ≤ s.size ∧ y.nm = s.extract a b
theorem txt_ok {s : ByteArray} {f : Nat} {h : Nd} {ps : To} (hs : s.size ≤ 20000) (ht : termQ s.data.toList f = .inl (h, ps)) : TxtOk s h ps := by
  unfold termQ at ht
  split at ht
  · cases ht
  · next ts hw =>
    split at ht
    · next t x j he =>
      cases ht
      have hsh := words_shut hw
      have hlen := wordsA_len _ _ _ hw
      rw [bytes_length] at hlen
      unfold wholeQ at he
      split at he
      · cases he
      · next t2 x2 j2 hq =>
        split at he
        · cases he
          have hin := exQ_in hsh.1 f 0 hsh.2
          rw [hq] at hin
          have hj : 0 < j2 ∧ j2 < ts.length := hin
          have hg := exQ_good (l := ts) (fun t h => (words_good hw t h).1) f 0
          rw [hq] at hg
          have hz := exQ_z (l := ts) (N := s.size) (fun t h => by have := words_txt hw t h; rw [bytes_length] at this; exact this) f 0
          rw [hq] at hz
          obtain ⟨z1, z2, z3⟩ := hz
          refine ⟨allN_sound (.cons h ps .nil) ⟨hg.1, hg.2, trivial⟩, ⟨ndZ_good z1 (by omega) (by omega), allT_mono (fun h hh => ndZ_good hh (by omega) (by omega)) _ z2, trivial⟩, by omega, fun y hy => ?_⟩
          obtain ⟨hk, qs, hgy⟩ := free1_mem hg.1 hg.2 hy
          obtain ⟨t, htm, htk, hnm, hfr, hen⟩ := hgy.2 hk
          obtain ⟨c1, c2, c3⟩ := (words_good hw t htm).2 (by rw [htk]; decide)
          rw [bytes_length] at c2
          refine ⟨t.fr, t.to, hfr, hen, c1, c2, ?_⟩
          rw [hnm, token_text2, ← c3]; rfl
        · cases he
    · cases ht
end Sc
end Go.Proofs.YtnfodiedalhlhaaDoor
end
section
/-
  The law ScopeText: it returns true. Condition: the table of blanks holds what its initialiser lays.
-/
namespace Go.Proofs.YtnfodiedalhlhaaDoor
open Go.RowKit Go.Shelf Lx Pa
namespace Sc

theorem termQ_bad {s : List UInt8} {f : Nat} {p : Pt} {er : Nat} (h : termQ s f = .inr (p, er)) : er ≠ 0 := by
  unfold termQ at h
  split at h
  · next a e hw => cases h; exact wordsF_bad _ _ _ _ hw
  · next ts hw =>
    split at h
    · cases h
    · next i e he =>
      cases h
      exact (wholeQ_in (words_shut hw).1 (words_shut hw).2 f _ _ he).2
def rsvT (x : Nd × To) : List Nd → (Nd × To) × (Int × Int) × Int
  | [] => (x, (0, 0), 0)
  | y :: _ => ((zeroN, .nil), (y.fr, y.en), 5)
set_option maxRecDepth 100000 in
set_option maxHeartbeats 8000000 in
theorem scopeText_all (s : ByteArray) (w : World) (ht : Lx.Spaces w) :
    Calls Tryd.prog 3 #[.string s] w fun e w' => e = .returned (.bool true) ∧ Quiet0 w w' := by
  have HA : Hid (∀ W, Quiet0 w W → Calls Tryd.prog 11 #[] W fun e w' => e = .returned (.bool true) ∧ Quiet0 W w') := fun W hq => awake8_any W (ht.stay hq)
  by_cases hs : s.size ≤ 300
  · have h1 : ¬ (s.size : Int) > 300 := by omega
    have h1' : ¬ (300 : Int) < s.size := by omega
    have HC := Lib.hid (term_any s (by omega) 1000 1000 rfl (by omega) (by omega) w)
    have HT := Lib.hid ht
    clear ht
    cases hq : termQ s.data.toList 1000 with
    | inr y =>
      obtain ⟨p, er⟩ := y
      have hne := termQ_bad hq
      have hne2 : ((er : Int) != 0) = true := by simp [hne]
      rw [hq] at HC
      go_enter Tryd.func3, Tryd.ntmps3
      go_wp2_with fail
      refine HC.out.mono ?_; rintro x w1 ⟨rfl, hq1⟩
      have HQ1 := Lib.hid hq1
      clear hq1
      go_wp2_with fail
      refine (HA.out _ (HQ1.out.trans ((Quiet0.alloc _ _).trans (Quiet0.alloc _ _)))).mono ?_; rintro x w2 ⟨rfl, hq2⟩
      have HQ2 := Lib.hid hq2
      clear hq2
      go_wp2_with fail
      go_ret
      exact ⟨rfl, (HQ1.out.trans ((Quiet0.alloc _ _).trans (Quiet0.alloc _ _))).trans HQ2.out⟩
    | inl y =>
      obtain ⟨h, ps⟩ := y
      have hok := txt_ok (by omega) hq
      rw [hq] at HC
      obtain ⟨hvk, hokf, _⟩ := RT_ok hok.right
      have hav := okF_allV ps hokf
      have hsz := hok.size
      obtain ⟨L, hL⟩ : ∃ L, L = free1 [] h ps := ⟨_, rfl⟩
      have HRV : Hid (rsvP h ps = rsvT (resH h ps, resP h ps) L) := by show _ = _; rw [hL]; unfold rsvP; rw [if_pos hok.right]; cases free1 [] h ps <;> rfl
      have HRS : Hid (∀ (W : World) (o1 : Option Addr) (l1 c1 : Nat) (o2 : Option Addr) (l2 c2 : Nat), SlcIn (fun b => w.heap.size ≤ b) W o1 l1 h.tp → TSlc (fun b => w.heap.size ≤ b) W o2 l2 ps → Quiet0 w W → Calls Tryd.prog 13 #[tmv h o1 l1 c1 o2 l2 c2] W (RsvQ W h ps)) := fun W o1 l1 c1 o2 l2 c2 k1 k2 hq => resolve_any h ps W _ o1 l1 c1 o2 l2 c2 k1 k2 (by omega) hok.good (HT.out.stay hq)
      have HRF : Hid (∀ (W : World) (o1 : Option Addr) (l1 c1 : Nat) (o2 : Option Addr) (l2 c2 : Nat), TSlc (fun b => w.heap.size ≤ b) W o2 l2 ps → Calls Tryd.prog 14 #[tmv h o1 l1 c1 o2 l2 c2, .slice none 0 0] W (ListQ W L)) := fun W o1 l1 c1 o2 l2 c2 k2 => by
        rw [hL]; exact refFree_any h ps W _ (fun _ => True) o1 l1 c1 o2 l2 c2 none 0 0 [] k2 (NmIn.nil _ _ _) (by omega) hvk hav
      have hfree := hok.free
      rw [← hL] at hfree
      have HFR := Lib.hid hfree
      have HLZ : Hid (L.length ≤ 20000) := by show _ ≤ _; have := free1_len [] h ps; rw [← hL] at this; omega
      clear hok hvk hokf hav hsz hL hfree hq
      unfold tmv at HRS HRF
      generalize resH h ps = gR at *
      generalize resP h ps = gP at *
      go_enter Tryd.func3, Tryd.ntmps3
      go_wp2_with fail
      refine HC.out.mono ?_; rintro x w1 ⟨o1, l1, c1, o2, l2, c2, rfl, hs1, hs2, hq1⟩
      unfold tmv
      obtain ⟨W2, hW2⟩ : ∃ W2, W2 = (w1.alloc (.cells (cells9 h o1 l1 c1 o2 l2 c2) 30)).alloc (.cells #[.int .i64 0, .int .i64 0] 28) := ⟨_, rfl⟩
      have hqa : Quiet0 w1 W2 := by rw [hW2]; exact (Quiet0.alloc _ _).trans (Quiet0.alloc _ _)
      have hb2 : W2.heap[w1.heap.size]? = some (.cells (cells9 h o1 l1 c1 o2 l2 c2) 30 (0, 0)) := by
        rw [hW2, Below.heap_alloc _ _ _ (by simp)]; exact heap_alloc_new w1 _
      have HB2 : Hid (∀ W, Quiet0 W2 W → Cells9 W w1.heap.size 0 h o1 l1 c1 o2 l2 c2) := fun W hq => (cells9_block hb2).fr hq (fun h => h)
      have HS1 := Lib.hid (hs1.stay hqa)
      have HS2 := Lib.hid (hs2.stay hqa)
      have HQ2 := Lib.hid (hq1.trans hqa)
      go_upto_region 4 with fail
      change Code.wp _ _ _ _ ((w1.alloc (.cells (cells9 h o1 l1 c1 o2 l2 c2) 30)).alloc (.cells #[.int .i64 0, .int .i64 0] 28))
      rw [← hW2]
      clear hW2 hqa hb2 hq1 hs1 hs2
      generalize w1.heap.size = tb at *
      obtain ⟨a0, a1, a2, a3, a4, a5, a6, a7, a8⟩ := HB2.out W2 (Quiet0.refl _)
      go_wp2_with fail
      refine (HRS.out W2 o1 l1 c1 o2 l2 c2 HS1.out HS2.out HQ2.out).mono ?_; rintro x w3 ⟨g, gs, q1, m1, d1, q2, m2, d2, p, er, rfl, hrv, hg1, hg2, hq3⟩
      have HRVQ := Lib.hid (HRV.out.symm.trans hrv)
      obtain ⟨W4, hW4⟩ : ∃ W4, W4 = (w3.alloc (.cells (cells9 g q1 m1 d1 q2 m2 d2) 30)).alloc (.cells #[.int .i64 p.1, .int .i64 p.2] 28) := ⟨_, rfl⟩
      have hqb : Quiet0 w3 W4 := by rw [hW4]; exact (Quiet0.alloc _ _).trans (Quiet0.alloc _ _)
      have hs4 : W4.heap[w3.heap.size + 1]? = some (.cells #[.int .i64 p.1, .int .i64 p.2] 28 (0, 0)) := by
        rw [hW4]
        have := heap_alloc_new (w3.alloc (.cells (cells9 g q1 m1 d1 q2 m2 d2) 30)) (.cells #[.int .i64 p.1, .int .i64 p.2] 28)
        simpa using this
      have HU : Hid (∀ W, Quiet0 W4 W → W.cell? ⟨w3.heap.size + 1, 0, none⟩ = some (.int .i64 p.1) ∧ W.cell? ⟨w3.heap.size + 1, 1, none⟩ = some (.int .i64 p.2)) := fun W hq => ⟨(span_cells (blk_after hq hs4)).1, (span_cells (blk_after hq hs4)).2.1⟩
      have HQ24 := Lib.hid (hq3.trans hqb)
      unfold tmv
      go_upto_region 7 with fail
      change Code.wp _ _ _ _ ((w3.alloc (.cells (cells9 g q1 m1 d1 q2 m2 d2) 30)).alloc (.cells #[.int .i64 p.1, .int .i64 p.2] 28))
      rw [← hW4]
      clear hW4 hqb hs4 hq3 hg1 hg2 hrv a0 a1 a2 a3 a4 a5 a6 a7 a8
      generalize w3.heap.size + 1 = ub at *
      generalize w3.heap.size = ub0 at *
      obtain ⟨a0, a1, a2, a3, a4, a5, a6, a7, a8⟩ := HB2.out W4 HQ24.out
      have hlz := HLZ.out
      generalize hn : L.length = n at *
      have HN := Lib.hid hn
      clear hn
      go_wp2_with fail
      refine (HRF.out W4 o1 l1 c1 o2 l2 c2 (HS2.out.stay HQ24.out)).mono ?_; rintro x w5 ⟨o, c, xs, rfl, hl, hq5⟩
      have HL5 := Lib.hid hl.heads
      have HQ45 := Lib.hid hq5
      have HQW5 := Lib.hid (HQ2.out.trans (HQ24.out.trans hq5))
      rw [HN.out]
      clear hl hq5 a0 a1 a2 a3 a4 a5 a6 a7 a8
      cases L with
      | nil =>
        have hn0 : n = 0 := HN.out.symm
        subst hn0
        obtain ⟨hr1, hr2⟩ := Prod.mk.inj HRVQ.out
        obtain ⟨hr5, hr6⟩ := Prod.mk.inj hr2
        subst hr6
        clear hr1 hr2 hr5
        go_wp2_with fail
        refine (HA.out _ HQW5.out).mono ?_; rintro x w6 ⟨rfl, hq6⟩
        have HQ6 := Lib.hid hq6
        clear hq6
        go_wp2_with fail
        go_ret
        exact ⟨rfl, HQW5.out.trans HQ6.out⟩
      | cons y L' =>
        have hn1 : ((n : Int) == 0) = false := by have := HN.out; simp at this; simp; omega
        have hn2 : (0 : Int) < n := by have := HN.out; simp at this; omega
        have hn3 : 0 < n := by omega
        have hn4 : (n : Int) > 0 := hn2
        obtain ⟨hr1, hr2⟩ := Prod.mk.inj HRVQ.out
        obtain ⟨hr5, hr6⟩ := Prod.mk.inj hr2
        subst hr6 hr5
        obtain ⟨b9, off, u1, v1, e1, u2, v2, e2, rfl, hc9⟩ := HL5.out 0 y rfl
        obtain ⟨ya, yb, hya, hyb, hlt, hle, hyn⟩ := HFR.out y (by simp)
        rw [hya, hyb] at HU
        have hnmc := hc9.2.1
        rw [hyn, Nat.zero_mul, Nat.add_zero] at hnmc
        have HSX : Hid (∀ W, Quiet0 w5 W → W.cell? ⟨ub, 0, none⟩ = some (.int .i64 (ya : Nat)) ∧ W.cell? ⟨ub, 1, none⟩ = some (.int .i64 (yb : Nat)) ∧ W.cell? ⟨b9, off + 1, none⟩ = some (.string (s.extract ya yb))) := fun W hq => ⟨(HU.out W (HQ45.out.trans hq)).1, (HU.out W (HQ45.out.trans hq)).2, hq.at hnmc⟩
        have f1 : (ya : Int) ≥ 0 := by omega
        have f1' : (0 : Int) ≤ ya := by omega
        have f2 : (yb : Int) ≤ s.size := by omega
        have f3 : (ya : Int) < yb := by omega
        have f4 : (ya : Int) ≤ yb := by omega
        have f5 : (0 : Int) ≤ yb := by omega
        have f6 : ya ≤ yb := by omega
        have f7 : decide (ya < yb) = true := by simp; omega
        have f8 : decide (yb ≤ s.size) = true := by simp; omega
        have f9 : ((s.extract ya yb).toList == (s.extract ya yb).toList) = true := by simp
        have HKX : Hid (∀ W, Quiet0 w5 W → Quiet0 w W) := fun W hq => HQW5.out.trans hq
        clear hr1 hr2 hc9 hya hyb hyn hlt hle hnmc HFR
        go_upto_region 10 with fail
        have hqc := Quiet0.refl w5
        go_region_held3 (fun W => W.cell? ⟨ub, 0, none⟩ = some (.int .i64 (ya : Nat)) ∧ W.cell? ⟨ub, 1, none⟩ = some (.int .i64 (yb : Nat)) ∧ W.cell? ⟨b9, off + 1, none⟩ = some (.string (s.extract ya yb)))
          (((refine HSX.out _ ?_); (repeat (first | with_reducible exact hqc | with_reducible exact Quiet0.refl _ | with_reducible refine Quiet0.trans ?_ (Quiet0.alloc _ _) | with_reducible refine Quiet0.trans ?_ (Quiet0.drew _) | fail))))
          (first
            | (go_at_call 11; (with_reducible refine Calls.mono (HA.out _ (HKX.out _ ?hq)) ?_); (case hq => (repeat (first | with_reducible exact hqc | with_reducible exact Quiet0.refl _ | with_reducible refine Quiet0.trans ?_ (Quiet0.alloc _ _) | with_reducible refine Quiet0.trans ?_ (Quiet0.drew _) | fail))); rintro e wx ⟨rfl, hqx⟩; (refine with_q (w0 := w5) ?hq2 hqx ?_); (case hq2 => (repeat (first | with_reducible exact hqc | with_reducible exact Quiet0.refl _ | with_reducible refine Quiet0.trans ?_ (Quiet0.alloc _ _) | with_reducible refine Quiet0.trans ?_ (Quiet0.drew _) | fail))); intro hqc)
            | fail)
        all_goals
          go_wp2_with fail
          go_ret
          exact ⟨rfl, HKX.out _ hqc⟩
  · have h1 : (s.size : Int) > 300 := by omega
    have h1' : (300 : Int) < s.size := by omega
    go_enter Tryd.func3, Tryd.ntmps3
    go_wp2_with fail
    refine (HA.out w (Quiet0.refl _)).mono ?_; rintro x w2 ⟨rfl, hq2⟩
    have HQ2 := Lib.hid hq2
    clear hq2
    go_wp2_with fail
    go_ret
    exact ⟨rfl, HQ2.out⟩
end Sc
end Go.Proofs.YtnfodiedalhlhaaDoor
end
