/-
  Texts laid together (PaPlain, PaLaws, PaWords, LexNext, LexTok, LexWords, LexSame, PaIs, PaTyp): what each one proves, and its conditions, stands at its head.
-/
import Derived.Laws.StructEq
import Derived.StillTailTactics
import Derived.BigQuiet
import Derived.Test.YtnfodiedalhlhaaDoorSA1
import Derived.Test.YtnfodiedalhlhaaDoorSA2
import Derived.Test.YtnfodiedalhlhaaDoorSA3
import Derived.Test.YtnfodiedalhlhaaDoorSA4
import Derived.Test.YtnfodiedalhlhaaDoorSA5
import Derived.Test.YtnfodiedalhlhaaDoorSA6
import Derived.Test.YtnfodiedalhlhaaDoorSA7
import Derived.Test.YtnfodiedalhlhaaDoorSA8
import Derived.Test.YtnfodiedalhlhaaDoorSA9
import Derived.Test.YtnfodiedalhlhaaDoorSA10
import Derived.Test.YtnfodiedalhlhaaDoorSA11
import Derived.Test.YtnfodiedalhlhaaDoorSA12
import Derived.Test.YtnfodiedalhlhaaDoorSA13
import Derived.Test.YtnfodiedalhlhaaDoorSA14
import Derived.Test.YtnfodiedalhlhaaDoorSA15
import Derived.Test.YtnfodiedalhlhaaDoorSA16
import Derived.Test.YtnfodiedalhlhaaDoorSA17
section
/-
  The grammar, read from tokens, in plain words: types, then terms. No program in sight. No condition.
-/
namespace Go.Proofs.YtnfodiedalhlhaaDoor.Pa
open Lx

abbrev Pt := Int × Int
/-- what is read: of what kind, where it ends; or the place and the error's number -/
abbrev TyR := Sum ((Int × Int × Fo) × Nat) (Nat × Nat)
abbrev TmR := Sum ((Nd × To) × Pt × Nat) (Nat × Nat)

def isT (l : List Tok) (i k : Nat) (s : List UInt8) : Bool :=
  match l[i]? with
  | some t => t.kind == k && t.text == s
  | none => false
def nameQ (l : List Tok) (i : Nat) : Bool :=
  match l[i]? with
  | some t => t.kind == 1
  | none => false
def wInt : List UInt8 := [105, 110, 116]
def wBool : List UInt8 := [98, 111, 111, 108]
def wFun : List UInt8 := [102, 117, 110]
def wLet : List UInt8 := [108, 101, 116]
def wRec : List UInt8 := [114, 101, 99]
def wIn : List UInt8 := [105, 110]
def wIf : List UInt8 := [105, 102]
def wThen : List UInt8 := [116, 104, 101, 110]
def wElse : List UInt8 := [101, 108, 115, 101]
def wTrue : List UInt8 := [116, 114, 117, 101]
def wFalse : List UInt8 := [102, 97, 108, 115, 101]
def sOpen : List UInt8 := [40]
def sClose : List UInt8 := [41]
def sComma : List UInt8 := [44]
def sColon : List UInt8 := [58]
def sEq : List UInt8 := [61]
def sStar : List UInt8 := [42]
def sArrow : List UInt8 := [45, 62]

/-- types -/
def tyStar (T : Nat → TyR) (l : List Tok) : Nat → Fo → Nat → Sum (Fo × Nat) (Nat × Nat)
  | 0, ps, i => .inl (ps, i)
  | n + 1, ps, i =>
    if isT l i 4 sStar then
      if 8 ≤ ps.length then .inr (i, 6) else
        match T (i + 1) with
        | .inr e => .inr e
        | .inl ((k, m, qs), j) => tyStar T l n (ps.app (.cons k m qs .nil)) j
    else .inl (ps, i)
def tyShut (l : List Tok) : Sum (Fo × Nat) (Nat × Nat) → TyR
  | .inr e => .inr e
  | .inl (ps, i) =>
    if isT l i 4 sClose then
      match ps with
      | .cons k m qs .nil => .inl ((k, m, qs), i + 1)
      | _ => .inl ((5, 0, ps), i + 1)
    else .inr (i, 3)
def tyBr (T : Nat → TyR) (l : List Tok) : TyR → TyR
  | .inr e => .inr e
  | .inl ((k, m, qs), j) => tyShut l (tyStar T l 8 (.cons k m qs .nil) j)
def tyHead (T : Nat → TyR) (l : List Tok) (i : Nat) : TyR :=
  if isT l i 3 wInt then .inl ((2, 0, .nil), i + 1)
  else if isT l i 3 wBool then .inl ((3, 0, .nil), i + 1)
  else if isT l i 4 sOpen then tyBr T l (T (i + 1))
  else .inr (i, 3)
def tyArr2 (k m : Int) (qs : Fo) : TyR → TyR
  | .inr e => .inr e
  | .inl ((k2, m2, qs2), j) => .inl ((4, 0, .cons k m qs (.cons k2 m2 qs2 .nil)), j)
def tyArr (T : Nat → TyR) (l : List Tok) : TyR → TyR
  | .inr e => .inr e
  | .inl ((k, m, qs), i) => if isT l i 4 sArrow then tyArr2 k m qs (T (i + 1)) else .inl ((k, m, qs), i)
def tyQ (l : List Tok) : Nat → Nat → TyR
  | 0, i => .inr (i, 4)
  | f + 1, i => tyArr (tyQ l f) l (tyHead (tyQ l f) l i)

/-- the span of two -/
def joinP (a b : Pt) : Pt :=
  if a.1 ≥ a.2 ∧ b.1 ≥ b.2 then (0, 0) else if a.1 ≥ a.2 then b else if b.1 ≥ b.2 then a else (min a.1 b.1, max a.2 b.2)
def begQ (l : List Tok) (i : Nat) : Bool :=
  match l[i]? with
  | some t => t.kind == 1 || t.kind == 2 || (t.kind == 3 && t.text == wTrue) || (t.kind == 3 && t.text == wFalse) || (t.kind == 4 && t.text == sOpen)
  | none => false
/-- digits as a number -/
def numQ (s : List UInt8) : Int := s.foldl (fun n c => IntKind.i64.wrap (IntKind.i64.wrap (IntKind.i64.wrap (10 * n) + c.toNat) - 48)) 0
def at' (l : List Tok) (i : Nat) : Pt :=
  match l[i]? with
  | some t => (t.fr, t.to)
  | none => (0, 0)
def txt (l : List Tok) (i : Nat) : List UInt8 :=
  match l[i]? with
  | some t => t.text
  | none => []
def nd (k : Int) (nm : List UInt8) (n : Int) (p : Pt) : Nd := ⟨k, ⟨nm.toArray⟩, n, 0, 0, .nil, p.1, p.2⟩
/-- what stands behind commas -/
def comQ (E : Nat → TmR) (l : List Tok) : Nat → To → Nat → Sum (To × Nat) (Nat × Nat)
  | 0, ps, i => .inl (ps, i)
  | n + 1, ps, i =>
    if isT l i 4 sComma then
      if 8 ≤ ps.length then .inr (i, 6) else
        match E (i + 1) with
        | .inr e => .inr e
        | .inl ((h, qs), _, j) => comQ E l n (ps.app (.cons h qs .nil)) j
    else .inl (ps, i)
def shutQ (l : List Tok) (i0 : Nat) : Sum (To × Nat) (Nat × Nat) → TmR
  | .inr e => .inr e
  | .inl (ps, i) =>
    if isT l i 4 sClose then
      match ps with
      | .cons h qs .nil => .inl ((h, qs), joinP (at' l i0) (at' l i), i + 1)
      | _ => .inl ((nd 9 [] 0 (joinP (at' l i0) (at' l i)), ps), joinP (at' l i0) (at' l i), i + 1)
    else .inr (i, 3)
def annQ (l : List Tok) (i0 : Nat) (h : Nd) (qs : To) : TyR → TmR
  | .inr e => .inr e
  | .inl ((k, m, us), i) =>
    if isT l i 4 sClose then .inl ((⟨10, ByteArray.empty, 0, k, m, us, (joinP (at' l i0) (at' l i)).1, (joinP (at' l i0) (at' l i)).2⟩, .cons h qs .nil), joinP (at' l i0) (at' l i), i + 1)
    else .inr (i, 3)
def brQ (E : Nat → TmR) (T : Nat → TyR) (l : List Tok) (i0 : Nat) : TmR → TmR
  | .inr e => .inr e
  | .inl ((h, qs), _, i) => if isT l i 4 sColon then annQ l i0 h qs (T (i + 1)) else shutQ l i0 (comQ E l 8 (.cons h qs .nil) i)
def atomQ (E : Nat → TmR) (T : Nat → TyR) (l : List Tok) (i : Nat) : TmR :=
  if begQ l i then
    match l[i]? with
    | none => .inr (i, 3)
    | some t =>
      if t.kind == 1 then .inl ((nd 1 t.text 0 (t.fr, t.to), .nil), (t.fr, t.to), i + 1)
      else if t.kind == 2 then .inl ((nd 2 [] (numQ t.text) (t.fr, t.to), .nil), (t.fr, t.to), i + 1)
      else if t.text == wTrue then .inl ((nd 3 [] 1 (t.fr, t.to), .nil), (t.fr, t.to), i + 1)
      else if t.text == sOpen then brQ E T l i (E (i + 1))
      else .inl ((nd 3 [] 0 (t.fr, t.to), .nil), (t.fr, t.to), i + 1)
  else .inr (i, 3)
def app2 (h : Nd) (qs : To) (x : Pt) (h2 : Nd) (qs2 : To) (x2 : Pt) : (Nd × To) × Pt := ((nd 5 [] 0 (joinP x x2), .cons h qs (.cons h2 qs2 .nil)), joinP x x2)
/-- one atom behind another one -/
def appQ (E : Nat → TmR) (T : Nat → TyR) (l : List Tok) : Nat → (Nd × To) → Pt → Nat → TmR
  | 0, t, x, i => .inl (t, x, i)
  | n + 1, t, x, i =>
    if begQ l i then
      match atomQ E T l i with
      | .inr e => .inr e
      | .inl (t2, x2, j) => appQ E T l n (app2 t.1 t.2 x t2.1 t2.2 x2).1 (app2 t.1 t.2 x t2.1 t2.2 x2).2 j
    else .inl (t, x, i)
/-- the steps of what begins with a word -/
inductive Stp where
  | e : Stp
  | n : Stp
  | s (t : List UInt8) : Stp
structure Fm where
  nm : List UInt8
  ps : To
  x : Pt
  i : Nat
def stepQ (E : Nat → TmR) (l : List Tok) (m : Fm) : Stp → Sum Fm (Nat × Nat)
  | .e => match E m.i with
    | .inr e => .inr e
    | .inl ((h, qs), x, j) => .inl ⟨m.nm, m.ps.app (.cons h qs .nil), x, j⟩
  | .n => if nameQ l m.i then .inl ⟨txt l m.i, m.ps, m.x, m.i + 1⟩ else .inr (m.i, 3)
  | .s t => if isT l m.i 3 t || isT l m.i 4 t then .inl ⟨m.nm, m.ps, m.x, m.i + 1⟩ else .inr (m.i, 3)
def stepsQ (E : Nat → TmR) (l : List Tok) : List Stp → Fm → Sum Fm (Nat × Nat)
  | [], m => .inl m
  | s :: r, m => match stepQ E l m s with
    | .inr e => .inr e
    | .inl m' => stepsQ E l r m'
def endF (l : List Tok) (i0 : Nat) (k : Int) : Sum Fm (Nat × Nat) → TmR
  | .inr e => .inr e
  | .inl m => .inl ((nd k m.nm 0 (joinP (at' l i0) m.x), m.ps), joinP (at' l i0) m.x, m.i)
def kindF (l : List Tok) (i : Nat) : Int := if isT l i 3 wLet then (if isT l (i + 1) 3 wRec then 7 else 6) else if isT l i 3 wFun then 4 else 8
def stpsF (l : List Tok) (i : Nat) : List Stp :=
  if isT l i 3 wLet then [.n, .s sEq, .e, .s wIn, .e] else if isT l i 3 wFun then [.n, .s sArrow, .e] else [.e, .s wThen, .e, .s wElse, .e]
def fromF (l : List Tok) (i : Nat) : Nat := if isT l i 3 wLet && isT l (i + 1) 3 wRec then i + 2 else i + 1
def formQ (E : Nat → TmR) (l : List Tok) (i : Nat) : TmR := endF l i (kindF l i) (stepsQ E l (stpsF l i) ⟨[], .nil, (0, 0), fromF l i⟩)
def goQ (E : Nat → TmR) (T : Nat → TyR) (l : List Tok) : TmR → TmR
  | .inr e => .inr e
  | .inl (t, x, i) => appQ E T l (l.length + 1) t x i
def exQ (l : List Tok) : Nat → Nat → TmR
  | 0, i => .inr (i, 4)
  | f + 1, i =>
    if isT l i 3 wFun || isT l i 3 wLet || isT l i 3 wIf then formQ (exQ l f) l i
    else goQ (exQ l f) (tyQ l (f - 1)) l (atomQ (exQ l f) (tyQ l (f - 1)) l i)
def endQ (l : List Tok) (i : Nat) : Bool :=
  match l[i]? with
  | some t => t.kind == 0
  | none => false
def wholeQ (l : List Tok) (f : Nat) : TmR :=
  match exQ l f 0 with
  | .inr e => .inr e
  | .inl (t, x, i) => if endQ l i then .inl (t, x, i + 1) else .inr (i, 3)
end Go.Proofs.YtnfodiedalhlhaaDoor.Pa
end
section
/-
  Where reading ends: behind where it began, and within the tokens. Plain laws. Condition: a token that is no end has one behind it.
-/
namespace Go.Proofs.YtnfodiedalhlhaaDoor.Pa
open Lx

def Shut (l : List Tok) : Prop := ∀ i t, l[i]? = some t → t.kind ≠ 0 → i + 1 < l.length
theorem isT_some {l : List Tok} {i k : Nat} {s : List UInt8} (h : isT l i k s = true) : ∃ t, l[i]? = some t ∧ t.kind = k ∧ t.text = s := by
  unfold isT at h
  split at h
  · next t ht => simp at h; exact ⟨t, ht, h.1, h.2⟩
  · cases h
theorem isT_lt {l : List Tok} {i k : Nat} {s : List UInt8} (hl : Shut l) (h : isT l i k s = true) (hk : k ≠ 0) : i + 1 < l.length := by
  obtain ⟨t, ht, hkd, _⟩ := isT_some h
  exact hl i t ht (by omega)
theorem nameQ_lt {l : List Tok} {i : Nat} (hl : Shut l) (h : nameQ l i = true) : i + 1 < l.length := by
  unfold nameQ at h
  split at h
  · next t ht => simp at h; exact hl i t ht (by omega)
  · cases h
theorem begQ_lt {l : List Tok} {i : Nat} (hl : Shut l) (h : begQ l i = true) : i + 1 < l.length := by
  unfold begQ at h
  split at h
  · next t ht =>
    refine hl i t ht ?_
    intro h0
    simp [h0] at h
  · cases h
/-- where a reading of types, or of terms, ends -/
def In (n i : Nat) {α : Type} (at2 : α → Nat) : Sum α (Nat × Nat) → Prop
  | .inl r => i < at2 r ∧ at2 r < n
  | .inr e => e.1 < n ∧ e.2 ≠ 0
/-- as In, but it may have stayed -/
def In0 (n i : Nat) {α : Type} (at2 : α → Nat) : Sum α (Nat × Nat) → Prop
  | .inl r => i ≤ at2 r ∧ at2 r < n
  | .inr e => e.1 < n ∧ e.2 ≠ 0
abbrev TyIn' (n i : Nat) (r : TyR) : Prop := In n i (fun r => r.2) r
abbrev TmIn' (n i : Nat) (r : TmR) : Prop := In n i (fun r => r.2.2) r
theorem In.zero {n i : Nat} {α : Type} {f : α → Nat} {r : Sum α (Nat × Nat)} (h : In n i f r) : In0 n i f r := by
  cases r with
  | inl r => exact ⟨Nat.le_of_lt h.1, h.2⟩
  | inr e => exact h
theorem In0.less {n i k : Nat} {α : Type} {f : α → Nat} {r : Sum α (Nat × Nat)} (h : In0 n i f r) (hk : k < i) : In n k f r := by
  cases r with
  | inl r => exact ⟨Nat.lt_of_lt_of_le hk h.1, h.2⟩
  | inr e => exact h
theorem In0.le {n i k : Nat} {α : Type} {f : α → Nat} {r : Sum α (Nat × Nat)} (h : In0 n i f r) (hk : k ≤ i) : In0 n k f r := by
  cases r with
  | inl r => exact ⟨Nat.le_trans hk h.1, h.2⟩
  | inr e => exact h
theorem In.le {n i k : Nat} {α : Type} {f : α → Nat} {r : Sum α (Nat × Nat)} (h : In n i f r) (hk : k ≤ i) : In n k f r := by
  cases r with
  | inl r => exact ⟨Nat.lt_of_le_of_lt hk h.1, h.2⟩
  | inr e => exact h
section
variable {l : List Tok} (hl : Shut l)
include hl

theorem tyStar_in {T : Nat → TyR} (hT : ∀ i, i < l.length → TyIn' l.length i (T i)) : ∀ (n : Nat) (ps : Fo) (i : Nat), i < l.length → In0 l.length i (fun r : Fo × Nat => r.2) (tyStar T l n ps i)
  | 0, ps, i, hi => ⟨Nat.le_refl _, hi⟩
  | n + 1, ps, i, hi => by
    unfold tyStar
    split
    · next h =>
      have h1 := isT_lt hl h (by decide)
      split
      · exact ⟨hi, by simp⟩
      · have h2 := hT (i + 1) h1
        split
        · next e he => rw [he] at h2; exact h2
        · next k m qs j he =>
          rw [he] at h2
          have h3 : i + 1 < j ∧ j < l.length := h2
          exact (tyStar_in hT n _ j h3.2).le (by omega)
    · exact ⟨Nat.le_refl _, hi⟩
theorem tyShut_in {i : Nat} : ∀ (x : Sum (Fo × Nat) (Nat × Nat)), In0 l.length i (fun r : Fo × Nat => r.2) x → TyIn' l.length i (tyShut l x)
  | .inr e, h => h
  | .inl (ps, j), h => by
    have h' : i ≤ j ∧ j < l.length := h
    unfold tyShut
    by_cases hc : isT l j 4 sClose = true
    · have h1 := isT_lt hl hc (by decide)
      simp only [hc, if_true]
      split
      · show i < j + 1 ∧ j + 1 < l.length; omega
      · show i < j + 1 ∧ j + 1 < l.length; omega
    · simp only [hc, if_false, Bool.false_eq_true]
      exact ⟨h'.2, by simp⟩
theorem tyQ_in : ∀ (f i : Nat), i < l.length → TyIn' l.length i (tyQ l f i)
  | 0, i, hi => ⟨hi, by simp⟩
  | f + 1, i, hi => by
    have ih := fun i hi => tyQ_in f i hi
    have hh : TyIn' l.length i (tyHead (tyQ l f) l i) := by
      unfold tyHead
      split
      · next h => have := isT_lt hl h (by decide); show i < i + 1 ∧ i + 1 < l.length; omega
      split
      · next h => have := isT_lt hl h (by decide); show i < i + 1 ∧ i + 1 < l.length; omega
      split
      · next h =>
        have h1 := isT_lt hl h (by decide)
        have h2 := ih (i + 1) h1
        unfold tyBr
        split
        · next e he => rw [he] at h2; exact h2
        · next k m qs j he =>
          rw [he] at h2
          have h3 : i + 1 < j ∧ j < l.length := h2
          exact (tyShut_in hl (i := j) _ (tyStar_in hl ih 8 _ j h3.2)).le (by omega)
      · exact ⟨hi, by simp⟩
    unfold tyQ
    unfold tyArr
    split
    · next e he => rw [he] at hh; exact hh
    · next k m qs j he =>
      rw [he] at hh
      have h3 : i < j ∧ j < l.length := hh
      split
      · next h =>
        have h1 := isT_lt hl h (by decide)
        have h2 := ih (j + 1) h1
        unfold tyArr2
        split
        · next e he => rw [he] at h2; exact h2
        · next k m qs j2 he =>
          rw [he] at h2
          have h4 : j + 1 < j2 ∧ j2 < l.length := h2
          show i < j2 ∧ j2 < l.length; omega
      · exact h3
theorem comQ_in {E : Nat → TmR} (hE : ∀ i, i < l.length → TmIn' l.length i (E i)) : ∀ (n : Nat) (ps : To) (i : Nat), i < l.length → In0 l.length i (fun r : To × Nat => r.2) (comQ E l n ps i)
  | 0, ps, i, hi => ⟨Nat.le_refl _, hi⟩
  | n + 1, ps, i, hi => by
    unfold comQ
    split
    · next h =>
      have h1 := isT_lt hl h (by decide)
      split
      · exact ⟨hi, by simp⟩
      · have h2 := hE (i + 1) h1
        split
        · next e he => rw [he] at h2; exact h2
        · next h qs x j he =>
          rw [he] at h2
          have h3 : i + 1 < j ∧ j < l.length := h2
          exact (comQ_in hE n _ j h3.2).le (by omega)
    · exact ⟨Nat.le_refl _, hi⟩
theorem shutQ_in {i i0 : Nat} : ∀ (x : Sum (To × Nat) (Nat × Nat)), In0 l.length i (fun r : To × Nat => r.2) x → TmIn' l.length i (shutQ l i0 x)
  | .inr e, h => h
  | .inl (ps, j), h => by
    have h' : i ≤ j ∧ j < l.length := h
    unfold shutQ
    by_cases hc : isT l j 4 sClose = true
    · have h1 := isT_lt hl hc (by decide)
      simp only [hc, if_true]
      split
      · show i < j + 1 ∧ j + 1 < l.length; omega
      · show i < j + 1 ∧ j + 1 < l.length; omega
    · simp only [hc, if_false, Bool.false_eq_true]
      exact ⟨h'.2, by simp⟩
theorem annQ_in {i i0 : Nat} {h : Nd} {qs : To} : ∀ (x : TyR), TyIn' l.length i x → TmIn' l.length i (annQ l i0 h qs x)
  | .inr e, h => h
  | .inl ((k, m, us), j), h => by
    have h' : i < j ∧ j < l.length := h
    unfold annQ
    by_cases hc : isT l j 4 sClose = true
    · have h1 := isT_lt hl hc (by decide)
      simp only [hc, if_true]
      show i < j + 1 ∧ j + 1 < l.length; omega
    · simp only [hc, if_false, Bool.false_eq_true]
      exact ⟨h'.2, by simp⟩
theorem atomQ_in {E : Nat → TmR} {T : Nat → TyR} (hE : ∀ i, i < l.length → TmIn' l.length i (E i)) (hT : ∀ i, i < l.length → TyIn' l.length i (T i)) (i : Nat) (hi : i < l.length) : TmIn' l.length i (atomQ E T l i) := by
  unfold atomQ
  split
  · next hb =>
    have h1 := begQ_lt hl hb
    have hs : i < i + 1 ∧ i + 1 < l.length := ⟨by omega, h1⟩
    split
    · exact ⟨hi, by simp⟩
    · split
      · exact hs
      split
      · exact hs
      split
      · exact hs
      split
      · have h2 := hE (i + 1) h1
        unfold brQ
        split
        · next e he => rw [he] at h2; exact h2
        · next h qs x j he =>
          rw [he] at h2
          have h3 : i + 1 < j ∧ j < l.length := h2
          split
          · next hc =>
            have h4 := isT_lt hl hc (by decide)
            exact (annQ_in hl (i := j + 1) _ (hT (j + 1) h4)).le (by omega)
          · exact (shutQ_in hl (i := j) _ (comQ_in hl hE 8 _ j h3.2)).le (by omega)
      · exact hs
  · exact ⟨hi, by simp⟩
theorem appQ_in {E : Nat → TmR} {T : Nat → TyR} (hE : ∀ i, i < l.length → TmIn' l.length i (E i)) (hT : ∀ i, i < l.length → TyIn' l.length i (T i)) : ∀ (n : Nat) (t : Nd × To) (x : Pt) (i : Nat), i < l.length → In0 l.length i (fun r : (Nd × To) × Pt × Nat => r.2.2) (appQ E T l n t x i)
  | 0, t, x, i, hi => ⟨Nat.le_refl _, hi⟩
  | n + 1, t, x, i, hi => by
    unfold appQ
    split
    · have h2 := atomQ_in hl hE hT i hi
      split
      · next e he => rw [he] at h2; exact h2
      · next t2 x2 j he =>
        rw [he] at h2
        have h3 : i < j ∧ j < l.length := h2
        exact (appQ_in hE hT n _ _ j h3.2).le (by omega)
    · exact ⟨Nat.le_refl _, hi⟩
theorem stepQ_in {E : Nat → TmR} (hE : ∀ i, i < l.length → TmIn' l.length i (E i)) (m : Fm) (hi : m.i < l.length) (s : Stp) : In l.length m.i (fun r : Fm => r.i) (stepQ E l m s) := by
  cases s with
  | e =>
    have h2 := hE m.i hi
    unfold stepQ
    simp only
    split
    · next e he => rw [he] at h2; exact h2
    · next h qs x j he => rw [he] at h2; exact h2
  | n =>
    unfold stepQ
    simp only
    split
    · next h => have := nameQ_lt hl h; show m.i < m.i + 1 ∧ m.i + 1 < l.length; omega
    · exact ⟨hi, by simp⟩
  | s t =>
    unfold stepQ
    simp only
    split
    · next h =>
      have : m.i + 1 < l.length := by
        rcases Bool.or_eq_true_iff.1 h with h | h
        · exact isT_lt hl h (by decide)
        · exact isT_lt hl h (by decide)
      show m.i < m.i + 1 ∧ m.i + 1 < l.length; omega
    · exact ⟨hi, by simp⟩
theorem stepsQ_in {E : Nat → TmR} (hE : ∀ i, i < l.length → TmIn' l.length i (E i)) : ∀ (ss : List Stp) (m : Fm), m.i < l.length → In0 l.length m.i (fun r : Fm => r.i) (stepsQ E l ss m)
  | [], m, hi => ⟨Nat.le_refl _, hi⟩
  | s :: r, m, hi => by
    have h2 := stepQ_in hl hE m hi s
    unfold stepsQ
    split
    · next e he => rw [he] at h2; exact h2
    · next m' he =>
      rw [he] at h2
      have h3 : m.i < m'.i ∧ m'.i < l.length := h2
      exact (stepsQ_in hE r m' h3.2).le (by omega)
theorem exQ_in : ∀ (f i : Nat), i < l.length → TmIn' l.length i (exQ l f i)
  | 0, i, hi => ⟨hi, by simp⟩
  | f + 1, i, hi => by
    have ih := fun i hi => exQ_in f i hi
    have iT := fun i hi => tyQ_in hl (f - 1) i hi
    unfold exQ
    split
    · next h =>
      have h1 : i + 1 < l.length := by
        rcases Bool.or_eq_true_iff.1 h with h | h
        · rcases Bool.or_eq_true_iff.1 h with h | h
          · exact isT_lt hl h (by decide)
          · exact isT_lt hl h (by decide)
        · exact isT_lt hl h (by decide)
      have h2 : i < fromF l i ∧ fromF l i < l.length := by
        unfold fromF
        split
        · next hr => have := isT_lt hl (Bool.and_eq_true_iff.1 hr).2 (by decide); omega
        · omega
      have h3 := stepsQ_in hl ih (stpsF l i) ⟨[], .nil, (0, 0), fromF l i⟩ h2.2
      unfold formQ endF
      split
      · next e he => rw [he] at h3; exact h3
      · next m he =>
        rw [he] at h3
        have h4 : fromF l i ≤ m.i ∧ m.i < l.length := h3
        show i < m.i ∧ m.i < l.length; omega
    · have h2 := atomQ_in hl ih iT i hi
      unfold goQ
      split
      · next e he => rw [he] at h2; exact h2
      · next t x j he =>
        rw [he] at h2
        have h3 : i < j ∧ j < l.length := h2
        exact (appQ_in hl ih iT _ _ _ j h3.2).less (by omega)
end
end Go.Proofs.YtnfodiedalhlhaaDoor.Pa
end
section
/-
  What tokens of a text are like: the last one is an end, no other one is. Plain laws. No condition.
-/
namespace Go.Proofs.YtnfodiedalhlhaaDoor.Pa
open Lx

theorem next_kind {l : List UInt8} (h : (nextL l).2.2 = 0) : (nextL l).1 ≠ 0 := by
  unfold nextL at h ⊢
  cases l with
  | nil => simp at h
  | cons c r =>
    simp only at h ⊢
    split
    · next h1 =>
      rw [if_pos h1] at h
      split
      · simp
      · next h2 =>
        rw [if_neg h2] at h
        split
        · next h3 => rw [if_pos h3] at h; simp at h
        · simp
    · next h1 =>
      rw [if_neg h1] at h
      split
      · next h2 =>
        rw [if_pos h2] at h
        split
        · next h3 => rw [if_pos h3] at h; simp at h
        · next h3 =>
          rw [if_neg h3] at h
          split
          · next h4 => rw [if_pos h4] at h; simp at h
          · simp
      · next h2 =>
        rw [if_neg h2] at h
        split
        · simp
        · next h3 =>
          rw [if_neg h3] at h
          split
          · simp
          · next h4 => rw [if_neg h4] at h; simp at h
theorem wordsF_last : ∀ (f a : Nat) (l : List UInt8) (ts : List Tok), wordsF f a l = .inl ts → ∃ us n, ts = us ++ [endTok n] ∧ ∀ t ∈ us, t.kind ≠ 0
  | 0, a, l, ts, h => by
    unfold wordsF at h
    cases h
    exact ⟨[], _, rfl, by simp⟩
  | f + 1, a, l, ts, h => by
    unfold wordsF at h
    simp only at h
    split at h
    · cases h; exact ⟨[], _, rfl, by simp⟩
    · split at h
      · cases h
      · next hn =>
        have hk := next_kind (Decidable.not_not.1 hn)
        split at h
        · next ts' he =>
          obtain ⟨us, n, rfl, hu⟩ := wordsF_last f _ _ _ he
          cases h
          refine ⟨_ :: us, n, rfl, fun t ht => ?_⟩
          rcases List.mem_cons.1 ht with e | e
          · subst e; exact hk
          · exact hu t e
        · cases h
theorem words_shut {l : List UInt8} {ts : List Tok} (h : wordsL l = .inl ts) : Shut ts ∧ 0 < ts.length := by
  obtain ⟨us, n, rfl, hu⟩ := wordsF_last _ _ _ _ h
  refine ⟨fun i t hi hk => ?_, by simp⟩
  rw [List.length_append, List.length_singleton]
  rcases Nat.lt_or_ge i us.length with h1 | h1
  · omega
  · rw [List.getElem?_append_right h1] at hi
    have h2 := (List.getElem?_eq_some_iff.1 hi).1
    simp at h2
    have h3 : i - us.length = 0 := by omega
    rw [h3] at hi
    simp at hi
    subst hi
    exact absurd rfl hk
theorem wordsF_bad : ∀ (f a : Nat) (l : List UInt8) (x : Nat × Nat), wordsF f a l = .inr x → x.2 ≠ 0
  | 0, a, l, x, h => by unfold wordsF at h; cases h
  | f + 1, a, l, x, h => by
    unfold wordsF at h
    simp only at h
    split at h
    · cases h
    · split at h
      · next hn => cases h; exact hn
      · split at h
        · cases h
        · next e he => cases h; exact wordsF_bad f _ _ _ he
/-- a whole text's term: or where and why not -/
def termQ (s : List UInt8) (f : Nat) : Sum (Nd × To) (Pt × Nat) :=
  match wordsL s with
  | .inr (a, e) => .inr (((a : Int), (a : Int) + 1), e)
  | .inl ts =>
    match wholeQ ts f with
    | .inl (t, _, _) => .inl t
    | .inr (i, e) => .inr (at' ts i, e)
theorem wholeQ_in {l : List Tok} (hl : Shut l) (h0 : 0 < l.length) (f : Nat) : ∀ i e, wholeQ l f = .inr (i, e) → i < l.length ∧ e ≠ 0 := by
  intro i e h
  have h1 := exQ_in hl f 0 h0
  unfold wholeQ at h
  split at h
  · next x he => cases h; rw [he] at h1; exact h1
  · next t x j he =>
    rw [he] at h1
    have h2 : 0 < j ∧ j < l.length := h1
    split at h
    · cases h
    · cases h; exact ⟨h2.2, by simp⟩
end Go.Proofs.YtnfodiedalhlhaaDoor.Pa
end
section
/-
  Where the next token begins (skip), a number (number), the token at a place (next). Conditions: the place lies in the text; strings.asciiSpace holds what its initialiser lays.
-/
namespace Go.Proofs.YtnfodiedalhlhaaDoor.Lx
open Go.RowKit

theorem skip_lf (l : List UInt8) : skipL true l = runL nolfB l + skipL false (l.drop (runL nolfB l)) := by
  induction l with
  | nil => rfl
  | cons c r ih =>
    by_cases h : (c == 10) = true
    · have hb : blankB c = true := by unfold blankB; rw [h]; simp
      simp [skipL, runL, nolfB, h, hb]
    · have h' : (c == 10) = false := by simpa using h
      have hn : nolfB c = true := by unfold nolfB; rw [h']; rfl
      simp only [skipL, runL, h', hn, if_true, Bool.false_eq_true, if_false, List.drop_succ_cons]
      rw [ih]; omega
theorem skip_hash {c : UInt8} {r : List UInt8} (hb : blankB c = false) (h : (c == 35) = true) : skipL false (c :: r) = runL nolfB (c :: r) + skipL false ((c :: r).drop (runL nolfB (c :: r))) := by
  have hc : c = 35 := by simpa using h
  subst hc
  have := skip_lf ((35 : UInt8) :: r)
  rw [← this]
  simp [skipL, blankB]
theorem skip_blank {c : UInt8} {r : List UInt8} (hb : blankB c = true) : skipL false (c :: r) = 1 + skipL false r := by simp [skipL, hb]; omega
theorem skip_stop {c : UInt8} {r : List UInt8} (hb : blankB c = false) (h : (c == 35) = false) : skipL false (c :: r) = 0 := by simp [skipL, hb, h]
theorem hash_of (x : UInt8) : ((x.toNat : Int) == 35) = (x == 35) := by
  rw [show (35 : UInt8) = UInt8.ofNat 35 from rfl, u8_beq _ _ (by omega), Bool.eq_iff_iff]; simp; omega
theorem hash_nolf {c : UInt8} {r : List UInt8} (h : (c == 35) = true) : 0 < runL nolfB (c :: r) := by
  have hc : c = 35 := by simpa using h
  subst hc
  exact runL_pos (by decide)

theorem ret_int {k : IntKind} {a b : Int} (h : a = b) : Ending.returned (.int k a) = .returned (.int k b) := by rw [h]
theorem eg_digit : ∀ args w, (callFunc 108 args).run Tryd.prog w = .ok (.enter 108 args) w := enters_of Tryd.func108 (by kernel_rfl) rfl

/-- a number: kind, length, error -/
def numL (l : List UInt8) : Nat × Nat × Nat :=
  if (decide (1 < runL digitB l) && goesOn (fun c => c == 48) l) || goesOn innerB (l.drop (runL digitB l)) then (0, 0, 3) else if 9 < runL digitB l then (0, 0, 2) else (2, runL digitB l, 0)
def trip (t : Nat × Nat × Nat) : Ending := .returned (.tuple #[.int .i64 (t.1 : Nat), .int .i64 (t.2.1 : Nat), .int .i64 (t.2.2 : Nat)])
theorem zero_of (x : UInt8) : ((x.toNat : Int) == 48) = (x == 48) := by
  rw [show (48 : UInt8) = UInt8.ofNat 48 from rfl, u8_beq _ _ (by omega), Bool.eq_iff_iff]; simp; omega
end Go.Proofs.YtnfodiedalhlhaaDoor.Lx
end
section
/-
  The token at a place (next): kind, length, or what is wrong. Conditions: the place lies in the text; strings.asciiSpace holds what its initialiser lays.
-/
namespace Go.Proofs.YtnfodiedalhlhaaDoor.Lx
open Go.RowKit

def signText : ByteArray := ⟨#[40, 41, 44, 58, 61, 42]⟩
theorem sign_of (x : UInt8) : decide ((0 : Int) ≤ Lib.indexByte signText.data.toList x) = signB x := by
  have h : signText.data.toList = [40, 41, 44, 58, 61, 42] := rfl
  rw [h]
  unfold signB
  by_cases h1 : x = 40
  · subst h1; decide
  by_cases h2 : x = 41
  · subst h2; decide
  by_cases h3 : x = 44
  · subst h3; decide
  by_cases h4 : x = 58
  · subst h4; decide
  by_cases h5 : x = 61
  · subst h5; decide
  by_cases h6 : x = 42
  · subst h6; decide
  have e1 : (40 == x) = false := by simp; exact fun h => h1 h.symm
  have e2 : (41 == x) = false := by simp; exact fun h => h2 h.symm
  have e3 : (44 == x) = false := by simp; exact fun h => h3 h.symm
  have e4 : (58 == x) = false := by simp; exact fun h => h4 h.symm
  have e5 : (61 == x) = false := by simp; exact fun h => h5 h.symm
  have e6 : (42 == x) = false := by simp; exact fun h => h6 h.symm
  simp [Lib.indexByte, e1, e2, e3, e4, e5, e6, h1, h2, h3, h4, h5, h6]
theorem arrow_of (x : UInt8) (r : List UInt8) : Lib.hasPrefix (x :: r) [45, 62] = (x == 45 && goesOn (fun d => d == 62) r) := by
  unfold Lib.hasPrefix
  cases r with
  | nil => cases h : (x == 45) <;> simp [List.isPrefixOf, goesOn]
  | cons d r => simp only [List.isPrefixOf, goesOn, Bool.and_true]; rw [Bool.eq_iff_iff]; simp; constructor <;> (rintro ⟨h1, h2⟩; exact ⟨h1.symm, h2.symm⟩)
theorem next_small {x : UInt8} {r : List UInt8} (h : smallB x = true) : nextL (x :: r) = if kwB ((x :: r).take (runL innerB (x :: r))) then (3, runL innerB (x :: r), 0) else if 20 < runL innerB (x :: r) then (0, 0, 2) else (1, runL innerB (x :: r), 0) := by simp [nextL, h]
theorem next_digit {x : UInt8} {r : List UInt8} (h1 : smallB x = false) (h : digitB x = true) : nextL (x :: r) = numL (x :: r) := by simp [nextL, numL, goesOn, h1, h]
theorem next_sign {x : UInt8} {r : List UInt8} (h1 : smallB x = false) (h2 : digitB x = false) (h : signB x = true) : nextL (x :: r) = (4, 1, 0) := by simp [nextL, h1, h2, h]
theorem next_arrow {x : UInt8} {r : List UInt8} (h1 : smallB x = false) (h2 : digitB x = false) (h3 : signB x = false) : nextL (x :: r) = if Lib.hasPrefix (x :: r) [45, 62] then (4, 2, 0) else (0, 0, 3) := by simp [nextL, h1, h2, h3, arrow_of]

end Go.Proofs.YtnfodiedalhlhaaDoor.Lx
end
section
/-
  Words: a text's tokens, in a row of the call's own, or what is wrong and where. Conditions: the text is of a bounded length; strings.asciiSpace holds what its initialiser lays.
-/
namespace Go.Proofs.YtnfodiedalhlhaaDoor.Lx
open Go.RowKit

def tokCells (t : Tok) : List Value := [.int .i64 (t.kind : Nat), .string (toBA t.text), .int .i64 (t.fr : Nat), .int .i64 (t.to : Nat)]
def rowCells (ts : List Tok) : List Value := ts.flatMap tokCells
theorem rowCells_snoc (ts : List Tok) (t : Tok) : rowCells (ts ++ [t]) = rowCells ts ++ tokCells t := by simp [rowCells]
/-- tokens in a row of the call's own, from block B on -/
def TokRow (w : World) (B : Nat) (v : Value) (ts : List Tok) : Prop := w.ownsRow 0 63 4 v ts.length (rowCells ts) ∧ ∀ k, v.ownBlock = some k → B ≤ k
def WordsPost (l : List UInt8) (w : World) (e : Ending) (w' : World) : Prop :=
  Quiet0 w w' ∧ match wordsL l with
    | .inl ts => ∃ g c, e = .returned (.tuple #[.slice (some ⟨g, 0, none⟩) ts.length c, .int .i64 0, .int .i64 0]) ∧ TokRow w' w.heap.size (.slice (some ⟨g, 0, none⟩) ts.length c) ts
    | .inr p => e = .returned (.tuple #[.slice none 0 0, .int .i64 (p.1 : Nat), .int .i64 (p.2 : Nat)])
theorem skipL_drop : ∀ (b : Bool) (l : List UInt8), skipL false (l.drop (skipL b l)) = 0
  | b, [] => by cases b <;> rfl
  | false, c :: r => by
    have i1 := skipL_drop false r
    have i2 := skipL_drop true r
    by_cases h : blankB c = true
    · have e : skipL false (c :: r) = skipL false r + 1 := by simp [skipL, h]
      rw [e, List.drop_succ_cons]; exact i1
    · by_cases h2 : (c == 35) = true
      · have e : skipL false (c :: r) = skipL true r + 1 := by simp [skipL, h, h2]
        rw [e, List.drop_succ_cons]; exact i2
      · have e : skipL false (c :: r) = 0 := by simp [skipL, h, h2]
        rw [e, List.drop_zero, e]
  | true, c :: r => by
    have i1 := skipL_drop false r
    have i2 := skipL_drop true r
    by_cases h : (c == 10) = true
    · have e : skipL true (c :: r) = skipL false r + 1 := by simp [skipL, h]
      rw [e, List.drop_succ_cons]; exact i1
    · have e : skipL true (c :: r) = skipL true r + 1 := by simp [skipL, h]
      rw [e, List.drop_succ_cons]; exact i2
theorem elemTok : Elem Tryd.prog 57 63 (.agg #[.int .i64 0, .string ⟨#[]⟩, .int .i64 0, .int .i64 0]) 4 40 :=
  ⟨Tryd.underlying57, by kernel_rfl, by decide, by decide⟩
theorem token_text (s : ByteArray) (n m : Nat) : s.extract n (n + m) = toBA ((s.data.toList.drop n).take m) := by
  apply ba_ext
  rw [Lib.extract_data, toBA_toList]; congr 1; omega

theorem append_tok {w W w1 : World} {B : Nat} {v : Value} {acc : List Tok} {t : Tok} {g c : Nat} (hq : Quiet0 w W) (hB : B = w.heap.size) (hr : TokRow W B v acc)
    (ho : w1.ownsRow 0 63 4 (.slice (some ⟨g, 0, none⟩) (acc.length + 1) c) (acc.length + 1) (rowCells acc ++ tokCells t)) (hf : Fr (fun k => v.ownBlock = some k) W w1) (hg : v.ownBlock = some g ∨ W.heap.size ≤ g) :
    TokRow w1 B (.slice (some ⟨g, 0, none⟩) (acc ++ [t]).length c) (acc ++ [t]) ∧ Quiet0 w w1 := by
  subst hB
  refine ⟨⟨by rw [rowCells_snoc]; simpa using ho, ?_⟩, ?_⟩
  · intro k hk
    simp [Value.ownBlock] at hk
    subst hk
    rcases hg with h | h
    · exact hr.2 g h
    · exact Nat.le_trans hq.size h
  · exact Fr.trans' hq hf (fun i hi h => absurd (hr.2 i h) (by omega))

end Go.Proofs.YtnfodiedalhlhaaDoor.Lx
end
section
/-
  Tokens held against each other (the reference's Same, at equal rows), and the law's awake. Conditions: the rows' cells are as told; strings.asciiSpace holds what its initialiser lays.
-/
namespace Go.Proofs.YtnfodiedalhlhaaDoor.Lx
open Go.RowKit

/-- tokens' cells from the head of block g on -/
def TokAt (w : World) (g : Nat) (ts : List Tok) : Prop := ∀ i t, ts[i]? = some t → w.cell? ⟨g, i * 4, none⟩ = some (.int .i64 (t.kind : Nat)) ∧ w.cell? ⟨g, i * 4 + 1, none⟩ = some (.string (toBA t.text)) ∧ w.cell? ⟨g, i * 4 + 2, none⟩ = some (.int .i64 (t.fr : Nat)) ∧ w.cell? ⟨g, i * 4 + 3, none⟩ = some (.int .i64 (t.to : Nat))
theorem rowCells_at : ∀ (ts : List Tok) (i j : Nat) (t : Tok), ts[i]? = some t → j < 4 → (rowCells ts)[i * 4 + j]? = (tokCells t)[j]?
  | [], i, j, t, h, _ => by simp at h
  | a :: ts, 0, j, t, h, hj => by
    simp at h
    subst h
    simp only [rowCells, List.flatMap_cons, Nat.zero_mul, Nat.zero_add]
    exact List.getElem?_append_left (by simp [tokCells]; omega)
  | a :: ts, i + 1, j, t, h, hj => by
    have ih := rowCells_at ts i j t (by simpa using h) hj
    simp only [rowCells, List.flatMap_cons] at ih ⊢
    rw [List.getElem?_append_right (by simp [tokCells]; omega), ← ih]
    congr 1
    simp [tokCells]; omega
theorem TokRow.at {w : World} {B : Nat} {g n c : Nat} {ts : List Tok} (h : TokRow w B (.slice (some ⟨g, 0, none⟩) n c) ts) : TokAt w g ts := by
  intro i t hi
  have key : ∀ j u, j < 4 → (tokCells t)[j]? = some u → w.cell? ⟨g, i * 4 + j, none⟩ = some u := by
    intro j u hj hu
    have h1 := rowCells_at ts i j t hi hj
    have h2 := h.1.cells (g := g) rfl (i * 4 + j) u (by rw [h1, hu])
    simpa [Addr.add_lit] using h2
  exact ⟨by simpa using key 0 _ (by omega) rfl, key 1 _ (by omega) rfl, key 2 _ (by omega) rfl, key 3 _ (by omega) rfl⟩
theorem TokRow.lt {w : World} {B : Nat} {g n c : Nat} {ts : List Tok} (h : TokRow w B (.slice (some ⟨g, 0, none⟩) n c) ts) : B ≤ g ∧ g < w.heap.size := ⟨h.2 g rfl, (World.ownsRow.lt h.1 g rfl).2⟩
theorem TokAt.stay {w w' : World} {g : Nat} {ts : List Tok} (h : TokAt w g ts) (hg : g < w.heap.size) (hq : Quiet0 w w') : TokAt w' g ts := by
  intro i t hi
  obtain ⟨h1, h2, h3, h4⟩ := h i t hi
  exact ⟨(hq.cellb hg (fun h => h)).trans h1, (hq.cellb hg (fun h => h)).trans h2, (hq.cellb hg (fun h => h)).trans h3, (hq.cellb hg (fun h => h)).trans h4⟩

theorem eqTok (d : Nat) (w : World) (k f t : Int) (s : ByteArray) : (Op.equalIn (d + 1 + 1 + 1) 63 (.agg #[.int .i64 k, .string s, .int .i64 f, .int .i64 t]) (.agg #[.int .i64 k, .string s, .int .i64 f, .int .i64 t])).run Tryd.prog w = .ok true w := by
  have e32 : ∀ (xs ys : Array Value) (w : World), (Op.equalIn (d + 1 + 1) 28 (.agg xs) (.agg ys)).run Tryd.prog w = (Op.eqFields (d + 1) xs ys (Tryd.prog.fieldsOf 28).toList).run Tryd.prog w :=
    fun xs ys w => run_equalIn_agg w (d + 1) 28 xs ys (by kernel_rfl) (by kernel_rfl)
  have e34 : ∀ (xs ys : Array Value) (w : World), (Op.equalIn (d + 1 + 1 + 1) 63 (.agg xs) (.agg ys)).run Tryd.prog w = (Op.eqFields (d + 1 + 1) xs ys (Tryd.prog.fieldsOf 63).toList).run Tryd.prog w :=
    fun xs ys w => run_equalIn_agg w (d + 1 + 1) 63 xs ys (by kernel_rfl) (by kernel_rfl)
  simp only [Program.fieldsOf, Tryd.underlying28, Tryd.underlying63] at e32 e34
  have u3 := Tryd.underlying3
  have a3 := Tryd.isAgg3
  have z3 := Tryd.sizeOf3
  have u9 := Tryd.underlying9
  have a9 := Tryd.isAgg9
  have z9 := Tryd.sizeOf9
  have a32 := Tryd.isAgg28
  have z32 := Tryd.sizeOf28
  rw [e34]
  clear e34
  go_simp
theorem neqTok (w : World) (k f t : Int) (s : ByteArray) : (binOp .neq 63 (.agg #[.int .i64 k, .string s, .int .i64 f, .int .i64 t]) (.agg #[.int .i64 k, .string s, .int .i64 f, .int .i64 t])).run Tryd.prog w = .ok (.bool false) w := by
  rw [run_neq_struct]
  have h := eqTok 9997 w k f t s
  rw [show (9997 + 1 + 1 + 1 : Nat) = 10000 from rfl] at h
  rw [h]; rfl

end Go.Proofs.YtnfodiedalhlhaaDoor.Lx
end
section
/-
  The documents' Is, word, sign, name, begins, wrong; Join of spans. Condition: the tokens lie in memory as told.
-/
namespace Go.Proofs.YtnfodiedalhlhaaDoor.Pa
open Go.RowKit Lx

/-- tokens in memory -/
structure TkAt (w : World) (g : Nat) (ts : List Tok) : Prop where
  cells : TokAt w g ts
  lt : g < w.heap.size
  few : ts.length ≤ 1000000
theorem TkAt.stay {w w' : World} {g : Nat} {ts : List Tok} (h : TkAt w g ts) (hq : Quiet0 w w') : TkAt w' g ts :=
  ⟨h.cells.stay h.lt hq, Nat.lt_of_lt_of_le h.lt hq.size, h.few⟩
abbrev tks (g : Nat) (ts : List Tok) (c : Nat) : Value := .slice (some ⟨g, 0, none⟩) ts.length c
theorem ba_eq (a : List UInt8) (s : ByteArray) : ((toBA a).toList == s.toList) = (a == s.data.toList) := by
  rw [ByteArray.toList_eq, ByteArray.toList_eq]; rfl
theorem isT_none {ts : List Tok} {i k : Nat} {s : List UInt8} (h : ¬ i < ts.length) : isT ts i k s = false := by
  unfold isT; rw [List.getElem?_eq_none (by omega)]
theorem isT_at {ts : List Tok} {i k : Nat} {s : List UInt8} {t : Tok} (h : ts[i]? = some t) : isT ts i k s = (t.kind == k && t.text == s) := by
  unfold isT; rw [h]
theorem kind_eq (a k : Nat) : ((a : Int) == (k : Int)) = (a == k) := by
  rw [Bool.eq_iff_iff, beq_iff_eq, beq_iff_eq]; omega
set_option maxHeartbeats 1000000 in
theorem is_any (ts : List Tok) (g c i k : Nat) (s : ByteArray) (w : World) (h : TkAt w g ts) :
    Calls Tryd.prog 112 #[tks g ts c, .int .i64 i, .int .i64 k, .string s] w fun e w' => e = .returned (.bool (isT ts i k s.data.toList)) ∧ w = w' := by
  have hfew := h.few
  by_cases hi : i < ts.length
  · obtain ⟨t, ht⟩ : ∃ t, ts[i]? = some t := ⟨_, List.getElem?_eq_getElem hi⟩
    obtain ⟨a0, a1, _, _⟩ := h.cells i t ht
    rw [isT_at ht]
    have hi' : (i : Int) < ts.length := by omega
    have h0 : (0 : Int) ≤ i := by omega
    have e1 := kind_eq t.kind k
    have e2 := ba_eq t.text s
    clear h ht
    cases hk : (t.kind == k)
    · rw [hk] at e1
      go_enter Tryd.func112, Tryd.ntmps112
      go_wp2_with fail
      go_ret
      exact ⟨rfl, rfl⟩
    · rw [hk] at e1
      rw [Bool.true_and]
      cases hs : (t.text == s.data.toList)
      · rw [hs] at e2
        go_enter Tryd.func112, Tryd.ntmps112
        go_wp2_with fail
        go_ret
        exact ⟨rfl, rfl⟩
      · rw [hs] at e2
        go_enter Tryd.func112, Tryd.ntmps112
        go_wp2_with fail
        go_ret
        exact ⟨rfl, rfl⟩
  · have hi' : ¬ (i : Int) < ts.length := by omega
    have h0 : (0 : Int) ≤ i := by omega
    rw [isT_none hi]
    clear h
    go_enter Tryd.func112, Tryd.ntmps112
    go_wp2_with fail
    go_ret
    exact ⟨rfl, rfl⟩
theorem word_any (ts : List Tok) (g c i : Nat) (s : ByteArray) (w : World) (h : TkAt w g ts) :
    Calls Tryd.prog 95 #[tks g ts c, .int .i64 i, .string s] w fun e w' => e = .returned (.bool (isT ts i 3 s.data.toList)) ∧ w = w' := by
  have HC := Lib.hid (is_any ts g c i 3 s w h)
  clear h
  generalize isT ts i 3 s.data.toList = r at *
  go_enter Tryd.func95, Tryd.ntmps95
  go_wp2_with fail
  refine HC.out.mono ?_; rintro e w1 ⟨rfl, rfl⟩
  go_wp2_with fail
  go_ret
  exact ⟨rfl, rfl⟩
theorem sign_any (ts : List Tok) (g c i : Nat) (s : ByteArray) (w : World) (h : TkAt w g ts) :
    Calls Tryd.prog 114 #[tks g ts c, .int .i64 i, .string s] w fun e w' => e = .returned (.bool (isT ts i 4 s.data.toList)) ∧ w = w' := by
  have HC := Lib.hid (is_any ts g c i 4 s w h)
  clear h
  generalize isT ts i 4 s.data.toList = r at *
  go_enter Tryd.func114, Tryd.ntmps114
  go_wp2_with fail
  refine HC.out.mono ?_; rintro e w1 ⟨rfl, rfl⟩
  go_wp2_with fail
  go_ret
  exact ⟨rfl, rfl⟩
set_option maxHeartbeats 1000000 in
theorem nameT_any (ts : List Tok) (g c i : Nat) (w : World) (h : TkAt w g ts) :
    Calls Tryd.prog 113 #[tks g ts c, .int .i64 i] w fun e w' => e = .returned (.bool (nameQ ts i)) ∧ w = w' := by
  have hfew := h.few
  by_cases hi : i < ts.length
  · obtain ⟨t, ht⟩ : ∃ t, ts[i]? = some t := ⟨_, List.getElem?_eq_getElem hi⟩
    obtain ⟨a0, a1, _, _⟩ := h.cells i t ht
    have hi' : (i : Int) < ts.length := by omega
    have h0 : (0 : Int) ≤ i := by omega
    have e1 := kind_eq t.kind 1
    have e : nameQ ts i = (t.kind == 1) := by unfold nameQ; rw [ht]
    rw [e]
    clear h ht e a1
    cases hk : (t.kind == 1)
    · rw [hk] at e1
      have e1' : ((t.kind : Int) == 1) = false := e1
      clear e1
      go_enter Tryd.func113, Tryd.ntmps113
      go_wp2_with fail
      go_ret
      exact ⟨rfl, rfl⟩
    · rw [hk] at e1
      have e1' : ((t.kind : Int) == 1) = true := e1
      clear e1
      go_enter Tryd.func113, Tryd.ntmps113
      go_wp2_with fail
      go_ret
      exact ⟨rfl, rfl⟩
  · have hi' : ¬ (i : Int) < ts.length := by omega
    have e : nameQ ts i = false := by unfold nameQ; rw [List.getElem?_eq_none (by omega)]
    rw [e]
    clear h e
    go_enter Tryd.func113, Tryd.ntmps113
    go_wp2_with fail
    go_ret
    exact ⟨rfl, rfl⟩
theorem beg_at {ts : List Tok} {i : Nat} {t : Tok} (h : ts[i]? = some t) : begQ ts i = (t.kind == 1 || t.kind == 2 || isT ts i 3 wTrue || isT ts i 3 wFalse || isT ts i 4 sOpen) := by
  unfold begQ; rw [h, isT_at h, isT_at h, isT_at h]
set_option maxHeartbeats 4000000 in
theorem begins_any (ts : List Tok) (g c i : Nat) (w : World) (h : TkAt w g ts) :
    Calls Tryd.prog 98 #[tks g ts c, .int .i64 i] w fun e w' => e = .returned (.bool (begQ ts i)) ∧ w = w' := by
  have hfew := h.few
  by_cases hi : i < ts.length
  · obtain ⟨t, ht⟩ : ∃ t, ts[i]? = some t := ⟨_, List.getElem?_eq_getElem hi⟩
    obtain ⟨a0, a1, _, _⟩ := h.cells i t ht
    have hi' : (i : Int) < ts.length := by omega
    have h0 : (0 : Int) ≤ i := by omega
    have e1 := kind_eq t.kind 1
    have e2 := kind_eq t.kind 2
    rw [beg_at ht]
    have H1 : Hid (Calls Tryd.prog 95 #[tks g ts c, .int .i64 i, .string ⟨#[116, 114, 117, 101]⟩] w fun e w' => e = .returned (.bool (isT ts i 3 wTrue)) ∧ w = w') := word_any ts g c i _ w h
    have H2 : Hid (Calls Tryd.prog 95 #[tks g ts c, .int .i64 i, .string ⟨#[102, 97, 108, 115, 101]⟩] w fun e w' => e = .returned (.bool (isT ts i 3 wFalse)) ∧ w = w') := word_any ts g c i _ w h
    have H3 : Hid (Calls Tryd.prog 114 #[tks g ts c, .int .i64 i, .string ⟨#[40]⟩] w fun e w' => e = .returned (.bool (isT ts i 4 sOpen)) ∧ w = w') := sign_any ts g c i _ w h
    clear h ht a1
    generalize isT ts i 3 wTrue = r1 at *
    generalize isT ts i 3 wFalse = r2 at *
    generalize isT ts i 4 sOpen = r3 at *
    cases hk : (t.kind == 1)
    · cases hk2 : (t.kind == 2)
      · rw [hk] at e1; rw [hk2] at e2
        have e1' : ((t.kind : Int) == 1) = false := e1
        have e2' : ((t.kind : Int) == 2) = false := e2
        clear e1 e2
        go_enter Tryd.func98, Tryd.ntmps98
        go_wp2_with fail
        refine H1.out.mono ?_; rintro e w1 ⟨rfl, rfl⟩
        cases r1
        · go_wp2_with fail
          refine H2.out.mono ?_; rintro e w1 ⟨rfl, rfl⟩
          cases r2
          · go_wp2_with fail
            refine H3.out.mono ?_; rintro e w1 ⟨rfl, rfl⟩
            go_wp2_with fail
            go_ret
            exact ⟨rfl, rfl⟩
          · go_wp2_with fail
            go_ret
            exact ⟨rfl, rfl⟩
        · go_wp2_with fail
          go_ret
          exact ⟨rfl, rfl⟩
      · rw [hk] at e1; rw [hk2] at e2
        have e1' : ((t.kind : Int) == 1) = false := e1
        have e2' : ((t.kind : Int) == 2) = true := e2
        clear e1 e2
        go_enter Tryd.func98, Tryd.ntmps98
        go_wp2_with fail
        go_ret
        exact ⟨rfl, rfl⟩
    · rw [hk] at e1
      have e1' : ((t.kind : Int) == 1) = true := e1
      clear e1 e2
      go_enter Tryd.func98, Tryd.ntmps98
      go_wp2_with fail
      go_ret
      exact ⟨rfl, rfl⟩
  · have hi' : ¬ (i : Int) < ts.length := by omega
    have e : begQ ts i = false := by unfold begQ; rw [List.getElem?_eq_none (by omega)]
    rw [e]
    clear h e
    go_enter Tryd.func98, Tryd.ntmps98
    go_wp2_with fail
    go_ret
    exact ⟨rfl, rfl⟩
end Go.Proofs.YtnfodiedalhlhaaDoor.Pa
end
section
/-
  The documents' reading of a type from tokens. Condition: the tokens lie in memory as told, one of them is an end.
-/
namespace Go.Proofs.YtnfodiedalhlhaaDoor.Pa
open Go.RowKit Lx

/-- a row of types of the call's own, in blocks of which T is so -/
structure TyRowT (w : World) (T : Nat → Prop) (v : Value) (f : Fo) (xs : List Value) : Prop where
  own : w.ownsRow 0 25 3 v f.length xs
  low : ∀ k, v.ownBlock = some k → T k
  cells : RowOf (fun k => T k ∧ v.ownBlock ≠ some k) w xs f
theorem TyRowT.fr {w w' : World} {T : Nat → Prop} {v : Value} {f : Fo} {xs : List Value} {S : Nat → Prop} (h : TyRowT w T v f xs) (hf : Fr S w w') (hS : ∀ k, T k → ¬ S k) : TyRowT w' T v f xs :=
  ⟨ownsRow_fr h.own hf (fun k hk hs => hS k (h.low k hk) hs), h.low, RowOf.fr hf (fun k _ hk => ⟨hk, hS k hk.1⟩) f xs h.cells⟩
theorem TyRowT.stay {w w' : World} {T : Nat → Prop} {v : Value} {f : Fo} {xs : List Value} (h : TyRowT w T v f xs) (hf : Quiet0 w w') : TyRowT w' T v f xs := h.fr hf (fun _ _ h => h)
theorem TyRowT.snoc {W w1 : World} {T : Nat → Prop} {v : Value} {f : Fo} {xs : List Value} {k n : Int} {ps : Fo} {o : Option Addr} {len cap g c : Nat} (hr : TyRowT W T v f xs)
    (hs : SlcIn (fun k => T k ∧ v.ownBlock ≠ some k) W o len ps)
    (ho : w1.ownsRow 0 25 3 (.slice (some ⟨g, 0, none⟩) (f.length + 1) c) (f.length + 1) (xs ++ [.int .i64 k, .int .i64 n, .slice o len cap])) (hf : Fr (fun k => v.ownBlock = some k) W w1) (hg : v.ownBlock = some g ∨ W.heap.size ≤ g) (hT : ∀ k, W.heap.size ≤ k → T k) :
    TyRowT w1 T (.slice (some ⟨g, 0, none⟩) (f.length + 1) c) (f.app (.cons k n ps .nil)) (xs ++ [.int .i64 k, .int .i64 n, .slice o len cap]) := by
  refine ⟨by rw [Fo.app_length]; exact ho, ?_, ?_⟩
  · intro k hk
    simp [Value.ownBlock] at hk
    subst hk
    rcases hg with h | h
    · exact hr.low g h
    · exact hT _ h
  · have hk : ∀ k, k < W.heap.size → (T k ∧ v.ownBlock ≠ some k) → ((T k ∧ (Value.slice (some ⟨g, 0, none⟩) (f.length + 1) c).ownBlock ≠ some k) ∧ ¬ v.ownBlock = some k) := by
      rintro k hk ⟨h1, h2⟩
      refine ⟨⟨h1, fun h => ?_⟩, h2⟩
      simp [Value.ownBlock] at h
      subst h
      rcases hg with h | h
      · exact h2 h
      · omega
    exact RowOf.snoc (hs.fr hf hk) f xs (RowOf.fr hf hk f xs hr.cells)
theorem TyRowT.slc {w : World} {T : Nat → Prop} {o : Option Addr} {len cap : Nat} {f : Fo} {xs : List Value} (h : TyRowT w T (.slice o len cap) f xs) (hl : len = f.length) (hm : len ≤ maxLen) : SlcIn T w o len f := by
  refine ⟨hl, hm, fun h0 => ?_⟩
  rcases h.own.2 with ⟨_, h2⟩ | ⟨g, cap', cur, he, _⟩
  · omega
  · injection he with h1 h2 h3
    subst h1
    refine ⟨g, 0, rfl, RowOf.at (h.low g rfl) f xs 0 (RowOf.fr (Fr.refl (fun _ => False) w) (fun k _ hk => ⟨hk.1, fun h => h⟩) f xs h.cells) ?_⟩
    intro j u hj
    have := h.own.cells (g := g) rfl j u hj
    simpa [Addr.add_lit] using this
/-- what a reading of a type gives back -/
def TyPost (w : World) (r : TyR) (e : Ending) (w' : World) : Prop := match r with
  | .inl ((k, m, qs), j) => ∃ o n c, e = .returned (.tuple #[.agg #[.int .i64 k, .int .i64 m, .slice o n c], .int .i64 (j : Nat), .int .i64 0]) ∧ SlcIn (fun b => w.heap.size ≤ b) w' o n qs ∧ Quiet0 w w'
  | .inr (j, er) => e = .returned (.tuple #[.agg #[.int .i64 0, .int .i64 0, .slice none 0 0], .int .i64 (j : Nat), .int .i64 (er : Nat)]) ∧ Quiet0 w w'
/-- the three boxes of Read: the result's, an empty type, the type that is read -/
structure Bx (W : World) (B : Nat) (k m : Int) (v : Value) : Prop where
  r : W.heap[B]? = some (.cells #[.int .i64 0, .int .i64 0, .slice none 0 0] 25 (0, 0))
  z : W.heap[B + 1]? = some (.cells #[.int .i64 0, .int .i64 0, .slice none 0 0] 25 (0, 0))
  t : W.heap[B + 1 + 1]? = some (.cells #[.int .i64 k, .int .i64 m, v] 25 (0, 0))
theorem Bx.fr {W W' : World} {B : Nat} {k m : Int} {v : Value} {S : Nat → Prop} (h : Bx W B k m v) (hf : Fr S W W') (h0 : ¬ S B) (h1 : ¬ S (B + 1)) (h2 : ¬ S (B + 1 + 1)) : Bx W' B k m v :=
  ⟨blk_fr hf h0 h.r, blk_fr hf h1 h.z, blk_fr hf h2 h.t⟩
theorem Bx.stay {W W' : World} {B : Nat} {k m : Int} {v : Value} (h : Bx W B k m v) (hf : Quiet0 W W') : Bx W' B k m v := h.fr hf (fun h => h) (fun h => h) (fun h => h)
theorem put3_block {w : World} {B : Nat} {a b c a' b' c' : Value} {t : TypeId} (h : w.heap[B]? = some (.cells #[a', b', c'] t (0, 0))) :
    (put3 w B a b c).heap[B]? = some (.cells #[a, b, c] t (0, 0)) := box_set2 (u := c) (box_set1 (u := b) (box_set0 (u := a) h))
/-- the type box written anew -/
theorem Bx.put {W : World} {B : Nat} {k m k' m' : Int} {v v' : Value} (h : Bx W B k m v) : Bx (put3 W (B + 1 + 1) (.int .i64 k') (.int .i64 m') v') B k' m' v' := by
  have hf := put3_fr W (B + 1 + 1) (.int .i64 k') (.int .i64 m') v'
  exact ⟨blk_fr hf (by omega) h.r, blk_fr hf (by omega) h.z, put3_block h.t⟩
/-- what the switch leaves -/
def HeadRel (ts : List Tok) (f i : Nat) (w : World) (B : Nat) (t : Value) (wx : World) : Prop :=
  ∃ (k m : Int) (qs : Fo) (j : Nat) (o : Option Addr) (n c : Nat), t = .int .i64 (j : Nat) ∧ Bx wx B k m (.slice o n c) ∧ SlcIn (fun b => B + 3 ≤ b) wx o n qs ∧ tyHead (tyQ ts f) ts i = .inl ((k, m, qs), j) ∧ j < ts.length ∧ Quiet0 w wx
theorem len_one {ps : Fo} (h : ps.length = 1) : ∃ k m qs, ps = .cons k m qs .nil := by
  match ps, h with
  | .cons k m qs .nil, _ => exact ⟨k, m, qs, rfl⟩
  | .cons _ _ _ (.cons _ _ _ _), h => simp [Fo.length] at h
/-- the loop over stars: what is read so far, what is still to come -/
def StarRel (ts : List Tok) (f : Nat) (fin : Sum (Fo × Nat) (Nat × Nat)) (w : World) (B pb : Nat) (t : Value) (wx : World) : Prop :=
  ∃ (ps : Fo) (j n g c : Nat) (xs : List Value), t = .int .i64 (j : Nat) ∧ j < ts.length ∧ ps.length + n = 9 ∧ 1 ≤ ps.length ∧ 1 ≤ n ∧ Bx wx B 5 0 (.slice (some ⟨g, 0, none⟩) ps.length c) ∧
    (∃ x y z, wx.heap[pb]? = some (.cells #[x, y, z] 25 (0, 0))) ∧ TyRowT wx (fun b => B + 3 ≤ b ∧ b ≠ pb) (.slice (some ⟨g, 0, none⟩) ps.length c) ps xs ∧ tyStar (tyQ ts f) ts n ps j = fin ∧ Quiet0 w wx
theorem star_no {T : Nat → TyR} {ts : List Tok} {n : Nat} {ps : Fo} {j : Nat} (h : isT ts j 4 sStar = false) : tyStar T ts n ps j = .inl (ps, j) := by
  cases n with
  | zero => rfl
  | succ n => unfold tyStar; rw [if_neg (by rw [h]; simp)]
theorem star_many {T : Nat → TyR} {ts : List Tok} {n : Nat} {ps : Fo} {j : Nat} (h : isT ts j 4 sStar = true) (h8 : 8 ≤ ps.length) (hn : 1 ≤ n) : tyStar T ts n ps j = .inr (j, 6) := by
  obtain ⟨m, rfl⟩ : ∃ m, n = m + 1 := ⟨n - 1, by omega⟩
  unfold tyStar; rw [if_pos h, if_pos h8]
theorem star_bad {T : Nat → TyR} {ts : List Tok} {n : Nat} {ps : Fo} {j : Nat} {x : Nat × Nat} (h : isT ts j 4 sStar = true) (h8 : ¬ 8 ≤ ps.length) (hn : 1 ≤ n) (ht : T (j + 1) = .inr x) : tyStar T ts n ps j = .inr x := by
  obtain ⟨m, rfl⟩ : ∃ m, n = m + 1 := ⟨n - 1, by omega⟩
  unfold tyStar; rw [if_pos h, if_neg h8, ht]
theorem star_more {T : Nat → TyR} {ts : List Tok} {n : Nat} {ps : Fo} {j : Nat} {k m : Int} {qs : Fo} {j' : Nat} (h : isT ts j 4 sStar = true) (h8 : ¬ 8 ≤ ps.length) (hn : 1 ≤ n) (ht : T (j + 1) = .inl ((k, m, qs), j')) : tyStar T ts n ps j = tyStar T ts (n - 1) (ps.app (.cons k m qs .nil)) j' := by
  obtain ⟨l, rfl⟩ : ∃ l, n = l + 1 := ⟨n - 1, by omega⟩
  conv => lhs; unfold tyStar
  rw [if_pos h, if_neg h8, ht]; rfl
theorem shut_no {ts : List Tok} {ps : Fo} {j : Nat} (h : isT ts j 4 sClose = false) : tyShut ts (.inl (ps, j)) = .inr (j, 3) := by
  show (if isT ts j 4 sClose = true then _ else _) = _; rw [if_neg (by rw [h]; simp)]
theorem shut_one {ts : List Tok} {k m : Int} {qs : Fo} {j : Nat} (h : isT ts j 4 sClose = true) : tyShut ts (.inl (.cons k m qs .nil, j)) = .inl ((k, m, qs), j + 1) := by
  show (if isT ts j 4 sClose = true then _ else _) = _; rw [if_pos h]
theorem shut_many {ts : List Tok} {ps : Fo} {j : Nat} (h : isT ts j 4 sClose = true) (h1 : ps.length ≠ 1) : tyShut ts (.inl (ps, j)) = .inl ((5, 0, ps), j + 1) := by
  show (if isT ts j 4 sClose = true then _ else _) = _; rw [if_pos h]
  split
  · next k m qs => exact absurd rfl h1
  · rfl
def RdT (ts : List Tok) (g c f : Nat) : Prop := ∀ (i : Nat) (ai lv mo : Int) (W : World), ai = i → i < ts.length → TkAt W g ts → f = (mo + 1 - lv).toNat → -1000000 ≤ lv → lv ≤ 1000000 → -1000000 ≤ mo → mo ≤ 900000 →
  Calls Tryd.prog 123 #[tks g ts c, .int .i64 ai, .int .i64 lv, .int .i64 mo] W (TyPost W (tyQ ts f i))
theorem head_int {T : Nat → TyR} {ts : List Tok} {i : Nat} (h : isT ts i 3 wInt = true) : tyHead T ts i = .inl ((2, 0, .nil), i + 1) := by unfold tyHead; rw [if_pos h]
theorem head_bool {T : Nat → TyR} {ts : List Tok} {i : Nat} (h1 : isT ts i 3 wInt = false) (h : isT ts i 3 wBool = true) : tyHead T ts i = .inl ((3, 0, .nil), i + 1) := by unfold tyHead; rw [if_neg (by rw [h1]; simp), if_pos h]
theorem head_open {T : Nat → TyR} {ts : List Tok} {i : Nat} (h1 : isT ts i 3 wInt = false) (h2 : isT ts i 3 wBool = false) (h : isT ts i 4 sOpen = true) : tyHead T ts i = tyBr T ts (T (i + 1)) := by unfold tyHead; rw [if_neg (by rw [h1]; simp), if_neg (by rw [h2]; simp), if_pos h]
theorem head_no {T : Nat → TyR} {ts : List Tok} {i : Nat} (h1 : isT ts i 3 wInt = false) (h2 : isT ts i 3 wBool = false) (h : isT ts i 4 sOpen = false) : tyHead T ts i = .inr (i, 3) := by unfold tyHead; rw [if_neg (by rw [h1]; simp), if_neg (by rw [h2]; simp), if_neg (by rw [h]; simp)]
theorem is_at (ts : List Tok) (g c i k : Nat) (s : ByteArray) (w : World) (ai : Int) (ea : ai = i) (h : TkAt w g ts) :
    Calls Tryd.prog 112 #[tks g ts c, .int .i64 ai, .int .i64 k, .string s] w fun e w' => e = .returned (.bool (isT ts i k s.data.toList)) ∧ w = w' := by
  subst ea; exact is_any ts g c i k s w h
abbrev zTy : Obj := .cells #[.int .i64 0, .int .i64 0, .slice none 0 0] 25
set_option maxRecDepth 100000 in
set_option maxHeartbeats 4000000 in
theorem read_zero (ts : List Tok) (g c : Nat) : RdT ts g c 0 := by
  intro i ai lv mo w ea hi ht hf h1 h2 h3 h4
  subst ea
  have hlt : lv > mo := by omega
  have hlt' : mo < lv := hlt
  clear hf
  have HQ : Hid (Quiet0 w ((w.alloc zTy).alloc zTy)) := (Quiet0.alloc _ _).trans (Quiet0.alloc _ _)
  have hb0 : ((w.alloc zTy).alloc zTy).heap[w.heap.size]? = some (.cells #[.int .i64 0, .int .i64 0, .slice none 0 0] 25 (0, 0)) := by
    rw [Below.heap_alloc _ _ _ (by simp)]; exact heap_alloc_new w _
  have HB0 := Lib.hid hb0
  clear hb0 ht
  go_enter Tryd.func123, Tryd.ntmps123
  go_wp2_with fail
  change bodyPost _ _ _ _ _ ((w.alloc zTy).alloc zTy)
  generalize (w.alloc zTy).alloc zTy = wf at *
  obtain ⟨f0, f1, f2, _, _, _⟩ := box_cells3 HB0.out
  refine bodyPost_ret (by simp [results, Tryd.results123, go_sem, f0, f1, f2]; rfl) rfl ?_
  exact ⟨rfl, HQ.out⟩
set_option maxRecDepth 100000 in
set_option maxHeartbeats 4000000 in
theorem read_succ (ts : List Tok) (g c f : Nat) (hsh : Shut ts) (ih : RdT ts g c f) : RdT ts g c (f + 1) := by
  intro i ai lv mo w ea hi ht hf h1 h2 h3 h4
  subst ea
  have hfew := ht.few
  have hle : ¬ lv > mo := by omega
  have hle' : lv ≤ mo := by omega
  have hf2 : f = (mo + 1 - (lv + 1)).toNat := by omega
  have HIH : Hid (∀ (j : Nat) (aj : Int) (W : World), aj = j → j < ts.length → Quiet0 w W → Calls Tryd.prog 123 #[tks g ts c, .int .i64 aj, .int .i64 (lv + 1), .int .i64 mo] W (TyPost W (tyQ ts f j))) := fun j aj W ej hj hq => ih j aj (lv + 1) mo W ej hj (ht.stay hq) hf2 (by omega) (by omega) h3 h4
  have HIN : Hid (∀ j, j < ts.length → TyIn' ts.length j (tyQ ts f j)) := fun j hj => tyQ_in hsh f j hj
  have HIS : Hid (∀ (j k : Nat) (s : ByteArray) (aj : Int) (W : World), aj = j → Quiet0 w W → Calls Tryd.prog 112 #[tks g ts c, .int .i64 aj, .int .i64 k, .string s] W fun e w' => e = .returned (.bool (isT ts j k s.data.toList)) ∧ W = w') := fun j k s aj W ej hq => is_at ts g c j k s W aj ej (ht.stay hq)
  have HSH := Lib.hid hsh
  have HInt : Hid (∀ W, Quiet0 w W → Calls Tryd.prog 112 #[tks g ts c, .int .i64 i, .int .i64 3, .string ⟨#[105, 110, 116]⟩] W fun e w' => e = .returned (.bool (isT ts i 3 wInt)) ∧ W = w') := fun W hq => HIS.out i 3 _ _ W rfl hq
  have HBool : Hid (∀ W, Quiet0 w W → Calls Tryd.prog 112 #[tks g ts c, .int .i64 i, .int .i64 3, .string ⟨#[98, 111, 111, 108]⟩] W fun e w' => e = .returned (.bool (isT ts i 3 wBool)) ∧ W = w') := fun W hq => HIS.out i 3 _ _ W rfl hq
  have HOpen : Hid (∀ W, Quiet0 w W → Calls Tryd.prog 112 #[tks g ts c, .int .i64 i, .int .i64 4, .string ⟨#[40]⟩] W fun e w' => e = .returned (.bool (isT ts i 4 sOpen)) ∧ W = w') := fun W hq => HIS.out i 4 _ _ W rfl hq
  have HStar : Hid (∀ (j : Nat) (W : World), Quiet0 w W → Calls Tryd.prog 112 #[tks g ts c, .int .i64 j, .int .i64 4, .string ⟨#[42]⟩] W fun e w' => e = .returned (.bool (isT ts j 4 sStar)) ∧ W = w') := fun j W hq => HIS.out j 4 _ _ W rfl hq
  have HClose : Hid (∀ (j : Nat) (W : World), Quiet0 w W → Calls Tryd.prog 112 #[tks g ts c, .int .i64 j, .int .i64 4, .string ⟨#[41]⟩] W fun e w' => e = .returned (.bool (isT ts j 4 sClose)) ∧ W = w') := fun j W hq => HIS.out j 4 _ _ W rfl hq
  have HArr : Hid (∀ (j : Nat) (W : World), Quiet0 w W → Calls Tryd.prog 112 #[tks g ts c, .int .i64 j, .int .i64 4, .string ⟨#[45, 62]⟩] W fun e w' => e = .returned (.bool (isT ts j 4 sArrow)) ∧ W = w') := fun j W hq => HIS.out j 4 _ _ W rfl hq
  obtain ⟨W0, hW0⟩ : ∃ W0, W0 = ((w.alloc zTy).alloc zTy).alloc zTy := ⟨_, rfl⟩
  have HQ0 : Hid (Quiet0 w W0) := by rw [hW0]; exact ((Quiet0.alloc _ _).trans (Quiet0.alloc _ _)).trans (Quiet0.alloc _ _)
  have HBX : Hid (Bx W0 w.heap.size 0 0 (.slice none 0 0)) := by
    refine ⟨?_, ?_, ?_⟩
    · rw [hW0, Below.heap_alloc _ _ _ (by simp; omega), Below.heap_alloc _ _ _ (by simp)]; exact heap_alloc_new w _
    · rw [hW0, Below.heap_alloc _ _ _ (by simp)]
      have := heap_alloc_new (w.alloc zTy) zTy
      simpa using this
    · rw [hW0]
      have := heap_alloc_new ((w.alloc zTy).alloc zTy) zTy
      simpa using this
  have hz0 : w.heap.size + 3 ≤ W0.heap.size := by rw [hW0]; simp
  have HZ0 := Lib.hid hz0
  clear hf hf2 ht ih hsh hz0
  go_enter Tryd.func123, Tryd.ntmps123
  go_upto_block 0 with (fail)
  change Code.wp _ _ _ _ (((w.alloc zTy).alloc zTy).alloc zTy)
  rw [← hW0]
  clear hW0
  generalize hB : w.heap.size = B at *
  have HBE := Lib.hid hB
  clear hB
  go_cut [1] (fun t wx => HeadRel ts f i w B t wx)
  case first =>
    obtain ⟨t0, t1, t2, y0, y1, y2⟩ := box_cells3 HBX.out.t
    obtain ⟨z0, z1, z2, _, _, _⟩ := box_cells3 HBX.out.z
    obtain ⟨r0, r1, r2, x0, x1, x2⟩ := box_cells3 HBX.out.r
    have hps := put3_fr W0 (B + 1 + 1)
    go_wp2_with fail
    refine (HInt.out W0 HQ0.out).mono ?_; rintro e w1 ⟨rfl, rfl⟩
    cases c1 : isT ts i 3 wInt
    case true =>
      have hlt := isT_lt HSH.out c1 (by decide)
      go_wp2_with fail
      go_meet
      exact ⟨2, 0, .nil, i + 1, none, 0, 0, by go_num, HBX.out.put, SlcIn.nil _ _ _, head_int c1, by omega, HQ0.out.trans' (hps _ _ _) (fun k hk e => by have := HBE.out; omega)⟩
    case false =>
    go_wp2_with fail
    refine (HBool.out W0 HQ0.out).mono ?_; rintro e w1 ⟨rfl, rfl⟩
    cases c2 : isT ts i 3 wBool
    case true =>
      have hlt := isT_lt HSH.out c2 (by decide)
      go_wp2_with fail
      go_meet
      exact ⟨3, 0, .nil, i + 1, none, 0, 0, by go_num, HBX.out.put, SlcIn.nil _ _ _, head_bool c1 c2, by omega, HQ0.out.trans' (hps _ _ _) (fun k hk e => by have := HBE.out; omega)⟩
    case false =>
    go_wp2_with fail
    refine (HOpen.out W0 HQ0.out).mono ?_; rintro e w1 ⟨rfl, rfl⟩
    cases c3 : isT ts i 4 sOpen
    case false =>
      clear t0 t1 t2 y0 y1 y2
      go_wp2_with fail
      have hf := put3_fr W0 B (.int .i64 0) (.int .i64 0) (.slice none 0 0)
      obtain ⟨f0, f1, f2⟩ := put3_cells (a := .int .i64 0) (b := .int .i64 0) (c := .slice none 0 0) (HBX.out).r
      have hqf : Quiet0 w (put3 W0 B (.int .i64 0) (.int .i64 0) (.slice none 0 0)) := (HQ0.out).trans' hf (fun k hk e => by have := HBE.out; omega)
      change bodyPost _ _ _ _ _ (put3 W0 B (.int .i64 0) (.int .i64 0) (.slice none 0 0))
      generalize put3 W0 B (.int .i64 0) (.int .i64 0) (.slice none 0 0) = wf at *
      refine bodyPost_ret (by simp [results, Tryd.results123, go_sem, f0, f1, f2]; rfl) rfl ?_
      rw [show tyQ ts (f + 1) i = .inr (i, 3) from by unfold tyQ; rw [head_no c1 c2 c3]; rfl]
      exact ⟨rfl, hqf⟩
    case true =>
    have hlt := isT_lt HSH.out c3 (by decide)
    have HC := HIH.out (i + 1) ((i : Int) + 1) W0 (by omega) hlt HQ0.out
    have HI1 := HIN.out (i + 1) hlt
    cases hr : tyQ ts f (i + 1) with
    | inr x =>
      obtain ⟨j, er⟩ := x
      rw [hr] at HC HI1
      have hne : er ≠ 0 := HI1.2
      have hne2 : ((er : Int) != 0) = true := by simp [hne]
      clear t0 t1 t2 y0 y1 y2 z0 z1 z2 r0 r1 r2 x0 x1 x2 HI1 hps
      go_wp2_with fail
      refine HC.mono ?_; rintro e w1 ⟨rfl, hq1⟩
      obtain ⟨W2, hW2⟩ : ∃ W2, W2 = w1.alloc zTy := ⟨_, rfl⟩
      have hq2 : Quiet0 W0 W2 := by rw [hW2]; exact hq1.trans (Quiet0.alloc _ _)
      have HBX1 := Lib.hid (HBX.out.stay hq2)
      have HQ1 := Lib.hid (HQ0.out.trans hq2)
      obtain ⟨z0, z1, z2, _, _, _⟩ := box_cells3 HBX1.out.z
      obtain ⟨r0, r1, r2, x0, x1, x2⟩ := box_cells3 HBX1.out.r
      clear HC hq1 hq2
      go_upto_region 12 with fail
      change Code.wp _ _ _ _ (w1.alloc zTy)
      rw [← hW2]
      clear hW2
      go_wp2_with fail
      have hf := put3_fr W2 B (.int .i64 0) (.int .i64 0) (.slice none 0 0)
      obtain ⟨f0, f1, f2⟩ := put3_cells (a := .int .i64 0) (b := .int .i64 0) (c := .slice none 0 0) (HBX1.out).r
      have hqf : Quiet0 w (put3 W2 B (.int .i64 0) (.int .i64 0) (.slice none 0 0)) := (HQ1.out).trans' hf (fun k hk e => by have := HBE.out; omega)
      change bodyPost _ _ _ _ _ (put3 W2 B (.int .i64 0) (.int .i64 0) (.slice none 0 0))
      generalize put3 W2 B (.int .i64 0) (.int .i64 0) (.slice none 0 0) = wf at *
      refine bodyPost_ret (by simp [results, Tryd.results123, go_sem, f0, f1, f2]; rfl) rfl ?_
      rw [show tyQ ts (f + 1) i = .inr (j, er) from by unfold tyQ; rw [head_open c1 c2 c3, hr]; rfl]
      exact ⟨rfl, hqf⟩
    | inl x =>
      obtain ⟨⟨k, m, qs⟩, j⟩ := x
      rw [hr] at HC HI1
      have hj1 : i + 1 < j ∧ j < ts.length := HI1
      clear t0 t1 t2 y0 y1 y2 z0 z1 z2 r0 r1 r2 x0 x1 x2 HI1 hps
      go_wp2_with fail
      refine HC.mono ?_; rintro e w1 ⟨o1, n1, d1, rfl, hs1, hq1⟩
      obtain ⟨W2, hW2⟩ : ∃ W2, W2 = w1.alloc (.cells #[.int .i64 k, .int .i64 m, .slice o1 n1 d1] 25) := ⟨_, rfl⟩
      obtain ⟨pb, hpb⟩ : ∃ pb, pb = w1.heap.size := ⟨_, rfl⟩
      have HPB : Hid (W2.heap[pb]? = some (.cells #[.int .i64 k, .int .i64 m, .slice o1 n1 d1] 25 (0, 0))) := by show _ = _; rw [hW2, hpb]; exact heap_alloc_new w1 _
      have hqa : Quiet0 w1 W2 := by rw [hW2]; exact Quiet0.alloc _ _
      have hq2 : Quiet0 W0 W2 := hq1.trans hqa
      have HBX2 := Lib.hid (HBX.out.stay hq2)
      have HQ2 := Lib.hid (HQ0.out.trans hq2)
      have hpz : B + 3 ≤ pb := by have := HZ0.out; have := hq1.size; omega
      have hW2z : W2.heap.size = pb + 1 := by rw [hW2, hpb]; simp
      have HS2 : Hid (SlcIn (fun b => B + 3 ≤ b ∧ b ≠ pb) W2 o1 n1 qs) := hs1.fr hqa (fun b hb h => ⟨⟨by have h' : W0.heap.size ≤ b := h; have := HZ0.out; omega, by omega⟩, fun h => h⟩)
      clear HC hq1 hq2 hs1
      go_upto_region 14 with fail
      change Code.wp _ _ _ _ (w1.alloc (.cells #[.int .i64 k, .int .i64 m, .slice o1 n1 d1] 25))
      rw [← hW2, ← hpb]
      clear hW2 hpb hqa
      obtain ⟨p0, p1, p2, _, _, _⟩ := box_cells3 HPB.out
      obtain ⟨W3, hW3⟩ : ∃ W3, W3 = W2.alloc (.cells #[.int .i64 k, .int .i64 m, .slice o1 n1 d1] 25) := ⟨_, rfl⟩
      have hq3 : Quiet0 W2 W3 := by rw [hW3]; exact Quiet0.alloc _ _
      have hg3 : W3.heap[W2.heap.size]? = some (.cells #[.int .i64 k, .int .i64 m, .slice o1 n1 d1] 25 (0, 0)) := by rw [hW3]; exact heap_alloc_new W2 _
      have HBX3 := Lib.hid (HBX2.out.stay hq3)
      have HQ3 := Lib.hid (HQ2.out.trans hq3)
      have hpb3 := blk_fr hq3 (fun h => h) HPB.out
      have hs3 := HS2.out.fr (T := fun b => B + 3 ≤ b ∧ b ≠ pb) hq3 (fun b hb h => ⟨h, fun h => h⟩)
      have HR3 : Hid (TyRowT W3 (fun b => B + 3 ≤ b ∧ b ≠ pb) (.slice (some ⟨pb + 1, 0, none⟩) 1 1) (.cons k m qs .nil) [.int .i64 k, .int .i64 m, .slice o1 n1 d1]) := by
        rw [hW2z] at hg3
        refine ⟨⟨rfl, .inr ⟨pb + 1, 1, _, rfl, Nat.zero_le _, hg3, Nat.le_refl _, by decide, rfl, rfl⟩⟩, fun b hb => ?_, ⟨o1, n1, d1, [], rfl, HS2.out.fr hq3 (fun b hb h => ⟨⟨h, fun e => by simp [Value.ownBlock] at e; omega⟩, fun h => h⟩), rfl⟩⟩
        simp [Value.ownBlock] at hb; subst hb; exact ⟨by omega, by omega⟩
      rw [hW3] at HBX3
      obtain ⟨t0, t1, t2, y0, y1, y2⟩ := box_cells3 HBX3.out.t
      rw [← hW3] at HBX3
      go_upto_region 15 with fail
      change Code.wp _ _ _ _ (put3 (W2.alloc (.cells #[.int .i64 k, .int .i64 m, .slice o1 n1 d1] 25)) (B + 1 + 1) (.int .i64 5) (.int .i64 0) (.slice (some ⟨pb + 1, 0, none⟩) 1 1))
      rw [← hW3]
      clear t0 t1 t2 y0 y1 y2 p0 p1 p2 hW3 hg3 hs3
      have hfL := put3_fr W3 (B + 1 + 1) (.int .i64 5) (.int .i64 0) (.slice (some ⟨pb + 1, 0, none⟩) 1 1)
      have HBXL : Hid (Bx (put3 W3 (B + 1 + 1) (.int .i64 5) (.int .i64 0) (.slice (some ⟨pb + 1, 0, none⟩) 1 1)) B 5 0 (.slice (some ⟨pb + 1, 0, none⟩) 1 1)) := HBX3.out.put
      have HRL := Lib.hid (HR3.out.fr hfL (fun b h e => by have := h.1; omega))
      have HQL : Hid (Quiet0 w (put3 W3 (B + 1 + 1) (.int .i64 5) (.int .i64 0) (.slice (some ⟨pb + 1, 0, none⟩) 1 1))) := HQ3.out.trans' hfL (fun b hb e => by have := HBE.out; omega)
      have HPL := Lib.hid (blk_fr hfL (by omega) hpb3)
      generalize put3 W3 (B + 1 + 1) (.int .i64 5) (.int .i64 0) (.slice (some ⟨pb + 1, 0, none⟩) 1 1) = WL at *
      obtain ⟨fin, hfin⟩ : ∃ fin, tyStar (tyQ ts f) ts 8 (.cons k m qs .nil) j = fin := ⟨_, rfl⟩
      have HHD : Hid (tyHead (tyQ ts f) ts i = tyShut ts fin) := by show _ = _; rw [head_open c1 c2 c3, hr, ← hfin]; rfl
      have HFIN := Lib.hid hfin
      clear hfin hr hq3 hfL hpb3
      go_wp2_with fail
      go_loopw [1] (fun t wr => StarRel ts f fin w B pb t wr) (fun t _ => ts.length - (intOf t).toNat)
      case atStart => exact ⟨.cons k m qs .nil, j, 8, pb + 1, 1, _, rfl, hj1.2, rfl, Nat.le_refl _, by omega, HBXL.out, ⟨_, _, _, HPL.out⟩, HRL.out, HFIN.out, HQL.out⟩
      case round =>
        obtain ⟨ps, j2, n, g2, c2', xs, rfl, hj2, hn9, hp1, hn1, hbx, ⟨x9, y9, z9, hpbx⟩, hrow, hst, hq⟩ := hrel
        have HBXR := Lib.hid hbx
        have HQR := Lib.hid hq
        have HRR := Lib.hid hrow
        have HPR := Lib.hid hpbx
        have HST := Lib.hid hst
        clear hbx hrow hpbx hst hq
        go_wp2_with fail
        refine (HStar.out j2 wr HQR.out).mono ?_; rintro e w4 ⟨rfl, rfl⟩
        cases cs : isT ts j2 4 sStar
        case false =>
          have hfin2 : fin = .inl (ps, j2) := by rw [← HST.out, star_no cs]
          go_wp2_with fail
          refine (HClose.out j2 wr HQR.out).mono ?_; rintro e w4 ⟨rfl, rfl⟩
          cases cc : isT ts j2 4 sClose
          case false =>
            obtain ⟨z0, z1, z2, _, _, _⟩ := box_cells3 HBXR.out.z
            obtain ⟨r0, r1, r2, x0, x1, x2⟩ := box_cells3 HBXR.out.r
            go_wp2_with fail
            have hf := put3_fr wr B (.int .i64 0) (.int .i64 0) (.slice none 0 0)
            obtain ⟨f0, f1, f2⟩ := put3_cells (a := .int .i64 0) (b := .int .i64 0) (c := .slice none 0 0) (HBXR.out).r
            have hqf : Quiet0 w (put3 wr B (.int .i64 0) (.int .i64 0) (.slice none 0 0)) := (HQR.out).trans' hf (fun k hk e => by have := HBE.out; omega)
            change bodyPost _ _ _ _ _ (put3 wr B (.int .i64 0) (.int .i64 0) (.slice none 0 0))
            generalize put3 wr B (.int .i64 0) (.int .i64 0) (.slice none 0 0) = wf at *
            refine bodyPost_ret (by simp [results, Tryd.results123, go_sem, f0, f1, f2]; rfl) rfl ?_
            rw [show tyQ ts (f + 1) i = .inr (j2, 3) from by unfold tyQ; rw [HHD.out, hfin2, shut_no cc]; rfl]
            exact ⟨rfl, hqf⟩
          case true =>
            have hlt2 := isT_lt HSH.out cc (by decide)
            obtain ⟨t0, t1, t2, y0, y1, y2⟩ := box_cells3 HBXR.out.t
            by_cases hl1 : ps.length = 1
            · obtain ⟨k2, m2, qs2, hps⟩ := len_one hl1
              have hcl := HRR.out.cells
              rw [hps] at hcl
              obtain ⟨o2, n2, d2, ys, hxs, hs2, hys⟩ := hcl
              have hys' : ys = [] := hys
              subst hys'
              have e0 : wr.cell? ⟨g2, 0, none⟩ = some (.int .i64 k2) := by have := HRR.out.own.cells (g := g2) rfl 0 (.int .i64 k2) (by rw [hxs]; rfl); simpa [Addr.add_lit] using this
              have e1 : wr.cell? ⟨g2, 1, none⟩ = some (.int .i64 m2) := by have := HRR.out.own.cells (g := g2) rfl 1 (.int .i64 m2) (by rw [hxs]; rfl); simpa [Addr.add_lit] using this
              have e2 : wr.cell? ⟨g2, 2, none⟩ = some (.slice o2 n2 d2) := by have := HRR.out.own.cells (g := g2) rfl 2 (.slice o2 n2 d2) (by rw [hxs]; rfl); simpa [Addr.add_lit] using this
              have HS2 := Lib.hid hs2
              rw [hl1] at t2
              clear hs2 hxs hys
              go_wp2_with fail
              go_meet
              have hfp := put3_fr wr (B + 1 + 1) (.int .i64 k2) (.int .i64 m2) (.slice o2 n2 d2)
              refine ⟨k2, m2, qs2, j2 + 1, o2, n2, d2, by go_num, HBXR.out.put, HS2.out.fr hfp (fun b _ h => ⟨h.1.1, fun e => by have := h.1.1; omega⟩), ?_, hlt2, HQR.out.trans' hfp (fun b hb e => by have := HBE.out; omega)⟩
              rw [HHD.out, hfin2, hps]; exact shut_one cc
            · have hl1' : ((ps.length : Int) == 1) = false := by simp; omega
              go_wp2_with fail
              go_meet
              refine ⟨5, 0, ps, j2 + 1, some ⟨g2, 0, none⟩, ps.length, c2', by go_num, HBXR.out, ?_, ?_, hlt2, HQR.out⟩
              · exact (HRR.out.slc rfl (by unfold maxLen; omega)).fr (Fr.refl (fun _ => False) wr) (fun b _ h => ⟨h.1, fun h => h⟩)
              · rw [HHD.out, hfin2]; exact shut_many cc hl1
        case true =>
          have hlt2 := isT_lt HSH.out cs (by decide)
          by_cases h8 : 8 ≤ ps.length
          · have h8' : (8 : Int) ≤ (ps.length : Int) := by omega
            have h8'' : (ps.length : Int) ≥ 8 := h8'
            obtain ⟨_, _, t2, _, _, _⟩ := box_cells3 HBXR.out.t
            obtain ⟨z0, z1, z2, _, _, _⟩ := box_cells3 HBXR.out.z
            obtain ⟨r0, r1, r2, x0, x1, x2⟩ := box_cells3 HBXR.out.r
            go_wp2_with fail
            have hf := put3_fr wr B (.int .i64 0) (.int .i64 0) (.slice none 0 0)
            obtain ⟨f0, f1, f2⟩ := put3_cells (a := .int .i64 0) (b := .int .i64 0) (c := .slice none 0 0) (HBXR.out).r
            have hqf : Quiet0 w (put3 wr B (.int .i64 0) (.int .i64 0) (.slice none 0 0)) := (HQR.out).trans' hf (fun k hk e => by have := HBE.out; omega)
            change bodyPost _ _ _ _ _ (put3 wr B (.int .i64 0) (.int .i64 0) (.slice none 0 0))
            generalize put3 wr B (.int .i64 0) (.int .i64 0) (.slice none 0 0) = wf at *
            refine bodyPost_ret (by simp [results, Tryd.results123, go_sem, f0, f1, f2]; rfl) rfl ?_
            rw [show tyQ ts (f + 1) i = .inr (j2, 6) from by unfold tyQ; rw [HHD.out, ← HST.out, star_many cs h8 hn1]; rfl]
            exact ⟨rfl, hqf⟩
          · have h8' : ¬ (8 : Int) ≤ (ps.length : Int) := by omega
            have h8'' : ¬ (ps.length : Int) ≥ 8 := h8'
            have HC := HIH.out (j2 + 1) ((j2 : Int) + 1) wr (by omega) hlt2 HQR.out
            have HI2 := HIN.out (j2 + 1) hlt2
            cases hr2 : tyQ ts f (j2 + 1) with
            | inr x =>
              obtain ⟨j3, er⟩ := x
              rw [hr2] at HC HI2
              have hne : er ≠ 0 := HI2.2
              have hne2 : ((er : Int) != 0) = true := by simp [hne]
              have HC2 := Lib.hid HC
              clear HC HI2
              obtain ⟨_, _, t2, _, _, _⟩ := box_cells3 HBXR.out.t
              go_wp2_with fail
              refine HC2.out.mono ?_; rintro e w5 ⟨rfl, hq5⟩
              have hpb5 := blk_fr hq5 (fun h => h) HPR.out
              obtain ⟨_, _, _, v0, v1, v2⟩ := box_cells3 hpb5
              have hf6 := put3_fr w5 pb (.int .i64 0) (.int .i64 0) (.slice none 0 0)
              have HBX6 := Lib.hid ((HBXR.out.stay hq5).fr hf6 (by omega) (by omega) (by omega))
              have HQ6 := Lib.hid ((HQR.out.trans hq5).trans' hf6 (fun b hb e => by have := HBE.out; omega))
              clear t2
              go_upto_region 20 with fail
              change Code.wp _ _ _ _ (put3 w5 pb (.int .i64 0) (.int .i64 0) (.slice none 0 0))
              generalize put3 w5 pb (.int .i64 0) (.int .i64 0) (.slice none 0 0) = W6 at *
              clear hf6 hq5 hpb5 v0 v1 v2
              obtain ⟨z0, z1, z2, _, _, _⟩ := box_cells3 HBX6.out.z
              obtain ⟨r0, r1, r2, x0, x1, x2⟩ := box_cells3 HBX6.out.r
              go_wp2_with fail
              have hf := put3_fr W6 B (.int .i64 0) (.int .i64 0) (.slice none 0 0)
              obtain ⟨f0, f1, f2⟩ := put3_cells (a := .int .i64 0) (b := .int .i64 0) (c := .slice none 0 0) (HBX6.out).r
              have hqf : Quiet0 w (put3 W6 B (.int .i64 0) (.int .i64 0) (.slice none 0 0)) := (HQ6.out).trans' hf (fun k hk e => by have := HBE.out; omega)
              change bodyPost _ _ _ _ _ (put3 W6 B (.int .i64 0) (.int .i64 0) (.slice none 0 0))
              generalize put3 W6 B (.int .i64 0) (.int .i64 0) (.slice none 0 0) = wf at *
              refine bodyPost_ret (by simp [results, Tryd.results123, go_sem, f0, f1, f2]; rfl) rfl ?_
              rw [show tyQ ts (f + 1) i = .inr (j3, er) from by unfold tyQ; rw [HHD.out, ← HST.out, star_bad cs h8 hn1 hr2]; rfl]
              exact ⟨rfl, hqf⟩
            | inl x =>
              obtain ⟨⟨k3, m3, qs3⟩, j3⟩ := x
              rw [hr2] at HC HI2
              have hj3 : j2 + 1 < j3 ∧ j3 < ts.length := HI2
              have HC2 := Lib.hid HC
              clear HC HI2
              obtain ⟨_, _, t2, _, _, _⟩ := box_cells3 HBXR.out.t
              go_wp2_with fail
              refine HC2.out.mono ?_; rintro e w5 ⟨o5, n5, d5, rfl, hs5, hq5⟩
              have hpb5 := blk_fr hq5 (fun h => h) HPR.out
              obtain ⟨_, _, _, v0, v1, v2⟩ := box_cells3 hpb5
              have hf6 := put3_fr w5 pb (.int .i64 k3) (.int .i64 m3) (.slice o5 n5 d5)
              have HBX6 := Lib.hid ((HBXR.out.stay hq5).fr hf6 (by omega) (by omega) (by omega))
              have HQ6 := Lib.hid ((HQR.out.trans hq5).trans' hf6 (fun b hb e => by have := HBE.out; omega))
              have HP6 := Lib.hid (put3_block (a := .int .i64 k3) (b := .int .i64 m3) (c := .slice o5 n5 d5) hpb5)
              have HR6 := Lib.hid ((HRR.out.stay hq5).fr hf6 (fun b h e => h.2 e))
              have hpw : pb < wr.heap.size := lt_of_block HPR.out
              have hgw : g2 < wr.heap.size := (HRR.out.own.lt g2 rfl).2
              have hqz := hq5.size
              have HS6 : Hid (SlcIn (fun b => (B + 3 ≤ b ∧ b ≠ pb) ∧ (Value.slice (some ⟨g2, 0, none⟩) ps.length c2').ownBlock ≠ some b) (put3 w5 pb (.int .i64 k3) (.int .i64 m3) (.slice o5 n5 d5)) o5 n5 qs3) := hs5.fr hf6 (fun b hb h => by
                have h' : wr.heap.size ≤ b := h
                exact ⟨⟨⟨by omega, by omega⟩, fun e => by simp [Value.ownBlock] at e; omega⟩, by omega⟩)
              have hz6 : w5.heap.size ≤ (put3 w5 pb (.int .i64 k3) (.int .i64 m3) (.slice o5 n5 d5)).heap.size := hf6.size
              clear t2
              go_upto_region 22 with fail
              change Code.wp _ _ _ _ (put3 w5 pb (.int .i64 k3) (.int .i64 m3) (.slice o5 n5 d5))
              generalize put3 w5 pb (.int .i64 k3) (.int .i64 m3) (.slice o5 n5 d5) = W6 at *
              clear hf6 hq5 hpb5 v0 v1 v2 hs5
              obtain ⟨_, _, t2, _, _, _⟩ := box_cells3 HBX6.out.t
              obtain ⟨p0, p1, p2, _, _, _⟩ := box_cells3 HP6.out
              go_wp2_with (at_builtin; refine wpList_append_one W6 rfl (.tmp 92) (.tmp 94) 23 rfl 25 _ 3 40 elemTy (.slice (some ⟨g2, 0, none⟩) ps.length c2') ps.length xs rfl HR6.out.own #[.int .i64 k3, .int .i64 m3, .slice o5 n5 d5] rfl rfl (by simp [Value.oneCell']) (by unfold maxLen; omega) (by omega) ?_; intro g3 c3 w7 ho hf7 hg; have HB7 := Lib.hid (HBX6.out.fr hf7 (fun e => by simp [Value.ownBlock] at e; have := (HR6.out.low g2 rfl).1; omega) (fun e => by simp [Value.ownBlock] at e; have := (HR6.out.low g2 rfl).1; omega) (fun e => by simp [Value.ownBlock] at e; have := (HR6.out.low g2 rfl).1; omega)); obtain ⟨_, _, _, _, _, u2⟩ := box_cells3 HB7.out.t; have u2' := (box_cells3 HB7.out.t).2.2.1; clear t2)
              go_roundw
              case rel =>
                have hlow := HR6.out.low g2 rfl
                have hfs := Fr.setCell (fun k => k = B + 1 + 1) w7 ⟨B + 1 + 1, 2, none⟩ (.slice (some ⟨g3, 0, none⟩) (ps.length + 1) c3) rfl
                have hlen : (ps.app (.cons k3 m3 qs3 .nil)).length = ps.length + 1 := by rw [Fo.app_length]; simp [Fo.length]
                have hr8 := (TyRowT.snoc HR6.out HS6.out ho hf7 hg (fun b hb => ⟨by omega, by omega⟩)).fr hfs (fun b h e => by have := h.1; omega)
                refine ⟨ps.app (.cons k3 m3 qs3 .nil), j3, n - 1, g3, c3, xs ++ [.int .i64 k3, .int .i64 m3, .slice o5 n5 d5], rfl, hj3.2, by omega, by omega, by omega, ?_, ⟨.int .i64 k3, .int .i64 m3, .slice o5 n5 d5, blk_fr hfs (by omega) (blk_fr hf7 (fun e => by simp [Value.ownBlock] at e; exact hlow.2 e) HP6.out)⟩, ?_, ?_, ?_⟩
                · rw [hlen]; exact ⟨blk_fr hfs (by omega) HB7.out.r, blk_fr hfs (by omega) HB7.out.z, box_set2 HB7.out.t⟩
                · rw [hlen]; exact hr8
                · rw [← star_more cs h8 hn1 hr2]; exact HST.out
                · exact (HQ6.out.trans' hf7 (fun b hb e => by simp [Value.ownBlock] at e; have := HBE.out; omega)).trans' hfs (fun b hb e => by have := HBE.out; omega)
              case measure => simp [intOf]; omega
  case rest =>
    rename World => wx
    obtain ⟨k, m, qs, j, o, n, d, rfl, hbx, hsl, hhd, hj, hq⟩ := hcut
    have HB := Lib.hid hbx
    have HS := Lib.hid hsl
    have HH := Lib.hid hhd
    have HQ := Lib.hid hq
    have hwz : B + 3 ≤ wx.heap.size := by have := lt_of_block hbx.t; omega
    clear hbx hsl hhd hq
    go_wp2_with fail
    refine (HArr.out j wx HQ.out).mono ?_; rintro e w4 ⟨rfl, rfl⟩
    cases ca : isT ts j 4 sArrow
    case false =>
      obtain ⟨t0, t1, t2, _, _, _⟩ := box_cells3 HB.out.t
      obtain ⟨r0, r1, r2, x0, x1, x2⟩ := box_cells3 HB.out.r
      go_wp2_with fail
      have hf := put3_fr wx B (.int .i64 k) (.int .i64 m) (.slice o n d)
      obtain ⟨f0, f1, f2⟩ := put3_cells (a := .int .i64 k) (b := .int .i64 m) (c := .slice o n d) HB.out.r
      have hqf : Quiet0 w (put3 wx B (.int .i64 k) (.int .i64 m) (.slice o n d)) := HQ.out.trans' hf (fun k hk e => by have := HBE.out; omega)
      have hsf : SlcIn (fun b => w.heap.size ≤ b) (put3 wx B (.int .i64 k) (.int .i64 m) (.slice o n d)) o n qs := HS.out.fr hf (fun b _ h => ⟨by have h' : B + 3 ≤ b := h; have := HBE.out; omega, fun e => by have h' : B + 3 ≤ b := h; omega⟩)
      change bodyPost _ _ _ _ _ (put3 wx B (.int .i64 k) (.int .i64 m) (.slice o n d))
      generalize put3 wx B (.int .i64 k) (.int .i64 m) (.slice o n d) = wf at *
      refine bodyPost_ret (by simp [results, Tryd.results123, go_sem, f0, f1, f2]; rfl) rfl ?_
      rw [show tyQ ts (f + 1) i = .inl ((k, m, qs), j) from by unfold tyQ; rw [HH.out]; unfold tyArr; simp [ca]]
      exact ⟨o, n, d, rfl, hsf, hqf⟩
    case true =>
      have hlt := isT_lt HSH.out ca (by decide)
      have HC := HIH.out (j + 1) ((j : Int) + 1) wx (by omega) hlt HQ.out
      have HI1 := HIN.out (j + 1) hlt
      have HARR : Hid (tyQ ts (f + 1) i = tyArr2 k m qs (tyQ ts f (j + 1))) := by show _ = _; conv => lhs; unfold tyQ; rw [HH.out]; unfold tyArr; simp only [ca, if_true]
      cases hr : tyQ ts f (j + 1) with
      | inr x =>
        obtain ⟨j3, er⟩ := x
        rw [hr] at HC HI1 HARR
        have hne : er ≠ 0 := HI1.2
        have hne2 : ((er : Int) != 0) = true := by simp [hne]
        clear HI1
        go_wp2_with fail
        refine HC.mono ?_; rintro e w5 ⟨rfl, hq5⟩
        obtain ⟨W6, hW6⟩ : ∃ W6, W6 = w5.alloc zTy := ⟨_, rfl⟩
        have hq6 : Quiet0 wx W6 := by rw [hW6]; exact hq5.trans (Quiet0.alloc _ _)
        have HB6 := Lib.hid (HB.out.stay hq6)
        have HQ6 := Lib.hid (HQ.out.trans hq6)
        obtain ⟨z0, z1, z2, _, _, _⟩ := box_cells3 HB6.out.z
        obtain ⟨r0, r1, r2, x0, x1, x2⟩ := box_cells3 HB6.out.r
        clear HC hq5 hq6
        go_upto_region 32 with fail
        change Code.wp _ _ _ _ (w5.alloc zTy)
        rw [← hW6]
        clear hW6
        go_wp2_with fail
        have hf := put3_fr W6 B (.int .i64 0) (.int .i64 0) (.slice none 0 0)
        obtain ⟨f0, f1, f2⟩ := put3_cells (a := .int .i64 0) (b := .int .i64 0) (c := .slice none 0 0) (HB6.out).r
        have hqf : Quiet0 w (put3 W6 B (.int .i64 0) (.int .i64 0) (.slice none 0 0)) := (HQ6.out).trans' hf (fun k hk e => by have := HBE.out; omega)
        change bodyPost _ _ _ _ _ (put3 W6 B (.int .i64 0) (.int .i64 0) (.slice none 0 0))
        generalize put3 W6 B (.int .i64 0) (.int .i64 0) (.slice none 0 0) = wf at *
        refine bodyPost_ret (by simp [results, Tryd.results123, go_sem, f0, f1, f2]; rfl) rfl ?_
        rw [HARR.out]
        exact ⟨rfl, hqf⟩
      | inl x =>
        obtain ⟨⟨k2, m2, qs2⟩, j3⟩ := x
        rw [hr] at HC HARR
        clear HI1
        go_wp2_with fail
        refine HC.mono ?_; rintro e w5 ⟨o5, n5, d5, rfl, hs5, hq5⟩
        obtain ⟨W6, hW6⟩ : ∃ W6, W6 = w5.alloc (.cells #[.int .i64 k2, .int .i64 m2, .slice o5 n5 d5] 25) := ⟨_, rfl⟩
        have hqa : Quiet0 w5 W6 := by rw [hW6]; exact Quiet0.alloc _ _
        have hq6 : Quiet0 wx W6 := hq5.trans hqa
        have hnew : W6.heap[w5.heap.size]? = some (.cells #[.int .i64 k2, .int .i64 m2, .slice o5 n5 d5] 25 (0, 0)) := by rw [hW6]; exact heap_alloc_new w5 _
        have HB6 := Lib.hid (HB.out.stay hq6)
        have HQ6 := Lib.hid (HQ.out.trans hq6)
        have HS6 := Lib.hid (HS.out.fr (T := fun b => B + 3 ≤ b) hq6 (fun b _ h => ⟨h, fun h => h⟩))
        have hz5 := hq5.size
        have HS7 : Hid (SlcIn (fun b => B + 3 ≤ b) W6 o5 n5 qs2) := hs5.fr hqa (fun b _ h => ⟨by have h' : wx.heap.size ≤ b := h; show B + 3 ≤ b; omega, fun h => h⟩)
        have hz6 : B + 3 ≤ W6.heap.size := by have := hqa.size; omega
        go_upto_region 34 with fail
        change Code.wp _ _ _ _ (w5.alloc (.cells #[.int .i64 k2, .int .i64 m2, .slice o5 n5 d5] 25))
        rw [← hW6]
        clear HC hq5 hq6 hs5 hW6 hqa
        generalize w5.heap.size = b16 at *
        obtain ⟨t0, t1, t2, _, _, _⟩ := box_cells3 HB6.out.t
        obtain ⟨p0, p1, p2, _, _, _⟩ := box_cells3 hnew
        obtain ⟨W7, hW7⟩ : ∃ W7, W7 = W6.alloc (.cells #[.int .i64 k, .int .i64 m, .slice o n d, .int .i64 k2, .int .i64 m2, .slice o5 n5 d5] 25) := ⟨_, rfl⟩
        have hq7 : Quiet0 W6 W7 := by rw [hW7]; exact Quiet0.alloc _ _
        have hrow : W7.heap[W6.heap.size]? = some (.cells #[.int .i64 k, .int .i64 m, .slice o n d, .int .i64 k2, .int .i64 m2, .slice o5 n5 d5] 25 (0, 0)) := by rw [hW7]; exact heap_alloc_new W6 _
        have HB7 := Lib.hid (HB6.out.stay hq7)
        have HQ7 := Lib.hid (HQ6.out.trans hq7)
        have hsA := HS6.out.fr (T := fun b => B + 3 ≤ b) hq7 (fun b _ h => ⟨h, fun h => h⟩)
        have hsB := HS7.out.fr (T := fun b => B + 3 ≤ b) hq7 (fun b _ h => ⟨h, fun h => h⟩)
        rw [hW7] at HB7
        obtain ⟨r0, r1, r2, x0, x1, x2⟩ := box_cells3 HB7.out.r
        rw [← hW7] at HB7
        go_wp2_with fail
        change bodyPost _ _ _ _ _ (put3 (W6.alloc (.cells #[.int .i64 k, .int .i64 m, .slice o n d, .int .i64 k2, .int .i64 m2, .slice o5 n5 d5] 25)) B (.int .i64 4) (.int .i64 0) (.slice (some ⟨W6.heap.size, 0, none⟩) 2 2))
        rw [← hW7]
        clear r0 r1 r2 x0 x1 x2 t0 t1 t2 p0 p1 p2 hW7
        have hf := put3_fr W7 B (.int .i64 4) (.int .i64 0) (.slice (some ⟨W6.heap.size, 0, none⟩) 2 2)
        obtain ⟨f0, f1, f2⟩ := put3_cells (a := .int .i64 4) (b := .int .i64 0) (c := .slice (some ⟨W6.heap.size, 0, none⟩) 2 2) HB7.out.r
        have hqf : Quiet0 w (put3 W7 B (.int .i64 4) (.int .i64 0) (.slice (some ⟨W6.heap.size, 0, none⟩) 2 2)) := HQ7.out.trans' hf (fun k hk e => by have := HBE.out; omega)
        have hrow2 := blk_fr hf (by omega) hrow
        have hsA2 := hsA.fr (T := fun b => w.heap.size ≤ b) hf (fun b _ h => ⟨by have h' : B + 3 ≤ b := h; have := HBE.out; omega, fun e => by have h' : B + 3 ≤ b := h; omega⟩)
        have hsB2 := hsB.fr (T := fun b => w.heap.size ≤ b) hf (fun b _ h => ⟨by have h' : B + 3 ≤ b := h; have := HBE.out; omega, fun e => by have h' : B + 3 ≤ b := h; omega⟩)
        generalize put3 W7 B (.int .i64 4) (.int .i64 0) (.slice (some ⟨W6.heap.size, 0, none⟩) 2 2) = wf at *
        refine bodyPost_ret (by simp [results, Tryd.results123, go_sem, f0, f1, f2]; rfl) rfl ?_
        rw [HARR.out]
        have hR : w.heap.size ≤ W6.heap.size := by have := HBE.out; omega
        exact ⟨some ⟨W6.heap.size, 0, none⟩, 2, 2, rfl, ⟨rfl, by decide, fun _ => ⟨W6.heap.size, 0, rfl, hR, by rw [cell_of_row _ _ _ _ _ (0, 0) hrow2]; rfl, by rw [cell_of_row _ _ _ _ _ (0, 0) hrow2]; rfl, ⟨o, n, d, by rw [cell_of_row _ _ _ _ _ (0, 0) hrow2]; rfl, hsA2.1, hsA2.2.1, hsA2.2.2⟩,
          hR, by rw [cell_of_row _ _ _ _ _ (0, 0) hrow2]; rfl, by rw [cell_of_row _ _ _ _ _ (0, 0) hrow2]; rfl, ⟨o5, n5, d5, by rw [cell_of_row _ _ _ _ _ (0, 0) hrow2]; rfl, hsB2.1, hsB2.2.1, hsB2.2.2⟩, trivial⟩⟩, hqf⟩
theorem read_any (ts : List Tok) (g c : Nat) (hsh : Shut ts) : ∀ f, RdT ts g c f
  | 0 => read_zero ts g c
  | f + 1 => read_succ ts g c f hsh (read_any ts g c hsh f)
end Go.Proofs.YtnfodiedalhlhaaDoor.Pa
end
