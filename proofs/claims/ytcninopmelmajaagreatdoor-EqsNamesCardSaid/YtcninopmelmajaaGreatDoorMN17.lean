/-
  Texts laid together (PaPlain, PaLaws, PaWords, LexNext, LexTok, LexWords, LexSame, PaIs): laws and walks, with their conditions.
-/
import Derived.Laws.StructEq
import Derived.Test.YtcninopmelmajaaGreatDoorMN5
set_option maxHeartbeats 8000000
set_option maxRecDepth 1000000
namespace Go.Proofs.YtcninopmelmajaaGreatDoor
open Go.Lib (hid)
section
namespace Pa
open Lx
abbrev Pt := Int × Int
abbrev TyR := Sum ((Int × Int × Fo) × Nat) (Nat × Nat)
abbrev TmR := Sum ((Nd × To) × Pt × Nat) (Nat × Nat)
def isT (l : List Tok) (i k : Nat) (s : List UInt8) : Bool :=
 match l[i]? with
 | some t => t.kind == k && t.text == s
 | none => false
def nameQ (l : List Tok) (i : Nat) : Bool :=
 match l[i]? with
 | some t => t.kind == 1
 | none => false
def wInt : List UInt8 := [105, 110, 116]
def wBool : List UInt8 := [98, 111, 111, 108]
def wFun : List UInt8 := [102, 117, 110]
def wLet : List UInt8 := [108, 101, 116]
def wRec : List UInt8 := [114, 101, 99]
def wIn : List UInt8 := [105, 110]
def wIf : List UInt8 := [105, 102]
def wThen : List UInt8 := [116, 104, 101, 110]
def wElse : List UInt8 := [101, 108, 115, 101]
def wTrue : List UInt8 := [116, 114, 117, 101]
def wFalse : List UInt8 := [102, 97, 108, 115, 101]
def sOpen : List UInt8 := [40]
def sClose : List UInt8 := [41]
def sComma : List UInt8 := [44]
def sColon : List UInt8 := [58]
def sEq : List UInt8 := [61]
def sStar : List UInt8 := [42]
def sArrow : List UInt8 := [45, 62]
def tyStar (T : Nat -> TyR) (l : List Tok) : Nat -> Fo -> Nat -> Sum (Fo × Nat) (Nat × Nat)
 | 0, ps, i => .inl (ps, i)
 | n + 1, ps, i =>
  if isT l i 4 sStar then
   if 8 <= ps.length then .inr (i, 6) else
    match T (i + 1) with
    | .inr e => .inr e
    | .inl ((k, m, qs), j) => tyStar T l n (ps.app (.cons k m qs .nil)) j
  else .inl (ps, i)
def tyShut (l : List Tok) : Sum (Fo × Nat) (Nat × Nat) -> TyR
 | .inr e => .inr e
 | .inl (ps, i) =>
  if isT l i 4 sClose then
   match ps with
   | .cons k m qs .nil => .inl ((k, m, qs), i + 1)
   | _ => .inl ((5, 0, ps), i + 1)
  else .inr (i, 3)
def tyBr (T : Nat -> TyR) (l : List Tok) : TyR -> TyR
 | .inr e => .inr e
 | .inl ((k, m, qs), j) => tyShut l (tyStar T l 8 (.cons k m qs .nil) j)
def tyHead (T : Nat -> TyR) (l : List Tok) (i : Nat) : TyR :=
 if isT l i 3 wInt then .inl ((2, 0, .nil), i + 1)
 else if isT l i 3 wBool then .inl ((3, 0, .nil), i + 1)
 else if isT l i 4 sOpen then tyBr T l (T (i + 1))
 else .inr (i, 3)
def tyArr2 (k m : Int) (qs : Fo) : TyR -> TyR
 | .inr e => .inr e
 | .inl ((k2, m2, qs2), j) => .inl ((4, 0, .cons k m qs (.cons k2 m2 qs2 .nil)), j)
def tyArr (T : Nat -> TyR) (l : List Tok) : TyR -> TyR
 | .inr e => .inr e
 | .inl ((k, m, qs), i) => if isT l i 4 sArrow then tyArr2 k m qs (T (i + 1)) else .inl ((k, m, qs), i)
def tyQ (l : List Tok) : Nat -> Nat -> TyR
 | 0, i => .inr (i, 4)
 | f + 1, i => tyArr (tyQ l f) l (tyHead (tyQ l f) l i)
def joinP (a b : Pt) : Pt :=
 if a.1 ≥ a.2 /\ b.1 ≥ b.2 then (0, 0) else if a.1 ≥ a.2 then b else if b.1 ≥ b.2 then a else (min a.1 b.1, max a.2 b.2)
def begQ (l : List Tok) (i : Nat) : Bool :=
 match l[i]? with
 | some t => t.kind == 1 || t.kind == 2 || (t.kind == 3 && t.text == wTrue) || (t.kind == 3 && t.text == wFalse) || (t.kind == 4 && t.text == sOpen)
 | none => false
def numQ (s : List UInt8) : Int := s.foldl (fun n c => IntKind.i64.wrap (IntKind.i64.wrap (IntKind.i64.wrap (10 * n) + c.toNat) - 48)) 0
def at' (l : List Tok) (i : Nat) : Pt :=
 match l[i]? with
 | some t => (t.fr, t.to)
 | none => (0, 0)
def txt (l : List Tok) (i : Nat) : List UInt8 :=
 match l[i]? with
 | some t => t.text
 | none => []
def nd (k : Int) (nm : List UInt8) (n : Int) (p : Pt) : Nd := ⟨k, ⟨nm.toArray⟩, n, 0, 0, .nil, p.1, p.2⟩
def comQ (E : Nat -> TmR) (l : List Tok) : Nat -> To -> Nat -> Sum (To × Nat) (Nat × Nat)
 | 0, ps, i => .inl (ps, i)
 | n + 1, ps, i =>
  if isT l i 4 sComma then
   if 8 <= ps.length then .inr (i, 6) else
    match E (i + 1) with
    | .inr e => .inr e
    | .inl ((h, qs), _, j) => comQ E l n (ps.app (.cons h qs .nil)) j
  else .inl (ps, i)
def shutQ (l : List Tok) (i0 : Nat) : Sum (To × Nat) (Nat × Nat) -> TmR
 | .inr e => .inr e
 | .inl (ps, i) =>
  if isT l i 4 sClose then
   match ps with
   | .cons h qs .nil => .inl ((h, qs), joinP (at' l i0) (at' l i), i + 1)
   | _ => .inl ((nd 9 [] 0 (joinP (at' l i0) (at' l i)), ps), joinP (at' l i0) (at' l i), i + 1)
  else .inr (i, 3)
def annQ (l : List Tok) (i0 : Nat) (h : Nd) (qs : To) : TyR -> TmR
 | .inr e => .inr e
 | .inl ((k, m, us), i) =>
  if isT l i 4 sClose then .inl ((⟨10, ByteArray.empty, 0, k, m, us, (joinP (at' l i0) (at' l i)).1, (joinP (at' l i0) (at' l i)).2⟩, .cons h qs .nil), joinP (at' l i0) (at' l i), i + 1)
  else .inr (i, 3)
def brQ (E : Nat -> TmR) (T : Nat -> TyR) (l : List Tok) (i0 : Nat) : TmR -> TmR
 | .inr e => .inr e
 | .inl ((h, qs), _, i) => if isT l i 4 sColon then annQ l i0 h qs (T (i + 1)) else shutQ l i0 (comQ E l 8 (.cons h qs .nil) i)
def atomQ (E : Nat -> TmR) (T : Nat -> TyR) (l : List Tok) (i : Nat) : TmR :=
 if begQ l i then
  match l[i]? with
  | none => .inr (i, 3)
  | some t =>
   if t.kind == 1 then .inl ((nd 1 t.text 0 (t.fr, t.to), .nil), (t.fr, t.to), i + 1)
   else if t.kind == 2 then .inl ((nd 2 [] (numQ t.text) (t.fr, t.to), .nil), (t.fr, t.to), i + 1)
   else if t.text == wTrue then .inl ((nd 3 [] 1 (t.fr, t.to), .nil), (t.fr, t.to), i + 1)
   else if t.text == sOpen then brQ E T l i (E (i + 1))
   else .inl ((nd 3 [] 0 (t.fr, t.to), .nil), (t.fr, t.to), i + 1)
 else .inr (i, 3)
def app2 (h : Nd) (qs : To) (x : Pt) (h2 : Nd) (qs2 : To) (x2 : Pt) : (Nd × To) × Pt := ((nd 5 [] 0 (joinP x x2), .cons h qs (.cons h2 qs2 .nil)), joinP x x2)
def appQ (E : Nat -> TmR) (T : Nat -> TyR) (l : List Tok) : Nat -> (Nd × To) -> Pt -> Nat -> TmR
 | 0, t, x, i => .inl (t, x, i)
 | n + 1, t, x, i =>
  if begQ l i then
   match atomQ E T l i with
   | .inr e => .inr e
   | .inl (t2, x2, j) => appQ E T l n (app2 t.1 t.2 x t2.1 t2.2 x2).1 (app2 t.1 t.2 x t2.1 t2.2 x2).2 j
  else .inl (t, x, i)
inductive Stp where
 | e : Stp
 | n : Stp
 | s (t : List UInt8) : Stp
structure Fm where
 nm : List UInt8
 ps : To
 x : Pt
 i : Nat
def stepQ (E : Nat -> TmR) (l : List Tok) (m : Fm) : Stp -> Sum Fm (Nat × Nat)
 | .e => match E m.i with
  | .inr e => .inr e
  | .inl ((h, qs), x, j) => .inl ⟨m.nm, m.ps.app (.cons h qs .nil), x, j⟩
 | .n => if nameQ l m.i then .inl ⟨txt l m.i, m.ps, m.x, m.i + 1⟩ else .inr (m.i, 3)
 | .s t => if isT l m.i 3 t || isT l m.i 4 t then .inl ⟨m.nm, m.ps, m.x, m.i + 1⟩ else .inr (m.i, 3)
def stepsQ (E : Nat -> TmR) (l : List Tok) : List Stp -> Fm -> Sum Fm (Nat × Nat)
 | [], m => .inl m
 | s :: r, m => match stepQ E l m s with
  | .inr e => .inr e
  | .inl m' => stepsQ E l r m'
def endF (l : List Tok) (i0 : Nat) (k : Int) : Sum Fm (Nat × Nat) -> TmR
 | .inr e => .inr e
 | .inl m => .inl ((nd k m.nm 0 (joinP (at' l i0) m.x), m.ps), joinP (at' l i0) m.x, m.i)
def kindF (l : List Tok) (i : Nat) : Int := if isT l i 3 wLet then (if isT l (i + 1) 3 wRec then 7 else 6) else if isT l i 3 wFun then 4 else 8
def stpsF (l : List Tok) (i : Nat) : List Stp :=
 if isT l i 3 wLet then [.n, .s sEq, .e, .s wIn, .e] else if isT l i 3 wFun then [.n, .s sArrow, .e] else [.e, .s wThen, .e, .s wElse, .e]
def fromF (l : List Tok) (i : Nat) : Nat := if isT l i 3 wLet && isT l (i + 1) 3 wRec then i + 2 else i + 1
def formQ (E : Nat -> TmR) (l : List Tok) (i : Nat) : TmR := endF l i (kindF l i) (stepsQ E l (stpsF l i) ⟨[], .nil, (0, 0), fromF l i⟩)
def goQ (E : Nat -> TmR) (T : Nat -> TyR) (l : List Tok) : TmR -> TmR
 | .inr e => .inr e
 | .inl (t, x, i) => appQ E T l (l.length + 1) t x i
def exQ (l : List Tok) : Nat -> Nat -> TmR
 | 0, i => .inr (i, 4)
 | f + 1, i =>
  if isT l i 3 wFun || isT l i 3 wLet || isT l i 3 wIf then formQ (exQ l f) l i
  else goQ (exQ l f) (tyQ l (f - 1)) l (atomQ (exQ l f) (tyQ l (f - 1)) l i)
def endQ (l : List Tok) (i : Nat) : Bool :=
 match l[i]? with
 | some t => t.kind == 0
 | none => false
def wholeQ (l : List Tok) (f : Nat) : TmR :=
 match exQ l f 0 with
 | .inr e => .inr e
 | .inl (t, x, i) => if endQ l i then .inl (t, x, i + 1) else .inr (i, 3)
end Pa
end
section
namespace Pa
open Lx
def Shut (l : List Tok) : Prop := ∀ i t, l[i]? = some t -> t.kind ≠ 0 -> i + 1 < l.length
theorem isT_some {l : List Tok} {i k : Nat} {s : List UInt8} (h : isT l i k s = true) : ∃ t, l[i]? = some t /\ t.kind = k /\ t.text = s := by
 unfold isT at h
 split at h
 ·next t ht => simp at h; exact ⟨t, ht, h.1, h.2⟩
 ·cases h
theorem isT_lt {l : List Tok} {i k : Nat} {s : List UInt8} (hl : Shut l) (h : isT l i k s = true) (hk : k ≠ 0) : i + 1 < l.length := by
 obtain ⟨t, ht, hkd, _⟩ := isT_some h
 exact hl i t ht (by omega)
theorem nameQ_lt {l : List Tok} {i : Nat} (hl : Shut l) (h : nameQ l i = true) : i + 1 < l.length := by
 unfold nameQ at h
 split at h
 ·next t ht => simp at h; exact hl i t ht (by omega)
 ·cases h
theorem begQ_lt {l : List Tok} {i : Nat} (hl : Shut l) (h : begQ l i = true) : i + 1 < l.length := by
 unfold begQ at h
 split at h
 ·next t ht =>
  refine hl i t ht ?_
  intro h0
  simp [h0] at h
 ·cases h
def In (n i : Nat) {α : Type} (at2 : α -> Nat) : Sum α (Nat × Nat) -> Prop
 | .inl r => i < at2 r /\ at2 r < n
 | .inr e => e.1 < n /\ e.2 ≠ 0
def In0 (n i : Nat) {α : Type} (at2 : α -> Nat) : Sum α (Nat × Nat) -> Prop
 | .inl r => i <= at2 r /\ at2 r < n
 | .inr e => e.1 < n /\ e.2 ≠ 0
abbrev TyIn' (n i : Nat) (r : TyR) : Prop := In n i (fun r => r.2) r
abbrev TmIn' (n i : Nat) (r : TmR) : Prop := In n i (fun r => r.2.2) r
theorem In0.less {n i k : Nat} {α : Type} {f : α -> Nat} {r : Sum α (Nat × Nat)} (h : In0 n i f r) (hk : k < i) : In n k f r := by
 cases r with
 | inl r => exact ⟨Nat.lt_of_lt_of_le hk h.1, h.2⟩
 | inr e => exact h
theorem In0.le {n i k : Nat} {α : Type} {f : α -> Nat} {r : Sum α (Nat × Nat)} (h : In0 n i f r) (hk : k <= i) : In0 n k f r := by
 cases r with
 | inl r => exact ⟨Nat.le_trans hk h.1, h.2⟩
 | inr e => exact h
theorem In.le {n i k : Nat} {α : Type} {f : α -> Nat} {r : Sum α (Nat × Nat)} (h : In n i f r) (hk : k <= i) : In n k f r := by
 cases r with
 | inl r => exact ⟨Nat.lt_of_le_of_lt hk h.1, h.2⟩
 | inr e => exact h
section
variable {l : List Tok} (hl : Shut l)
include hl
theorem tyStar_in {T : Nat -> TyR} (hT : ∀ i, i < l.length -> TyIn' l.length i (T i)) : ∀ (n : Nat) (ps : Fo) (i : Nat), i < l.length -> In0 l.length i (fun r : Fo × Nat => r.2) (tyStar T l n ps i)
 | 0, ps, i, hi => ⟨Nat.le_refl _, hi⟩
 | n + 1, ps, i, hi => by
  unfold tyStar
  split
  ·next h =>
   have h1 := isT_lt hl h (by decide)
   split
   ·exact ⟨hi, by simp⟩
   ·have h2 := hT (i + 1) h1
    split
    ·next e he => rw [he] at h2; exact h2
    ·next k m qs j he =>
     rw [he] at h2
     have h3 : i + 1 < j /\ j < l.length := h2
     exact (tyStar_in hT n _ j h3.2).le (by omega)
  ·exact ⟨Nat.le_refl _, hi⟩
theorem tyShut_in {i : Nat} : ∀ (x : Sum (Fo × Nat) (Nat × Nat)), In0 l.length i (fun r : Fo × Nat => r.2) x -> TyIn' l.length i (tyShut l x)
 | .inr e, h => h
 | .inl (ps, j), h => by
  have h' : i <= j /\ j < l.length := h
  unfold tyShut
  by_cases hc : isT l j 4 sClose = true
  ·have h1 := isT_lt hl hc (by decide)
   simp only [hc, if_true]
   split
   ·show i < j + 1 /\ j + 1 < l.length; omega
   ·show i < j + 1 /\ j + 1 < l.length; omega
  ·simp only [hc, if_false, Bool.false_eq_true]
   exact ⟨h'.2, by simp⟩
theorem tyQ_in : ∀ (f i : Nat), i < l.length -> TyIn' l.length i (tyQ l f i)
 | 0, i, hi => ⟨hi, by simp⟩
 | f + 1, i, hi => by
  have ih := fun i hi => tyQ_in f i hi
  have hh : TyIn' l.length i (tyHead (tyQ l f) l i) := by
   unfold tyHead
   split
   ·next h => have := isT_lt hl h (by decide); show i < i + 1 /\ i + 1 < l.length; omega
   split
   ·next h => have := isT_lt hl h (by decide); show i < i + 1 /\ i + 1 < l.length; omega
   split
   ·next h =>
    have h1 := isT_lt hl h (by decide)
    have h2 := ih (i + 1) h1
    unfold tyBr
    split
    ·next e he => rw [he] at h2; exact h2
    ·next k m qs j he =>
     rw [he] at h2
     have h3 : i + 1 < j /\ j < l.length := h2
     exact (tyShut_in hl (i := j) _ (tyStar_in hl ih 8 _ j h3.2)).le (by omega)
   ·exact ⟨hi, by simp⟩
  unfold tyQ
  unfold tyArr
  split
  ·next e he => rw [he] at hh; exact hh
  ·next k m qs j he =>
   rw [he] at hh
   have h3 : i < j /\ j < l.length := hh
   split
   ·next h =>
    have h1 := isT_lt hl h (by decide)
    have h2 := ih (j + 1) h1
    unfold tyArr2
    split
    ·next e he => rw [he] at h2; exact h2
    ·next k m qs j2 he =>
     rw [he] at h2
     have h4 : j + 1 < j2 /\ j2 < l.length := h2
     show i < j2 /\ j2 < l.length; omega
   ·exact h3
theorem comQ_in {E : Nat -> TmR} (hE : ∀ i, i < l.length -> TmIn' l.length i (E i)) : ∀ (n : Nat) (ps : To) (i : Nat), i < l.length -> In0 l.length i (fun r : To × Nat => r.2) (comQ E l n ps i)
 | 0, ps, i, hi => ⟨Nat.le_refl _, hi⟩
 | n + 1, ps, i, hi => by
  unfold comQ
  split
  ·next h =>
   have h1 := isT_lt hl h (by decide)
   split
   ·exact ⟨hi, by simp⟩
   ·have h2 := hE (i + 1) h1
    split
    ·next e he => rw [he] at h2; exact h2
    ·next h qs x j he =>
     rw [he] at h2
     have h3 : i + 1 < j /\ j < l.length := h2
     exact (comQ_in hE n _ j h3.2).le (by omega)
  ·exact ⟨Nat.le_refl _, hi⟩
theorem shutQ_in {i i0 : Nat} : ∀ (x : Sum (To × Nat) (Nat × Nat)), In0 l.length i (fun r : To × Nat => r.2) x -> TmIn' l.length i (shutQ l i0 x)
 | .inr e, h => h
 | .inl (ps, j), h => by
  have h' : i <= j /\ j < l.length := h
  unfold shutQ
  by_cases hc : isT l j 4 sClose = true
  ·have h1 := isT_lt hl hc (by decide)
   simp only [hc, if_true]
   split
   ·show i < j + 1 /\ j + 1 < l.length; omega
   ·show i < j + 1 /\ j + 1 < l.length; omega
  ·simp only [hc, if_false, Bool.false_eq_true]
   exact ⟨h'.2, by simp⟩
theorem annQ_in {i i0 : Nat} {h : Nd} {qs : To} : ∀ (x : TyR), TyIn' l.length i x -> TmIn' l.length i (annQ l i0 h qs x)
 | .inr e, h => h
 | .inl ((k, m, us), j), h => by
  have h' : i < j /\ j < l.length := h
  unfold annQ
  by_cases hc : isT l j 4 sClose = true
  ·have h1 := isT_lt hl hc (by decide)
   simp only [hc, if_true]
   show i < j + 1 /\ j + 1 < l.length; omega
  ·simp only [hc, if_false, Bool.false_eq_true]
   exact ⟨h'.2, by simp⟩
theorem atomQ_in {E : Nat -> TmR} {T : Nat -> TyR} (hE : ∀ i, i < l.length -> TmIn' l.length i (E i)) (hT : ∀ i, i < l.length -> TyIn' l.length i (T i)) (i : Nat) (hi : i < l.length) : TmIn' l.length i (atomQ E T l i) := by
 unfold atomQ
 split
 ·next hb =>
  have h1 := begQ_lt hl hb
  have hs : i < i + 1 /\ i + 1 < l.length := ⟨by omega, h1⟩
  split
  ·exact ⟨hi, by simp⟩
  ·split
   ·exact hs
   split
   ·exact hs
   split
   ·exact hs
   split
   ·have h2 := hE (i + 1) h1
    unfold brQ
    split
    ·next e he => rw [he] at h2; exact h2
    ·next h qs x j he =>
     rw [he] at h2
     have h3 : i + 1 < j /\ j < l.length := h2
     split
     ·next hc =>
      have h4 := isT_lt hl hc (by decide)
      exact (annQ_in hl (i := j + 1) _ (hT (j + 1) h4)).le (by omega)
     ·exact (shutQ_in hl (i := j) _ (comQ_in hl hE 8 _ j h3.2)).le (by omega)
   ·exact hs
 ·exact ⟨hi, by simp⟩
theorem appQ_in {E : Nat -> TmR} {T : Nat -> TyR} (hE : ∀ i, i < l.length -> TmIn' l.length i (E i)) (hT : ∀ i, i < l.length -> TyIn' l.length i (T i)) : ∀ (n : Nat) (t : Nd × To) (x : Pt) (i : Nat), i < l.length -> In0 l.length i (fun r : (Nd × To) × Pt × Nat => r.2.2) (appQ E T l n t x i)
 | 0, t, x, i, hi => ⟨Nat.le_refl _, hi⟩
 | n + 1, t, x, i, hi => by
  unfold appQ
  split
  ·have h2 := atomQ_in hl hE hT i hi
   split
   ·next e he => rw [he] at h2; exact h2
   ·next t2 x2 j he =>
    rw [he] at h2
    have h3 : i < j /\ j < l.length := h2
    exact (appQ_in hE hT n _ _ j h3.2).le (by omega)
  ·exact ⟨Nat.le_refl _, hi⟩
theorem stepQ_in {E : Nat -> TmR} (hE : ∀ i, i < l.length -> TmIn' l.length i (E i)) (m : Fm) (hi : m.i < l.length) (s : Stp) : In l.length m.i (fun r : Fm => r.i) (stepQ E l m s) := by
 cases s with
 | e =>
  have h2 := hE m.i hi
  unfold stepQ
  simp only
  split
  ·next e he => rw [he] at h2; exact h2
  ·next h qs x j he => rw [he] at h2; exact h2
 | n =>
  unfold stepQ
  simp only
  split
  ·next h => have := nameQ_lt hl h; show m.i < m.i + 1 /\ m.i + 1 < l.length; omega
  ·exact ⟨hi, by simp⟩
 | s t =>
  unfold stepQ
  simp only
  split
  ·next h =>
   have : m.i + 1 < l.length := by
    rcases Bool.or_eq_true_iff.1 h with h | h
    ·exact isT_lt hl h (by decide)
    ·exact isT_lt hl h (by decide)
   show m.i < m.i + 1 /\ m.i + 1 < l.length; omega
  ·exact ⟨hi, by simp⟩
theorem stepsQ_in {E : Nat -> TmR} (hE : ∀ i, i < l.length -> TmIn' l.length i (E i)) : ∀ (ss : List Stp) (m : Fm), m.i < l.length -> In0 l.length m.i (fun r : Fm => r.i) (stepsQ E l ss m)
 | [], m, hi => ⟨Nat.le_refl _, hi⟩
 | s :: r, m, hi => by
  have h2 := stepQ_in hl hE m hi s
  unfold stepsQ
  split
  ·next e he => rw [he] at h2; exact h2
  ·next m' he =>
   rw [he] at h2
   have h3 : m.i < m'.i /\ m'.i < l.length := h2
   exact (stepsQ_in hE r m' h3.2).le (by omega)
theorem exQ_in : ∀ (f i : Nat), i < l.length -> TmIn' l.length i (exQ l f i)
 | 0, i, hi => ⟨hi, by simp⟩
 | f + 1, i, hi => by
  have ih := fun i hi => exQ_in f i hi
  have iT := fun i hi => tyQ_in hl (f - 1) i hi
  unfold exQ
  split
  ·next h =>
   have h1 : i + 1 < l.length := by
    rcases Bool.or_eq_true_iff.1 h with h | h
    ·rcases Bool.or_eq_true_iff.1 h with h | h
     ·exact isT_lt hl h (by decide)
     ·exact isT_lt hl h (by decide)
    ·exact isT_lt hl h (by decide)
   have h2 : i < fromF l i /\ fromF l i < l.length := by
    unfold fromF
    split
    ·next hr => have := isT_lt hl (Bool.and_eq_true_iff.1 hr).2 (by decide); omega
    ·omega
   have h3 := stepsQ_in hl ih (stpsF l i) ⟨[], .nil, (0, 0), fromF l i⟩ h2.2
   unfold formQ endF
   split
   ·next e he => rw [he] at h3; exact h3
   ·next m he =>
    rw [he] at h3
    have h4 : fromF l i <= m.i /\ m.i < l.length := h3
    show i < m.i /\ m.i < l.length; omega
  ·have h2 := atomQ_in hl ih iT i hi
   unfold goQ
   split
   ·next e he => rw [he] at h2; exact h2
   ·next t x j he =>
    rw [he] at h2
    have h3 : i < j /\ j < l.length := h2
    exact (appQ_in hl ih iT _ _ _ j h3.2).less (by omega)
end
end Pa
end
section
namespace Pa
open Lx
theorem next_kind {l : List UInt8} (h : (nextL l).2.2 = 0) : (nextL l).1 ≠ 0 := by
 unfold nextL at h ⊢
 cases l with
 | nil => simp at h
 | cons c r =>
  simp only at h ⊢
  split
  ·next h1 =>
   rw [if_pos h1] at h
   split
   ·simp
   ·next h2 =>
    rw [if_neg h2] at h
    split
    ·next h3 => rw [if_pos h3] at h; simp at h
    ·simp
  ·next h1 =>
   rw [if_neg h1] at h
   split
   ·next h2 =>
    rw [if_pos h2] at h
    split
    ·next h3 => rw [if_pos h3] at h; simp at h
    ·next h3 =>
     rw [if_neg h3] at h
     split
     ·next h4 => rw [if_pos h4] at h; simp at h
     ·simp
   ·next h2 =>
    rw [if_neg h2] at h
    split
    ·simp
    ·next h3 =>
     rw [if_neg h3] at h
     split
     ·simp
     ·next h4 => rw [if_neg h4] at h; simp at h
theorem wordsF_last : ∀ (f a : Nat) (l : List UInt8) (ts : List Tok), wordsF f a l = .inl ts -> ∃ us n, ts = us ++ [endTok n] /\ ∀ t ∈ us, t.kind ≠ 0
 | 0, a, l, ts, h => by
  unfold wordsF at h
  cases h
  exact ⟨[], _, rfl, by simp⟩
 | f + 1, a, l, ts, h => by
  unfold wordsF at h
  simp only at h
  split at h
  ·cases h; exact ⟨[], _, rfl, by simp⟩
  ·split at h
   ·cases h
   ·next hn =>
    have hk := next_kind (Decidable.not_not.1 hn)
    split at h
    ·next ts' he =>
     obtain ⟨us, n, rfl, hu⟩ := wordsF_last f _ _ _ he
     cases h
     refine ⟨_ :: us, n, rfl, fun t ht => ?_⟩
     rcases List.mem_cons.1 ht with e | e
     ·subst e; exact hk
     ·exact hu t e
    ·cases h
theorem words_shut {l : List UInt8} {ts : List Tok} (h : wordsL l = .inl ts) : Shut ts /\ 0 < ts.length := by
 obtain ⟨us, n, rfl, hu⟩ := wordsF_last _ _ _ _ h
 refine ⟨fun i t hi hk => ?_, by simp⟩
 rw [List.length_append, List.length_singleton]
 rcases Nat.lt_or_ge i us.length with h1 | h1
 ·omega
 ·rw [List.getElem?_append_right h1] at hi
  have h2 := (List.getElem?_eq_some_iff.1 hi).1
  simp at h2
  have h3 : i - us.length = 0 := by omega
  rw [h3] at hi
  simp at hi
  subst hi
  exact absurd rfl hk
theorem wordsF_bad : ∀ (f a : Nat) (l : List UInt8) (x : Nat × Nat), wordsF f a l = .inr x -> x.2 ≠ 0
 | 0, a, l, x, h => by unfold wordsF at h; cases h
 | f + 1, a, l, x, h => by
  unfold wordsF at h
  simp only at h
  split at h
  ·cases h
  ·split at h
   ·next hn => cases h; exact hn
   ·split at h
    ·cases h
    ·next e he => cases h; exact wordsF_bad f _ _ _ he
def termQ (s : List UInt8) (f : Nat) : Sum (Nd × To) (Pt × Nat) :=
 match wordsL s with
 | .inr (a, e) => .inr (((a : Int), (a : Int) + 1), e)
 | .inl ts =>
  match wholeQ ts f with
  | .inl (t, _, _) => .inl t
  | .inr (i, e) => .inr (at' ts i, e)
theorem wholeQ_in {l : List Tok} (hl : Shut l) (h0 : 0 < l.length) (f : Nat) : ∀ i e, wholeQ l f = .inr (i, e) -> i < l.length /\ e ≠ 0 := by
 intro i e h
 have h1 := exQ_in hl f 0 h0
 unfold wholeQ at h
 split at h
 ·next x he => cases h; rw [he] at h1; exact h1
 ·next t x j he =>
  rw [he] at h1
  have h2 : 0 < j /\ j < l.length := h1
  split at h
  ·cases h
  ·cases h; exact ⟨h2.2, by simp⟩
end Pa
end
section
namespace Lx
open Go.RowKit
theorem skip_lf (l : List UInt8) : skipL true l = runL nolfB l + skipL false (l.drop (runL nolfB l)) := by
 induction l with
 | nil => rfl
 | cons c r ih =>
  by_cases h : (c == 10) = true
  ·have hb : blankB c = true := by unfold blankB; rw [h]; simp
   simp [skipL, runL, nolfB, h, hb]
  ·have h' : (c == 10) = false := by simpa using h
   have hn : nolfB c = true := by unfold nolfB; rw [h']; rfl
   simp only [skipL, runL, h', hn, if_true, Bool.false_eq_true, if_false, List.drop_succ_cons]
   rw [ih]; omega
theorem skip_hash {c : UInt8} {r : List UInt8} (hb : blankB c = false) (h : (c == 35) = true) : skipL false (c :: r) = runL nolfB (c :: r) + skipL false ((c :: r).drop (runL nolfB (c :: r))) := by
 have hc : c = 35 := by simpa using h
 subst hc
 have := skip_lf ((35 : UInt8) :: r)
 rw [<- this]
 simp [skipL, blankB]
theorem skip_blank {c : UInt8} {r : List UInt8} (hb : blankB c = true) : skipL false (c :: r) = 1 + skipL false r := by simp [skipL, hb]; omega
theorem skip_stop {c : UInt8} {r : List UInt8} (hb : blankB c = false) (h : (c == 35) = false) : skipL false (c :: r) = 0 := by simp [skipL, hb, h]
theorem hash_of (x : UInt8) : ((x.toNat : Int) == 35) = (x == 35) := by
 rw [show (35 : UInt8) = UInt8.ofNat 35 from rfl, u8_beq _ _ (by omega), Bool.eq_iff_iff]; simp; omega
theorem hash_nolf {c : UInt8} {r : List UInt8} (h : (c == 35) = true) : 0 < runL nolfB (c :: r) := by
 have hc : c = 35 := by simpa using h
 subst hc
 exact runL_pos (by decide)
def numL (l : List UInt8) : Nat × Nat × Nat :=
 if (decide (1 < runL digitB l) && goesOn (fun c => c == 48) l) || goesOn innerB (l.drop (runL digitB l)) then (0, 0, 3) else if 9 < runL digitB l then (0, 0, 2) else (2, runL digitB l, 0)
theorem zero_of (x : UInt8) : ((x.toNat : Int) == 48) = (x == 48) := by
 rw [show (48 : UInt8) = UInt8.ofNat 48 from rfl, u8_beq _ _ (by omega), Bool.eq_iff_iff]; simp; omega
end Lx
end
section
namespace Lx
open Go.RowKit
theorem arrow_of (x : UInt8) (r : List UInt8) : Lib.hasPrefix (x :: r) [45, 62] = (x == 45 && goesOn (fun d => d == 62) r) := by
 unfold Lib.hasPrefix
 cases r with
 | nil => cases h : (x == 45) <;> simp [List.isPrefixOf, goesOn]
 | cons d r => simp only [List.isPrefixOf, goesOn, Bool.and_true]; rw [Bool.eq_iff_iff]; simp; constructor <;> (rintro ⟨h1, h2⟩; exact ⟨h1.symm, h2.symm⟩)
theorem next_small {x : UInt8} {r : List UInt8} (h : smallB x = true) : nextL (x :: r) = if kwB ((x :: r).take (runL innerB (x :: r))) then (3, runL innerB (x :: r), 0) else if 20 < runL innerB (x :: r) then (0, 0, 2) else (1, runL innerB (x :: r), 0) := by simp [nextL, h]
theorem next_digit {x : UInt8} {r : List UInt8} (h1 : smallB x = false) (h : digitB x = true) : nextL (x :: r) = numL (x :: r) := by simp [nextL, numL, goesOn, h1, h]
theorem next_sign {x : UInt8} {r : List UInt8} (h1 : smallB x = false) (h2 : digitB x = false) (h : signB x = true) : nextL (x :: r) = (4, 1, 0) := by simp [nextL, h1, h2, h]
theorem next_arrow {x : UInt8} {r : List UInt8} (h1 : smallB x = false) (h2 : digitB x = false) (h3 : signB x = false) : nextL (x :: r) = if Lib.hasPrefix (x :: r) [45, 62] then (4, 2, 0) else (0, 0, 3) := by simp [nextL, h1, h2, h3, arrow_of]
end Lx
end
section
namespace Lx
open Go.RowKit
def tokCells (t : Tok) : List Value := [.int .i64 (t.kind : Nat), .string (toBA t.text), .int .i64 (t.fr : Nat), .int .i64 (t.to : Nat)]
def rowCells (ts : List Tok) : List Value := ts.flatMap tokCells
theorem rowCells_snoc (ts : List Tok) (t : Tok) : rowCells (ts ++ [t]) = rowCells ts ++ tokCells t := by simp [rowCells]
def TokRow (w : World) (B : Nat) (v : Value) (ts : List Tok) : Prop := w.ownsRow 0 94 4 v ts.length (rowCells ts) /\ ∀ k, v.ownBlock = some k -> B <= k
def WordsPost (l : List UInt8) (w : World) (e : Ending) (w' : World) : Prop :=
 Quiet0 w w' /\ match wordsL l with
  | .inl ts => ∃ g c, e = .returned (.tuple #[.slice (some ⟨g, 0, none⟩) ts.length c, .int .i64 0, .int .i64 0]) /\ TokRow w' w.heap.size (.slice (some ⟨g, 0, none⟩) ts.length c) ts
  | .inr p => e = .returned (.tuple #[.slice none 0 0, .int .i64 (p.1 : Nat), .int .i64 (p.2 : Nat)])
theorem elemTok : Elem Tryz.prog 88 94 (.agg #[.int .i64 0, .string ⟨#[]⟩, .int .i64 0, .int .i64 0]) 4 40 :=
 ⟨Tryz.underlying88, by kernel_rfl, by decide, by decide⟩
theorem append_tok {w W w1 : World} {B : Nat} {v : Value} {acc : List Tok} {t : Tok} {g c : Nat} (hq : Quiet0 w W) (hB : B = w.heap.size) (hr : TokRow W B v acc)
    (ho : w1.ownsRow 0 94 4 (.slice (some ⟨g, 0, none⟩) (acc.length + 1) c) (acc.length + 1) (rowCells acc ++ tokCells t)) (hf : Fr (fun k => v.ownBlock = some k) W w1) (hg : v.ownBlock = some g ∨ W.heap.size <= g) :
    TokRow w1 B (.slice (some ⟨g, 0, none⟩) (acc ++ [t]).length c) (acc ++ [t]) /\ Quiet0 w w1 := by
 subst hB
 refine ⟨⟨by rw [rowCells_snoc]; simpa using ho, ?_⟩, ?_⟩
 ·intro k hk
  simp [Value.ownBlock] at hk
  subst hk
  rcases hg with h | h
  ·exact hr.2 g h
  ·exact Nat.le_trans hq.size h
 ·exact Fr.trans' hq hf (fun i hi h => absurd (hr.2 i h) (by omega))
end Lx
end
section
namespace Lx
open Go.RowKit
def TokAt (w : World) (g : Nat) (ts : List Tok) : Prop := ∀ i t, ts[i]? = some t -> w.cell? ⟨g, i * 4, none⟩ = some (.int .i64 (t.kind : Nat)) /\ w.cell? ⟨g, i * 4 + 1, none⟩ = some (.string (toBA t.text)) /\ w.cell? ⟨g, i * 4 + 2, none⟩ = some (.int .i64 (t.fr : Nat)) /\ w.cell? ⟨g, i * 4 + 3, none⟩ = some (.int .i64 (t.to : Nat))
theorem rowCells_at : ∀ (ts : List Tok) (i j : Nat) (t : Tok), ts[i]? = some t -> j < 4 -> (rowCells ts)[i * 4 + j]? = (tokCells t)[j]?
 | [], i, j, t, h, _ => by simp at h
 | a :: ts, 0, j, t, h, hj => by
  simp at h
  subst h
  simp only [rowCells, List.flatMap_cons, Nat.zero_mul, Nat.zero_add]
  exact List.getElem?_append_left (by simp [tokCells]; omega)
 | a :: ts, i + 1, j, t, h, hj => by
  have ih := rowCells_at ts i j t (by simpa using h) hj
  simp only [rowCells, List.flatMap_cons] at ih ⊢
  rw [List.getElem?_append_right (by simp [tokCells]; omega), <- ih]
  congr 1
  simp [tokCells]; omega
theorem TokRow.at {w : World} {B : Nat} {g n c : Nat} {ts : List Tok} (h : TokRow w B (.slice (some ⟨g, 0, none⟩) n c) ts) : TokAt w g ts := by
 intro i t hi
 have key : ∀ j u, j < 4 -> (tokCells t)[j]? = some u -> w.cell? ⟨g, i * 4 + j, none⟩ = some u := by
  intro j u hj hu
  have h1 := rowCells_at ts i j t hi hj
  have h2 := h.1.cells (g := g) rfl (i * 4 + j) u (by rw [h1, hu])
  simpa [Addr.add_lit] using h2
 exact ⟨by simpa using key 0 _ (by omega) rfl, key 1 _ (by omega) rfl, key 2 _ (by omega) rfl, key 3 _ (by omega) rfl⟩
theorem TokRow.lt {w : World} {B : Nat} {g n c : Nat} {ts : List Tok} (h : TokRow w B (.slice (some ⟨g, 0, none⟩) n c) ts) : B <= g /\ g < w.heap.size := ⟨h.2 g rfl, (World.ownsRow.lt h.1 g rfl).2⟩
theorem TokAt.stay {w w' : World} {g : Nat} {ts : List Tok} (h : TokAt w g ts) (hg : g < w.heap.size) (hq : Quiet0 w w') : TokAt w' g ts := by
 intro i t hi
 obtain ⟨h1, h2, h3, h4⟩ := h i t hi
 exact ⟨(hq.cellb hg (fun h => h)).trans h1, (hq.cellb hg (fun h => h)).trans h2, (hq.cellb hg (fun h => h)).trans h3, (hq.cellb hg (fun h => h)).trans h4⟩
end Lx
end
section
namespace Pa
open Go.RowKit Lx
structure TkAt (w : World) (g : Nat) (ts : List Tok) : Prop where
 cells : TokAt w g ts
 lt : g < w.heap.size
 few : ts.length <= 1000000
theorem TkAt.stay {w w' : World} {g : Nat} {ts : List Tok} (h : TkAt w g ts) (hq : Quiet0 w w') : TkAt w' g ts :=
 ⟨h.cells.stay h.lt hq, Nat.lt_of_lt_of_le h.lt hq.size, h.few⟩
abbrev tks (g : Nat) (ts : List Tok) (c : Nat) : Value := .slice (some ⟨g, 0, none⟩) ts.length c
theorem ba_eq (a : List UInt8) (s : ByteArray) : ((toBA a).toList == s.toList) = (a == s.data.toList) := by
 rw [ByteArray.toList_eq, ByteArray.toList_eq]; rfl
theorem isT_none {ts : List Tok} {i k : Nat} {s : List UInt8} (h : ¬ i < ts.length) : isT ts i k s = false := by
 unfold isT; rw [List.getElem?_eq_none (by omega)]
theorem isT_at {ts : List Tok} {i k : Nat} {s : List UInt8} {t : Tok} (h : ts[i]? = some t) : isT ts i k s = (t.kind == k && t.text == s) := by
 unfold isT; rw [h]
theorem kind_eq (a k : Nat) : ((a : Int) == (k : Int)) = (a == k) := by
 rw [Bool.eq_iff_iff, beq_iff_eq, beq_iff_eq]; omega
theorem is_any (ts : List Tok) (g c i k : Nat) (s : ByteArray) (w : World) (h : TkAt w g ts) :
    Calls Tryz.prog 119 #[tks g ts c, .int .i64 i, .int .i64 k, .string s] w fun e w' => e = .returned (.bool (isT ts i k s.data.toList)) /\ w = w' := by
 have hfew := h.few
 by_cases hi : i < ts.length
 ·obtain ⟨t, ht⟩ : ∃ t, ts[i]? = some t := ⟨_, List.getElem?_eq_getElem hi⟩
  obtain ⟨a0, a1, _, _⟩ := h.cells i t ht
  rw [isT_at ht]
  have hi' : (i : Int) < ts.length := by omega
  have h0 : (0 : Int) <= i := by omega
  have e1 := kind_eq t.kind k
  have e2 := ba_eq t.text s
  clear h ht
  cases hk : (t.kind == k)
  ·rw [hk] at e1
   go_enter Tryz.func119, Tryz.ntmps119
   go_wp2_with fail
   go_ret
   exact ⟨rfl, rfl⟩
  ·rw [hk] at e1
   rw [Bool.true_and]
   cases hs : (t.text == s.data.toList)
   ·rw [hs] at e2
    go_enter Tryz.func119, Tryz.ntmps119
    go_wp2_with fail
    go_ret
    exact ⟨rfl, rfl⟩
   ·rw [hs] at e2
    go_enter Tryz.func119, Tryz.ntmps119
    go_wp2_with fail
    go_ret
    exact ⟨rfl, rfl⟩
 ·have hi' : ¬ (i : Int) < ts.length := by omega
  have h0 : (0 : Int) <= i := by omega
  rw [isT_none hi]
  clear h
  go_enter Tryz.func119, Tryz.ntmps119
  go_wp2_with fail
  go_ret
  exact ⟨rfl, rfl⟩
theorem word_any (ts : List Tok) (g c i : Nat) (s : ByteArray) (w : World) (h : TkAt w g ts) :
    Calls Tryz.prog 101 #[tks g ts c, .int .i64 i, .string s] w fun e w' => e = .returned (.bool (isT ts i 3 s.data.toList)) /\ w = w' := by
 have HC := hid (is_any ts g c i 3 s w h)
 clear h
 generalize isT ts i 3 s.data.toList = r at *
 go_enter Tryz.func101, Tryz.ntmps101
 go_wp2_with fail
 refine HC.out.mono ?_; rintro e w1 ⟨rfl, rfl⟩
 go_wp2_with fail
 go_ret
 exact ⟨rfl, rfl⟩
theorem sign_any (ts : List Tok) (g c i : Nat) (s : ByteArray) (w : World) (h : TkAt w g ts) :
    Calls Tryz.prog 121 #[tks g ts c, .int .i64 i, .string s] w fun e w' => e = .returned (.bool (isT ts i 4 s.data.toList)) /\ w = w' := by
 have HC := hid (is_any ts g c i 4 s w h)
 clear h
 generalize isT ts i 4 s.data.toList = r at *
 go_enter Tryz.func121, Tryz.ntmps121
 go_wp2_with fail
 refine HC.out.mono ?_; rintro e w1 ⟨rfl, rfl⟩
 go_wp2_with fail
 go_ret
 exact ⟨rfl, rfl⟩
theorem nameT_any (ts : List Tok) (g c i : Nat) (w : World) (h : TkAt w g ts) :
    Calls Tryz.prog 120 #[tks g ts c, .int .i64 i] w fun e w' => e = .returned (.bool (nameQ ts i)) /\ w = w' := by
 have hfew := h.few
 by_cases hi : i < ts.length
 ·obtain ⟨t, ht⟩ : ∃ t, ts[i]? = some t := ⟨_, List.getElem?_eq_getElem hi⟩
  obtain ⟨a0, a1, _, _⟩ := h.cells i t ht
  have hi' : (i : Int) < ts.length := by omega
  have h0 : (0 : Int) <= i := by omega
  have e1 := kind_eq t.kind 1
  have e : nameQ ts i = (t.kind == 1) := by unfold nameQ; rw [ht]
  rw [e]
  clear h ht e a1
  cases hk : (t.kind == 1)
  ·rw [hk] at e1
   have e1' : ((t.kind : Int) == 1) = false := e1
   clear e1
   go_enter Tryz.func120, Tryz.ntmps120
   go_wp2_with fail
   go_ret
   exact ⟨rfl, rfl⟩
  ·rw [hk] at e1
   have e1' : ((t.kind : Int) == 1) = true := e1
   clear e1
   go_enter Tryz.func120, Tryz.ntmps120
   go_wp2_with fail
   go_ret
   exact ⟨rfl, rfl⟩
 ·have hi' : ¬ (i : Int) < ts.length := by omega
  have e : nameQ ts i = false := by unfold nameQ; rw [List.getElem?_eq_none (by omega)]
  rw [e]
  clear h e
  go_enter Tryz.func120, Tryz.ntmps120
  go_wp2_with fail
  go_ret
  exact ⟨rfl, rfl⟩
theorem beg_at {ts : List Tok} {i : Nat} {t : Tok} (h : ts[i]? = some t) : begQ ts i = (t.kind == 1 || t.kind == 2 || isT ts i 3 wTrue || isT ts i 3 wFalse || isT ts i 4 sOpen) := by
 unfold begQ; rw [h, isT_at h, isT_at h, isT_at h]
theorem begins_any (ts : List Tok) (g c i : Nat) (w : World) (h : TkAt w g ts) :
    Calls Tryz.prog 104 #[tks g ts c, .int .i64 i] w fun e w' => e = .returned (.bool (begQ ts i)) /\ w = w' := by
 have hfew := h.few
 by_cases hi : i < ts.length
 ·obtain ⟨t, ht⟩ : ∃ t, ts[i]? = some t := ⟨_, List.getElem?_eq_getElem hi⟩
  obtain ⟨a0, a1, _, _⟩ := h.cells i t ht
  have hi' : (i : Int) < ts.length := by omega
  have h0 : (0 : Int) <= i := by omega
  have e1 := kind_eq t.kind 1
  have e2 := kind_eq t.kind 2
  rw [beg_at ht]
  have H1 : Hid (Calls Tryz.prog 101 #[tks g ts c, .int .i64 i, .string ⟨#[116, 114, 117, 101]⟩] w fun e w' => e = .returned (.bool (isT ts i 3 wTrue)) /\ w = w') := word_any ts g c i _ w h
  have H2 : Hid (Calls Tryz.prog 101 #[tks g ts c, .int .i64 i, .string ⟨#[102, 97, 108, 115, 101]⟩] w fun e w' => e = .returned (.bool (isT ts i 3 wFalse)) /\ w = w') := word_any ts g c i _ w h
  have H3 : Hid (Calls Tryz.prog 121 #[tks g ts c, .int .i64 i, .string ⟨#[40]⟩] w fun e w' => e = .returned (.bool (isT ts i 4 sOpen)) /\ w = w') := sign_any ts g c i _ w h
  clear h ht a1
  generalize isT ts i 3 wTrue = r1 at *
  generalize isT ts i 3 wFalse = r2 at *
  generalize isT ts i 4 sOpen = r3 at *
  cases hk : (t.kind == 1)
  ·cases hk2 : (t.kind == 2)
   ·rw [hk] at e1; rw [hk2] at e2
    have e1' : ((t.kind : Int) == 1) = false := e1
    have e2' : ((t.kind : Int) == 2) = false := e2
    clear e1 e2
    go_enter Tryz.func104, Tryz.ntmps104
    go_wp2_with fail
    refine H1.out.mono ?_; rintro e w1 ⟨rfl, rfl⟩
    cases r1
    ·go_wp2_with fail
     refine H2.out.mono ?_; rintro e w1 ⟨rfl, rfl⟩
     cases r2
     ·go_wp2_with fail
      refine H3.out.mono ?_; rintro e w1 ⟨rfl, rfl⟩
      go_wp2_with fail
      go_ret
      exact ⟨rfl, rfl⟩
     ·go_wp2_with fail
      go_ret
      exact ⟨rfl, rfl⟩
    ·go_wp2_with fail
     go_ret
     exact ⟨rfl, rfl⟩
   ·rw [hk] at e1; rw [hk2] at e2
    have e1' : ((t.kind : Int) == 1) = false := e1
    have e2' : ((t.kind : Int) == 2) = true := e2
    clear e1 e2
    go_enter Tryz.func104, Tryz.ntmps104
    go_wp2_with fail
    go_ret
    exact ⟨rfl, rfl⟩
  ·rw [hk] at e1
   have e1' : ((t.kind : Int) == 1) = true := e1
   clear e1 e2
   go_enter Tryz.func104, Tryz.ntmps104
   go_wp2_with fail
   go_ret
   exact ⟨rfl, rfl⟩
 ·have hi' : ¬ (i : Int) < ts.length := by omega
  have e : begQ ts i = false := by unfold begQ; rw [List.getElem?_eq_none (by omega)]
  rw [e]
  clear h e
  go_enter Tryz.func104, Tryz.ntmps104
  go_wp2_with fail
  go_ret
  exact ⟨rfl, rfl⟩
end Pa
end
end Go.Proofs.YtcninopmelmajaaGreatDoor
