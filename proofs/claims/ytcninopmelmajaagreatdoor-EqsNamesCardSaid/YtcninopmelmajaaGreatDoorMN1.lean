/-
  Texts laid together (LexPlain): laws and walks, with their conditions.
-/
import Derived.WalkKit
set_option maxHeartbeats 8000000
set_option maxRecDepth 1000000
namespace Go.Proofs.YtcninopmelmajaaGreatDoor
section
namespace Lx
def blankB (c : UInt8) : Bool := c == 32 || c == 9 || c == 10 || c == 13
def smallB (c : UInt8) : Bool := decide (97 <= c.toNat) && decide (c.toNat <= 122)
def digitB (c : UInt8) : Bool := decide (48 <= c.toNat) && decide (c.toNat <= 57)
def innerB (c : UInt8) : Bool := smallB c || digitB c || c == 95
def signB (c : UInt8) : Bool := c == 40 || c == 41 || c == 44 || c == 58 || c == 61 || c == 42
def nolfB (c : UInt8) : Bool := !(c == 10)
def kws : List (List UInt8) := [[102,117,110], [108,101,116], [114,101,99], [105,110], [105,102], [116,104,101,110], [101,108,115,101], [116,114,117,101], [102,97,108,115,101], [105,110,116], [98,111,111,108]]
def kwB (l : List UInt8) : Bool := kws.contains l
def runL (p : UInt8 -> Bool) : List UInt8 -> Nat
 | [] => 0
 | c :: r => if p c then runL p r + 1 else 0
def skipL : Bool -> List UInt8 -> Nat
 | _, [] => 0
 | false, c :: r => if blankB c then skipL false r + 1 else if c == 35 then skipL true r + 1 else 0
 | true, c :: r => if c == 10 then skipL false r + 1 else skipL true r + 1
def goesOn (p : UInt8 -> Bool) : List UInt8 -> Bool
 | [] => false
 | c :: _ => p c
def nextL : List UInt8 -> Nat × Nat × Nat
 | [] => (0, 0, 3)
 | c :: r =>
  if smallB c then
   let n := runL innerB (c :: r)
   if kwB ((c :: r).take n) then (3, n, 0) else if 20 < n then (0, 0, 2) else (1, n, 0)
  else if digitB c then
   let n := runL digitB (c :: r)
   if (decide (1 < n) && c == 48) || goesOn innerB ((c :: r).drop n) then (0, 0, 3) else if 9 < n then (0, 0, 2) else (2, n, 0)
  else if signB c then (4, 1, 0)
  else if c == 45 && goesOn (fun d => d == 62) r then (4, 2, 0)
  else (0, 0, 3)
structure Tok where
 kind : Nat
 text : List UInt8
 fr : Nat
 to : Nat
def endTok (n : Nat) : Tok := ⟨0, [], n, n⟩
def wordsF : Nat -> Nat -> List UInt8 -> Sum (List Tok) (Nat × Nat)
 | 0, at', l => .inl [endTok (at' + l.length)]
 | f + 1, at', l =>
  let k := skipL false l
  let r := l.drop k
  if r.isEmpty then .inl [endTok (at' + l.length)] else
   let t := nextL r
   if t.2.2 ≠ 0 then .inr (at' + k, t.2.2) else
    match wordsF f (at' + k + t.2.1) (r.drop t.2.1) with
    | .inl ts => .inl (⟨t.1, r.take t.2.1, at' + k, at' + k + t.2.1⟩ :: ts)
    | .inr e => .inr e
def wordsL (l : List UInt8) : Sum (List Tok) (Nat × Nat) := wordsF (l.length + 1) 0 l
theorem runL_le (p : UInt8 -> Bool) : ∀ l, runL p l <= l.length
 | [] => Nat.le_refl _
 | c :: r => by unfold runL; split <;> simp; exact runL_le p r
theorem skipL_le : ∀ (b : Bool) (l : List UInt8), skipL b l <= l.length
 | _, [] => by simp [skipL]
 | false, c :: r => by
  unfold skipL; split
  ·have := skipL_le false r; simp; omega
  ·split
   ·have := skipL_le true r; simp; omega
   ·simp
 | true, c :: r => by
  unfold skipL; split
  ·have := skipL_le false r; simp; omega
  ·have := skipL_le true r; simp; omega
theorem runL_pos {p : UInt8 -> Bool} {c : UInt8} {r : List UInt8} (h : p c = true) : 0 < runL p (c :: r) := by
 unfold runL; rw [if_pos h]; omega
theorem small_inner {c : UInt8} (h : smallB c = true) : innerB c = true := by simp [innerB, h]
theorem nextL_len {l : List UInt8} (h : (nextL l).2.2 = 0) : 0 < (nextL l).2.1 /\ (nextL l).2.1 <= l.length := by
 cases l with
 | nil => simp [nextL] at h
 | cons c r =>
  revert h
  simp only [nextL]
  by_cases h1 : smallB c = true
  ·have hp : 0 < runL innerB (c :: r) := runL_pos (small_inner h1)
   have hl := runL_le innerB (c :: r)
   simp only [h1, if_true]
   split
   ·intro _; exact ⟨hp, hl⟩
   ·split
    ·simp
    ·intro _; exact ⟨hp, hl⟩
  ·have h1' : smallB c = false := by simpa using h1
   simp only [h1', Bool.false_eq_true, if_false]
   by_cases h2 : digitB c = true
   ·have hp : 0 < runL digitB (c :: r) := runL_pos h2
    have hl := runL_le digitB (c :: r)
    simp only [h2, if_true]
    split
    ·simp
    ·split
     ·simp
     ·intro _; exact ⟨hp, hl⟩
   ·have h2' : digitB c = false := by simpa using h2
    simp only [h2', Bool.false_eq_true, if_false]
    split
    ·intro _; simp
    ·split
     ·rename_i h3
      intro _
      cases r with
      | nil => simp [goesOn] at h3
      | cons d r => simp
     ·simp
theorem wordsF_fuel : ∀ (f g at' : Nat) (l : List UInt8), l.length < f -> l.length < g -> wordsF f at' l = wordsF g at' l := by
 intro f
 induction f with
 | zero => intro g at' l h _; omega
 | succ f ih =>
  intro g at' l hf hg
  cases g with
  | zero => omega
  | succ g =>
   simp only [wordsF]
   by_cases hr : (l.drop (skipL false l)).isEmpty = true
   ·simp [hr]
   ·by_cases ht : (nextL (l.drop (skipL false l))).2.2 = 0
    ·have hn := nextL_len ht
     have e : ((l.drop (skipL false l)).drop (nextL (l.drop (skipL false l))).2.1).length < l.length := by
      have : 0 < (l.drop (skipL false l)).length := by
       cases h : l.drop (skipL false l) with
       | nil => simp [h] at hr
       | cons a b => simp
      simp only [List.length_drop] at *
      omega
     rw [ih g _ _ (by omega) (by omega)]
    ·simp [ht]
theorem words_end {f at' : Nat} {l : List UInt8} (h : skipL false l = l.length) : wordsF f at' l = .inl [endTok (at' + l.length)] := by
 cases f with
 | zero => rfl
 | succ f => simp [wordsF, h]
def consW (t : Tok) : Sum (List Tok) (Nat × Nat) -> Sum (List Tok) (Nat × Nat)
 | .inl ts => .inl (t :: ts)
 | .inr e => .inr e
def appW (p : List Tok) : Sum (List Tok) (Nat × Nat) -> Sum (List Tok) (Nat × Nat)
 | .inl ts => .inl (p ++ ts)
 | .inr e => .inr e
theorem appW_nil (x : Sum (List Tok) (Nat × Nat)) : appW [] x = x := by cases x <;> rfl
theorem appW_cons (p : List Tok) (t : Tok) (x : Sum (List Tok) (Nat × Nat)) : appW p (consW t x) = appW (p ++ [t]) x := by cases x <;> simp [appW, consW]
def wordsA (at' : Nat) (l : List UInt8) : Sum (List Tok) (Nat × Nat) := wordsF (l.length + 1) at' l
theorem wordsA_end {at' : Nat} {l : List UInt8} (h : skipL false l = l.length) : wordsA at' l = .inl [endTok (at' + l.length)] := words_end h
theorem wordsA_bad {at' : Nat} {l : List UInt8} (h : skipL false l < l.length) (he : (nextL (l.drop (skipL false l))).2.2 ≠ 0) : wordsA at' l = .inr (at' + skipL false l, (nextL (l.drop (skipL false l))).2.2) := by
 have hr : (l.drop (skipL false l)).isEmpty = false := by
  cases h' : l.drop (skipL false l) with
  | nil => have := congrArg List.length h'; simp at this; omega
  | cons a b => rfl
 simp [wordsA, wordsF, hr, he]
theorem wordsA_tok {at' : Nat} {l : List UInt8} (h : skipL false l < l.length) (he : (nextL (l.drop (skipL false l))).2.2 = 0) :
    wordsA at' l = consW ⟨(nextL (l.drop (skipL false l))).1, (l.drop (skipL false l)).take (nextL (l.drop (skipL false l))).2.1, at' + skipL false l, at' + skipL false l + (nextL (l.drop (skipL false l))).2.1⟩
     (wordsA (at' + skipL false l + (nextL (l.drop (skipL false l))).2.1) ((l.drop (skipL false l)).drop (nextL (l.drop (skipL false l))).2.1)) := by
 have hr : (l.drop (skipL false l)).isEmpty = false := by
  cases h' : l.drop (skipL false l) with
  | nil => have := congrArg List.length h'; simp at this; omega
  | cons a b => rfl
 have hn := nextL_len he
 have hl : ((l.drop (skipL false l)).drop (nextL (l.drop (skipL false l))).2.1).length < l.length := by
  simp only [List.length_drop] at *; omega
 conv => lhs; unfold wordsA wordsF
 simp only [hr, he, Bool.false_eq_true, if_false, ne_eq, not_true_eq_false]
 unfold wordsA
 rw [wordsF_fuel l.length _ _ _ hl (Nat.lt_succ_self _)]
 cases wordsF _ _ _ <;> rfl
theorem wordsA_skip {at' : Nat} {l : List UInt8} {k : Nat} (hk : k <= skipL false l) (hs : skipL false (l.drop k) = skipL false l - k) : wordsA at' l = wordsA (at' + k) (l.drop k) := by
 have hle := skipL_le false l
 have hd : (l.drop k).drop (skipL false (l.drop k)) = l.drop (skipL false l) := by rw [hs, List.drop_drop]; congr 1; omega
 by_cases h : skipL false l = l.length
 ·rw [wordsA_end h, wordsA_end (by rw [hs, List.length_drop, h])]
  simp only [List.length_drop]; congr 3; omega
 ·have h' : skipL false l < l.length := by omega
  have h2 : skipL false (l.drop k) < (l.drop k).length := by rw [hs, List.length_drop]; omega
  have ea : at' + k + skipL false (l.drop k) = at' + skipL false l := by rw [hs]; omega
  by_cases he : (nextL (l.drop (skipL false l))).2.2 = 0
  ·rw [wordsA_tok h' he, wordsA_tok h2 (by rw [hd]; exact he), hd, ea]
  ·rw [wordsA_bad h' he, wordsA_bad h2 (by rw [hd]; exact he), hd, ea]
end Lx
end
end Go.Proofs.YtcninopmelmajaaGreatDoor
