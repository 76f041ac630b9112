/-
  Texts laid together (LexPlain): laws and walks, with their conditions.
-/
import Derived.WalkKit
set_option maxHeartbeats 8000000
set_option maxRecDepth 1000000
namespace Go.Proofs.YtcninopmelmajaaGreatDoor
section
namespace Lx
def kZ (c:UInt8):Bool:=c == 32 || c == 9 || c == 10 || c == 13
def dU (c:UInt8):Bool:=decide (97<=c.toNat) && decide (c.toNat<=122)
def dJ (c:UInt8):Bool:=decide (48<=c.toNat) && decide (c.toNat<=57)
def bg (c:UInt8):Bool:=dU c || dJ c || c == 95
def uY (c:UInt8):Bool:=c == 40 || c == 41 || c == 44 || c == 58 || c == 61 || c == 42
def mO (c:UInt8):Bool:=!(c == 10)
def FK:List (List UInt8):=[[102,117,110],[108,101,116],[114,101,99],[105,110],[105,102],[116,104,101,110],[101,108,115,101],[116,114,117,101],[102,97,108,115,101],[105,110,116],[98,111,111,108]]
def JI (l:List UInt8):Bool:=FK.contains l
def bU (p:UInt8->Bool):List UInt8->Nat
 | []=>0
 | c::r=>if p c then bU p r+1 else 0
def aQ:Bool->List UInt8->Nat
 | _,[]=>0
 | false,c::r=>if kZ c then aQ false r+1 else if c == 35 then aQ true r+1 else 0
 | true,c::r=>if c == 10 then aQ false r+1 else aQ true r+1
def eU (p:UInt8->Bool):List UInt8->Bool
 | []=>false
 | c::_=>p c
def nextL:List UInt8->Nat × Nat × Nat
 | []=>(0,0,3)
 | c::r =>
  if dU c then
   let n:=bU bg (c::r)
   if JI ((c::r).take n) then (3,n,0) else if 20 < n then (0,0,2) else (1,n,0)
  else if dJ c then
   let n:=bU dJ (c::r)
   if (decide (1 < n) && c == 48) || eU bg ((c::r).drop n) then (0,0,3) else if 9 < n then (0,0,2) else (2,n,0)
  else if uY c then (4,1,0)
  else if c == 45 && eU (fun d=>d == 62) r then (4,2,0)
  else (0,0,3)
structure Tok where
 kind:Nat
 text:List UInt8
 fr:Nat
 to:Nat
def lg (n:Nat):Tok:=⟨0,[],n,n⟩
def iG:Nat->Nat->List UInt8->Sum (List Tok) (Nat × Nat)
 | 0,at',l=>.inl [lg (at'+l.length)]
 | f+1,at',l =>
  let k:=aQ false l
  let r:=l.drop k
  if r.isEmpty then .inl [lg (at'+l.length)] else
   let t:=nextL r
   if t.2.2≠0 then .inr (at'+k,t.2.2) else
    match iG f (at'+k+t.2.1) (r.drop t.2.1) with
    | .inl ts=>.inl (⟨t.1,r.take t.2.1,at'+k,at'+k+t.2.1⟩::ts)
    | .inr e=>.inr e
def jY (l:List UInt8):Sum (List Tok) (Nat × Nat):=iG (l.length+1) 0 l
theorem nO (p:UInt8->Bool):∀ l,bU p l<=l.length
 | []=>Nat.le_refl _
 | c::r=>by unfold bU;split<;>simp;exact nO p r
theorem mP:∀ (b:Bool) (l:List UInt8),aQ b l<=l.length
 | _,[]=>by simp [aQ]
 | false,c::r=>by
  unfold aQ;split
  ·have:=mP false r;simp;omega
  ·split
   ·have:=mP true r;simp;omega
   ·simp
 | true,c::r=>by
  unfold aQ;split
  ·have:=mP false r;simp;omega
  ·have:=mP true r;simp;omega
theorem qA {p:UInt8->Bool} {c:UInt8} {r:List UInt8} (h:p c=true):0 < bU p (c::r):=by
 unfold bU;rw [if_pos h];omega
theorem pU {c:UInt8} (h:dU c=true):bg c=true:=by simp [bg,h]
theorem qB {l:List UInt8} (h:(nextL l).2.2=0):0 < (nextL l).2.1/\(nextL l).2.1<=l.length:=by
 cases l with
 | nil=>simp [nextL] at h
 | cons c r =>
  revert h
  simp only [nextL]
  by_cases h1:dU c=true
  ·have hp:0 < bU bg (c::r):=qA (pU h1)
   have hl:=nO bg (c::r)
   simp only [h1,if_true]
   split
   ·intro _;exact ⟨hp,hl⟩
   ·split
    ·simp
    ·intro _;exact ⟨hp,hl⟩
  ·have h1':dU c=false:=by simpa using h1
   simp only [h1',Bool.false_eq_true,if_false]
   by_cases h2:dJ c=true
   ·have hp:0 < bU dJ (c::r):=qA h2
    have hl:=nO dJ (c::r)
    simp only [h2,if_true]
    split
    ·simp
    ·split
     ·simp
     ·intro _;exact ⟨hp,hl⟩
   ·have h2':dJ c=false:=by simpa using h2
    simp only [h2',Bool.false_eq_true,if_false]
    split
    ·intro _;simp
    ·split
     ·rename_i h3
      intro _
      cases r with
      | nil=>simp [eU] at h3
      | cons d r=>simp
     ·simp
theorem G6:∀ (f g at':Nat) (l:List UInt8),l.length < f->l.length < g->iG f at' l=iG g at' l:=by
 intro f
 induction f with
 | zero=>intro g at' l h _;omega
 | succ f ih =>
  intro g at' l hf hg
  cases g with
  | zero=>omega
  | succ g =>
   simp only [iG]
   by_cases hr:(l.drop (aQ false l)).isEmpty=true
   ·simp [hr]
   ·by_cases ht:(nextL (l.drop (aQ false l))).2.2=0
    ·have hn:=qB ht
     have e:((l.drop (aQ false l)).drop (nextL (l.drop (aQ false l))).2.1).length < l.length:=by
      have:0 < (l.drop (aQ false l)).length:=by
       cases h:l.drop (aQ false l) with
       | nil=>simp [h] at hr
       | cons a b=>simp
      simp only [List.length_drop] at *
      omega
     rw [ih g _ _ (by omega) (by omega)]
    ·simp [ht]
theorem N7 {f at':Nat} {l:List UInt8} (h:aQ false l=l.length):iG f at' l=.inl [lg (at'+l.length)]:=by
 cases f with
 | zero=>rfl
 | succ f=>simp [iG,h]
def AB (t:Tok):Sum (List Tok) (Nat × Nat)->Sum (List Tok) (Nat × Nat)
 | .inl ts=>.inl (t::ts)
 | .inr e=>.inr e
def appW (p:List Tok):Sum (List Tok) (Nat × Nat)->Sum (List Tok) (Nat × Nat)
 | .inl ts=>.inl (p++ts)
 | .inr e=>.inr e
theorem QS (x:Sum (List Tok) (Nat × Nat)):appW [] x=x:=by cases x<;>rfl
theorem N8 (p:List Tok) (t:Tok) (x:Sum (List Tok) (Nat × Nat)):appW p (AB t x)=appW (p++[t]) x:=by cases x<;>simp [appW,AB]
def dF (at':Nat) (l:List UInt8):Sum (List Tok) (Nat × Nat):=iG (l.length+1) at' l
theorem jZ {at':Nat} {l:List UInt8} (h:aQ false l=l.length):dF at' l=.inl [lg (at'+l.length)]:=N7 h
theorem og {at':Nat} {l:List UInt8} (h:aQ false l < l.length) (he:(nextL (l.drop (aQ false l))).2.2≠0):dF at' l=.inr (at'+aQ false l,(nextL (l.drop (aQ false l))).2.2):=by
 have hr:(l.drop (aQ false l)).isEmpty=false:=by
  cases h':l.drop (aQ false l) with
  | nil=>have:=congrArg List.length h';simp at this;omega
  | cons a b=>rfl
 simp [dF,iG,hr,he]
theorem oh {at' : Nat} {l : List UInt8} (h : aQ false l < l.length) (he : (nextL (l.drop (aQ false l))).2.2 = 0) :
    dF at' l=AB ⟨(nextL (l.drop (aQ false l))).1,(l.drop (aQ false l)).take (nextL (l.drop (aQ false l))).2.1,at'+aQ false l,at'+aQ false l+(nextL (l.drop (aQ false l))).2.1⟩
     (dF (at'+aQ false l+(nextL (l.drop (aQ false l))).2.1) ((l.drop (aQ false l)).drop (nextL (l.drop (aQ false l))).2.1)):=by
 have hr:(l.drop (aQ false l)).isEmpty=false:=by
  cases h':l.drop (aQ false l) with
  | nil=>have:=congrArg List.length h';simp at this;omega
  | cons a b=>rfl
 have hn:=qB he
 have hl:((l.drop (aQ false l)).drop (nextL (l.drop (aQ false l))).2.1).length < l.length:=by
  simp only [List.length_drop] at *;omega
 conv=>lhs;unfold dF iG
 simp only [hr,he,Bool.false_eq_true,if_false,ne_eq,not_true_eq_false]
 unfold dF
 rw [G6 l.length _ _ _ hl (Nat.lt_succ_self _)]
 cases iG _ _ _<;>rfl
theorem zA {at':Nat} {l:List UInt8} {k:Nat} (hk:k<=aQ false l) (hs:aQ false (l.drop k)=aQ false l - k):dF at' l=dF (at'+k) (l.drop k):=by
 have hle:=mP false l
 have hd:(l.drop k).drop (aQ false (l.drop k))=l.drop (aQ false l):=by rw [hs,List.drop_drop];congr 1;omega
 by_cases h:aQ false l=l.length
 ·rw [jZ h,jZ (by rw [hs,List.length_drop,h])]
  simp only [List.length_drop];congr 3;omega
 ·have h':aQ false l < l.length:=by omega
  have h2:aQ false (l.drop k) < (l.drop k).length:=by rw [hs,List.length_drop];omega
  have ea:at'+k+aQ false (l.drop k)=at'+aQ false l:=by rw [hs];omega
  by_cases he:(nextL (l.drop (aQ false l))).2.2=0
  ·rw [oh h' he,oh h2 (by rw [hd];exact he),hd,ea]
  ·rw [og h' he,og h2 (by rw [hd];exact he),hd,ea]
end Lx
end
end Go.Proofs.YtcninopmelmajaaGreatDoor
