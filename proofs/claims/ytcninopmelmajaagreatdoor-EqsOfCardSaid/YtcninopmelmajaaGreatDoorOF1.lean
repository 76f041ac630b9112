/-
  Texts laid together (LexPlain): laws and walks, with their conditions.
-/
import Derived.WalkKit
set_option maxHeartbeats 8000000
set_option maxRecDepth 1000000
namespace Go.Proofs.YtcninopmelmajaaGreatDoor
section
namespace Lx
def lJ (c:UInt8):Bool:=c == 32 || c == 9 || c == 10 || c == 13
def eX (c:UInt8):Bool:=decide (97<=c.toNat) && decide (c.toNat<=122)
def dR (c:UInt8):Bool:=decide (48<=c.toNat) && decide (c.toNat<=57)
def bG (c:UInt8):Bool:=eX c || dR c || c == 95
def vN (c:UInt8):Bool:=c == 40 || c == 41 || c == 44 || c == 58 || c == 61 || c == 42
def nH (c:UInt8):Bool:=!(c == 10)
def F9:List (List UInt8):=[[102,117,110],[108,101,116],[114,101,99],[105,110],[105,102],[116,104,101,110],[101,108,115,101],[116,114,117,101],[102,97,108,115,101],[105,110,116],[98,111,111,108]]
def KC (l:List UInt8):Bool:=F9.contains l
def dn (p:UInt8->Bool):List UInt8->Nat
 | []=>0
 | c::r=>if p c then dn p r+1 else 0
def aS:Bool->List UInt8->Nat
 | _,[]=>0
 | false,c::r=>if lJ c then aS false r+1 else if c == 35 then aS true r+1 else 0
 | true,c::r=>if c == 10 then aS false r+1 else aS true r+1
def fK (p:UInt8->Bool):List UInt8->Bool
 | []=>false
 | c::_=>p c
def nextL:List UInt8->Nat × Nat × Nat
 | []=>(0,0,3)
 | c::r =>
  if eX c then
   let n:=dn bG (c::r)
   if KC ((c::r).take n) then (3,n,0) else if 20 < n then (0,0,2) else (1,n,0)
  else if dR c then
   let n:=dn dR (c::r)
   if (decide (1 < n) && c == 48) || fK bG ((c::r).drop n) then (0,0,3) else if 9 < n then (0,0,2) else (2,n,0)
  else if vN c then (4,1,0)
  else if c == 45 && fK (fun d=>d == 62) r then (4,2,0)
  else (0,0,3)
structure Tok where
 kind:Nat
 text:List UInt8
 fr:Nat
 to:Nat
def lK (n:Nat):Tok:=⟨0,[],n,n⟩
def iF:Nat->Nat->List UInt8->Sum (List Tok) (Nat × Nat)
 | 0,at',l=>.inl [lK (at'+l.length)]
 | f+1,at',l =>
  let k:=aS false l
  let r:=l.drop k
  if r.isEmpty then .inl [lK (at'+l.length)] else
   let t:=nextL r
   if t.2.2≠0 then .inr (at'+k,t.2.2) else
    match iF f (at'+k+t.2.1) (r.drop t.2.1) with
    | .inl ts=>.inl (⟨t.1,r.take t.2.1,at'+k,at'+k+t.2.1⟩::ts)
    | .inr e=>.inr e
def kH (l:List UInt8):Sum (List Tok) (Nat × Nat):=iF (l.length+1) 0 l
theorem oD (p:UInt8->Bool):∀ l,dn p l<=l.length
 | []=>Nat.le_refl _
 | c::r=>by unfold dn;split<;>simp;exact oD p r
theorem nI:∀ (b:Bool) (l:List UInt8),aS b l<=l.length
 | _,[]=>by simp [aS]
 | false,c::r=>by
  unfold aS;split
  ·have:=nI false r;simp;omega
  ·split
   ·have:=nI true r;simp;omega
   ·simp
 | true,c::r=>by
  unfold aS;split
  ·have:=nI false r;simp;omega
  ·have:=nI true r;simp;omega
theorem qL {p:UInt8->Bool} {c:UInt8} {r:List UInt8} (h:p c=true):0 < dn p (c::r):=by
 unfold dn;rw [if_pos h];omega
theorem qw {c:UInt8} (h:eX c=true):bG c=true:=by simp [bG,h]
theorem qM {l:List UInt8} (h:(nextL l).2.2=0):0 < (nextL l).2.1/\(nextL l).2.1<=l.length:=by
 cases l with
 | nil=>simp [nextL] at h
 | cons c r =>
  revert h
  simp only [nextL]
  by_cases h1:eX c=true
  ·have hp:0 < dn bG (c::r):=qL (qw h1);have hl:=oD bG (c::r);simp only [h1,if_true]
   split
   ·intro _;exact ⟨hp,hl⟩
   ·split
    ·simp
    ·intro _;exact ⟨hp,hl⟩
  ·have h1':eX c=false:=by simpa using h1
   simp only [h1',Bool.false_eq_true,if_false]
   by_cases h2:dR c=true
   ·have hp:0 < dn dR (c::r):=qL h2;have hl:=oD dR (c::r);simp only [h2,if_true]
    split
    ·simp
    ·split
     ·simp
     ·intro _;exact ⟨hp,hl⟩
   ·have h2':dR c=false:=by simpa using h2
    simp only [h2',Bool.false_eq_true,if_false]
    split
    ·intro _;simp
    ·split
     ·rename_i h3
      intro _;cases r with
      | nil=>simp [fK] at h3
      | cons d r=>simp
     ·simp
theorem Io:∀ (f g at':Nat) (l:List UInt8),l.length < f->l.length < g->iF f at' l=iF g at' l:=by
 intro f
 induction f with
 | zero=>intro g at' l h _;omega
 | succ f ih =>
  intro g at' l hf hg;cases g with
  | zero=>omega
  | succ g =>
   simp only [iF]
   by_cases hr:(l.drop (aS false l)).isEmpty=true
   ·simp [hr]
   ·by_cases ht:(nextL (l.drop (aS false l))).2.2=0
    ·have hn:=qM ht;have e:((l.drop (aS false l)).drop (nextL (l.drop (aS false l))).2.1).length < l.length:=by
      have:0 < (l.drop (aS false l)).length:=by
       cases h:l.drop (aS false l) with
       | nil=>simp [h] at hr
       | cons a b=>simp
      simp only [List.length_drop] at *;omega
     rw [ih g _ _ (by omega) (by omega)]
    ·simp [ht]
theorem OC {f at':Nat} {l:List UInt8} (h:aS false l=l.length):iF f at' l=.inl [lK (at'+l.length)]:=by
 cases f with
 | zero=>rfl
 | succ f=>simp [iF,h]
def Bf (t:Tok):Sum (List Tok) (Nat × Nat)->Sum (List Tok) (Nat × Nat)
 | .inl ts=>.inl (t::ts)
 | .inr e=>.inr e
def appW (p:List Tok):Sum (List Tok) (Nat × Nat)->Sum (List Tok) (Nat × Nat)
 | .inl ts=>.inl (p++ts)
 | .inr e=>.inr e
theorem Rz (x:Sum (List Tok) (Nat × Nat)):appW [] x=x:=by cases x<;>rfl
theorem OD (p:List Tok) (t:Tok) (x:Sum (List Tok) (Nat × Nat)):appW p (Bf t x)=appW (p++[t]) x:=by cases x<;>simp [appW,Bf]
def dN (at':Nat) (l:List UInt8):Sum (List Tok) (Nat × Nat):=iF (l.length+1) at' l
theorem kJ {at':Nat} {l:List UInt8} (h:aS false l=l.length):dN at' l=.inl [lK (at'+l.length)]:=OC h
theorem oU {at':Nat} {l:List UInt8} (h:aS false l < l.length) (he:(nextL (l.drop (aS false l))).2.2≠0):dN at' l=.inr (at'+aS false l,(nextL (l.drop (aS false l))).2.2):=by
 have hr:(l.drop (aS false l)).isEmpty=false:=by
  cases h':l.drop (aS false l) with
  | nil=>have:=congrArg List.length h';simp at this;omega
  | cons a b=>rfl
 simp [dN,iF,hr,he]
theorem oV {at' : Nat} {l : List UInt8} (h : aS false l < l.length) (he : (nextL (l.drop (aS false l))).2.2 = 0) :
    dN at' l=Bf ⟨(nextL (l.drop (aS false l))).1,(l.drop (aS false l)).take (nextL (l.drop (aS false l))).2.1,at'+aS false l,at'+aS false l+(nextL (l.drop (aS false l))).2.1⟩
     (dN (at'+aS false l+(nextL (l.drop (aS false l))).2.1) ((l.drop (aS false l)).drop (nextL (l.drop (aS false l))).2.1)):=by
 have hr:(l.drop (aS false l)).isEmpty=false:=by
  cases h':l.drop (aS false l) with
  | nil=>have:=congrArg List.length h';simp at this;omega
  | cons a b=>rfl
 have hn:=qM he;have hl:((l.drop (aS false l)).drop (nextL (l.drop (aS false l))).2.1).length < l.length:=by
  simp only [List.length_drop] at *;omega
 conv=>lhs;unfold dN iF
 simp only [hr,he,Bool.false_eq_true,if_false,ne_eq,not_true_eq_false];unfold dN;rw [Io l.length _ _ _ hl (Nat.lt_succ_self _)];cases iF _ _ _<;>rfl
theorem zS {at':Nat} {l:List UInt8} {k:Nat} (hk:k<=aS false l) (hs:aS false (l.drop k)=aS false l-k):dN at' l=dN (at'+k) (l.drop k):=by
 have hle:=nI false l;have hd:(l.drop k).drop (aS false (l.drop k))=l.drop (aS false l):=by rw [hs,List.drop_drop];congr 1;omega
 by_cases h:aS false l=l.length
 ·rw [kJ h,kJ (by rw [hs,List.length_drop,h])];simp only [List.length_drop];congr 3;omega
 ·have h':aS false l < l.length:=by omega
  have h2:aS false (l.drop k) < (l.drop k).length:=by rw [hs,List.length_drop];omega
  have ea:at'+k+aS false (l.drop k)=at'+aS false l:=by rw [hs];omega
  by_cases he:(nextL (l.drop (aS false l))).2.2=0
  ·rw [oV h' he,oV h2 (by rw [hd];exact he),hd,ea]
  ·rw [oU h' he,oU h2 (by rw [hd];exact he),hd,ea]
end Lx
end
end Go.Proofs.YtcninopmelmajaaGreatDoor
