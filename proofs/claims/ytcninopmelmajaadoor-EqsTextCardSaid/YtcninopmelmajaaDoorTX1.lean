/-
  Texts laid together (LexPlain): laws and walks, with their conditions.
-/
import Derived.WalkKit
set_option maxHeartbeats 8000000
set_option maxRecDepth 1000000
namespace Go.Proofs.YtcninopmelmajaaDoor
section
namespace Lx
def lu (c:UInt8):Bool:=c == 32 || c == 9 || c == 10 || c == 13
def gQ (c:UInt8):Bool:=decide (97<=c.toNat) && decide (c.toNat<=122)
def dD (c:UInt8):Bool:=decide (48<=c.toNat) && decide (c.toNat<=57)
def bI (c:UInt8):Bool:=gQ c || dD c || c == 95
def vN (c:UInt8):Bool:=c == 40 || c == 41 || c == 44 || c == 58 || c == 61 || c == 42
def mZ (c:UInt8):Bool:=!(c == 10)
def Gz:List (List UInt8):=[[102,117,110],[108,101,116],[114,101,99],[105,110],[105,102],[116,104,101,110],[101,108,115,101],[116,114,117,101],[102,97,108,115,101],[105,110,116],[98,111,111,108]]
def OQ (l:List UInt8):Bool:=Gz.contains l
def dI (p:UInt8->Bool):List UInt8->Nat
 | []=>0
 | c::r=>if p c then dI p r+1 else 0
def aO:Bool->List UInt8->Nat
 | _,[]=>0
 | false,c::r=>if lu c then aO false r+1 else if c == 35 then aO true r+1 else 0
 | true,c::r=>if c == 10 then aO false r+1 else aO true r+1
def gU (p:UInt8->Bool):List UInt8->Bool
 | []=>false
 | c::_=>p c
def nextL:List UInt8->Nat × Nat × Nat
 | []=>(0,0,3)
 | c::r =>
  if gQ c then
   let n:=dI bI (c::r)
   if OQ ((c::r).take n) then (3,n,0) else if 20 < n then (0,0,2) else (1,n,0)
  else if dD c then
   let n:=dI dD (c::r)
   if (decide (1 < n) && c == 48) || gU bI ((c::r).drop n) then (0,0,3) else if 9 < n then (0,0,2) else (2,n,0)
  else if vN c then (4,1,0)
  else if c == 45 && gU (fun d=>d == 62) r then (4,2,0)
  else (0,0,3)
structure Tok where
 kind:Nat
 text:List UInt8
 fr:Nat
 to:Nat
def lC (n:Nat):Tok:=⟨0,[],n,n⟩
def gZ:Nat->Nat->List UInt8->Sum (List Tok) (Nat × Nat)
 | 0,at',l=>.inl [lC (at'+l.length)]
 | f+1,at',l =>
  let k:=aO false l
  let r:=l.drop k
  if r.isEmpty then .inl [lC (at'+l.length)] else
   let t:=nextL r
   if t.2.2≠0 then .inr (at'+k,t.2.2) else
    match gZ f (at'+k+t.2.1) (r.drop t.2.1) with
    | .inl ts=>.inl (⟨t.1,r.take t.2.1,at'+k,at'+k+t.2.1⟩::ts)
    | .inr e=>.inr e
def jZ (l:List UInt8):Sum (List Tok) (Nat × Nat):=gZ (l.length+1) 0 l
theorem og (p:UInt8->Bool):∀ l,dI p l<=l.length
 | []=>Nat.le_refl _
 | c::r=>by unfold dI;split<;>simp;exact og p r
theorem ng:∀ (b:Bool) (l:List UInt8),aO b l<=l.length
 | _,[]=>by simp [aO]
 | false,c::r=>by
  unfold aO;split
  ·have:=ng false r;simp;omega
  ·split
   ·have:=ng true r;simp;omega
   ·simp
 | true,c::r=>by
  unfold aO;split
  ·have:=ng false r;simp;omega
  ·have:=ng true r;simp;omega
theorem qG {p:UInt8->Bool} {c:UInt8} {r:List UInt8} (h:p c=true):0 < dI p (c::r):=by
 unfold dI;rw [if_pos h];omega
theorem qc {c:UInt8} (h:gQ c=true):bI c=true:=by simp [bI,h]
theorem qH {l:List UInt8} (h:(nextL l).2.2=0):0 < (nextL l).2.1/\(nextL l).2.1<=l.length:=by
 cases l with
 | nil=>simp [nextL] at h
 | cons c r =>
  revert h
  simp only [nextL]
  by_cases h1:gQ c=true
  ·have hp:0 < dI bI (c::r):=qG (qc h1);have hl:=og bI (c::r);simp only [h1,if_true]
   split
   ·intro _;exact ⟨hp,hl⟩
   ·split
    ·simp
    ·intro _;exact ⟨hp,hl⟩
  ·have h1':gQ c=false:=by simpa using h1
   simp only [h1',Bool.false_eq_true,if_false]
   by_cases h2:dD c=true
   ·have hp:0 < dI dD (c::r):=qG h2;have hl:=og dD (c::r);simp only [h2,if_true]
    split
    ·simp
    ·split
     ·simp
     ·intro _;exact ⟨hp,hl⟩
   ·have h2':dD c=false:=by simpa using h2
    simp only [h2',Bool.false_eq_true,if_false]
    split
    ·intro _;simp
    ·split
     ·rename_i h3
      intro _;cases r with
      | nil=>simp [gU] at h3
      | cons d r=>simp
     ·simp
theorem IY:∀ (f g at':Nat) (l:List UInt8),l.length < f->l.length < g->gZ f at' l=gZ g at' l:=by
 intro f
 induction f with
 | zero=>intro g at' l h _;omega
 | succ f ih =>
  intro g at' l hf hg;cases g with
  | zero=>omega
  | succ g =>
   simp only [gZ]
   by_cases hr:(l.drop (aO false l)).isEmpty=true
   ·simp [hr]
   ·by_cases ht:(nextL (l.drop (aO false l))).2.2=0
    ·have hn:=qH ht;have e:((l.drop (aO false l)).drop (nextL (l.drop (aO false l))).2.1).length < l.length:=by
      have:0 < (l.drop (aO false l)).length:=by
       cases h:l.drop (aO false l) with
       | nil=>simp [h] at hr
       | cons a b=>simp
      simp only [List.length_drop] at *;omega
     rw [ih g _ _ (by omega) (by omega)]
    ·simp [ht]
theorem OT {f at':Nat} {l:List UInt8} (h:aO false l=l.length):gZ f at' l=.inl [lC (at'+l.length)]:=by
 cases f with
 | zero=>rfl
 | succ f=>simp [gZ,h]
def Bz (t:Tok):Sum (List Tok) (Nat × Nat)->Sum (List Tok) (Nat × Nat)
 | .inl ts=>.inl (t::ts)
 | .inr e=>.inr e
def appW (p:List Tok):Sum (List Tok) (Nat × Nat)->Sum (List Tok) (Nat × Nat)
 | .inl ts=>.inl (p++ts)
 | .inr e=>.inr e
theorem RX (x:Sum (List Tok) (Nat × Nat)):appW [] x=x:=by cases x<;>rfl
theorem OU (p:List Tok) (t:Tok) (x:Sum (List Tok) (Nat × Nat)):appW p (Bz t x)=appW (p++[t]) x:=by cases x<;>simp [appW,Bz]
def dK (at':Nat) (l:List UInt8):Sum (List Tok) (Nat × Nat):=gZ (l.length+1) at' l
theorem ku {at':Nat} {l:List UInt8} (h:aO false l=l.length):dK at' l=.inl [lC (at'+l.length)]:=OT h
theorem oK {at':Nat} {l:List UInt8} (h:aO false l < l.length) (he:(nextL (l.drop (aO false l))).2.2≠0):dK at' l=.inr (at'+aO false l,(nextL (l.drop (aO false l))).2.2):=by
 have hr:(l.drop (aO false l)).isEmpty=false:=by
  cases h':l.drop (aO false l) with
  | nil=>have:=congrArg List.length h';simp at this;omega
  | cons a b=>rfl
 simp [dK,gZ,hr,he]
theorem oL {at' : Nat} {l : List UInt8} (h : aO false l < l.length) (he : (nextL (l.drop (aO false l))).2.2 = 0) :
    dK at' l=Bz ⟨(nextL (l.drop (aO false l))).1,(l.drop (aO false l)).take (nextL (l.drop (aO false l))).2.1,at'+aO false l,at'+aO false l+(nextL (l.drop (aO false l))).2.1⟩
     (dK (at'+aO false l+(nextL (l.drop (aO false l))).2.1) ((l.drop (aO false l)).drop (nextL (l.drop (aO false l))).2.1)):=by
 have hr:(l.drop (aO false l)).isEmpty=false:=by
  cases h':l.drop (aO false l) with
  | nil=>have:=congrArg List.length h';simp at this;omega
  | cons a b=>rfl
 have hn:=qH he;have hl:((l.drop (aO false l)).drop (nextL (l.drop (aO false l))).2.1).length < l.length:=by
  simp only [List.length_drop] at *;omega
 conv=>lhs;unfold dK gZ
 simp only [hr,he,Bool.false_eq_true,if_false,ne_eq,not_true_eq_false];unfold dK;rw [IY l.length _ _ _ hl (Nat.lt_succ_self _)];cases gZ _ _ _<;>rfl
theorem zX {at':Nat} {l:List UInt8} {k:Nat} (hk:k<=aO false l) (hs:aO false (l.drop k)=aO false l-k):dK at' l=dK (at'+k) (l.drop k):=by
 have hle:=ng false l;have hd:(l.drop k).drop (aO false (l.drop k))=l.drop (aO false l):=by rw [hs,List.drop_drop];congr 1;omega
 by_cases h:aO false l=l.length
 ·rw [ku h,ku (by rw [hs,List.length_drop,h])];simp only [List.length_drop];congr 3;omega
 ·have h':aO false l < l.length:=by omega
  have h2:aO false (l.drop k) < (l.drop k).length:=by rw [hs,List.length_drop];omega
  have ea:at'+k+aO false (l.drop k)=at'+aO false l:=by rw [hs];omega
  by_cases he:(nextL (l.drop (aO false l))).2.2=0
  ·rw [oL h' he,oL h2 (by rw [hd];exact he),hd,ea]
  ·rw [oK h' he,oK h2 (by rw [hd];exact he),hd,ea]
end Lx
end
end Go.Proofs.YtcninopmelmajaaDoor
