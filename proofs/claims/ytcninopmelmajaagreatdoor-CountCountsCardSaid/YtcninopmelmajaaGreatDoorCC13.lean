/-
  Texts laid together (PaPlain, PaLaws, PaWords, LexNext, LexTok, LexWords, LexSame, PaIs): laws and walks, with their conditions.
-/
import Derived.Laws.StructEq
import Derived.Test.YtcninopmelmajaaGreatDoorCC5
set_option maxHeartbeats 8000000
set_option maxRecDepth 1000000
namespace Go.Proofs.YtcninopmelmajaaGreatDoor
open Go.Lib (hid)
section
namespace Pa
open Lx
abbrev Pt:=Int × Int
abbrev nI:=Sum ((Int × Int × Fo) × Nat) (Nat × Nat)
abbrev jL:=Sum ((Nd × To) × Pt × Nat) (Nat × Nat)
def bY (l:List Tok) (i k:Nat) (s:List UInt8):Bool :=
 match l[i]? with
 | some t=>t.kind == k && t.text == s
 | none=>false
def rM (l:List Tok) (i:Nat):Bool :=
 match l[i]? with
 | some t=>t.kind == 1
 | none=>false
def Ku:List UInt8:=[105,110,116]
def Et:List UInt8:=[98,111,111,108]
def sQ:List UInt8:=[102,117,110]
def Bg:List UInt8:=[108,101,116]
def VP:List UInt8:=[114,101,99]
def wIn:List UInt8:=[105,110]
def wIf:List UInt8:=[105,102]
def XH:List UInt8:=[116,104,101,110]
def XI:List UInt8:=[101,108,115,101]
def vw:List UInt8:=[116,114,117,101]
def Bh:List UInt8:=[102,97,108,115,101]
def nJ:List UInt8:=[40]
def jB:List UInt8:=[41]
def vP:List UInt8:=[44]
def F7:List UInt8:=[58]
def sEq:List UInt8:=[61]
def Bj:List UInt8:=[42]
def Bl:List UInt8:=[45,62]
def kC (T:Nat->nI) (l:List Tok):Nat->Fo->Nat->Sum (Fo × Nat) (Nat × Nat)
 | 0,ps,i=>.inl (ps,i)
 | n+1,ps,i =>
  if bY l i 4 Bj then
   if 8<=ps.length then .inr (i,6) else
    match T (i+1) with
    | .inr e=>.inr e
    | .inl ((k,m,qs),j)=>kC T l n (ps.app (.cons k m qs .nil)) j
  else .inl (ps,i)
def vS (l:List Tok):Sum (Fo × Nat) (Nat × Nat)->nI
 | .inr e=>.inr e
 | .inl (ps,i) =>
  if bY l i 4 jB then
   match ps with
   | .cons k m qs .nil=>.inl ((k,m,qs),i+1)
   | _=>.inl ((5,0,ps),i+1)
  else .inr (i,3)
def Yx (T:Nat->nI) (l:List Tok):nI->nI
 | .inr e=>.inr e
 | .inl ((k,m,qs),j)=>vS l (kC T l 8 (.cons k m qs .nil) j)
def lX (T:Nat->nI) (l:List Tok) (i:Nat):nI :=
 if bY l i 3 Ku then .inl ((2,0,.nil),i+1)
 else if bY l i 3 Et then .inl ((3,0,.nil),i+1)
 else if bY l i 4 nJ then Yx T l (T (i+1))
 else .inr (i,3)
def Kv (k m:Int) (qs:Fo):nI->nI
 | .inr e=>.inr e
 | .inl ((k2,m2,rX),j)=>.inl ((4,0,.cons k m qs (.cons k2 m2 rX .nil)),j)
def MF (T:Nat->nI) (l:List Tok):nI->nI
 | .inr e=>.inr e
 | .inl ((k,m,qs),i)=>if bY l i 4 Bl then Kv k m qs (T (i+1)) else .inl ((k,m,qs),i)
def rO (l:List Tok):Nat->Nat->nI
 | 0,i=>.inr (i,4)
 | f+1,i=>MF (rO l f) l (lX (rO l f) l i)
def aV (a b:Pt):Pt :=
 if a.1≥a.2/\b.1≥b.2 then (0,0) else if a.1≥a.2 then b else if b.1≥b.2 then a else (min a.1 b.1,max a.2 b.2)
def nR (l:List Tok) (i:Nat):Bool :=
 match l[i]? with
 | some t=>t.kind == 1 || t.kind == 2 || (t.kind == 3 && t.text == vw) || (t.kind == 3 && t.text == Bh) || (t.kind == 4 && t.text == nJ)
 | none=>false
def Yy (s:List UInt8):Int:=s.foldl (fun n c=>IntKind.i64.wrap (IntKind.i64.wrap (IntKind.i64.wrap (10 * n)+c.toNat) - 48)) 0
def at' (l:List Tok) (i:Nat):Pt :=
 match l[i]? with
 | some t=>(t.fr,t.to)
 | none=>(0,0)
def txt (l:List Tok) (i:Nat):List UInt8 :=
 match l[i]? with
 | some t=>t.text
 | none=>[]
def nd (k:Int) (nm:List UInt8) (n:Int) (p:Pt):Nd:=⟨k,⟨nm.toArray⟩,n,0,0,.nil,p.1,p.2⟩
def uK (E:Nat->jL) (l:List Tok):Nat->To->Nat->Sum (To × Nat) (Nat × Nat)
 | 0,ps,i=>.inl (ps,i)
 | n+1,ps,i =>
  if bY l i 4 vP then
   if 8<=ps.length then .inr (i,6) else
    match E (i+1) with
    | .inr e=>.inr e
    | .inl ((h,qs),_,j)=>uK E l n (ps.app (.cons h qs .nil)) j
  else .inl (ps,i)
def vC (l:List Tok) (i0:Nat):Sum (To × Nat) (Nat × Nat)->jL
 | .inr e=>.inr e
 | .inl (ps,i) =>
  if bY l i 4 jB then
   match ps with
   | .cons h qs .nil=>.inl ((h,qs),aV (at' l i0) (at' l i),i+1)
   | _=>.inl ((nd 9 [] 0 (aV (at' l i0) (at' l i)),ps),aV (at' l i0) (at' l i),i+1)
  else .inr (i,3)
def Ia (l:List Tok) (i0:Nat) (h:Nd) (qs:To):nI->jL
 | .inr e=>.inr e
 | .inl ((k,m,us),i) =>
  if bY l i 4 jB then .inl ((⟨10,ByteArray.empty,0,k,m,us,(aV (at' l i0) (at' l i)).1,(aV (at' l i0) (at' l i)).2⟩,.cons h qs .nil),aV (at' l i0) (at' l i),i+1)
  else .inr (i,3)
def VQ (E:Nat->jL) (T:Nat->nI) (l:List Tok) (i0:Nat):jL->jL
 | .inr e=>.inr e
 | .inl ((h,qs),_,i)=>if bY l i 4 F7 then Ia l i0 h qs (T (i+1)) else vC l i0 (uK E l 8 (.cons h qs .nil) i)
def jf (E:Nat->jL) (T:Nat->nI) (l:List Tok) (i:Nat):jL :=
 if nR l i then
  match l[i]? with
  | none=>.inr (i,3)
  | some t =>
   if t.kind == 1 then .inl ((nd 1 t.text 0 (t.fr,t.to),.nil),(t.fr,t.to),i+1)
   else if t.kind == 2 then .inl ((nd 2 [] (Yy t.text) (t.fr,t.to),.nil),(t.fr,t.to),i+1)
   else if t.text == vw then .inl ((nd 3 [] 1 (t.fr,t.to),.nil),(t.fr,t.to),i+1)
   else if t.text == nJ then VQ E T l i (E (i+1))
   else .inl ((nd 3 [] 0 (t.fr,t.to),.nil),(t.fr,t.to),i+1)
 else .inr (i,3)
def aay (h:Nd) (qs:To) (x:Pt) (h2:Nd) (rX:To) (x2:Pt):(Nd × To) × Pt:=((nd 5 [] 0 (aV x x2),.cons h qs (.cons h2 rX .nil)),aV x x2)
def wS (E:Nat->jL) (T:Nat->nI) (l:List Tok):Nat->(Nd × To)->Pt->Nat->jL
 | 0,t,x,i=>.inl (t,x,i)
 | n+1,t,x,i =>
  if nR l i then
   match jf E T l i with
   | .inr e=>.inr e
   | .inl (t2,x2,j)=>wS E T l n (aay t.1 t.2 x t2.1 t2.2 x2).1 (aay t.1 t.2 x t2.1 t2.2 x2).2 j
  else .inl (t,x,i)
inductive Stp where
 | e:Stp
 | n:Stp
 | s (t:List UInt8):Stp
structure Fm where
 nm:List UInt8
 ps:To
 x:Pt
 i:Nat
def oD (E:Nat->jL) (l:List Tok) (m:Fm):Stp->Sum Fm (Nat × Nat)
 | .e=>match E m.i with
  | .inr e=>.inr e
  | .inl ((h,qs),x,j)=>.inl ⟨m.nm,m.ps.app (.cons h qs .nil),x,j⟩
 | .n=>if rM l m.i then .inl ⟨txt l m.i,m.ps,m.x,m.i+1⟩ else .inr (m.i,3)
 | .s t=>if bY l m.i 3 t || bY l m.i 4 t then .inl ⟨m.nm,m.ps,m.x,m.i+1⟩ else .inr (m.i,3)
def oG (E:Nat->jL) (l:List Tok):List Stp->Fm->Sum Fm (Nat × Nat)
 | [],m=>.inl m
 | s::r,m=>match oD E l m s with
  | .inr e=>.inr e
  | .inl m'=>oG E l r m'
def Rx (l:List Tok) (i0:Nat) (k:Int):Sum Fm (Nat × Nat)->jL
 | .inr e=>.inr e
 | .inl m=>.inl ((nd k m.nm 0 (aV (at' l i0) m.x),m.ps),aV (at' l i0) m.x,m.i)
def sS (l:List Tok) (i:Nat):Int:=if bY l i 3 Bg then (if bY l (i+1) 3 VP then 7 else 6) else if bY l i 3 sQ then 4 else 8
def nK (l:List Tok) (i:Nat):List Stp :=
 if bY l i 3 Bg then [.n,.s sEq,.e,.s wIn,.e] else if bY l i 3 sQ then [.n,.s Bl,.e] else [.e,.s XH,.e,.s XI,.e]
def mX (l:List Tok) (i:Nat):Nat:=if bY l i 3 Bg && bY l (i+1) 3 VP then i+2 else i+1
def wU (E:Nat->jL) (l:List Tok) (i:Nat):jL:=Rx l i (sS l i) (oG E l (nK l i) ⟨[],.nil,(0,0),mX l i⟩)
def goQ (E:Nat->jL) (T:Nat->nI) (l:List Tok):jL->jL
 | .inr e=>.inr e
 | .inl (t,x,i)=>wS E T l (l.length+1) t x i
def Dz (l:List Tok):Nat->Nat->jL
 | 0,i=>.inr (i,4)
 | f+1,i =>
  if bY l i 3 sQ || bY l i 3 Bg || bY l i 3 wIf then wU (Dz l f) l i
  else goQ (Dz l f) (rO l (f - 1)) l (jf (Dz l f) (rO l (f - 1)) l i)
def Ry (l:List Tok) (i:Nat):Bool :=
 match l[i]? with
 | some t=>t.kind == 0
 | none=>false
def oH (l:List Tok) (f:Nat):jL :=
 match Dz l f 0 with
 | .inr e=>.inr e
 | .inl (t,x,i)=>if Ry l i then .inl (t,x,i+1) else .inr (i,3)
end Pa
end
section
namespace Pa
open Lx
def Shut (l:List Tok):Prop:=∀ i t,l[i]?=some t->t.kind≠0->i+1 < l.length
theorem Bo {l:List Tok} {i k:Nat} {s:List UInt8} (h:bY l i k s=true):∃ t,l[i]?=some t/\t.kind=k/\t.text=s:=by
 unfold bY at h
 split at h
 ·next t ht=>simp at h;exact ⟨t,ht,h.1,h.2⟩
 ·cases h
theorem dI {l:List Tok} {i k:Nat} {s:List UInt8} (hl:Shut l) (h:bY l i k s=true) (hk:k≠0):i+1 < l.length:=by
 obtain ⟨t,ht,hkd,_⟩:=Bo h
 exact hl i t ht (by omega)
theorem Ib {l:List Tok} {i:Nat} (hl:Shut l) (h:rM l i=true):i+1 < l.length:=by
 unfold rM at h
 split at h
 ·next t ht=>simp at h;exact hl i t ht (by omega)
 ·cases h
theorem MG {l:List Tok} {i:Nat} (hl:Shut l) (h:nR l i=true):i+1 < l.length:=by
 unfold nR at h
 split at h
 ·next t ht =>
  refine hl i t ht ?_
  intro h0
  simp [h0] at h
 ·cases h
def In (n i:Nat) {α:Type} (at2:α->Nat):Sum α (Nat × Nat)->Prop
 | .inl r=>i < at2 r/\at2 r < n
 | .inr e=>e.1 < n/\e.2≠0
def Rz (n i:Nat) {α:Type} (at2:α->Nat):Sum α (Nat × Nat)->Prop
 | .inl r=>i<=at2 r/\at2 r < n
 | .inr e=>e.1 < n/\e.2≠0
abbrev wV (n i:Nat) (r:nI):Prop:=In n i (fun r=>r.2) r
abbrev rP (n i:Nat) (r:jL):Prop:=In n i (fun r=>r.2.2) r
theorem Rz.less {n i k:Nat} {α:Type} {f:α->Nat} {r:Sum α (Nat × Nat)} (h:Rz n i f r) (hk:k < i):In n k f r:=by
 cases r with
 | inl r=>exact ⟨Nat.lt_of_lt_of_le hk h.1,h.2⟩
 | inr e=>exact h
theorem Rz.le {n i k:Nat} {α:Type} {f:α->Nat} {r:Sum α (Nat × Nat)} (h:Rz n i f r) (hk:k<=i):Rz n k f r:=by
 cases r with
 | inl r=>exact ⟨Nat.le_trans hk h.1,h.2⟩
 | inr e=>exact h
theorem In.le {n i k:Nat} {α:Type} {f:α->Nat} {r:Sum α (Nat × Nat)} (h:In n i f r) (hk:k<=i):In n k f r:=by
 cases r with
 | inl r=>exact ⟨Nat.lt_of_le_of_lt hk h.1,h.2⟩
 | inr e=>exact h
section
variable {l:List Tok} (hl:Shut l)
include hl
theorem Eu {T:Nat->nI} (hT:∀ i,i < l.length->wV l.length i (T i)):∀ (n:Nat) (ps:Fo) (i:Nat),i < l.length->Rz l.length i (fun r:Fo × Nat=>r.2) (kC T l n ps i)
 | 0,ps,i,hi=>⟨Nat.le_refl _,hi⟩
 | n+1,ps,i,hi=>by
  unfold kC
  split
  ·next h =>
   have h1:=dI hl h (by decide)
   split
   ·exact ⟨hi,by simp⟩
   ·have h2:=hT (i+1) h1
    split
    ·next e he=>rw [he] at h2;exact h2
    ·next k m qs j he =>
     rw [he] at h2
     have h3:i+1 < j/\j < l.length:=h2
     exact (Eu hT n _ j h3.2).le (by omega)
  ·exact ⟨Nat.le_refl _,hi⟩
theorem OB {i:Nat}:∀ (x:Sum (Fo × Nat) (Nat × Nat)),Rz l.length i (fun r:Fo × Nat=>r.2) x->wV l.length i (vS l x)
 | .inr e,h=>h
 | .inl (ps,j),h=>by
  have h':i<=j/\j < l.length:=h
  unfold vS
  by_cases hc:bY l j 4 jB=true
  ·have h1:=dI hl hc (by decide)
   simp only [hc,if_true]
   split
   ·show i < j+1/\j+1 < l.length;omega
   ·show i < j+1/\j+1 < l.length;omega
  ·simp only [hc,if_false,Bool.false_eq_true]
   exact ⟨h'.2,by simp⟩
theorem Bq:∀ (f i:Nat),i < l.length->wV l.length i (rO l f i)
 | 0,i,hi=>⟨hi,by simp⟩
 | f+1,i,hi=>by
  have ih:=fun i hi=>Bq f i hi
  have hh:wV l.length i (lX (rO l f) l i):=by
   unfold lX
   split
   ·next h=>have:=dI hl h (by decide);show i < i+1/\i+1 < l.length;omega
   split
   ·next h=>have:=dI hl h (by decide);show i < i+1/\i+1 < l.length;omega
   split
   ·next h =>
    have h1:=dI hl h (by decide)
    have h2:=ih (i+1) h1
    unfold Yx
    split
    ·next e he=>rw [he] at h2;exact h2
    ·next k m qs j he =>
     rw [he] at h2
     have h3:i+1 < j/\j < l.length:=h2
     exact (OB hl (i:=j) _ (Eu hl ih 8 _ j h3.2)).le (by omega)
   ·exact ⟨hi,by simp⟩
  unfold rO
  unfold MF
  split
  ·next e he=>rw [he] at hh;exact hh
  ·next k m qs j he =>
   rw [he] at hh
   have h3:i < j/\j < l.length:=hh
   split
   ·next h =>
    have h1:=dI hl h (by decide)
    have h2:=ih (j+1) h1
    unfold Kv
    split
    ·next e he=>rw [he] at h2;exact h2
    ·next k m qs j2 he =>
     rw [he] at h2
     have h4:j+1 < j2/\j2 < l.length:=h2
     show i < j2/\j2 < l.length;omega
   ·exact h3
theorem MH {E:Nat->jL} (hE:∀ i,i < l.length->rP l.length i (E i)):∀ (n:Nat) (ps:To) (i:Nat),i < l.length->Rz l.length i (fun r:To × Nat=>r.2) (uK E l n ps i)
 | 0,ps,i,hi=>⟨Nat.le_refl _,hi⟩
 | n+1,ps,i,hi=>by
  unfold uK
  split
  ·next h =>
   have h1:=dI hl h (by decide)
   split
   ·exact ⟨hi,by simp⟩
   ·have h2:=hE (i+1) h1
    split
    ·next e he=>rw [he] at h2;exact h2
    ·next h qs x j he =>
     rw [he] at h2
     have h3:i+1 < j/\j < l.length:=h2
     exact (MH hE n _ j h3.2).le (by omega)
  ·exact ⟨Nat.le_refl _,hi⟩
theorem RD {i i0:Nat}:∀ (x:Sum (To × Nat) (Nat × Nat)),Rz l.length i (fun r:To × Nat=>r.2) x->rP l.length i (vC l i0 x)
 | .inr e,h=>h
 | .inl (ps,j),h=>by
  have h':i<=j/\j < l.length:=h
  unfold vC
  by_cases hc:bY l j 4 jB=true
  ·have h1:=dI hl hc (by decide)
   simp only [hc,if_true]
   split
   ·show i < j+1/\j+1 < l.length;omega
   ·show i < j+1/\j+1 < l.length;omega
  ·simp only [hc,if_false,Bool.false_eq_true]
   exact ⟨h'.2,by simp⟩
theorem VR {i i0:Nat} {h:Nd} {qs:To}:∀ (x:nI),wV l.length i x->rP l.length i (Ia l i0 h qs x)
 | .inr e,h=>h
 | .inl ((k,m,us),j),h=>by
  have h':i < j/\j < l.length:=h
  unfold Ia
  by_cases hc:bY l j 4 jB=true
  ·have h1:=dI hl hc (by decide)
   simp only [hc,if_true]
   show i < j+1/\j+1 < l.length;omega
  ·simp only [hc,if_false,Bool.false_eq_true]
   exact ⟨h'.2,by simp⟩
theorem Bv {E:Nat->jL} {T:Nat->nI} (hE:∀ i,i < l.length->rP l.length i (E i)) (hT:∀ i,i < l.length->wV l.length i (T i)) (i:Nat) (hi:i < l.length):rP l.length i (jf E T l i):=by
 unfold jf
 split
 ·next hb =>
  have h1:=MG hl hb
  have hs:i < i+1/\i+1 < l.length:=⟨by omega,h1⟩
  split
  ·exact ⟨hi,by simp⟩
  ·split
   ·exact hs
   split
   ·exact hs
   split
   ·exact hs
   split
   ·have h2:=hE (i+1) h1
    unfold VQ
    split
    ·next e he=>rw [he] at h2;exact h2
    ·next h qs x j he =>
     rw [he] at h2
     have h3:i+1 < j/\j < l.length:=h2
     split
     ·next hc =>
      have h4:=dI hl hc (by decide)
      exact (VR hl (i:=j+1) _ (hT (j+1) h4)).le (by omega)
     ·exact (RD hl (i:=j) _ (MH hl hE 8 _ j h3.2)).le (by omega)
   ·exact hs
 ·exact ⟨hi,by simp⟩
theorem MI {E:Nat->jL} {T:Nat->nI} (hE:∀ i,i < l.length->rP l.length i (E i)) (hT:∀ i,i < l.length->wV l.length i (T i)):∀ (n:Nat) (t:Nd × To) (x:Pt) (i:Nat),i < l.length->Rz l.length i (fun r:(Nd × To) × Pt × Nat=>r.2.2) (wS E T l n t x i)
 | 0,t,x,i,hi=>⟨Nat.le_refl _,hi⟩
 | n+1,t,x,i,hi=>by
  unfold wS
  split
  ·have h2:=Bv hl hE hT i hi
   split
   ·next e he=>rw [he] at h2;exact h2
   ·next t2 x2 j he =>
    rw [he] at h2
    have h3:i < j/\j < l.length:=h2
    exact (MI hE hT n _ _ j h3.2).le (by omega)
  ·exact ⟨Nat.le_refl _,hi⟩
theorem RF {E:Nat->jL} (hE:∀ i,i < l.length->rP l.length i (E i)) (m:Fm) (hi:m.i < l.length) (s:Stp):In l.length m.i (fun r:Fm=>r.i) (oD E l m s):=by
 cases s with
 | e =>
  have h2:=hE m.i hi
  unfold oD
  simp only
  split
  ·next e he=>rw [he] at h2;exact h2
  ·next h qs x j he=>rw [he] at h2;exact h2
 | n =>
  unfold oD
  simp only
  split
  ·next h=>have:=Ib hl h;show m.i < m.i+1/\m.i+1 < l.length;omega
  ·exact ⟨hi,by simp⟩
 | s t =>
  unfold oD
  simp only
  split
  ·next h =>
   have:m.i+1 < l.length:=by
    rcases Bool.or_eq_true_iff.1 h with h | h
    ·exact dI hl h (by decide)
    ·exact dI hl h (by decide)
   show m.i < m.i+1/\m.i+1 < l.length;omega
  ·exact ⟨hi,by simp⟩
theorem Ew {E:Nat->jL} (hE:∀ i,i < l.length->rP l.length i (E i)):∀ (ss:List Stp) (m:Fm),m.i < l.length->Rz l.length m.i (fun r:Fm=>r.i) (oG E l ss m)
 | [],m,hi=>⟨Nat.le_refl _,hi⟩
 | s::r,m,hi=>by
  have h2:=RF hl hE m hi s
  unfold oG
  split
  ·next e he=>rw [he] at h2;exact h2
  ·next m' he =>
   rw [he] at h2
   have h3:m.i < m'.i/\m'.i < l.length:=h2
   exact (Ew hE r m' h3.2).le (by omega)
theorem yH:∀ (f i:Nat),i < l.length->rP l.length i (Dz l f i)
 | 0,i,hi=>⟨hi,by simp⟩
 | f+1,i,hi=>by
  have ih:=fun i hi=>yH f i hi
  have iT:=fun i hi=>Bq hl (f - 1) i hi
  unfold Dz
  split
  ·next h =>
   have h1:i+1 < l.length:=by
    rcases Bool.or_eq_true_iff.1 h with h | h
    ·rcases Bool.or_eq_true_iff.1 h with h | h
     ·exact dI hl h (by decide)
     ·exact dI hl h (by decide)
    ·exact dI hl h (by decide)
   have h2:i < mX l i/\mX l i < l.length:=by
    unfold mX
    split
    ·next hr=>have:=dI hl (Bool.and_eq_true_iff.1 hr).2 (by decide);omega
    ·omega
   have h3:=Ew hl ih (nK l i) ⟨[],.nil,(0,0),mX l i⟩ h2.2
   unfold wU Rx
   split
   ·next e he=>rw [he] at h3;exact h3
   ·next m he =>
    rw [he] at h3
    have h4:mX l i<=m.i/\m.i < l.length:=h3
    show i < m.i/\m.i < l.length;omega
  ·have h2:=Bv hl ih iT i hi
   unfold goQ
   split
   ·next e he=>rw [he] at h2;exact h2
   ·next t x j he =>
    rw [he] at h2
    have h3:i < j/\j < l.length:=h2
    exact (MI hl ih iT _ _ _ j h3.2).less (by omega)
end
end Pa
end
section
namespace Pa
open Lx
theorem OC {l:List UInt8} (h:(nextL l).2.2=0):(nextL l).1≠0:=by
 unfold nextL at h ⊢
 cases l with
 | nil=>simp at h
 | cons c r =>
  simp only at h ⊢
  split
  ·next h1 =>
   rw [if_pos h1] at h
   split
   ·simp
   ·next h2 =>
    rw [if_neg h2] at h
    split
    ·next h3=>rw [if_pos h3] at h;simp at h
    ·simp
  ·next h1 =>
   rw [if_neg h1] at h
   split
   ·next h2 =>
    rw [if_pos h2] at h
    split
    ·next h3=>rw [if_pos h3] at h;simp at h
    ·next h3 =>
     rw [if_neg h3] at h
     split
     ·next h4=>rw [if_pos h4] at h;simp at h
     ·simp
   ·next h2 =>
    rw [if_neg h2] at h
    split
    ·simp
    ·next h3 =>
     rw [if_neg h3] at h
     split
     ·simp
     ·next h4=>rw [if_neg h4] at h;simp at h
theorem sU:∀ (f a:Nat) (l:List UInt8) (ts:List Tok),iG f a l=.inl ts->∃ us n,ts=us++[lg n]/\∀ t∈us,t.kind≠0
 | 0,a,l,ts,h=>by
  unfold iG at h
  cases h
  exact ⟨[],_,rfl,by simp⟩
 | f+1,a,l,ts,h=>by
  unfold iG at h
  simp only at h
  split at h
  ·cases h;exact ⟨[],_,rfl,by simp⟩
  ·split at h
   ·cases h
   ·next hn =>
    have hk:=OC (Decidable.not_not.1 hn)
    split at h
    ·next ts' he =>
     obtain ⟨us,n,rfl,hu⟩:=sU f _ _ _ he
     cases h
     refine ⟨_::us,n,rfl,fun t ht=>?_⟩
     rcases List.mem_cons.1 ht with e | e
     ·subst e;exact hk
     ·exact hu t e
    ·cases h
theorem vT {l:List UInt8} {ts:List Tok} (h:jY l=.inl ts):Shut ts/\0 < ts.length:=by
 obtain ⟨us,n,rfl,hu⟩:=sU _ _ _ _ h
 refine ⟨fun i t hi hk=>?_,by simp⟩
 rw [List.length_append,List.length_singleton]
 rcases Nat.lt_or_ge i us.length with h1 | h1
 ·omega
 ·rw [List.getElem?_append_right h1] at hi
  have h2:=(List.getElem?_eq_some_iff.1 hi).1
  simp at h2
  have h3:i - us.length=0:=by omega
  rw [h3] at hi
  simp at hi
  subst hi
  exact absurd rfl hk
theorem Bz:∀ (f a:Nat) (l:List UInt8) (x:Nat × Nat),iG f a l=.inr x->x.2≠0
 | 0,a,l,x,h=>by unfold iG at h;cases h
 | f+1,a,l,x,h=>by
  unfold iG at h
  simp only at h
  split at h
  ·cases h
  ·split at h
   ·next hn=>cases h;exact hn
   ·split at h
    ·cases h
    ·next e he=>cases h;exact Bz f _ _ _ he
def Ic (s:List UInt8) (f:Nat):Sum (Nd × To) (Pt × Nat) :=
 match jY s with
 | .inr (a,e)=>.inr (((a:Int),(a:Int)+1),e)
 | .inl ts =>
  match oH ts f with
  | .inl (t,_,_)=>.inl t
  | .inr (i,e)=>.inr (at' ts i,e)
theorem OD {l:List Tok} (hl:Shut l) (h0:0 < l.length) (f:Nat):∀ i e,oH l f=.inr (i,e)->i < l.length/\e≠0:=by
 intro i e h
 have h1:=yH hl f 0 h0
 unfold oH at h
 split at h
 ·next x he=>cases h;rw [he] at h1;exact h1
 ·next t x j he =>
  rw [he] at h1
  have h2:0 < j/\j < l.length:=h1
  split at h
  ·cases h
  ·cases h;exact ⟨h2.2,by simp⟩
end Pa
end
section
namespace Lx
open Go.RowKit
theorem VT (l:List UInt8):aQ true l=bU mO l+aQ false (l.drop (bU mO l)):=by
 induction l with
 | nil=>rfl
 | cons c r ih =>
  by_cases h:(c == 10)=true
  ·have hb:kZ c=true:=by unfold kZ;rw [h];simp
   simp [aQ,bU,mO,h,hb]
  ·have h':(c == 10)=false:=by simpa using h
   have hn:mO c=true:=by unfold mO;rw [h'];rfl
   simp only [aQ,bU,h',hn,if_true,Bool.false_eq_true,if_false,List.drop_succ_cons]
   rw [ih];omega
theorem OE {c:UInt8} {r:List UInt8} (hb:kZ c=false) (h:(c == 35)=true):aQ false (c::r)=bU mO (c::r)+aQ false ((c::r).drop (bU mO (c::r))):=by
 have hc:c=35:=by simpa using h
 subst hc
 have:=VT ((35:UInt8)::r)
 rw [<-this]
 simp [aQ,kZ]
theorem BA {c:UInt8} {r:List UInt8} (hb:kZ c=true):aQ false (c::r)=1+aQ false r:=by simp [aQ,hb];omega
theorem Ey {c:UInt8} {r:List UInt8} (hb:kZ c=false) (h:(c == 35)=false):aQ false (c::r)=0:=by simp [aQ,hb,h]
theorem VU (x:UInt8):((x.toNat:Int) == 35)=(x == 35):=by
 rw [show (35:UInt8)=UInt8.ofNat 35 from rfl,qR _ _ (by omega),Bool.eq_iff_iff];simp;omega
theorem OG {c:UInt8} {r:List UInt8} (h:(c == 35)=true):0 < bU mO (c::r):=by
 have hc:c=35:=by simpa using h
 subst hc
 exact qA (by decide)
def Yz (l:List UInt8):Nat × Nat × Nat :=
 if (decide (1 < bU dJ l) && eU (fun c=>c == 48) l) || eU bg (l.drop (bU dJ l)) then (0,0,3) else if 9 < bU dJ l then (0,0,2) else (2,bU dJ l,0)
theorem VW (x:UInt8):((x.toNat:Int) == 48)=(x == 48):=by
 rw [show (48:UInt8)=UInt8.ofNat 48 from rfl,qR _ _ (by omega),Bool.eq_iff_iff];simp;omega
end Lx
end
section
namespace Lx
open Go.RowKit
theorem BD (x:UInt8) (r:List UInt8):Lib.hasPrefix (x::r) [45,62]=(x == 45 && eU (fun d=>d == 62) r):=by
 unfold Lib.hasPrefix
 cases r with
 | nil=>cases h:(x == 45)<;>simp [List.isPrefixOf,eU]
 | cons d r=>simp only [List.isPrefixOf,eU,Bool.and_true];rw [Bool.eq_iff_iff];simp;constructor<;>(rintro ⟨h1,h2⟩;exact ⟨h1.symm,h2.symm⟩)
theorem Kw {x:UInt8} {r:List UInt8} (h:dU x=true):nextL (x::r)=if JI ((x::r).take (bU bg (x::r))) then (3,bU bg (x::r),0) else if 20 < bU bg (x::r) then (0,0,2) else (1,bU bg (x::r),0):=by simp [nextL,h]
theorem Ky {x:UInt8} {r:List UInt8} (h1:dU x=false) (h:dJ x=true):nextL (x::r)=Yz (x::r):=by simp [nextL,Yz,eU,h1,h]
theorem OH {x:UInt8} {r:List UInt8} (h1:dU x=false) (h2:dJ x=false) (h:uY x=true):nextL (x::r)=(4,1,0):=by simp [nextL,h1,h2,h]
theorem BF {x:UInt8} {r:List UInt8} (h1:dU x=false) (h2:dJ x=false) (h3:uY x=false):nextL (x::r)=if Lib.hasPrefix (x::r) [45,62] then (4,2,0) else (0,0,3):=by simp [nextL,h1,h2,h3,BD]
end Lx
end
section
namespace Lx
open Go.RowKit
def mY (t:Tok):List Value:=[.int .i64 (t.kind:Nat),.string (bW t.text),.int .i64 (t.fr:Nat),.int .i64 (t.to:Nat)]
def jR (ts:List Tok):List Value:=ts.flatMap mY
theorem DR (ts:List Tok) (t:Tok):jR (ts++[t])=jR ts++mY t:=by simp [jR]
def oI (w:World) (B:Nat) (v:Value) (ts:List Tok):Prop:=w.ownsRow 0 94 4 v ts.length (jR ts)/\∀ k,v.ownBlock=some k->B<=k
def nY (l:List UInt8) (w:World) (e:Ending) (w':World):Prop :=
 ah w w'/\match jY l with
  | .inl ts=>∃ g c,e=.returned (.tuple #[.slice (some ⟨g,0,none⟩) ts.length c,.int .i64 0,.int .i64 0])/\oI w' w.heap.size (.slice (some ⟨g,0,none⟩) ts.length c) ts
  | .inr p=>e=.returned (.tuple #[.slice none 0 0,.int .i64 (p.1:Nat),.int .i64 (p.2:Nat)])
theorem MJ:Elem Tryz.prog 88 94 (.agg #[.int .i64 0,.string ⟨#[]⟩,.int .i64 0,.int .i64 0]) 4 40 :=
 ⟨Tryz.underlying88,by kernel_rfl,by decide,by decide⟩
theorem BG {w W w1 : World} {B : Nat} {v : Value} {acc : List Tok} {t : Tok} {g c : Nat} (hq : ah w W) (hB : B = w.heap.size) (hr : oI W B v acc)
    (ho:w1.ownsRow 0 94 4 (.slice (some ⟨g,0,none⟩) (acc.length+1) c) (acc.length+1) (jR acc++mY t)) (hf:Fr (fun k=>v.ownBlock=some k) W w1) (hg:v.ownBlock=some g∨W.heap.size<=g) :
    oI w1 B (.slice (some ⟨g,0,none⟩) (acc++[t]).length c) (acc++[t])/\ah w w1:=by
 subst hB
 refine ⟨⟨by rw [DR];simpa using ho,?_⟩,?_⟩
 ·intro k hk
  simp [Value.ownBlock] at hk
  subst hk
  rcases hg with h | h
  ·exact hr.2 g h
  ·exact Nat.le_trans hq.size h
 ·exact Fr.trans' hq hf (fun i hi h=>absurd (hr.2 i h) (by omega))
end Lx
end
section
namespace Lx
open Go.RowKit
def Ie (w:World) (g:Nat) (ts:List Tok):Prop:=∀ i t,ts[i]?=some t->w.cell? ⟨g,i * 4,none⟩=some (.int .i64 (t.kind:Nat))/\w.cell? ⟨g,i * 4+1,none⟩=some (.string (bW t.text))/\w.cell? ⟨g,i * 4+2,none⟩=some (.int .i64 (t.fr:Nat))/\w.cell? ⟨g,i * 4+3,none⟩=some (.int .i64 (t.to:Nat))
theorem zH:∀ (ts:List Tok) (i j:Nat) (t:Tok),ts[i]?=some t->j < 4->(jR ts)[i * 4+j]?=(mY t)[j]?
 | [],i,j,t,h,_=>by simp at h
 | a::ts,0,j,t,h,hj=>by
  simp at h
  subst h
  simp only [jR,List.flatMap_cons,Nat.zero_mul,Nat.zero_add]
  exact List.getElem?_append_left (by simp [mY];omega)
 | a::ts,i+1,j,t,h,hj=>by
  have ih:=zH ts i j t (by simpa using h) hj
  simp only [jR,List.flatMap_cons] at ih ⊢
  rw [List.getElem?_append_right (by simp [mY];omega),<-ih]
  congr 1
  simp [mY];omega
theorem oI.at {w:World} {B:Nat} {g n c:Nat} {ts:List Tok} (h:oI w B (.slice (some ⟨g,0,none⟩) n c) ts):Ie w g ts:=by
 intro i t hi
 have key:∀ j u,j < 4->(mY t)[j]?=some u->w.cell? ⟨g,i * 4+j,none⟩=some u:=by
  intro j u hj hu
  have h1:=zH ts i j t hi hj
  have h2:=h.1.cells (g:=g) rfl (i * 4+j) u (by rw [h1,hu])
  simpa [Addr.add_lit] using h2
 exact ⟨by simpa using key 0 _ (by omega) rfl,key 1 _ (by omega) rfl,key 2 _ (by omega) rfl,key 3 _ (by omega) rfl⟩
theorem oI.lt {w:World} {B:Nat} {g n c:Nat} {ts:List Tok} (h:oI w B (.slice (some ⟨g,0,none⟩) n c) ts):B<=g/\g < w.heap.size:=⟨h.2 g rfl,(World.ownsRow.lt h.1 g rfl).2⟩
theorem Ie.stay {w w':World} {g:Nat} {ts:List Tok} (h:Ie w g ts) (hg:g < w.heap.size) (hq:ah w w'):Ie w' g ts:=by
 intro i t hi
 obtain ⟨h1,h2,h3,h4⟩:=h i t hi
 exact ⟨(hq.bG hg (fun h=>h)).trans h1,(hq.bG hg (fun h=>h)).trans h2,(hq.bG hg (fun h=>h)).trans h3,(hq.bG hg (fun h=>h)).trans h4⟩
end Lx
end
section
namespace Pa
open Go.RowKit Lx
structure ny (w:World) (g:Nat) (ts:List Tok):Prop where
 cells:Ie w g ts
 lt:g < w.heap.size
 few:ts.length<=1000000
theorem ny.stay {w w':World} {g:Nat} {ts:List Tok} (h:ny w g ts) (hq:ah w w'):ny w' g ts :=
 ⟨h.cells.stay h.lt hq,Nat.lt_of_lt_of_le h.lt hq.size,h.few⟩
abbrev tks (g:Nat) (ts:List Tok) (c:Nat):Value:=.slice (some ⟨g,0,none⟩) ts.length c
theorem ba_eq (a:List UInt8) (s:ByteArray):((bW a).toList == s.toList)=(a == s.data.toList):=by
 rw [ByteArray.toList_eq,ByteArray.toList_eq];rfl
theorem RG {ts:List Tok} {i k:Nat} {s:List UInt8} (h:¬ i < ts.length):bY ts i k s=false:=by
 unfold bY;rw [List.getElem?_eq_none (by omega)]
theorem sV {ts:List Tok} {i k:Nat} {s:List UInt8} {t:Tok} (h:ts[i]?=some t):bY ts i k s=(t.kind == k && t.text == s):=by
 unfold bY;rw [h]
theorem kind_eq (a k:Nat):((a:Int) == (k:Int))=(a == k):=by
 rw [Bool.eq_iff_iff,beq_iff_eq,beq_iff_eq];omega
theorem Kz (ts : List Tok) (g c i k : Nat) (s : ByteArray) (w : World) (h : ny w g ts) :
    Calls Tryz.prog 119 #[tks g ts c,.int .i64 i,.int .i64 k,.string s] w fun e w'=>e=.returned (.bool (bY ts i k s.data.toList))/\w=w':=by
 have hfew:=h.few
 by_cases hi:i < ts.length
 ·obtain ⟨t,ht⟩:∃ t,ts[i]?=some t:=⟨_,List.getElem?_eq_getElem hi⟩
  obtain ⟨a0,a1,_,_⟩:=h.cells i t ht
  rw [sV ht]
  have hi':(i:Int) < ts.length:=by omega
  have h0:(0:Int)<=i:=by omega
  have e1:=kind_eq t.kind k
  have e2:=ba_eq t.text s
  clear h ht
  cases hk:(t.kind == k)
  ·rw [hk] at e1
   go_enter Tryz.func119,Tryz.ntmps119
   go_wp2_with fail
   go_ret
   exact ⟨rfl,rfl⟩
  ·rw [hk] at e1
   rw [Bool.true_and]
   cases hs:(t.text == s.data.toList)
   ·rw [hs] at e2
    go_enter Tryz.func119,Tryz.ntmps119
    go_wp2_with fail
    go_ret
    exact ⟨rfl,rfl⟩
   ·rw [hs] at e2
    go_enter Tryz.func119,Tryz.ntmps119
    go_wp2_with fail
    go_ret
    exact ⟨rfl,rfl⟩
 ·have hi':¬ (i:Int) < ts.length:=by omega
  have h0:(0:Int)<=i:=by omega
  rw [RG hi]
  clear h
  go_enter Tryz.func119,Tryz.ntmps119
  go_wp2_with fail
  go_ret
  exact ⟨rfl,rfl⟩
theorem lC (ts : List Tok) (g c i : Nat) (s : ByteArray) (w : World) (h : ny w g ts) :
    Calls Tryz.prog 101 #[tks g ts c,.int .i64 i,.string s] w fun e w'=>e=.returned (.bool (bY ts i 3 s.data.toList))/\w=w':=by
 have HC:=hid (Kz ts g c i 3 s w h)
 clear h
 generalize bY ts i 3 s.data.toList=r at *
 go_enter Tryz.func101,Tryz.ntmps101
 go_wp2_with fail
 refine HC.out.mono ?_;rintro e w1 ⟨rfl,rfl⟩
 go_wp2_with fail
 go_ret
 exact ⟨rfl,rfl⟩
theorem BH (ts : List Tok) (g c i : Nat) (s : ByteArray) (w : World) (h : ny w g ts) :
    Calls Tryz.prog 121 #[tks g ts c,.int .i64 i,.string s] w fun e w'=>e=.returned (.bool (bY ts i 4 s.data.toList))/\w=w':=by
 have HC:=hid (Kz ts g c i 4 s w h)
 clear h
 generalize bY ts i 4 s.data.toList=r at *
 go_enter Tryz.func121,Tryz.ntmps121
 go_wp2_with fail
 refine HC.out.mono ?_;rintro e w1 ⟨rfl,rfl⟩
 go_wp2_with fail
 go_ret
 exact ⟨rfl,rfl⟩
theorem OI (ts : List Tok) (g c i : Nat) (w : World) (h : ny w g ts) :
    Calls Tryz.prog 120 #[tks g ts c,.int .i64 i] w fun e w'=>e=.returned (.bool (rM ts i))/\w=w':=by
 have hfew:=h.few
 by_cases hi:i < ts.length
 ·obtain ⟨t,ht⟩:∃ t,ts[i]?=some t:=⟨_,List.getElem?_eq_getElem hi⟩
  obtain ⟨a0,a1,_,_⟩:=h.cells i t ht
  have hi':(i:Int) < ts.length:=by omega
  have h0:(0:Int)<=i:=by omega
  have e1:=kind_eq t.kind 1
  have e:rM ts i=(t.kind == 1):=by unfold rM;rw [ht]
  rw [e]
  clear h ht e a1
  cases hk:(t.kind == 1)
  ·rw [hk] at e1
   have e1':((t.kind:Int) == 1)=false:=e1
   clear e1
   go_enter Tryz.func120,Tryz.ntmps120
   go_wp2_with fail
   go_ret
   exact ⟨rfl,rfl⟩
  ·rw [hk] at e1
   have e1':((t.kind:Int) == 1)=true:=e1
   clear e1
   go_enter Tryz.func120,Tryz.ntmps120
   go_wp2_with fail
   go_ret
   exact ⟨rfl,rfl⟩
 ·have hi':¬ (i:Int) < ts.length:=by omega
  have e:rM ts i=false:=by unfold rM;rw [List.getElem?_eq_none (by omega)]
  rw [e]
  clear h e
  go_enter Tryz.func120,Tryz.ntmps120
  go_wp2_with fail
  go_ret
  exact ⟨rfl,rfl⟩
theorem RH {ts:List Tok} {i:Nat} {t:Tok} (h:ts[i]?=some t):nR ts i=(t.kind == 1 || t.kind == 2 || bY ts i 3 vw || bY ts i 3 Bh || bY ts i 4 nJ):=by
 unfold nR;rw [h,sV h,sV h,sV h]
theorem kD (ts : List Tok) (g c i : Nat) (w : World) (h : ny w g ts) :
    Calls Tryz.prog 104 #[tks g ts c,.int .i64 i] w fun e w'=>e=.returned (.bool (nR ts i))/\w=w':=by
 have hfew:=h.few
 by_cases hi:i < ts.length
 ·obtain ⟨t,ht⟩:∃ t,ts[i]?=some t:=⟨_,List.getElem?_eq_getElem hi⟩
  obtain ⟨a0,a1,_,_⟩:=h.cells i t ht
  have hi':(i:Int) < ts.length:=by omega
  have h0:(0:Int)<=i:=by omega
  have e1:=kind_eq t.kind 1
  have e2:=kind_eq t.kind 2
  rw [RH ht]
  have H1:Hid (Calls Tryz.prog 101 #[tks g ts c,.int .i64 i,.string ⟨#[116,114,117,101]⟩] w fun e w'=>e=.returned (.bool (bY ts i 3 vw))/\w=w'):=lC ts g c i _ w h
  have H2:Hid (Calls Tryz.prog 101 #[tks g ts c,.int .i64 i,.string ⟨#[102,97,108,115,101]⟩] w fun e w'=>e=.returned (.bool (bY ts i 3 Bh))/\w=w'):=lC ts g c i _ w h
  have H3:Hid (Calls Tryz.prog 121 #[tks g ts c,.int .i64 i,.string ⟨#[40]⟩] w fun e w'=>e=.returned (.bool (bY ts i 4 nJ))/\w=w'):=BH ts g c i _ w h
  clear h ht a1
  generalize bY ts i 3 vw=r1 at *
  generalize bY ts i 3 Bh=r2 at *
  generalize bY ts i 4 nJ=r3 at *
  cases hk:(t.kind == 1)
  ·cases hk2:(t.kind == 2)
   ·rw [hk] at e1;rw [hk2] at e2
    have e1':((t.kind:Int) == 1)=false:=e1
    have e2':((t.kind:Int) == 2)=false:=e2
    clear e1 e2
    go_enter Tryz.func104,Tryz.ntmps104
    go_wp2_with fail
    refine H1.out.mono ?_;rintro e w1 ⟨rfl,rfl⟩
    cases r1
    ·go_wp2_with fail
     refine H2.out.mono ?_;rintro e w1 ⟨rfl,rfl⟩
     cases r2
     ·go_wp2_with fail
      refine H3.out.mono ?_;rintro e w1 ⟨rfl,rfl⟩
      go_wp2_with fail
      go_ret
      exact ⟨rfl,rfl⟩
     ·go_wp2_with fail
      go_ret
      exact ⟨rfl,rfl⟩
    ·go_wp2_with fail
     go_ret
     exact ⟨rfl,rfl⟩
   ·rw [hk] at e1;rw [hk2] at e2
    have e1':((t.kind:Int) == 1)=false:=e1
    have e2':((t.kind:Int) == 2)=true:=e2
    clear e1 e2
    go_enter Tryz.func104,Tryz.ntmps104
    go_wp2_with fail
    go_ret
    exact ⟨rfl,rfl⟩
  ·rw [hk] at e1
   have e1':((t.kind:Int) == 1)=true:=e1
   clear e1 e2
   go_enter Tryz.func104,Tryz.ntmps104
   go_wp2_with fail
   go_ret
   exact ⟨rfl,rfl⟩
 ·have hi':¬ (i:Int) < ts.length:=by omega
  have e:nR ts i=false:=by unfold nR;rw [List.getElem?_eq_none (by omega)]
  rw [e]
  clear h e
  go_enter Tryz.func104,Tryz.ntmps104
  go_wp2_with fail
  go_ret
  exact ⟨rfl,rfl⟩
end Pa
end
end Go.Proofs.YtcninopmelmajaaGreatDoor
