/-
  Texts laid together (TyPlain, TePlain, CnPlain, ScPlain, CnUsPlain, Mem, Mem2, Quiet, TyMem, TyRef, CnRUs0, TyIn): laws and walks, with their conditions.
-/
import Derived.WalkKit
import Derived.WalkSpells
import Derived.WalkLawsBesides
import Derived.Lib.Hide
import Derived.StillTailTactics
import Derived.BigQuiet
import Derived.Test.YtcninopmelmajaaGreatDoorProg
set_option maxHeartbeats 8000000
set_option maxRecDepth 1000000
namespace Go.Proofs.YtcninopmelmajaaGreatDoor
open Go.Lib (hid)
section
inductive Fo where
 | nil:Fo
 | cons (k n:Int) (ps:Fo) (rest:Fo):Fo
def inB (l:List Int) (v:Int):Bool:=l.contains v
theorem Iq (a:Int) (l:List Int) (v:Int):inB (a::l) v=(v == a || inB l v):=by unfold inB;rw [List.contains_cons]
namespace Fo
def length:Fo->Nat
 | nil=>0
 | cons _ _ _ r=>r.length+1
def drop:Fo->Nat->Fo
 | f,0=>f
 | nil,_+1=>nil
 | cons _ _ _ r,i+1=>r.drop i
def get:Fo->Nat->Option (Int × Int × Fo)
 | nil,_=>none
 | cons k n ps _,0=>some (k,n,ps)
 | cons _ _ _ r,i+1=>r.get i
def app:Fo->Fo->Fo
 | nil,g=>g
 | cons k n ps r,g=>cons k n ps (r.app g)
def size:Fo->Nat
 | nil=>0
 | cons _ _ ps r=>ps.size+1+r.size
def depth:Fo->Nat
 | nil=>0
 | cons _ _ ps r=>max (ps.depth+1) r.depth
def same:Fo->Fo->Bool
 | nil,nil=>true
 | cons k n ps r,cons k' n' ps' r'=>(k == k') && (n == n') && ps.same ps' && r.same r'
 | _,_=>false
def vars:List Int->Fo->List Int
 | l,nil=>l
 | l,cons k n ps r=>vars (vars (if k == 1 && !inB l n then l++[n] else l) ps) r
def plain (k n:Int) (m:Nat):Bool :=
 if k == 1 then decide (0<=n) && decide (n < 1073741824) && decide (m=0)
 else if k == 2 || k == 3 then n == 0 && decide (m=0)
 else if k == 4 then n == 0 && decide (m=2)
 else if k == 5 then n == 0 && decide (2<=m) && decide (m<=8)
 else false
def right:Fo->Bool
 | nil=>true
 | cons k n ps r=>plain k n ps.length && ps.right && r.right
def change (p:Int->Int):Fo->Fo
 | nil=>nil
 | cons k n ps r=>cons k (if k == 1 then p n else n) (ps.change p) (r.change p)
theorem drop_zero (f:Fo):f.drop 0=f:=by cases f<;>rfl
theorem tJ:∀ (f:Fo) (i:Nat),i < f.length->∃ k n ps,f.drop i=cons k n ps (f.drop (i+1))/\f.get i=some (k,n,ps)
 | nil,i,h=>by simp [length] at h
 | cons k n ps r,0,_=>⟨k,n,ps,by simp [drop,drop_zero],rfl⟩
 | cons k n ps r,i+1,h=>by
  obtain ⟨k',n',ps',h1,h2⟩:=tJ r i (by simp [length] at h;omega)
  exact ⟨k',n',ps',by simp only [drop];rw [h1],h2⟩
theorem drop_end:∀ (f:Fo) (i:Nat),f.length<=i->f.drop i=nil
 | nil,0,_=>rfl
 | nil,i+1,_=>rfl
 | cons k n ps r,0,h=>by simp [length] at h
 | cons k n ps r,i+1,h=>drop_end r i (by simp [length] at h;omega)
theorem BU:∀ (f:Fo) (i:Nat) (t:Int × Int × Fo),f.get i=some t->i < f.length
 | nil,i,t,h=>by simp [get] at h
 | cons k n ps r,0,t,_=>by simp [length]
 | cons k n ps r,i+1,t,h=>by have:=BU r i t h;simp [length];omega
theorem length_le:∀ f:Fo,f.length<=f.size
 | nil=>Nat.le_refl _
 | cons k n ps r=>by have:=length_le r;simp only [length,size];omega
theorem size_drop:∀ (f:Fo) (i:Nat),(f.drop i).size<=f.size
 | f,0=>by rw [drop_zero];exact Nat.le_refl _
 | nil,i+1=>Nat.le_refl _
 | cons k n ps r,i+1=>by have:=size_drop r i;simp only [drop,size];omega
theorem bV (f:Fo) (i:Nat) (k n:Int) (ps:Fo) (h:f.get i=some (k,n,ps)):ps.size+1<=f.size:=by
 obtain ⟨k',n',ps',h1,h2⟩:=tJ f i (BU _ _ _ h)
 rw [h] at h2
 cases h2
 have:=size_drop f i
 rw [h1] at this
 simp only [size] at this
 omega
theorem same_eq:∀ f g:Fo,f.same g=true->f=g
 | nil,nil,_=>rfl
 | nil,cons _ _ _ _,h=>by simp [same] at h
 | cons _ _ _ _,nil,h=>by simp [same] at h
 | cons k n ps r,cons k' n' ps' r',h=>by
  simp [same] at h
  obtain ⟨⟨⟨rfl,rfl⟩,h3⟩,h4⟩:=h
  rw [same_eq ps ps' h3,same_eq r r' h4]
theorem same_length:∀ f g:Fo,f.same g=true->f.length=g.length:=fun f g h=>by rw [same_eq f g h]
theorem yM:∀ f:Fo,f.change (fun n=>n)=f
 | nil=>rfl
 | cons k n ps r=>by simp [change,yM r,yM ps]
theorem qW:∀ f:Fo,f.app nil=f
 | nil=>rfl
 | cons k n ps r=>by simp [app,qW r]
theorem lY:∀ f g h:Fo,(f.app g).app h=f.app (g.app h)
 | nil,_,_=>rfl
 | cons k n ps r,g,h=>by simp [app,lY r g h]
theorem bP:∀ f g:Fo,(f.app g).length=f.length+g.length
 | nil,g=>by simp [app,length]
 | cons k n ps r,g=>by simp [app,length,bP r g];omega
theorem ind {T:Int->Int->Fo->Prop} (step:∀ k n ps,(∀ i k' n' qs,ps.get i=some (k',n',qs)->T k' n' qs)->T k n ps):∀ (f:Fo) (i:Nat) (k n:Int) (ps:Fo),f.get i=some (k,n,ps)->T k n ps
 | nil,i,k,n,ps,h=>by simp [get] at h
 | cons k n ps r,0,k',n',qs,h=>by
  simp [get] at h
  obtain ⟨rfl,rfl,rfl⟩:=h
  exact step k n ps (ind step ps)
 | cons k n ps r,i+1,k',n',qs,h=>ind step r i k' n' qs h
theorem qE {T:Int->Int->Fo->Prop} (step:∀ k n ps,(∀ i k' n' qs,ps.get i=some (k',n',qs)->T k' n' qs)->T k n ps) (k n:Int) (ps:Fo):T k n ps :=
 step k n ps (fun i k' n' qs h=>ind step ps i k' n' qs h)
def room:Nat->Int->Fo->Int
 | _,m,nil=>m
 | d, m, cons _ _ ps r => if m < 0 then m else
     match d with
     | 0=>room 0 (-1) r
     | d+1=>room (d+1) (room d (m - 1) ps) r
theorem fD:∀ (f:Fo) (d:Nat) (m:Int),m < 0->room d m f=m
 | nil,_,_,_=>by unfold room;rfl
 | cons k n ps r,d,m,h=>by unfold room;rw [if_pos h]
theorem room_le:∀ (f:Fo) (d:Nat) (m:Int),0<=m->room d m f<=m/\-1<=room d m f
 | nil,_,_,_=>by unfold room;omega
 | cons k n ps r,d,m,h=>by
  unfold room
  rw [if_neg (by omega)]
  cases d with
  | zero=>simp only;rw [fD r 0 (-1) (by omega)];omega
  | succ d =>
   simp only
   by_cases hm:0<=m - 1
   ·have h1:=room_le ps d (m - 1) hm
    by_cases h0:0<=room d (m - 1) ps
    ·have h2:=room_le r (d+1) _ h0;omega
    ·rw [fD r _ _ (by omega)];omega
   ·rw [fD ps _ _ (by omega),fD r _ _ (by omega)];omega
theorem yN:∀ (f:Fo) (d:Nat) (m:Int),0<=room d m f->room d m f=m - f.size/\0<=m
 | nil,_,m,h=>by unfold room at h ⊢;simp [size];exact h
 | cons k n ps r,d,m,h=>by
  unfold room at h ⊢
  by_cases hm:m < 0
  ·rw [if_pos hm] at h;omega
  ·rw [if_neg hm] at h ⊢
   cases d with
   | zero=>simp only at h;rw [fD r 0 (-1) (by omega)] at h;omega
   | succ d =>
    simp only at h ⊢
    obtain ⟨h1,h2⟩:=yN r (d+1) _ h
    obtain ⟨h3,h4⟩:=yN ps d (m - 1) h2
    rw [h1,h3]
    simp only [size];omega
end Fo
def Ir (G:Int->Prop):Fo->Prop
 | .nil=>True
 | .cons _ n ps r=>G n/\Ir G ps/\Ir G r
theorem mZ {G:Int->Prop}:∀ (f:Fo) (i:Nat) (k n:Int) (ps:Fo),Ir G f->f.get i=some (k,n,ps)->G n/\Ir G ps
 | .nil,i,k,n,ps,_,h=>by simp [Fo.get] at h
 | .cons k n ps r,0,k',n',ps',hw,h=>by
  simp [Fo.get] at h
  obtain ⟨rfl,rfl,rfl⟩:=h
  exact ⟨hw.1,hw.2.1⟩
 | .cons k n ps r,i+1,k',n',ps',hw,h=>mZ r i k' n' ps' hw.2.2 h
theorem yO {G:Int->Prop} (h:∀ n,G n):∀ f:Fo,Ir G f
 | .nil=>trivial
 | .cons _ n ps r=>⟨h n,yO h ps,yO h r⟩
end
section
structure Nd where
 k:Int
 nm:ByteArray
 n:Int
 tk:Int
 tn:Int
 tp:Fo
 fr:Int
 en:Int
inductive To where
 | nil:To
 | cons (h:Nd) (ps:To) (rest:To)
namespace To
def length:To->Nat
 | nil=>0
 | cons _ _ r=>r.length+1
def drop:To->Nat->To
 | f,0=>f
 | nil,_+1=>nil
 | cons _ _ r,i+1=>r.drop i
def get:To->Nat->Option (Nd × To)
 | nil,_=>none
 | cons h ps _,0=>some (h,ps)
 | cons _ _ r,i+1=>r.get i
def app:To->To->To
 | nil,g=>g
 | cons h ps r,g=>cons h ps (r.app g)
def size:To->Nat
 | nil=>0
 | cons _ ps r=>ps.size+1+r.size
def depth:To->Nat
 | nil=>0
 | cons _ ps r=>max (ps.depth+1) r.depth
def flat:To->List (Nd × To)
 | nil=>[]
 | cons h ps r=>(h,ps)::(ps.flat++r.flat)
theorem drop_zero (f:To):f.drop 0=f:=by cases f<;>rfl
theorem tJ:∀ (f:To) (i:Nat),i < f.length->∃ h ps,f.drop i=cons h ps (f.drop (i+1))/\f.get i=some (h,ps)
 | nil,i,h=>by simp [length] at h
 | cons h ps r,0,_=>⟨h,ps,by simp [drop,drop_zero],rfl⟩
 | cons h ps r,i+1,hi=>by
  obtain ⟨h',ps',h1,h2⟩:=tJ r i (by simp [length] at hi;omega)
  exact ⟨h',ps',by simp only [drop];rw [h1],h2⟩
theorem drop_end:∀ (f:To) (i:Nat),f.length<=i->f.drop i=nil
 | nil,0,_=>rfl
 | nil,i+1,_=>rfl
 | cons h ps r,0,hi=>by simp [length] at hi
 | cons h ps r,i+1,hi=>drop_end r i (by simp [length] at hi;omega)
theorem BU:∀ (f:To) (i:Nat) (t:Nd × To),f.get i=some t->i < f.length
 | nil,i,t,h=>by simp [get] at h
 | cons h ps r,0,t,_=>by simp [length]
 | cons h ps r,i+1,t,hi=>by have:=BU r i t hi;simp [length];omega
theorem length_le:∀ f:To,f.length<=f.size
 | nil=>Nat.le_refl _
 | cons h ps r=>by have:=length_le r;simp only [length,size];omega
theorem size_drop:∀ (f:To) (i:Nat),(f.drop i).size<=f.size
 | f,0=>by rw [drop_zero];exact Nat.le_refl _
 | nil,i+1=>Nat.le_refl _
 | cons h ps r,i+1=>by have:=size_drop r i;simp only [drop,size];omega
theorem bV (f:To) (i:Nat) (h:Nd) (ps:To) (hg:f.get i=some (h,ps)):ps.size+1<=f.size:=by
 obtain ⟨h',ps',h1,h2⟩:=tJ f i (BU _ _ _ hg)
 rw [hg] at h2
 cases h2
 have:=size_drop f i
 rw [h1] at this
 simp only [size] at this
 omega
theorem qW:∀ f:To,f.app nil=f
 | nil=>rfl
 | cons h ps r=>by simp [app,qW r]
theorem lY:∀ f g h:To,(f.app g).app h=f.app (g.app h)
 | nil,_,_=>rfl
 | cons k ps r,g,h=>by simp [app,lY r g h]
theorem bP:∀ f g:To,(f.app g).length=f.length+g.length
 | nil,g=>by simp [app,length]
 | cons h ps r,g=>by simp [app,length,bP r g];omega
theorem flat_length:∀ f:To,f.flat.length=f.size
 | nil=>rfl
 | cons h ps r=>by simp [flat,size,flat_length r,flat_length ps];omega
theorem ind {T:Nd->To->Prop} (step:∀ h ps,(∀ i h' qs,ps.get i=some (h',qs)->T h' qs)->T h ps):∀ (f:To) (i:Nat) (h:Nd) (ps:To),f.get i=some (h,ps)->T h ps
 | nil,i,h,ps,e=>by simp [get] at e
 | cons h ps r,0,h',qs,e=>by
  simp [get] at e
  obtain ⟨rfl,rfl⟩:=e
  exact step h ps (ind step ps)
 | cons h ps r,i+1,h',qs,e=>ind step r i h' qs e
theorem qE {T:Nd->To->Prop} (step:∀ h ps,(∀ i h' qs,ps.get i=some (h',qs)->T h' qs)->T h ps) (h:Nd) (ps:To):T h ps :=
 step h ps (fun i h' qs e=>ind step ps i h' qs e)
end To
def allT (G:Nd->Prop):To->Prop
 | .nil=>True
 | .cons h ps r=>G h/\allT G ps/\allT G r
theorem wI {G:Nd->Prop}:∀ (f:To) (i:Nat) (h:Nd) (ps:To),allT G f->f.get i=some (h,ps)->G h/\allT G ps
 | .nil,i,h,ps,_,e=>by simp [To.get] at e
 | .cons h ps r,0,h',ps',hw,e=>by
  simp [To.get] at e
  obtain ⟨rfl,rfl⟩:=e
  exact ⟨hw.1,hw.2.1⟩
 | .cons h ps r,i+1,h',ps',hw,e=>wI r i h' ps' hw.2.2 e
theorem lW {G H:Nd->Prop} (hh:∀ h,G h->H h):∀ f:To,allT G f->allT H f
 | .nil,_=>trivial
 | .cons h ps r,e=>⟨hh h e.1,lW hh ps e.2.1,lW hh r e.2.2⟩
theorem yt {G:Nd->Prop}:∀ (f:To),allT G f->∀ t∈f.flat,G t.1/\allT G t.2
 | .nil,_,t,h=>by simp [To.flat] at h
 | .cons h ps r,e,t,ht=>by
  simp [To.flat] at ht
  rcases ht with rfl | ht | ht
  ·exact ⟨e.1,e.2.1⟩
  ·exact yt ps e.2.1 t ht
  ·exact yt r e.2.2 t ht
end
section
namespace Cn
abbrev Env:=List (ByteArray × Int)
abbrev top:Int:=1099511627776
def brings:Env->ByteArray->Int
 | [],_=>0
 | x::r,s=>if x.1=s then x.2 else brings r s
def qX (n x:Int):Int:=min top (n+x)
def jg (l:List Int):Int:=l.foldl qX 0
def tK (own:Int->Int) (rc:Int) (h:Nd) (vs:List (Env->Int)) (e:Env):Int :=
 if h.k=1 then jg [own h.k,brings e h.nm]
 else if h.k=4 then jg [own h.k,vs.getD 0 (fun _=>0) ((h.nm,0)::e)]
 else if h.k=6 then jg [own h.k,vs.getD 0 (fun _=>0) e,vs.getD 1 (fun _=>0) ((h.nm,vs.getD 0 (fun _=>0) e)::e)]
 else if h.k=7 then jg [own h.k,jg [rc,vs.getD 0 (fun _=>0) ((h.nm,0)::e)],vs.getD 1 (fun _=>0) ((h.nm,jg [rc,vs.getD 0 (fun _=>0) ((h.nm,0)::e)])::e)]
 else vs.foldl (fun n v=>jg [n,v e]) (own h.k)
def pW (own:Int->Int) (rc:Int):To->List (Env->Int)
 | .nil=>[]
 | .cons h ps r=>tK own rc h (pW own rc ps)::pW own rc r
def cnt (own:Int->Int) (rc:Int) (h:Nd) (ps:To) (e:Env):Int:=tK own rc h (pW own rc ps) e
theorem lZ (own:Int->Int) (rc:Int):∀ (f:To) (i:Nat) (h:Nd) (qs:To),f.get i=some (h,qs)->(pW own rc f)[i]?=some (cnt own rc h qs)
 | .nil,i,h,qs,e=>by simp [To.get] at e
 | .cons h' ps r,0,h,qs,e=>by
  simp [To.get] at e
  obtain ⟨rfl,rfl⟩:=e
  rfl
 | .cons h' ps r,i+1,h,qs,e=>by
  show (pW own rc r)[i]?=_
  exact lZ own rc r i h qs e
theorem xk (own:Int->Int) (rc:Int):∀ f:To,(pW own rc f).length=f.length
 | .nil=>rfl
 | .cons _ _ r=>by simp only [pW,List.length_cons,To.length];rw [xk own rc r]
def InT (x:Int):Prop:=0<=x/\x<=top
theorem in0:InT 0:=⟨by decide,by decide⟩
theorem MR {n x:Int} (h:InT n) (k:InT x):InT (qX n x):=by unfold InT qX top at *;omega
theorem MS:∀ (l:List Int) (n:Int),InT n->(∀ x∈l,InT x)->InT (l.foldl qX n)
 | [],n,h,_=>h
 | x::l,n,h,k=>MS l _ (MR h (k x (by simp))) (fun y hy=>k y (by simp [hy]))
theorem pX {l:List Int} (k:∀ x∈l,InT x):InT (jg l):=MS l 0 ⟨by decide,by decide⟩ k
theorem aaL {a b:Int} (h:InT a):jg [a,b]=qX a b:=by unfold jg qX InT top at *;simp;omega
theorem aaM {a b c:Int} (h:InT a):jg [a,b,c]=qX (qX a b) c:=by unfold jg qX InT top at *;simp;omega
def jT (e:Env):Prop:=∀ x∈e,InT x.2
theorem yP:∀ (e:Env) (s:ByteArray),jT e->InT (brings e s)
 | [],_,_=>in0
 | x::r,s,h=>by
  unfold brings;split
  ·exact h x (by simp)
  ·exact yP r s (fun y hy=>h y (by simp [hy]))
theorem jT.cons {e:Env} {s:ByteArray} {n:Int} (h:jT e) (k:InT n):jT ((s,n)::e):=fun x hx=>by
 rcases List.mem_cons.1 hx with rfl | hx
 ·exact k
 ·exact h x hx
theorem getD_in {vs:List (Env->Int)} (h:∀ v∈vs,∀ e,jT e->InT (v e)) (i:Nat) {e:Env} (he:jT e):InT (vs.getD i (fun _=>0) e):=by
 rw [List.getD_eq_getElem?_getD]
 cases hi:vs[i]? with
 | none=>exact in0
 | some v=>exact h v (List.mem_of_getElem? hi) e he
theorem Iu:∀ (vs:List (Env->Int)) (n:Int) (e:Env),InT n->(∀ v∈vs,∀ e,jT e->InT (v e))->jT e->InT (vs.foldl (fun n v=>jg [n,v e]) n)
 | [],n,e,h,_,_=>h
 | v::vs,n,e,h,k,he=>Iu vs _ e (pX (by intro x hx;simp at hx;rcases hx with rfl | rfl;exact h;exact k v (by simp) e he)) (fun u hu=>k u (by simp [hu])) he
theorem MV {own:Int->Int} {rc:Int} (ho:∀ k,InT (own k)) (hr:InT rc) (h:Nd) {vs:List (Env->Int)} (k:∀ v∈vs,∀ e,jT e->InT (v e)) {e:Env} (he:jT e):InT (tK own rc h vs e):=by
 have z:InT 0:=⟨by decide,by decide⟩
 unfold tK
 split
 ·exact pX (by intro x hx;simp at hx;rcases hx with rfl | rfl;exact ho _;exact yP _ _ he)
 ·split
  ·exact pX (by intro x hx;simp at hx;rcases hx with rfl | rfl;exact ho _;exact getD_in k 0 (he.cons z))
  ·split
   ·exact pX (by intro x hx;simp at hx;rcases hx with rfl | rfl | rfl;exact ho _;exact getD_in k 0 he;exact getD_in k 1 (he.cons (getD_in k 0 he)))
   ·split
    ·have hk:InT (jg [rc,vs.getD 0 (fun _=>0) ((h.nm,0)::e)]):=pX (by intro x hx;simp at hx;rcases hx with rfl | rfl;exact hr;exact getD_in k 0 (he.cons z))
     exact pX (by intro x hx;simp at hx;rcases hx with rfl | rfl | rfl;exact ho _;exact hk;exact getD_in k 1 (he.cons hk))
    ·exact Iu vs _ e (ho _) k he
theorem BX {own:Int->Int} {rc:Int} (ho:∀ k,InT (own k)) (hr:InT rc):∀ (f:To),∀ v∈pW own rc f,∀ e,jT e->InT (v e)
 | .nil,v,hv,_,_=>by simp [pW] at hv
 | .cons h ps r,v,hv,e,he=>by
  rcases List.mem_cons.1 hv with rfl | hv
  ·exact MV ho hr h (BX ho hr ps) he
  ·exact BX ho hr r v hv e he
theorem yQ {own:Int->Int} {rc:Int} (ho:∀ k,InT (own k)) (hr:InT rc) (h:Nd) (ps:To) {e:Env} (he:jT e):InT (cnt own rc h ps e):=MV ho hr h (BX ho hr ps) he
def wK (k:Int):Int:=if k=8 then 3 else if k=10 then 2 else 1
def zT (k:Int):Int:=if k=4 then 2 else 1
theorem VK (k:Int):InT (wK k):=by unfold wK InT top;split<;>(try split)<;>omega
theorem VN (k:Int):InT (zT k):=by unfold zT InT top;split<;>omega
end Cn
end
section
namespace Sc
def ixE:List ByteArray->ByteArray->Nat->Int
 | [],_,_=>-1
 | a::r,s,k=>if a=s then (k:Int) else ixE r s (k+1)
def ix (e:List ByteArray) (s:ByteArray):Int:=ixE e s 0
theorem tN:∀ (e:List ByteArray) (s:ByteArray) (k:Nat),(ixE e s k=-1/\s ∉ e)∨∃ j,ixE e s k=((k+j:Nat):Int)/\e[j]?=some s/\s ∉ e.take j
 | [],s,k=>.inl ⟨rfl,by simp⟩
 | a::r,s,k=>by
  unfold ixE
  by_cases h:a=s
  ·rw [if_pos h];exact .inr ⟨0,by simp,by simp [h],by simp⟩
  ·rw [if_neg h]
   rcases tN r s (k+1) with ⟨h1,h2⟩ | ⟨j,h1,h2,h3⟩
   ·refine .inl ⟨h1,?_⟩
    simp only [List.mem_cons,not_or];exact ⟨fun e=>h e.symm,h2⟩
   ·refine .inr ⟨j+1,by rw [h1];congr 1;omega,by simpa using h2,?_⟩
    simp only [List.take_succ_cons,List.mem_cons,not_or];exact ⟨fun e=>h e.symm,h3⟩
theorem aar (e:List ByteArray) (s:ByteArray):-1<=ix e s/\ix e s < e.length:=by
 unfold ix
 rcases tN e s 0 with ⟨h1,_⟩ | ⟨j,h1,h2,_⟩
 ·omega
 ·have:=(List.getElem?_eq_some_iff.1 h2).1;omega
theorem MW {e:List ByteArray} {s:ByteArray} {i:Nat} (h:e[i]?=some s) (hn:s ∉ e.take i):ix e s=i:=by
 unfold ix
 rcases tN e s 0 with ⟨_,h2⟩ | ⟨j,h1,h2,h3⟩
 ·exact absurd (List.mem_of_getElem? h) h2
 ·rcases Nat.lt_trichotomy i j with hl | he | hl
  ·exact absurd (List.mem_of_getElem? (by rw [List.getElem?_take,if_pos hl];exact h)) h3
  ·subst he;simpa using h1
  ·exact absurd (List.mem_of_getElem? (by rw [List.getElem?_take,if_pos hl];exact h2)) hn
theorem SV {e:List ByteArray} {s:ByteArray} (h:s ∉ e):ix e s=-1:=by
 unfold ix
 rcases tN e s 0 with ⟨h1,_⟩ | ⟨j,_,h2,_⟩
 ·exact h1
 ·exact absurd (List.mem_of_getElem? h2) h
def iq (k:Int) (i:Nat):Bool:=k == 4 || k == 7 || (k == 6 && i == 1)
def dn (k:Int) (nm:ByteArray) (i:Nat) (e:List ByteArray):List ByteArray:=if iq k i then nm::e else e
def oC (k:Int):Bool:=k == 4 || k == 6 || k == 7
section
variable {σ:Type} (l7:σ->Nd->List ByteArray->σ) (out:Nd->List ByteArray->Nd)
def wk:Int->ByteArray->Nat->σ->List ByteArray->To->σ × To
 | _,_,_,s,_,.nil=>(s,.nil)
 | bk,nm,i,s,e,.cons h ps r =>
  let q:σ × Nd × To:=if h.k=1 then (l7 s h (dn bk nm i e),out h (dn bk nm i e),ps) else
   ((wk h.k h.nm 0 s (dn bk nm i e) ps).1,h,(wk h.k h.nm 0 s (dn bk nm i e) ps).2)
  ((wk bk nm (i+1) q.1 e r).1,.cons q.2.1 q.2.2 (wk bk nm (i+1) q.1 e r).2)
def zQ (s:σ) (e:List ByteArray) (h:Nd) (ps:To):σ × Nd × To :=
 if h.k=1 then (l7 s h e,out h e,ps) else ((wk l7 out h.k h.nm 0 s e ps).1,h,(wk l7 out h.k h.nm 0 s e ps).2)
theorem MX (bk : Int) (nm : ByteArray) (i : Nat) (s : σ) (e : List ByteArray) (h : Nd) (ps r : To) : wk l7 out bk nm i s e (.cons h ps r) =
    ((wk l7 out bk nm (i+1) (zQ l7 out s (dn bk nm i e) h ps).1 e r).1,.cons (zQ l7 out s (dn bk nm i e) h ps).2.1 (zQ l7 out s (dn bk nm i e) h ps).2.2 (wk l7 out bk nm (i+1) (zQ l7 out s (dn bk nm i e) h ps).1 e r).2):=rfl
end
def fr (e:List ByteArray):Nd->To->List (Nd × To):=fun h ps=>(zQ (fun s x e=>if ix e x.nm < 0 then s++[(x,To.nil)] else s) (fun x _=>x) [] e h ps).1
def Oc (x:Nd) (e:List ByteArray):Nd:=if 0<=ix e x.nm then { x with n:=ix e x.nm } else x
end Sc
end
section
namespace Cn
def qJ:Env->ByteArray->Option Int
 | [],_=>none
 | x::r,s=>if x.1=s then some x.2 else qJ r s
def bump (out:List Int) (n:Nat):List Int:=out.modify n (·+1)
def iY (h:Nd) (place:Nat) (i:Nat) (e:Env):Env:=if Sc.iq h.k i then (h.nm,(place:Int))::e else e
def lq (h:Nd) (place:Nat):List (Env->List Int->List Int)->Nat->Env->List Int->List Int
 | [],_,_,out=>out
 | v::vs,i,e,out=>lq h place vs (i+1) e (v (iY h place i e) out)
def dh (h:Nd) (out:List Int):List Int:=if Sc.oC h.k then out++[0] else out
def rW (e:Env) (s:ByteArray) (out:List Int):List Int:=match qJ e s with
 | some n=>bump out n.toNat
 | none=>out
def mW (h:Nd) (vs:List (Env->List Int->List Int)) (e:Env) (out:List Int):List Int :=
 if h.k=1 then rW e h.nm out else lq h out.length vs 0 e (dh h out)
def dX:To->List (Env->List Int->List Int)
 | .nil=>[]
 | .cons h ps r=>mW h (dX ps)::dX r
def iC (h:Nd) (ps:To) (e:Env) (out:List Int):List Int:=mW h (dX ps) e out
theorem yG:∀ (f:To) (i:Nat) (h:Nd) (qs:To),f.get i=some (h,qs)->(dX f)[i]?=some (iC h qs)
 | .nil,i,h,qs,e=>by simp [To.get] at e
 | .cons h' ps r,0,h,qs,e=>by
  simp [To.get] at e
  obtain ⟨rfl,rfl⟩:=e
  rfl
 | .cons h' ps r,i+1,h,qs,e=>by
  show (dX r)[i]?=_
  exact yG r i h qs e
theorem qQ:∀ f:To,(dX f).length=f.length
 | .nil=>rfl
 | .cons _ _ r=>by simp only [dX,List.length_cons,To.length];rw [qQ r]
def Aa (e:Env) (n:Nat):Prop:=∀ x∈e,0<=x.2/\x.2 < n
def qF (out:List Int) (m:Nat):Prop:=∀ x∈out,0<=x/\x<=m
theorem Aa.mono {e:Env} {n m:Nat} (h:Aa e n) (k:n<=m):Aa e m:=fun x hx=>⟨(h x hx).1,by have:=(h x hx).2;omega⟩
theorem qF.mono {out:List Int} {n m:Nat} (h:qF out n) (k:n<=m):qF out m:=fun x hx=>⟨(h x hx).1,by have:=(h x hx).2;omega⟩
theorem bump_length (out:List Int) (n:Nat):(bump out n).length=out.length:=by unfold bump;simp
theorem Y6 {out:List Int} {m:Nat} (h:qF out m) (n:Nat):qF (bump out n) (m+1):=by
 intro x hx
 unfold bump at hx
 obtain ⟨i,hi⟩:=List.mem_iff_getElem?.1 hx
 rw [List.getElem?_modify] at hi
 cases ho:out[i]? with
 | none=>rw [ho] at hi;simp at hi
 | some y =>
  have hy:=h y (List.mem_of_getElem? ho)
  rw [ho] at hi
  by_cases hc:n=i
  ·simp [hc] at hi;omega
  ·simp [hc] at hi;omega
theorem fM (e:Env) (s:ByteArray) (out:List Int):(rW e s out).length=out.length:=by
 unfold rW;split
 ·exact bump_length _ _
 ·rfl
theorem lu (h:Nd) (out:List Int):out.length<=(dh h out).length:=by unfold dh;split<;>simp
theorem KN {h:Nd} {place i n:Nat} {e:Env} (he:Aa e n) (hp:Sc.iq h.k i=true->place < n):Aa (iY h place i e) n:=by
 unfold iY;split
 ·next hb =>
  intro x hx
  rcases List.mem_cons.1 hx with rfl | hx
  ·have:=hp hb;exact ⟨by show (0:Int)<=(place:Int);omega,by show (place:Int) < n;omega⟩
  ·exact he x hx
 ·exact he
theorem wR {k:Int} {i:Nat} (h:Sc.iq k i=true):Sc.oC k=true:=by
 unfold Sc.iq at h;unfold Sc.oC
 cases h4:(k == 4)<;>cases h6:(k == 6)<;>cases h7:(k == 7)<;>simp_all
theorem Am {h:Nd} {out:List Int} {m:Nat} (k:qF out m):qF (dh h out) m:=by
 unfold dh;split
 ·intro x hx
  rcases List.mem_append.1 hx with hx | hx
  ·exact k x hx
  ·simp at hx;subst hx;exact ⟨by omega,by omega⟩
 ·exact k
theorem Bc {h:Nd} {out:List Int} (k:Sc.oC h.k=true):out.length < (dh h out).length:=by unfold dh;rw [if_pos k];simp
theorem SX {e:Env} {s:ByteArray} {out:List Int} {m:Nat} (h:qF out m):qF (rW e s out) (m+1):=by
 unfold rW;split
 ·exact Y6 h _
 ·exact h.mono (by omega)
theorem vW : ∀ (f : To) (h : Nd) (place i : Nat) (e : Env) (out : List Int) (m : Nat), Aa e out.length -> qF out m -> (Sc.oC h.k = true -> place < out.length) ->
    out.length<=(lq h place (dX f) i e out).length/\qF (lq h place (dX f) i e out) (m+f.size)
 | .nil,h,place,i,e,out,m,he,ho,hp=>⟨Nat.le_refl _,ho⟩
 | .cons g qs r,h,place,i,e,out,m,he,ho,hp=>by
  have he':Aa (iY h place i e) out.length:=KN he (fun hb=>hp (wR hb))
  have h1:out.length<=(mW g (dX qs) (iY h place i e) out).length/\qF (mW g (dX qs) (iY h place i e) out) (m+(qs.size+1)):=by
   unfold mW
   split
   ·exact ⟨Nat.le_of_eq (fM _ _ _).symm,(SX ho).mono (by omega)⟩
   ·have h2:=vW qs g out.length 0 (iY h place i e) (dh g out) m (he'.mono (lu g out)) (Am ho) (fun hb=>Bc hb)
    exact ⟨Nat.le_trans (lu g out) h2.1,h2.2.mono (by omega)⟩
  have h3:=vW r h place (i+1) e (mW g (dX qs) (iY h place i e) out) (m+(qs.size+1)) (he.mono h1.1) h1.2 (fun hb=>Nat.lt_of_lt_of_le (hp hb) h1.1)
  refine ⟨Nat.le_trans h1.1 h3.1,h3.2.mono ?_⟩
  simp only [To.size];omega
theorem Bf (h:Nd) (ps:To) (e:Env) (out:List Int) (m:Nat) (he:Aa e out.length) (ho:qF out m):out.length<=(iC h ps e out).length/\qF (iC h ps e out) (m+ps.size+1):=by
 unfold iC mW
 split
 ·exact ⟨Nat.le_of_eq (fM _ _ _).symm,(SX ho).mono (by omega)⟩
 ·have h2:=vW ps h out.length 0 e (dh h out) m (he.mono (lu h out)) (Am ho) (fun hb=>Bc hb)
  exact ⟨Nat.le_trans (lu h out) h2.1,h2.2.mono (by omega)⟩
theorem Bd (h : Nd) (place : Nat) (vs : List (Env -> List Int -> List Int)) (i : Nat) (v : Env -> List Int -> List Int) (e : Env) (out : List Int) (hv : vs[i]? = some v) :
    lq h place (vs.drop i) i e out=lq h place (vs.drop (i+1)) (i+1) e (v (iY h place i e) out):=by
 obtain ⟨hk,hx⟩:=List.getElem?_eq_some_iff.1 hv
 rw [List.drop_eq_getElem_cons hk,hx];rfl
end Cn
end
section
open Go.RowKit
structure Fr (S:Nat->Prop) (w w':World):Prop where
 os:w'.os=w.os
 tape:w'.tape=w.tape
 output:w'.output=w.output
 size:w.heap.size<=w'.heap.size
 block:∀ k,k < w.heap.size->¬ S k->w'.heap[k]?=w.heap[k]?
theorem Fr.refl (S:Nat->Prop) (w:World):Fr S w w:=⟨rfl,rfl,rfl,Nat.le_refl _,fun _ _ _=>rfl⟩
theorem Fr.trans {S:Nat->Prop} {a b c:World} (h:Fr S a b) (k:Fr S b c):Fr S a c :=
 ⟨k.os.trans h.os,k.tape.trans h.tape,k.output.trans h.output,Nat.le_trans h.size k.size,
  fun i hi hs=>(k.block i (Nat.lt_of_lt_of_le hi h.size) hs).trans (h.block i hi hs)⟩
theorem Fr.trans' {S T:Nat->Prop} {a b c:World} (h:Fr S a b) (k:Fr T b c) (hT:∀ i,i < a.heap.size->T i->S i):Fr S a c :=
 ⟨k.os.trans h.os,k.tape.trans h.tape,k.output.trans h.output,Nat.le_trans h.size k.size,
  fun i hi hs=>(k.block i (Nat.lt_of_lt_of_le hi h.size) (fun ht=>hs (hT i hi ht))).trans (h.block i hi hs)⟩
theorem Fr.mono {S T:Nat->Prop} {w w':World} (h:Fr S w w') (hT:∀ k,k < w.heap.size->S k->T k):Fr T w w' :=
 ⟨h.os,h.tape,h.output,h.size,fun k hk hs=>h.block k hk (fun hh=>hs (hT k hk hh))⟩
theorem Fr.setCell (S:Nat->Prop) (w:World) (p:Addr) (u:Value) (hp:S p.block):Fr S w (w.setCell p u) :=
 ⟨rfl,rfl,rfl,by simp [World.setCell],fun k _ hs=>Below.heap_setCell _ _ _ _ (fun e=>hs (by rw [e];exact hp))⟩
theorem Fr.alloc (S:Nat->Prop) (w:World) (o:Obj):Fr S w (w.alloc o) :=
 ⟨rfl,rfl,rfl,by simp,fun k hk _=>Below.heap_alloc _ _ _ hk⟩
theorem Fr.drew (S:Nat->Prop) (w:World):Fr S w w.drew:=⟨rfl,rfl,rfl,Nat.le_refl _,fun _ _ _=>rfl⟩
theorem Fr.drewN (S:Nat->Prop) (w:World) (n:Nat):Fr S w (w.drewN n):=⟨rfl,rfl,rfl,Nat.le_refl _,fun _ _ _=>rfl⟩
theorem Fr.grown {S:Nat->Prop} {w w':World} {row:Option Nat} (h:w.grownBy w' row) (hS:∀ k,row=some k->S k):Fr S w w' :=
 ⟨h.os,h.tape,h.output,h.size,fun k hk hs=>h.block k hk (fun e=>hs (hS k e.symm))⟩
theorem Fr.below {S:Nat->Prop} {w w':World} {B:Nat} (h:Fr S w w') (hB:B<=w.heap.size) (hS:∀ k,S k->B<=k):Below B w w' :=
 ⟨h.os,h.tape,h.output,h.size,fun k hk=>h.block k (Nat.lt_of_lt_of_le hk hB) (fun e=>by have:=hS k e;omega)⟩
theorem Fr.cell {S:Nat->Prop} {w w':World} (h:Fr S w w') {a:Addr} (hk:a.block < w.heap.size) (hs:¬ S a.block):w'.cell? a=w.cell? a:=by
 simp [World.cell?,h.block _ hk hs]
theorem ownsRow_base {w:World} {base base':Nat} {e:TypeId} {size:Nat} {v:Value} {n:Nat} {xs:List Value} (h:w.ownsRow base e size v n xs) (hb:∀ k,v.ownBlock=some k->base'<=k):w.ownsRow base' e size v n xs:=by
 refine ⟨h.1,?_⟩
 rcases h.2 with hn | ⟨g,cap,cur,rfl,hb',rest⟩
 ·exact .inl hn
 ·exact .inr ⟨g,cap,cur,rfl,hb g rfl,rest⟩
theorem xq {w w':World} {base:Nat} {e:TypeId} {size:Nat} {v:Value} {n:Nat} {xs:List Value} (h:w.ownsRow base e size v n xs) (hb:∀ k,v.ownBlock=some k->w'.heap[k]?=w.heap[k]?):w'.ownsRow base e size v n xs:=by
 refine ⟨h.1,?_⟩
 rcases h.2 with hn | ⟨g,cap,cur,rfl,hb',hgg,rest⟩
 ·exact .inl hn
 ·exact .inr ⟨g,cap,cur,rfl,hb',by rw [hb g rfl];exact hgg,rest⟩
theorem ownsRow_setCell_other {w:World} {base:Nat} {e:TypeId} {size:Nat} {v:Value} {n:Nat} {xs:List Value} (h:w.ownsRow base e size v n xs) (p:Addr) (u:Value) (hb:v.ownBlock≠some p.block):(w.setCell p u).ownsRow base e size v n xs :=
 xq h (fun k hk=>Below.heap_setCell _ _ _ _ (fun e=>hb (by rw [hk,e])))
theorem aZ {S:Nat->Prop} {w w':World} {base:Nat} {e:TypeId} {size:Nat} {v:Value} {n:Nat} {xs:List Value} (h:w.ownsRow base e size v n xs) (hf:Fr S w w') (hb:∀ k,v.ownBlock=some k->¬ S k):w'.ownsRow base e size v n xs :=
 xq h (fun k hk=>hf.block k (h.lt k hk).2 (hb k hk))
theorem xu {P : Program} (w : World) {ops : Array Oper} {rest : List Oper} {o : Oper} {a : Act} {Q : Exit -> Act -> World -> Prop}
    (hg:o.guard=none) (s x:Operand) (t:TypeId) (hop:o.op=Op.call { callee:=Callee.builtin Builtin.append,args:=#[s,x],argTypes:=#[t,t] })
    (base:Nat) (e:TypeId) (i:TypeInfo) (z:Value) (size bytes:Nat) (h1:P.underlying t=some (.slice e)) (h2:P.info? e=some i) (h3:i.zero=some z) (h4:i.size=size) (h5:i.bytes=bytes) (h6:z.cells.size=size) (h7:0 < size)
    (v:Value) (n:Nat) (xs:List Value) (hs:a.eval s=v) (hown:w.ownsRow base e size v n xs)
    (ad:Addr) (m c:Nat) (news:List Value) (hx:a.eval x=.slice (some ad) m c) (hn:news.length=m * size) (hc:∀ j u,news[j]?=some u->w.cell? (ad.add j)=some u) (h1c:∀ u∈news,u.oneCell'=true)
    (hm:0 < m) (b1:n+m<=maxLen) (b2:(n+m) * bytes<=140737488355328) (b3:base<=w.heap.size)
    (hK:∀ v' w',w'.ownsRow base e size v' (n+m) (xs++news)->w.grownBy w' v.ownBlock->(∃ k,v'.ownBlock=some k/\(v.ownBlock=some k∨w.heap.size<=k))->wpList P ops Q rest (a.put o.dst v') w') :
    wpList P ops Q (o::rest) a w:=by
 rcases hown.2 with ⟨rfl,rfl⟩ | ⟨g,cap,cur,rfl,hbg,hgg,hnc,hcm,hcs,htake⟩
 ·have hx0:xs=[]:=List.eq_nil_of_length_eq_zero (by simpa using hown.1)
  subst hx0
  refine wpList_append_grows w hg s x t hop e i z size bytes h1 h2 h3 h4 h5 h6 h7 none 0 0 [] hs (fun _=>⟨rfl,rfl⟩) (by simp) (fun b hb=>by cases hb) ad m c news hx hn hc h1c (by omega) b1 b2 ?_
  intro v' w' ho hgr
  have hlt:=ho.lt
  rcases ho.2 with ⟨rfl,h0⟩ | ⟨k,cap,cur,rfl,hk,_⟩
  ·omega
  ·exact hK _ _ (ownsRow_base ho (fun k' hk'=>Nat.le_trans b3 (hlt k' hk').1)) ⟨hgr.os,hgr.tape,hgr.output,hgr.size,fun k hk hne=>hgr.block k hk (by simp)⟩ ⟨k,rfl,.inr hk⟩
 ·by_cases hroom:n+m<=cap
  ·refine wpList_append_fits w hg s x t hop base e i size h1 h2 h4 g n cap xs hs hown ad m c news hx hn hc h1c hroom ?_
   intro w' ho hgr
   exact hK _ _ ho hgr ⟨g,rfl,.inl rfl⟩
  ·refine wpList_append_grows w hg s x t hop e i z size bytes h1 h2 h3 h4 h5 h6 h7 (some ⟨g,0,none⟩) n cap xs hs (fun hh=>by cases hh) hown.1 ?_ ad m c news hx hn hc h1c (by omega) b1 b2 ?_
   ·intro b hb j u hu
    cases hb
    exact hown.cells (g:=g) rfl j u hu
   ·intro v' w' ho hgr
    have hlt:=ho.lt
    rcases ho.2 with ⟨rfl,h0⟩ | ⟨k,cap',cur',rfl,hk,_⟩
    ·omega
    ·exact hK _ _ (ownsRow_base ho (fun k' hk'=>Nat.le_trans b3 (hlt k' hk').1)) ⟨hgr.os,hgr.tape,hgr.output,hgr.size,fun k hk hne=>hgr.block k hk (by simp)⟩ ⟨k,rfl,.inr hk⟩
end
section
open Go.RowKit
theorem Fr.bG {S:Nat->Prop} {w w':World} (h:Fr S w w') {b off:Nat} (hk:b < w.heap.size) (hs:¬ S b):w'.cell? ⟨b,off,none⟩=w.cell? ⟨b,off,none⟩:=h.cell hk hs
structure Elem (P:Program) (t e:TypeId) (z:Value) (size bytes:Nat):Prop where
 under:P.underlying t=some (.slice e)
 info:(P.info? e).map (fun i=>(i.zero,i.size,i.bytes))=some (some z,size,bytes)
 cells:z.cells.size=size
 pos:0 < size
theorem aP {P : Program} (W : World) {ops : Array Oper} {rest : List Oper} {o : Oper} {a : Act} {Q : Exit -> Act -> World -> Prop}
    (hg:o.guard=none) (s x:Operand) (t:TypeId) (hop:o.op=Op.call { callee:=Callee.builtin Builtin.append,args:=#[s,x],argTypes:=#[t,t] })
    (e:TypeId) (z:Value) (size bytes:Nat) (he:Elem P t e z size bytes)
    (v:Value) (n:Nat) (xs:List Value) (hs:a.eval s=v) (hown:W.ownsRow 0 e size v n xs)
    (news:Array Value) (hx:a.eval x=.slice (some ⟨W.heap.size,0,none⟩) 1 1) (hn:news.size=size) (h1c:∀ u∈news.toList,u.oneCell'=true)
    (b1:n+1<=maxLen) (b2:(n+1) * bytes<=140737488355328)
    (hK:∀ g c w',w'.ownsRow 0 e size (.slice (some ⟨g,0,none⟩) (n+1) c) (n+1) (xs++news.toList)->Fr (fun k=>v.ownBlock=some k) W w'->(v.ownBlock=some g∨W.heap.size<=g)->wpList P ops Q rest (a.put o.dst (.slice (some ⟨g,0,none⟩) (n+1) c)) w') :
    wpList P ops Q (o::rest) a (W.alloc (.cells news e)):=by
 obtain ⟨i0,hi,hz0,hz1,hz2⟩:=info_parts he.info
 refine xu (W.alloc (.cells news e)) hg s x t hop 0 e i0 z size bytes he.under hi hz0 hz1 hz2 he.cells he.pos v n xs hs (hown.alloc _) ⟨W.heap.size,0,none⟩ 1 1 news.toList hx (by simpa using hn) ?_ h1c (by omega) b1 b2 (Nat.zero_le _) ?_
 ·intro j u hu
  rw [Addr.add_lit,cell_of_row (W.alloc (.cells news e)) W.heap.size (0+j) news e (0,0) (heap_alloc_new W _)]
  simpa using hu
 ·intro v' w' ho hgr hblk
  obtain ⟨k,hk,hk'⟩:=hblk
  rcases ho.2 with ⟨rfl,h0⟩ | ⟨g,cap,cur,rfl,_⟩
  ·omega
  ·simp [Value.ownBlock] at hk
   subst hk
   refine hK g cap w' ho ((Fr.alloc _ W _).trans (Fr.grown hgr (fun k hk=>hk))) ?_
   rcases hk' with h | h
   ·exact .inl h
   ·exact .inr (by simp at h;omega)
end
section
open Go.RowKit
def ah (w w':World):Prop:=Fr (fun _=>False) w w'
theorem ah.refl (w:World):ah w w:=Fr.refl _ w
theorem ah.trans {a b c:World} (h:ah a b) (k:ah b c):ah a c:=Fr.trans h k
theorem ah.alloc (w:World) (o:Obj):ah w (w.alloc o):=Fr.alloc _ w o
theorem ah.below {w w':World} (h:ah w w'):Below w.heap.size w w':=Fr.below h (Nat.le_refl _) (fun _ h=>h.elim)
theorem ah.drewN (w:World) (n:Nat):ah w (w.drewN n):=Fr.drewN _ w n
theorem ah.drew (w:World):ah w w.drew:=Fr.drew _ w
theorem jq {a b:World} {o:Obj} (h:ah a b):ah a (b.alloc o):=h.trans (ah.alloc _ _)
theorem jr {a b:World} (h:ah a b):ah a b.drew:=h.trans (ah.drew _)
theorem ah.at {w w':World} (h:ah w w') {b off:Nat} {v:Value} (hc:w.cell? ⟨b,off,none⟩=some v):w'.cell? ⟨b,off,none⟩=some v :=
 (h.bG (World.block_lt_of_cell? w _ hc) (fun h=>h)).trans hc
end
section
open Go.RowKit
def At (w:World):Nat->Nat->Fo->Prop
 | _,_,.nil=>True
 | b, off, .cons k n ps r => w.cell? ⟨b, off, none⟩ = some (.int .i64 k) /\ w.cell? ⟨b, off + 1, none⟩ = some (.int .i64 n) /\
     (∃ o len cap,w.cell? ⟨b,off+2,none⟩=some (.slice o len cap)/\len=ps.length/\len<=maxLen/\(0 < len->∃ b' off',o=some ⟨b',off',none⟩/\At w b' off' ps))/\At w b (off+3) r
def qm (w:World) (o:Option Addr) (len:Nat) (f:Fo):Prop:=len=f.length/\len<=maxLen/\(0 < len->∃ b off,o=some ⟨b,off,none⟩/\At w b off f)
theorem qm.nil (w:World) (o:Option Addr):qm w o 0 .nil:=⟨rfl,Nat.zero_le _,fun h=>absurd h (Nat.lt_irrefl _)⟩
theorem At.stay {w w':World} (hq:ah w w'):∀ (f:Fo) (b off:Nat),At w b off f->At w' b off f
 | .nil,_,_,_=>trivial
 | .cons k n ps r,b,off,h=>by
  obtain ⟨h1,h2,⟨o,len,cap,h3,h4,h4',h5⟩,h6⟩:=h
  refine ⟨hq.at h1,hq.at h2,⟨o,len,cap,hq.at h3,h4,h4',fun hl=>?_⟩,At.stay hq r b (off+3) h6⟩
  obtain ⟨b',off',ho,ha⟩:=h5 hl
  exact ⟨b',off',ho,At.stay hq ps b' off' ha⟩
theorem qm.stay {w w':World} {o:Option Addr} {len:Nat} {f:Fo} (h:qm w o len f) (hq:ah w w'):qm w' o len f:=by
 refine ⟨h.1,h.2.1,fun hl=>?_⟩
 obtain ⟨b,off,ho,ha⟩:=h.2.2 hl
 exact ⟨b,off,ho,At.stay hq f b off ha⟩
theorem At.nth {w : World} : ∀ (f : Fo) (b off i : Nat), At w b off f -> i < f.length -> ∃ k n ps o len cap, f.drop i = .cons k n ps (f.drop (i + 1)) /\ f.get i = some (k, n, ps) /\
    w.cell? ⟨b,off+i * 3,none⟩=some (.int .i64 k)/\w.cell? ⟨b,off+i * 3+1,none⟩=some (.int .i64 n)/\w.cell? ⟨b,off+i * 3+2,none⟩=some (.slice o len cap)/\qm w o len ps
 | .nil,_,_,_,_,h=>by simp [Fo.length] at h
 | .cons k n ps r,b,off,0,h,_=>by
  obtain ⟨h1,h2,⟨o,len,cap,h3,h4,h4',h5⟩,h6⟩:=h
  exact ⟨k,n,ps,o,len,cap,by simp [Fo.drop,Fo.drop_zero],rfl,by simpa using h1,by simpa using h2,by simpa using h3,h4,h4',h5⟩
 | .cons k n ps r,b,off,i+1,h,hi=>by
  obtain ⟨_,_,_,h6⟩:=h
  obtain ⟨k',n',ps',o,len,cap,e1,e2,c1,c2,c3,hs⟩:=At.nth r b (off+3) i h6 (by simp [Fo.length] at hi;omega)
  refine ⟨k',n',ps',o,len,cap,by simp only [Fo.drop];rw [e1],e2,?_,?_,?_,hs⟩
  ·rw [show off+(i+1) * 3=off+3+i * 3 from by omega];exact c1
  ·rw [show off+(i+1) * 3=off+3+i * 3 from by omega];exact c2
  ·rw [show off+(i+1) * 3=off+3+i * 3 from by omega];exact c3
theorem qm.nth {w : World} {o : Option Addr} {len : Nat} {f : Fo} (h : qm w o len f) {i : Nat} (hi : i < len) : ∃ b off k n ps o' len' cap', o = some ⟨b, off, none⟩ /\ f.drop i = .cons k n ps (f.drop (i + 1)) /\ f.get i = some (k, n, ps) /\
    w.cell? ⟨b,off+i * 3,none⟩=some (.int .i64 k)/\w.cell? ⟨b,off+i * 3+1,none⟩=some (.int .i64 n)/\w.cell? ⟨b,off+i * 3+2,none⟩=some (.slice o' len' cap')/\qm w o' len' ps:=by
 obtain ⟨b,off,rfl,ha⟩:=h.2.2 (by omega)
 obtain ⟨k,n,ps,o',len',cap',h1⟩:=At.nth f b off i ha (by have:=h.1;omega)
 exact ⟨b,off,k,n,ps,o',len',cap',rfl,h1⟩
def kL (k n:Int) (o:Option Addr) (len cap:Nat):Value:=.agg #[.int .i64 k,.int .i64 n,.slice o len cap]
theorem gG (w : World) (k n : Int) (o : Option Addr) (len cap : Nat) (t : TypeId) (W : World) (hW : ah (w.alloc (.cells #[.int .i64 k, .int .i64 n, .slice o len cap] t)) W) :
    W.cell? ⟨w.heap.size,0,none⟩=some (.int .i64 k)/\W.cell? ⟨w.heap.size,1,none⟩=some (.int .i64 n)/\W.cell? ⟨w.heap.size,2,none⟩=some (.slice o len cap):=by
 refine ⟨hW.at ?_,hW.at ?_,hW.at ?_⟩<;>(rw [cell_of_row _ _ _ _ _ (0,0) (heap_alloc_new w _)];rfl)
end
section
open Go.RowKit
def dV (w:World) (o:Option Addr) (l:List Int):Prop:=∀ i x,l[i]?=some x->∃ b off,o=some ⟨b,off,none⟩/\w.cell? ⟨b,off+i,none⟩=some (.int .i64 x)
theorem dV.stay {w w':World} {o:Option Addr} {l:List Int} (h:dV w o l) (hq:ah w w'):dV w' o l:=by
 intro i x hi
 obtain ⟨b,off,ho,hc⟩:=h i x hi
 exact ⟨b,off,ho,hq.at hc⟩
theorem yD {α:Type} {l:List α} {k:Nat} {t:α} (h:l[k]?=some t):l.drop k=t::l.drop (k+1):=by
 obtain ⟨hl,rfl⟩:=List.getElem?_eq_some_iff.1 h
 exact List.drop_eq_getElem_cons hl
theorem Oa (o : Option Addr) (len cap : Nat) (l : List Int) (v : Int) (w : World) (h : dV w o l) (hl : len = l.length) (hb : len <= 1000000) :
    Calls Tryz.prog 89 #[.slice o len cap,.int .i64 v] w fun e w'=>e=.returned (.bool (inB l v))/\w=w':=by
 have H:=hid h
 have HL:=hid hl
 clear h hl
 go_enter Tryz.func89,Tryz.ntmps89
 go_wp2_with fail
 go_loop [5] (fun t=>∃ i:Nat,t=.int .i64 i/\i<=len/\inB l v=inB (l.drop i) v) (fun t=>len - (intOf t).toNat)
 case atStart=>exact ⟨0,rfl,Nat.zero_le _,rfl⟩
 case round =>
  obtain ⟨i,rfl,hi,hc⟩:=hrel
  have HC:=hid hc
  clear hc
  by_cases hlt:i < len
  ·have hlt':(i:Int) < len:=by omega
   obtain ⟨x,hx⟩:∃ x,l[i]?=some x:=⟨_,List.getElem?_eq_getElem (by have:=HL.out;omega)⟩
   obtain ⟨b,off,rfl,c⟩:=H.out i x hx
   have HD:=hid (yD hx)
   clear hx
   cases hxv:(x == v)
   ·have HX : Hid ((v == x) = false) := by
      show _=_
      rw [beq_eq_false_iff_ne] at hxv ⊢;exact fun h=>hxv h.symm
    go_wp2_with fail
    go_round
    case rel=>exact ⟨i+1,by go_num,by omega,by rw [HC.out,HD.out,Iq,HX.out];rfl⟩
    case measure=>simp [intOf];omega
   ·have HX:Hid (v=x):=by show _=_;exact (beq_iff_eq.1 hxv).symm
    go_wp2_with fail
    go_ret
    exact ⟨by rw [HC.out,HD.out,Iq,HX.out];simp,rfl⟩
  ·have hlt':¬ (i:Int) < len:=by omega
   go_wp2_with fail
   go_ret
   exact ⟨by rw [HC.out,List.drop_eq_nil_of_le (by have:=HL.out;omega)];rfl,rfl⟩
def XP (k n:Int) (ps:Fo):Prop:=∀ (w:World) (o:Option Addr) (len cap:Nat) (d:Nat) (m:Int) (di:Int),di=d->qm w o len ps->0<=m->m<=100000->d<=100000 ->
 Calls Tryz.prog 100 #[kL k n o len cap,.int .i64 m,.int .i64 di] w fun e w'=>e=.returned (.int .i64 (if d=0 then -1 else Fo.room (d - 1) (m - 1) ps))/\ah w w'
theorem SY (k n:Int) (ps:Fo):XP k n ps:=by
 refine Fo.qE (T:=XP) ?_ k n ps
 intro k n ps ih w o len cap d m di ed hs hm0 hm1 hd1
 subst ed
 have HS:=hid hs
 have IH:=hid ih
 have HL:=hid hs.1
 have hmx:=hs.2.1
 unfold maxLen at hmx
 clear hs ih
 by_cases hd0:d=0
 ·subst hd0
  unfold kL
  go_enter Tryz.func100,Tryz.ntmps100
  go_wp2_with fail
  go_ret
  exact ⟨rfl,ah.alloc _ _⟩
 ·obtain ⟨D,hD⟩:∃ D,D=d - 1:=⟨_,rfl⟩
  have acs:((d:Int) == 0)=false:=by simp;omega
  have hdD:d=D+1:=by omega
  obtain ⟨res,hres⟩:∃ res,res=Fo.room D (m - 1) ps:=⟨_,rfl⟩
  have aW:=hid hres
  have HF:Hid ((if d=0 then -1 else Fo.room (d - 1) (m - 1) ps)=res):=by show _=_;rw [if_neg (by omega),<-hD,hres]
  rw [HF.out]
  have Ot:=hid hdD
  have hD1:D<=100000:=by omega
  have acv:1<=d:=by omega
  clear hres hd0 hD hdD
  unfold kL
  go_enter Tryz.func100,Tryz.ntmps100
  go_wp2_with fail
  obtain ⟨W0,hW0⟩:∃ W0,W0=w.alloc (.cells #[.int .i64 k,.int .i64 n,.slice o len cap] 24):=⟨_,rfl⟩
  have HB0:Hid (∀ W,ah W0 W->W.cell? ⟨w.heap.size,0,none⟩=some (.int .i64 k)):=by
   intro W hq;rw [hW0] at hq;exact (gG w k n o len cap _ W hq).1
  have HB1:Hid (∀ W,ah W0 W->W.cell? ⟨w.heap.size,1,none⟩=some (.int .i64 n)):=by
   intro W hq;rw [hW0] at hq;exact (gG w k n o len cap _ W hq).2.1
  have HB:Hid (∀ W,ah W0 W->W.cell? ⟨w.heap.size,2,none⟩=some (.slice o len cap)):=by
   intro W hq;rw [hW0] at hq;exact (gG w k n o len cap _ W hq).2.2
  have aK:Hid (ah w W0):=by rw [hW0];exact ah.alloc _ _
  change Code.wp _ _ _ _ (w.alloc (.cells #[.int .i64 k,.int .i64 n,.slice o len cap] 24))
  rw [<-hW0]
  clear hW0
  generalize w.heap.size=nb at *
  go_loopw [1,7] (fun s t wr=>∃ (i:Nat) (x:Int),t=.int .i64 i/\s=.int .i64 x/\i<=len/\-1<=x/\x<=100000/\res=Fo.room D x (ps.drop i)/\ah W0 wr) (fun _ t _=>len - (intOf t).toNat)
  case atStart=>exact ⟨0,m - 1,rfl,rfl,Nat.zero_le _,by omega,by omega,by rw [Fo.drop_zero];exact aW.out,ah.refl _⟩
  case round =>
   obtain ⟨i,x,rfl,rfl,hi,hx0,hx1,hr,hq⟩:=hrel
   have HR:=hid hr
   have HQ:=hid hq
   have c2:=HB.out wr hq
   clear hr hq
   by_cases hlt:i < len
   ·have hlt':(i:Int) < len:=by omega
    by_cases hx:0<=x
    ·obtain ⟨b,off,k',n',qs,o',len',cap',rfl,hd,hg,e0,e1,e2,hs'⟩:=(HS.out.stay (aK.out.trans HQ.out)).nth hlt
     have HC:=hid (IH.out i k' n' qs hg wr o' len' cap' D x ((d:Int) - 1) (by have:=Ot.out;omega) hs' hx hx1 hD1)
     obtain ⟨y,hy⟩:∃ y,y=if D=0 then -1 else Fo.room (D - 1) (x - 1) qs:=⟨_,rfl⟩
     have hyb:-1<=y/\y<=100000:=by
      rw [hy];split
      ·omega
      ·by_cases h1:0<=x - 1
       ·have:=Fo.room_le qs (D - 1) (x - 1) h1;omega
       ·rw [Fo.fD _ _ _ (by omega)];omega
     have HY:Hid (res=Fo.room D y (ps.drop (i+1))):=by
      show _=_
      rw [HR.out,hd,hy]
      cases D with
      | zero => conv => lhs; unfold Fo.room
                rw [if_neg (by omega)];rfl
      | succ E => conv => lhs; unfold Fo.room
                  rw [if_neg (by omega),if_neg (by omega)];rfl
     rw [<-hy] at HC
     unfold kL at HC
     clear hd hg hs' hy
     go_wp2_with fail
     refine HC.out.mono ?_;rintro e w1 ⟨rfl,hq1⟩
     have bI:=hid (HQ.out.trans hq1)
     clear hq1
     go_wp2_with fail
     go_roundw
     case rel=>exact ⟨i+1,y,by go_num,rfl,by omega,hyb.1,hyb.2,HY.out,bI.out⟩
     case measure=>simp [intOf];omega
    ·have hx':x < 0:=by omega
     have HY:Hid (res=x):=by show _=_;rw [HR.out];exact Fo.fD _ _ _ hx'
     go_wp2_with fail
     go_ret
     exact ⟨by rw [HY.out];rfl,aK.out.trans HQ.out⟩
   ·have hlt':¬ (i:Int) < len:=by omega
    have HY:Hid (res=x):=by
     show _=_
     rw [HR.out,Fo.drop_end ps i (by have:=HL.out;omega)]
     unfold Fo.room;rfl
    go_wp2_with fail
    go_ret
    exact ⟨by rw [HY.out];rfl,aK.out.trans HQ.out⟩
def yB (ps:Fo):Bool:=decide (Fo.room 39 299 ps < 0)
theorem J8 {ps:Fo} (h:yB ps=false):ps.size+1<=300:=by
 unfold yB at h
 have h0:0<=Fo.room 39 299 ps:=by simpa using h
 have:=Fo.yN ps 39 299 h0
 omega
theorem Oq (k n : Int) (ps : Fo) (w : World) (o : Option Addr) (len cap : Nat) (hs : qm w o len ps) :
    Calls Tryz.prog 74 #[kL k n o len cap] w fun e w'=>e=.returned (.bool (yB ps))/\ah w w':=by
 have HC:=hid (fun (W:World) (hq:ah w W)=>SY k n ps W o len cap 40 300 40 rfl (hs.stay hq) (by omega) (by omega) (by omega))
 unfold yB
 rw [if_neg (by omega),show (40:Nat) - 1=39 from rfl,show (300:Int) - 1=299 from rfl] at HC
 generalize Fo.room 39 299 ps=r at *
 unfold kL at *
 go_enter Tryz.func74,Tryz.ntmps74
 go_wp2_with fail
 refine (HC.out _ (ah.alloc _ _)).mono ?_;rintro e w1 ⟨rfl,hq⟩
 go_wp2_with fail
 go_ret
 exact ⟨rfl,(ah.alloc _ _).trans hq⟩
end
section
namespace Cn
theorem EF:∀ (e:List ByteArray) (pl:List Int) (s:ByteArray),s ∉ e->qJ (e.zip pl) s=none
 | [],_,_,_=>by simp [qJ]
 | _::_,[],_,_=>by simp [qJ]
 | a::e,p::pl,s,h=>by
  rw [List.zip_cons_cons]
  unfold qJ
  rw [if_neg (fun e=>h (by simp [show a=s from e]))]
  exact EF e pl s (fun hh=>h (by simp [hh]))
theorem EG:∀ (e:List ByteArray) (pl:List Int) (s:ByteArray) (j:Nat),e.length=pl.length->e[j]?=some s->s ∉ e.take j->∃ x,pl[j]?=some x/\qJ (e.zip pl) s=some x
 | [],_,_,_,_,h,_=>by simp at h
 | a::e,[],_,_,hl,_,_=>by simp at hl
 | a::e,p::pl,s,0,hl,h,_=>by
  simp at h
  subst h
  exact ⟨p,rfl,by rw [List.zip_cons_cons];unfold qJ;rw [if_pos rfl]⟩
 | a::e,p::pl,s,j+1,hl,h,hn=>by
  simp only [List.take_succ_cons,List.mem_cons,not_or] at hn
  obtain ⟨x,h1,h2⟩:=EG e pl s j (by simpa using hl) (by simpa using h) hn.2
  exact ⟨x,by simpa using h1,by rw [List.zip_cons_cons];unfold qJ;rw [if_neg (fun e=>hn.1 (show a=s from e).symm)];exact h2⟩
theorem VO {e:List ByteArray} {pl:List Int} (hl:e.length=pl.length) (s:ByteArray) (out:List Int):(Sc.ix e s < 0->rW (e.zip pl) s out=out)/\(∀ j:Nat,Sc.ix e s=j->∃ x,pl[j]?=some x/\rW (e.zip pl) s out=bump out x.toNat):=by
 unfold Sc.ix
 rcases Sc.tN e s 0 with ⟨h1,h2⟩ | ⟨j,h1,h2,h3⟩
 ·refine ⟨fun _=>?_,fun j hj=>by omega⟩
  unfold rW
  rw [EF e pl s h2]
 ·refine ⟨fun h=>by omega,fun k hk=>?_⟩
  obtain rfl:k=j:=by omega
  obtain ⟨x,hx,hf⟩:=EG e pl s k hl h2 h3
  exact ⟨x,hx,by unfold rW;rw [hf]⟩
theorem BZ:∀ (f:To) (h:Nd) (place i:Nat) (e:Env) (out:List Int),(lq h place (dX f) i e out).length<=out.length+f.size
 | .nil,_,_,_,_,out=>by simp [dX,lq]
 | .cons g qs r,h,place,i,e,out=>by
  have h1:(mW g (dX qs) (iY h place i e) out).length<=out.length+qs.size+1:=by
   unfold mW
   split
   ·rw [fM];omega
   ·have h2:=BZ qs g out.length 0 (iY h place i e) (dh g out)
    have h3:(dh g out).length<=out.length+1:=by unfold dh;split<;>simp
    omega
  have h2:=BZ r h place (i+1) e (mW g (dX qs) (iY h place i e) out)
  simp only [dX,lq,To.size]
  omega
theorem Rw (h:Nd) (ps:To) (e:Env) (out:List Int):(iC h ps e out).length<=out.length+ps.size+1:=by
 have:=BZ (.cons h ps .nil) ⟨0,⟨#[]⟩,0,0,0,.nil,0,0⟩ 0 0 e out
 have e1:iY ⟨0,⟨#[]⟩,0,0,0,.nil,0,0⟩ 0 0 e=e:=rfl
 simp only [dX,lq,To.size,e1] at this
 unfold iC
 omega
end Cn
end
section
open Go.RowKit
def AtIn (R:Nat->Prop) (w:World):Nat->Nat->Fo->Prop
 | _,_,.nil=>True
 | b, off, .cons k n ps r => R b /\ w.cell? ⟨b, off, none⟩ = some (.int .i64 k) /\ w.cell? ⟨b, off + 1, none⟩ = some (.int .i64 n) /\
     (∃ o len cap,w.cell? ⟨b,off+2,none⟩=some (.slice o len cap)/\len=ps.length/\len<=maxLen/\(0 < len->∃ b' off',o=some ⟨b',off',none⟩/\AtIn R w b' off' ps))/\AtIn R w b (off+3) r
def aC (R:Nat->Prop) (w:World) (o:Option Addr) (len:Nat) (f:Fo):Prop:=len=f.length/\len<=maxLen/\(0 < len->∃ b off,o=some ⟨b,off,none⟩/\AtIn R w b off f)
theorem AtIn.at {R:Nat->Prop} {w:World}:∀ (f:Fo) (b off:Nat),AtIn R w b off f->At w b off f
 | .nil,_,_,_=>trivial
 | .cons k n ps r,b,off,h=>by
  obtain ⟨_,h1,h2,⟨o,len,cap,h3,h4,h4',h5⟩,h6⟩:=h
  refine ⟨h1,h2,⟨o,len,cap,h3,h4,h4',fun hl=>?_⟩,AtIn.at r b (off+3) h6⟩
  obtain ⟨b',off',ho,ha⟩:=h5 hl
  exact ⟨b',off',ho,AtIn.at ps b' off' ha⟩
theorem aC.slc {R:Nat->Prop} {w:World} {o:Option Addr} {len:Nat} {f:Fo} (h:aC R w o len f):qm w o len f:=by
 refine ⟨h.1,h.2.1,fun hl=>?_⟩
 obtain ⟨b,off,ho,ha⟩:=h.2.2 hl
 exact ⟨b,off,ho,AtIn.at f b off ha⟩
theorem AtIn.fr {R T S:Nat->Prop} {w w':World} (hf:Fr S w w') (hR:∀ k,k < w.heap.size->R k->T k/\¬ S k):∀ (f:Fo) (b off:Nat),AtIn R w b off f->AtIn T w' b off f
 | .nil,_,_,_=>trivial
 | .cons k n ps r,b,off,h=>by
  obtain ⟨h0,h1,h2,⟨o,len,cap,h3,h4,h4',h5⟩,h6⟩:=h
  have hb:b < w.heap.size:=World.block_lt_of_cell? w _ h1
  obtain ⟨hT,hS⟩:=hR b hb h0
  refine ⟨hT,(hf.bG hb hS).trans h1,(hf.bG hb hS).trans h2,⟨o,len,cap,(hf.bG hb hS).trans h3,h4,h4',fun hl=>?_⟩,AtIn.fr hf hR r b (off+3) h6⟩
  obtain ⟨b',off',ho,ha⟩:=h5 hl
  exact ⟨b',off',ho,AtIn.fr hf hR ps b' off' ha⟩
theorem aC.fr {R T S:Nat->Prop} {w w':World} {o:Option Addr} {len:Nat} {f:Fo} (h:aC R w o len f) (hf:Fr S w w') (hR:∀ k,k < w.heap.size->R k->T k/\¬ S k):aC T w' o len f:=by
 refine ⟨h.1,h.2.1,fun hl=>?_⟩
 obtain ⟨b,off,ho,ha⟩:=h.2.2 hl
 exact ⟨b,off,ho,AtIn.fr hf hR f b off ha⟩
theorem aC.nil (R:Nat->Prop) (w:World) (o:Option Addr):aC R w o 0 .nil:=⟨rfl,Nat.zero_le _,fun h=>absurd h (Nat.lt_irrefl _)⟩
def RowOf (R:Nat->Prop) (w:World):List Value->Fo->Prop
 | xs,.nil=>xs=[]
 | xs,.cons k n ps r=>∃ o len cap ys,xs=.int .i64 k::.int .i64 n::.slice o len cap::ys/\aC R w o len ps/\RowOf R w ys r
theorem RowOf.fr {R T S:Nat->Prop} {w w':World} (hf:Fr S w w') (hR:∀ k,k < w.heap.size->R k->T k/\¬ S k):∀ (f:Fo) (xs:List Value),RowOf R w xs f->RowOf T w' xs f
 | .nil,_,h=>h
 | .cons k n ps r,xs,h=>by
  obtain ⟨o,len,cap,ys,rfl,hs,hr⟩:=h
  exact ⟨o,len,cap,ys,rfl,hs.fr hf hR,RowOf.fr hf hR r ys hr⟩
theorem RowOf.snoc {R:Nat->Prop} {w:World} {k n:Int} {ps:Fo} {o:Option Addr} {len cap:Nat} (hs:aC R w o len ps):∀ (f:Fo) (xs:List Value),RowOf R w xs f->RowOf R w (xs++[.int .i64 k,.int .i64 n,.slice o len cap]) (f.app (.cons k n ps .nil))
 | .nil,xs,h=>by
  cases h
  exact ⟨o,len,cap,[],rfl,hs,rfl⟩
 | .cons k' n' ps' r,xs,h=>by
  obtain ⟨o',len',cap',ys,rfl,hs',hr⟩:=h
  exact ⟨o',len',cap',_,rfl,hs',RowOf.snoc hs r ys hr⟩
theorem RowOf.at {R:Nat->Prop} {w:World} {g:Nat} (hg:R g):∀ (f:Fo) (xs:List Value) (off:Nat),RowOf R w xs f->(∀ j u,xs[j]?=some u->w.cell? ⟨g,off+j,none⟩=some u)->AtIn R w g off f
 | .nil,_,_,_,_=>trivial
 | .cons k n ps r,xs,off,h,hc=>by
  obtain ⟨o,len,cap,ys,rfl,hs,hr⟩:=h
  refine ⟨hg,hc 0 _ rfl,hc 1 _ rfl,⟨o,len,cap,hc 2 _ rfl,hs.1,hs.2.1,hs.2.2⟩,RowOf.at hg r ys (off+3) hr ?_⟩
  intro j u hj
  have:=hc (j+3) u (by simpa using hj)
  rw [<-this];congr 2;omega
structure jC (w:World) (B:Nat) (v:Value) (f:Fo) (xs:List Value):Prop where
 own:w.ownsRow 0 24 3 v f.length xs
 low:∀ k,v.ownBlock=some k->B<=k
 cells:RowOf (fun k=>B<=k/\v.ownBlock≠some k) w xs f
theorem jC.nil (w:World) (B:Nat):jC w B (.slice none 0 0) .nil []:=⟨World.ownsRow_nil _ _ _ _,fun k hk=>(by cases hk),rfl⟩
theorem jC.fr {w w':World} {B:Nat} {v:Value} {f:Fo} {xs:List Value} {S:Nat->Prop} (h:jC w B v f xs) (hf:Fr S w w') (hS:∀ k,S k->k < B):jC w' B v f xs:=by
 refine ⟨aZ h.own hf (fun k hk hs=>?_),h.low,RowOf.fr hf (fun k _ hk=>⟨hk,fun hs=>?_⟩) f xs h.cells⟩
 ·have:=h.low k hk;have:=hS k hs;omega
 ·have:=hS k hs;omega
theorem jC.stay {w w':World} {B:Nat} {v:Value} {f:Fo} {xs:List Value} (h:jC w B v f xs) (hf:ah w w'):jC w' B v f xs:=h.fr hf (fun _ hk=>hk.elim)
theorem jC.snoc {W w1 : World} {B : Nat} {v : Value} {f : Fo} {xs : List Value} {k n : Int} {ps : Fo} {o : Option Addr} {len cap g c : Nat} (hr : jC W B v f xs)
    (hs:aC (fun k=>B<=k/\v.ownBlock≠some k) W o len ps)
    (ho:w1.ownsRow 0 24 3 (.slice (some ⟨g,0,none⟩) (f.length+1) c) (f.length+1) (xs++[.int .i64 k,.int .i64 n,.slice o len cap])) (hf:Fr (fun k=>v.ownBlock=some k) W w1) (hg:v.ownBlock=some g∨W.heap.size<=g) (hB:B<=W.heap.size) :
    jC w1 B (.slice (some ⟨g,0,none⟩) (f.length+1) c) (f.app (.cons k n ps .nil)) (xs++[.int .i64 k,.int .i64 n,.slice o len cap]):=by
 refine ⟨by rw [Fo.bP];exact ho,?_,?_⟩
 ·intro k hk
  simp [Value.ownBlock] at hk
  subst hk
  rcases hg with h | h
  ·exact hr.low g h
  ·omega
 ·have hk : ∀ k, k < W.heap.size -> (B <= k /\ v.ownBlock ≠ some k) -> ((B <= k /\ (Value.slice (some ⟨g, 0, none⟩) (f.length + 1) c).ownBlock ≠ some k) /\ ¬ v.ownBlock = some k) := by
    rintro k hk ⟨h1,h2⟩
    refine ⟨⟨h1,fun h=>?_⟩,h2⟩
    simp [Value.ownBlock] at h
    subst h
    rcases hg with h | h
    ·exact h2 h
    ·omega
  exact RowOf.snoc (hs.fr hf hk) f xs (RowOf.fr hf hk f xs hr.cells)
theorem jC.slc {w:World} {B:Nat} {o:Option Addr} {len cap:Nat} {f:Fo} {xs:List Value} (h:jC w B (.slice o len cap) f xs) (hl:len=f.length) (hm:len<=maxLen):aC (fun k=>B<=k) w o len f:=by
 refine ⟨hl,hm,fun h0=>?_⟩
 rcases h.own.2 with ⟨_,h2⟩ | ⟨g,cap',cur,he,_⟩
 ·omega
 ·injection he with h1 h2 h3
  subst h1
  refine ⟨g,0,rfl,RowOf.at (h.low g rfl) f xs 0 (RowOf.fr (Fr.refl (fun _=>False) w) (fun k _ hk=>⟨hk.1,fun h=>h⟩) f xs h.cells) ?_⟩
  intro j u hj
  have:=h.own.cells (g:=g) rfl j u hj
  simpa [Addr.add_lit] using this
end
end Go.Proofs.YtcninopmelmajaaGreatDoor
