/-
  Texts laid together (RqMem, EqEnv, EqMean): laws and walks, with their conditions.
-/
import Derived.WalkMore
import Derived.Test.YtcninopmelmajaaDoorTX27
set_option maxHeartbeats 8000000
set_option maxRecDepth 1000000
namespace Go.Proofs.YtcninopmelmajaaDoor
open Go.Lib (hid)
section
open Go.RowKit
namespace Em
abbrev nd0:Nd:=⟨0,⟨#[]⟩,0,0,0,.nil,0,0⟩
inductive Ev
 | nil
 | cons (nm:ByteArray) (v:Nat) (ag:Bool) (h:Nd) (ps:To) (ar r:Ev)
def Ev.length:Ev->Nat
 | .nil=>0
 | .cons _ _ _ _ _ _ r=>r.length+1
def Ev.snoc:Ev->ByteArray->Nat->Bool->Nd->To->Ev->Ev
 | .nil,nm,v,ag,h,ps,ar=>.cons nm v ag h ps ar .nil
 | .cons nm' v' ag' h' ps' YX r,nm,v,ag,h,ps,ar=>.cons nm' v' ag' h' ps' YX (r.snoc nm v ag h ps ar)
theorem Ev.Ai:∀ (e:Ev) (nm:ByteArray) (v:Nat) (ag:Bool) (h:Nd) (ps:To) (ar:Ev),(e.snoc nm v ag h ps ar).length=e.length+1
 | .nil,_,_,_,_,_,_=>rfl
 | .cons _ _ _ _ _ _ r,_,_,_,_,_,_=>by simp only [Ev.snoc,Ev.length];rw [Ev.Ai r]
def lq (most:Nat):Ev->aP
 | .nil=>[]
 | .cons nm v ag h ps ar r=>lq most r++[(nm,if ag then jf most h (dJ most ps) (lq most ar) else jg v)]
theorem Dq (most:Nat):∀ (e:Ev) (nm:ByteArray) (v:Nat) (ag:Bool) (h:Nd) (ps:To) (ar:Ev),lq most (e.snoc nm v ag h ps ar)=(nm,if ag then jf most h (dJ most ps) (lq most ar) else jg v)::lq most e
 | .nil,_,_,_,_,_,_=>rfl
 | .cons _ _ _ _ _ _ r,_,_,_,_,_,_=>by simp only [Ev.snoc,lq];rw [Dq most r];rfl
abbrev eX (nm:ByteArray) (v:Int) (ag:Bool) (h:Nd) (o1:Option Addr) (l1 c1:Nat) (o2:Option Addr) (l2 c2:Nat) (ao:Option Addr) (an ac:Nat):Array Value :=
 #[.string nm,.int .i64 v,.bool ag,.int .i64 h.k,.string h.nm,.int .i64 h.n,.int .i64 h.tk,.int .i64 h.tn,.slice o1 l1 c1,.slice o2 l2 c2,.int .i64 h.fr,.int .i64 h.en,.slice ao an ac]
def qp (w:World) (b off:Nat) (nm:ByteArray) (v:Int) (ag:Bool) (h:Nd) (o1:Option Addr) (l1 c1:Nat) (o2:Option Addr) (l2 c2:Nat) (ao:Option Addr) (an ac:Nat):Prop :=
 w.cell? ⟨b,off,none⟩=some (.string nm)/\w.cell? ⟨b,off+1,none⟩=some (.int .i64 v)/\w.cell? ⟨b,off+2,none⟩=some (.bool ag)/\w.cell? ⟨b,off+3,none⟩=some (.int .i64 h.k)/\w.cell? ⟨b,off+4,none⟩=some (.string h.nm)/\w.cell? ⟨b,off+5,none⟩=some (.int .i64 h.n)/\w.cell? ⟨b,off+6,none⟩=some (.int .i64 h.tk)/\w.cell? ⟨b,off+7,none⟩=some (.int .i64 h.tn)/\w.cell? ⟨b,off+8,none⟩=some (.slice o1 l1 c1)/\w.cell? ⟨b,off+9,none⟩=some (.slice o2 l2 c2)/\w.cell? ⟨b,off+10,none⟩=some (.int .i64 h.fr)/\w.cell? ⟨b,off+11,none⟩=some (.int .i64 h.en)/\w.cell? ⟨b,off+12,none⟩=some (.slice ao an ac)
theorem qp.fr {S:Nat->Prop} {w w':World} {b off:Nat} {nm:ByteArray} {v:Int} {ag:Bool} {h:Nd} {o1:Option Addr} {l1 c1:Nat} {o2:Option Addr} {l2 c2:Nat} {ao:Option Addr} {an ac:Nat} (hc:qp w b off nm v ag h o1 l1 c1 o2 l2 c2 ao an ac) (hf:Fr S w w') (hs:¬ S b):qp w' b off nm v ag h o1 l1 c1 o2 l2 c2 ao an ac:=by
 obtain ⟨a0,a1,a2,a3,a4,a5,a6,a7,a8,a9,a10,a11,a12⟩:=hc;have hb:=World.block_lt_of_cell? w _ a0;exact ⟨(hf.aY hb hs).trans a0,(hf.aY hb hs).trans a1,(hf.aY hb hs).trans a2,(hf.aY hb hs).trans a3,(hf.aY hb hs).trans a4,(hf.aY hb hs).trans a5,(hf.aY hb hs).trans a6,(hf.aY hb hs).trans a7,(hf.aY hb hs).trans a8,(hf.aY hb hs).trans a9,(hf.aY hb hs).trans a10,(hf.aY hb hs).trans a11,(hf.aY hb hs).trans a12⟩
theorem qp.lt {w:World} {b off:Nat} {nm:ByteArray} {v:Int} {ag:Bool} {h:Nd} {o1:Option Addr} {l1 c1:Nat} {o2:Option Addr} {l2 c2:Nat} {ao:Option Addr} {an ac:Nat} (hc:qp w b off nm v ag h o1 l1 c1 o2 l2 c2 ao an ac):b < w.heap.size:=World.block_lt_of_cell? w _ hc.1
def sS (R:Nat->Prop) (w:World):Nat->Nat->Ev->Prop
 | _,_,.nil=>True
 | b,off,.cons nm v ag h ps ar r=>R b/\(∃ o1 l1 c1 o2 l2 c2 ao an ac,qp w b off nm v ag h o1 l1 c1 o2 l2 c2 ao an ac/\aB R w o1 l1 h.tp/\bC R w o2 l2 ps/\an=ar.length/\an<=1000000/\an<=ac/\(0 < an->∃ b' off',ao=some ⟨b',off',none⟩/\sS R w b' off' ar))/\sS R w b (off+13) r
def EvS (R:Nat->Prop) (w:World) (o:Option Addr) (n:Nat) (e:Ev):Prop:=n=e.length/\n<=1000000/\(0 < n->∃ b off,o=some ⟨b,off,none⟩/\sS R w b off e)
theorem EvS.nil (R:Nat->Prop) (w:World) (o:Option Addr):EvS R w o 0 .nil:=⟨rfl,Nat.zero_le _,fun h=>absurd h (Nat.lt_irrefl _)⟩
theorem sS.fr {R T S:Nat->Prop} {w w':World} (hf:Fr S w w') (hR:∀ k,k < w.heap.size->R k->T k/\¬ S k):∀ (e:Ev) (b off:Nat),sS R w b off e->sS T w' b off e
 | .nil,_,_,_=>trivial
 | .cons nm v ag h ps ar r,b,off,ht=>by
  obtain ⟨h0,⟨o1,l1,c1,o2,l2,c2,ao,an,ac,hc,hs,ht,e1,e2,e2',e3⟩,h6⟩:=ht;obtain ⟨hT,hS⟩:=hR b hc.lt h0;refine ⟨hT,⟨o1,l1,c1,o2,l2,c2,ao,an,ac,hc.fr hf hS,hs.fr hf hR,ht.fr hf hR,e1,e2,e2',fun hl=>?_⟩,sS.fr hf hR r b (off+13) h6⟩;obtain ⟨b',off',ho,ha⟩:=e3 hl;exact ⟨b',off',ho,sS.fr hf hR ar b' off' ha⟩
theorem EvS.fr {R T S:Nat->Prop} {w w':World} {o:Option Addr} {n:Nat} {e:Ev} (h:EvS R w o n e) (hf:Fr S w w') (hR:∀ k,k < w.heap.size->R k->T k/\¬ S k):EvS T w' o n e:=by
 refine ⟨h.1,h.2.1,fun hl=>?_⟩;obtain ⟨b,off,ho,ha⟩:=h.2.2 hl;exact ⟨b,off,ho,sS.fr hf hR e b off ha⟩
theorem EvS.stay {R:Nat->Prop} {w w':World} {o:Option Addr} {n:Nat} {e:Ev} (h:EvS R w o n e) (hq:ah w w'):EvS R w' o n e:=h.fr hq (fun _ _ hk=>⟨hk,fun h=>h⟩)
theorem EvS.mono {R T:Nat->Prop} {w:World} {o:Option Addr} {n:Nat} {e:Ev} (h:EvS R w o n e) (hk:∀ k,k < w.heap.size->R k->T k):EvS T w o n e:=h.fr (Fr.refl (fun _=>False) w) (fun k hl hr=>⟨hk k hl hr,fun h=>h⟩)
def Ev.drop:Ev->Nat->Ev
 | e,0=>e
 | .nil,_+1=>.nil
 | .cons _ _ _ _ _ _ r,i+1=>r.drop i
theorem sS.nth {R : Nat -> Prop} {w : World} : ∀ (e : Ev) (b off i : Nat), sS R w b off e -> i < e.length -> ∃ nm v ag h ps ar o1 l1 c1 o2 l2 c2 ao an ac, e.drop i = .cons nm v ag h ps ar (e.drop (i + 1)) /\
    qp w b (off+i*13) nm v ag h o1 l1 c1 o2 l2 c2 ao an ac/\aB R w o1 l1 h.tp/\bC R w o2 l2 ps/\EvS R w ao an ar/\an<=ac/\R b
 | .nil,_,_,_,_,h=>by simp [Ev.length] at h
 | .cons nm v ag h ps ar r,b,off,0,ht,_=>by
  obtain ⟨h0,⟨o1,l1,c1,o2,l2,c2,ao,an,ac,hc,hs,ht,e1,e2,e2',e3⟩,h6⟩:=ht;exact ⟨nm,v,ag,h,ps,ar,o1,l1,c1,o2,l2,c2,ao,an,ac,by cases r<;>rfl,by simpa using hc,hs,ht,⟨e1,e2,e3⟩,e2',h0⟩
 | .cons nm v ag h ps ar r,b,off,i+1,ht,hi=>by
  obtain ⟨_,_,h6⟩:=ht;obtain ⟨nm',v',ag',h',ps',YX,o1,l1,c1,o2,l2,c2,ao,an,ac,k1,k2,k3⟩:=sS.nth r b (off+13) i h6 (by simp [Ev.length] at hi;omega);refine ⟨nm',v',ag',h',ps',YX,o1,l1,c1,o2,l2,c2,ao,an,ac,k1,?_,k3⟩;rw [show off+(i+1)*13=off+13+i*13 from by omega];exact k2
theorem EvS.nth {R : Nat -> Prop} {w : World} {o : Option Addr} {n : Nat} {e : Ev} (h : EvS R w o n e) {i : Nat} (hi : i < n) : ∃ b off nm v ag h ps ar o1 l1 c1 o2 l2 c2 ao an ac, o = some ⟨b, off, none⟩ /\ e.drop i = .cons nm v ag h ps ar (e.drop (i + 1)) /\
    qp w b (off+i*13) nm v ag h o1 l1 c1 o2 l2 c2 ao an ac/\aB R w o1 l1 h.tp/\bC R w o2 l2 ps/\EvS R w ao an ar/\an<=ac/\R b:=by
 obtain ⟨b,off,rfl,ha⟩:=h.2.2 (by omega);obtain ⟨nm,v,ag,h',ps,ar,o1,l1,c1,o2,l2,c2,ao,an,ac,k⟩:=sS.nth e b off i ha (by have:=h.1;omega);exact ⟨b,off,nm,v,ag,h',ps,ar,o1,l1,c1,o2,l2,c2,ao,an,ac,rfl,k⟩
def oW (R:Nat->Prop) (w:World):List Value->Ev->Prop
 | xs,.nil=>xs=[]
 | xs,.cons nm v ag h ps ar r=>∃ o1 l1 c1 o2 l2 c2 ao an ac ys,xs=(eX nm v ag h o1 l1 c1 o2 l2 c2 ao an ac).toList++ys/\aB R w o1 l1 h.tp/\bC R w o2 l2 ps/\EvS R w ao an ar/\an<=ac/\oW R w ys r
theorem oW.fr {R T S:Nat->Prop} {w w':World} (hf:Fr S w w') (hR:∀ k,k < w.heap.size->R k->T k/\¬ S k):∀ (e:Ev) (xs:List Value),oW R w xs e->oW T w' xs e
 | .nil,_,h=>h
 | .cons nm v ag h ps ar r,xs,ht=>by
  obtain ⟨o1,l1,c1,o2,l2,c2,ao,an,ac,ys,rfl,hs,ht,he,hl,hr⟩:=ht;exact ⟨o1,l1,c1,o2,l2,c2,ao,an,ac,ys,rfl,hs.fr hf hR,ht.fr hf hR,he.fr hf hR,hl,oW.fr hf hR r ys hr⟩
theorem oW.snoc {R:Nat->Prop} {w:World} {nm:ByteArray} {v:Nat} {ag:Bool} {h:Nd} {ps:To} {ar:Ev} {o1:Option Addr} {l1 c1:Nat} {o2:Option Addr} {l2 c2:Nat} {ao:Option Addr} {an ac:Nat} (hs:aB R w o1 l1 h.tp) (ht:bC R w o2 l2 ps) (he:EvS R w ao an ar) (hl:an<=ac):∀ (e:Ev) (xs:List Value),oW R w xs e->oW R w (xs++(eX nm v ag h o1 l1 c1 o2 l2 c2 ao an ac).toList) (e.snoc nm v ag h ps ar)
 | .nil,xs,e=>by
  cases e;exact ⟨o1,l1,c1,o2,l2,c2,ao,an,ac,[],by simp,hs,ht,he,hl,rfl⟩
 | .cons nm' v' ag' h' ps' YX r,xs,e=>by
  obtain ⟨p1,m1,d1,p2,m2,d2,po,pn,pc,ys,rfl,q1,q2,q3,q4,hr⟩:=e;exact ⟨p1,m1,d1,p2,m2,d2,po,pn,pc,_,by rw [List.append_assoc],q1,q2,q3,q4,oW.snoc hs ht he hl r ys hr⟩
theorem oW.at {R:Nat->Prop} {w:World} {g:Nat} (hg:R g):∀ (e:Ev) (xs:List Value) (off:Nat),oW R w xs e->(∀ j u,xs[j]?=some u->w.cell? ⟨g,off+j,none⟩=some u)->sS R w g off e
 | .nil,_,_,_,_=>trivial
 | .cons nm v ag h ps ar r,xs,off,e,hc=>by
  obtain ⟨o1,l1,c1,o2,l2,c2,ao,an,ac,ys,rfl,hs,ht,he,hl,hr⟩:=e;refine ⟨hg,⟨o1,l1,c1,o2,l2,c2,ao,an,ac,⟨hc 0 _ rfl,hc 1 _ rfl,hc 2 _ rfl,hc 3 _ rfl,hc 4 _ rfl,hc 5 _ rfl,hc 6 _ rfl,hc 7 _ rfl,hc 8 _ rfl,hc 9 _ rfl,hc 10 _ rfl,hc 11 _ rfl,hc 12 _ rfl⟩,hs,ht,he.1,he.2.1,hl,he.2.2⟩,oW.at hg r ys (off+13) hr ?_⟩;intro j u hj;have:=hc (j+13) u (by simpa using hj);rw [<-this];congr 2;omega
theorem sS.row {R:Nat->Prop} {w:World}:∀ (e:Ev) (b off:Nat),sS R w b off e->∃ xs,oW R w xs e/\∀ j u,xs[j]?=some u->w.cell? ⟨b,off+j,none⟩=some u
 | .nil,_,_,_=>⟨[],rfl,fun j u h=>by simp at h⟩
 | .cons nm v ag h ps ar r,b,off,ht=>by
  obtain ⟨h0,⟨o1,l1,c1,o2,l2,c2,ao,an,ac,hc,hs,ht,e1,e2,e2',e3⟩,h6⟩:=ht;obtain ⟨ys,hr,hy⟩:=sS.row r b (off+13) h6;refine ⟨(eX nm v ag h o1 l1 c1 o2 l2 c2 ao an ac).toList++ys,⟨o1,l1,c1,o2,l2,c2,ao,an,ac,ys,rfl,hs,ht,⟨e1,e2,e3⟩,e2',hr⟩,fun j u hj=>?_⟩
  by_cases h13:j < 13
  ·obtain ⟨a0,a1,a2,a3,a4,a5,a6,a7,a8,a9,a10,a11,a12⟩:=hc;rw [List.getElem?_append_left (by simpa using h13)] at hj
   match j,h13,hj with
   | 0,_,hj=>simp at hj;subst hj;exact a0
   | 1,_,hj=>simp at hj;subst hj;exact a1
   | 2,_,hj=>simp at hj;subst hj;exact a2
   | 3,_,hj=>simp at hj;subst hj;exact a3
   | 4,_,hj=>simp at hj;subst hj;exact a4
   | 5,_,hj=>simp at hj;subst hj;exact a5
   | 6,_,hj=>simp at hj;subst hj;exact a6
   | 7,_,hj=>simp at hj;subst hj;exact a7
   | 8,_,hj=>simp at hj;subst hj;exact a8
   | 9,_,hj=>simp at hj;subst hj;exact a9
   | 10,_,hj=>simp at hj;subst hj;exact a10
   | 11,_,hj=>simp at hj;subst hj;exact a11
   | 12,_,hj=>simp at hj;subst hj;exact a12
  ·have:=hy (j-13) u (by rw [List.getElem?_append_right (by simp;omega)] at hj;simpa using hj);rw [<-this];congr 2;omega
theorem oW.length {R:Nat->Prop} {w:World}:∀ (e:Ev) (xs:List Value),oW R w xs e->xs.length=e.length*13/\∀ u∈xs,u.oneCell'=true
 | .nil,xs,h=>by cases h;exact ⟨rfl,fun u hu=>by cases hu⟩
 | .cons nm v ag h ps ar r,xs,ht=>by
  obtain ⟨o1,l1,c1,o2,l2,c2,ao,an,ac,ys,rfl,hs,ht,he,hl,hr⟩:=ht;obtain ⟨k1,k2⟩:=oW.length r ys hr;refine ⟨by simp [Ev.length];omega,fun u hu=>?_⟩;rcases List.mem_append.1 hu with hu | hu
  ·simp at hu;rcases hu with rfl | rfl | rfl | rfl | rfl | rfl | rfl | rfl | rfl | rfl | rfl | rfl | rfl<;>rfl
  ·exact k2 u hu
end Em
end
section
open Go.RowKit Go.Shelf
namespace Em
abbrev iP:=List (ByteArray × Value)
def nR (e:iP):List Value:=e.reverse.flatMap (fun x=>[.string x.1,x.2])
def mP (T:Nat->Prop) (w:World) (o:Option Addr) (n:Nat) (e:iP):Prop :=
 n=e.length/\n<=maxLen/\(0 < n->∃ b,o=some ⟨b,0,none⟩/\T b/\b < w.heap.size/\∀ j u,(nR e)[j]?=some u->w.cell? ⟨b,j,none⟩=some u)
theorem mP.nil (T:Nat->Prop) (w:World) (o:Option Addr):mP T w o 0 []:=⟨rfl,Nat.zero_le _,fun h=>absurd h (Nat.lt_irrefl _)⟩
theorem mP.fr {T T' S:Nat->Prop} {w w':World} {o:Option Addr} {n:Nat} {e:iP} (h:mP T w o n e) (hf:Fr S w w') (hT:∀ k,k < w.heap.size->T k->T' k/\¬ S k):mP T' w' o n e:=by
 refine ⟨h.1,h.2.1,fun hn=>?_⟩;obtain ⟨b,he,ht,hl,hc⟩:=h.2.2 hn;obtain ⟨h1,h2⟩:=hT b hl ht;exact ⟨b,he,h1,Nat.lt_of_lt_of_le hl hf.size,fun j u hj=>(hf.aY hl h2).trans (hc j u hj)⟩
theorem mP.stay {T:Nat->Prop} {w w':World} {o:Option Addr} {n:Nat} {e:iP} (h:mP T w o n e) (hq:ah w w'):mP T w' o n e:=h.fr hq (fun _ _ hk=>⟨hk,fun h=>h⟩)
theorem mP.later {X:Nat->Prop} {pb:Nat} {w w':World} {o:Option Addr} {n:Nat} {e:iP} (h:mP (TF X pb w) w o n e) (hl:Later pb w w'):mP (TF X pb w') w' o n e :=
 h.fr hl.fr (fun _ hk ht=>⟨hl.tf hk ht,fun e=>e.elim ht.1 ht.2.1⟩)
theorem mP.nothing {T:Nat->Prop} {w:World} {n:Nat} {e:iP} (h:mP T w none n e):n=0:=by
 rcases Nat.eq_zero_or_pos n with h0 | h0
 ·exact h0
 ·obtain ⟨b,he,_⟩:=h.2.2 h0;cases he
theorem wQ:∀ l:iP,(l.flatMap (fun x=>[Value.string x.1,x.2])).length=l.length*2
 | []=>rfl
 | x::l=>by simp only [List.flatMap_cons,List.length_append,List.length_cons,List.length_nil];rw [wQ l];omega
theorem Dt:∀ (l:iP) (i:Nat) (x:ByteArray × Value),l[i]?=some x->(l.flatMap (fun x=>[Value.string x.1,x.2]))[i*2]?=some (.string x.1)/\(l.flatMap (fun x=>[Value.string x.1,x.2]))[i*2+1]?=some x.2
 | [],i,x,h=>by simp at h
 | y::l,0,x,h=>by simp at h;subst h;simp
 | y::l,i+1,x,h=>by
  have ih:=Dt l i x (by simpa using h);rw [show (i+1)*2=i*2+1+1 by omega];simpa [List.flatMap_cons] using ih
theorem mP.at {T:Nat->Prop} {w:World} {o:Option Addr} {n:Nat} {e:iP} (h:mP T w o n e) {i:Nat} {x:ByteArray × Value} (hi:e.reverse[i]?=some x):∃ b,o=some ⟨b,0,none⟩/\w.cell? ⟨b,i*2,none⟩=some (.string x.1)/\w.cell? ⟨b,i*2+1,none⟩=some x.2:=by
 have hl:=(List.getElem?_eq_some_iff.1 hi).1;simp at hl;obtain ⟨b,he,_,_,hc⟩:=h.2.2 (by have:=h.1;omega);obtain ⟨c1,c2⟩:=Dt e.reverse i x hi;exact ⟨b,he,hc _ _ c1,hc _ _ c2⟩
theorem Ii:Elem Tryd.prog 84 106 (.agg #[.string ⟨#[]⟩,.nilFunc]) 2 24 :=
 ⟨Tryd.underlying84,by kernel_rfl,by decide,by decide⟩
theorem Ul {T:Nat->Prop} {w:World} {o:Option Addr} {n:Nat} {e:iP} (h:mP T w o n e):∀ b,o=some b->∀ j u,(nR e)[j]?=some u->w.cell? (b.add j)=some u:=by
 rintro b rfl j u hj;have hl:=(List.getElem?_eq_some_iff.1 hj).1;have hlen:(nR e).length=e.length*2:=by unfold nR;rw [wQ];simp
 obtain ⟨b',he,_,_,hc⟩:=h.2.2 (by have:=h.1;omega);injection he with he
 subst he;rw [Addr.add_lit,Nat.zero_add];exact hc j u hj
theorem mP.G5 {T:Nat->Prop} {w:World} {base g n c:Nat} {e:iP} {s:ByteArray} {v:Value} (ho:w.ownsRow base 106 2 (.slice (some ⟨g,0,none⟩) n c) n (nR e++[.string s,v])) (hn:n=e.length+1) (hm:n<=maxLen) (ht:T g):mP T w (some ⟨g,0,none⟩) n ((s,v)::e):=by
 refine ⟨by simpa using hn,hm,fun _=>⟨g,rfl,ht,(ho.lt g rfl).2,fun j u hj=>?_⟩⟩;have hx:(nR e++[.string s,v])[j]?=some u:=by
  have:nR ((s,v)::e)=nR e++[.string s,v]:=by unfold nR;simp
  rw [<-this];exact hj
 have:=ho.cells (g:=g) rfl j u hx;simpa [Addr.add_lit] using this
theorem zA {ops : Array Oper} {rest : List Oper} {o : Oper} {a : Act} {Q : Exit -> Act -> World -> Prop} (W : World) (hgd : o.guard = none) (s x : Operand)
    (hop:o.op=Op.call { callee:=Callee.builtin Builtin.append,args:=#[s,x],argTypes:=#[84,84] }) {T:Nat->Prop} {ao:Option Addr} {n:Nat} {e:iP} (hN:mP T W ao n e) (str:ByteArray) (v:Value) (hv:v.oneCell'=true)
    (hs:a.eval s=.slice ao n n) (hx:a.eval x=.slice (some ⟨W.heap.size,0,none⟩) 1 1) (b1:n+1<=1000000)
    (hK:∀ g c w',mP (fun k=>W.heap.size<=k) w' (some ⟨g,0,none⟩) (n+1) ((str,v)::e)->n+1<=c->ah W w'->wpList Tryd.prog ops Q rest (a.put o.dst (.slice (some ⟨g,0,none⟩) (n+1) c)) w') :
    wpList Tryd.prog ops Q (o::rest) a (W.alloc (.cells #[.string str,v] 106)):=by
 obtain ⟨i0,hi,hz0,hz1,hz2⟩:=info_parts Ii.info;have hN2:=hN.stay (ah.alloc W (.cells #[.string str,v] 106));have hlen:(nR e).length=e.length*2:=by unfold nR;rw [wQ];simp
 refine wpList_append_grows (W.alloc (.cells #[.string str,v] 106)) hgd s x 84 hop 106 i0 (.agg #[.string ⟨#[]⟩,.nilFunc]) 2 24 Ii.under hi hz0 hz1 hz2 Ii.cells Ii.pos ao n n (nR e) hs
  (fun h=>by subst h;exact ⟨hN.nothing,hN.nothing⟩) (by rw [hlen,hN.1]) (Ul hN2) ⟨W.heap.size,0,none⟩ 1 1 [.string str,v] hx rfl ?_ (by intro u hu;simp at hu;rcases hu with rfl | rfl;rfl;exact hv) (by omega) (by unfold maxLen;omega) (by omega) ?_
 ·intro j u hu;rw [Addr.add_lit,cell_of_row (W.alloc (.cells #[.string str,v] 106)) W.heap.size (0+j) #[.string str,v] 106 (0,0) (heap_alloc_new W _)];simpa using hu
 ·intro v' w' hown hgr;obtain ⟨g,c,rfl,hb,_⟩:=hown.form (by omega);have hcap:n+1<=c:=by
   rcases hown.2 with ⟨h1,h0⟩ | ⟨g',cap,cur,he,_,_,hc,_⟩
   ·cases h1
   ·injection he with _ _ h3;omega
  simp at hb;exact hK g c w' (mP.G5 hown (by rw [hN.1]) (by unfold maxLen;omega) (by omega)) hcap ((ah.alloc _ _).trans (Fr.grown hgr (fun k hk=>by cases hk)))
theorem Qq (o:Option Addr) (n c:Nat) (w:World) (hc:n<=c) (_:o=none->n=0):Calls Tryd.prog 60 #[.slice o n c] w fun e w'=>e=.returned (.slice o n n)/\w=w':=by
 go_enter Tryd.func60,Tryd.ntmps60;go_wp2_with fail;go_ret;exact ⟨rfl,rfl⟩
def ZX (W:World) (e:iP) (x:Ending) (w':World):Prop:=∃ o c,x=.returned (.slice o e.length c)/\mP (fun k=>W.heap.size<=k) w' o e.length e/\e.length<=c/\ah W w'
theorem Qr (T : Nat -> Prop) (e : iP) (s : ByteArray) (f : Fn) (bs ls : Array Value) (o : Option Addr) (n c : Nat) (w : World) (h : mP T w o n e) (hc : n <= c) (hn : n <= 900000) :
    Calls Tryd.prog 41 #[.slice o n c,.string s,.func f bs ls] w (ZX w ((s,.func f bs ls)::e)):=by
 have HN:=hid h;have HCL:=hid (Qq o n c w hc (fun hx=>by subst hx;exact h.nothing));have HL:=hid h.1;clear h;go_enter Tryd.func41,Tryd.ntmps41;go_wp2_with fail;refine HCL.out.mono ?_;rintro x w1 ⟨rfl,rfl⟩;go_wp2_with (at_builtin;go_must (refine zA w rfl (.tmp 8) (.tmp 12) rfl HN.out s (.func f bs ls) rfl rfl rfl (by omega) ?_));intro g c' w2 hb hcap hq;have HB:=hid hb;have HQ:=hid hq;clear hb hq;go_wp2_with fail;go_ret;exact ⟨some ⟨g,0,none⟩,c',by rw [List.length_cons,<-HL.out];rfl,by rw [List.length_cons,<-HL.out];exact HB.out,by rw [List.length_cons,<-HL.out];exact hcap,HQ.out⟩
end Em
end
section
open Go.RowKit
namespace Em
abbrev Aj:Nat:=500000000
def jO (most:Int) (pb lo:Nat) (W0:World) (v:Value) (f:Pm Ty):Prop:=∃ (F:Nat) (lb:Array Value),v=.func (.func F) #[] lb/\(∀ args w,(callFunc F args).run Tryd.prog w=.ok (.enter F args) w) /\
 ∀ (W:World) (X:Nat->Prop) (mk:Mk) (a b:Int),Later pb W0 W->dQ X most pb W mk->lo<=mk.next->(f mk).2.next<=Aj->Calls Tryd.prog F (#[.pointer (some ⟨pb,0,none⟩),.agg #[.int .i64 a,.int .i64 b]]++lb) W (I8 X most pb W (f mk))
theorem jO.later {most:Int} {pb lo lo':Nat} {W0 W1:World} {v:Value} {f:Pm Ty} (h:jO most pb lo W0 v f) (hl:Later pb W0 W1) (hlo:lo<=lo'):jO most pb lo' W1 v f:=by
 obtain ⟨F,lb,h1,h2,h3⟩:=h;exact ⟨F,lb,h1,h2,fun W X mk a b hw hm hn=>h3 W X mk a b (hl.trans hw) hm (by omega)⟩
inductive sU (most:Int) (pb lo:Nat) (W0:World):iP->Env->Prop
 | nil:sU most pb lo W0 [] []
 | cons {s:ByteArray} {v:Value} {f:Pm Ty} {e:iP} {E:Env}:jO most pb lo W0 v f->NM f->sU most pb lo W0 e E->sU most pb lo W0 ((s,v)::e) ((s,f)::E)
theorem sU.later {most:Int} {pb lo lo':Nat} {W0 W1:World} {e:iP} {E:Env} (h:sU most pb lo W0 e E) (hl:Later pb W0 W1) (hlo:lo<=lo'):sU most pb lo' W1 e E:=by
 induction h with
 | nil=>exact .nil
 | cons h1 h2 _ ih=>exact .cons (h1.later hl hlo) h2 ih
theorem sU.ne {most:Int} {pb lo:Nat} {W0:World} {e:iP} {E:Env} (h:sU most pb lo W0 e E):NE E:=by
 induction h with
 | nil=>exact NE.nil
 | cons _ h2 _ ih=>exact ih.cons h2
def yu:iP->ByteArray->Option Value
 | [],_=>none
 | x::r,s=>if x.1=s then some x.2 else yu r s
theorem sU.look {most:Int} {pb lo:Nat} {W0:World} {e:iP} {E:Env} (h:sU most pb lo W0 e E) {s:ByteArray} {v:Value} (hv:yu e s=some v):jO most pb lo W0 v (mD E s):=by
 induction h with
 | nil=>cases hv
 | cons h1 _ _ ih =>
  unfold yu at hv;unfold mD
  split at hv
  ·next hs =>
   cases hv;rw [if_pos hs];exact h1
  ·next hs=>rw [if_neg hs];exact ih hv
theorem Du:∀ (e:iP) (s:ByteArray),s∈e.map Prod.fst->∃ v,yu e s=some v
 | [],s,h=>by cases h
 | x::r,s,h=>by
  unfold yu
  by_cases hs:x.1=s
  ·exact ⟨x.2,by rw [if_pos hs]⟩
  ·rw [if_neg hs];refine Du r s ?_;rcases List.mem_cons.1 h with h | h
   ·exact absurd h.symm hs
   ·exact h
def rG (e:iP) (s:ByteArray) (i:Nat):Option Value:=yu (e.drop (e.length-i)) s
theorem JQ {e:iP} {s:ByteArray} {i:Nat} {x:ByteArray × Value} (hi:e.reverse[i]?=some x):rG e s (i+1)=if x.1=s then some x.2 else rG e s i:=by
 have hl:=(List.getElem?_eq_some_iff.1 hi).1;simp at hl;have hx:e[e.length-(i+1)]?=some x:=by
  rw [List.getElem?_reverse (by simpa using hl)] at hi;rw [<-hi];congr 1;omega
 have hd:e.drop (e.length-(i+1))=x::e.drop (e.length-i):=by
  obtain ⟨h1,h2⟩:=List.getElem?_eq_some_iff.1 hx;rw [List.drop_eq_getElem_cons h1,h2]
  congr 2;omega
 unfold rG;rw [hd];rfl
theorem MJ (e:iP) (s:ByteArray):rG e s e.length=yu e s:=by unfold rG;simp
theorem Um (T : Nat -> Prop) (e : iP) (s : ByteArray) (v : Value) (o : Option Addr) (n c : Nat) (w : World) (h : mP T w o n e) (hn : n <= 1000000) (hv : yu e s = some v) :
    Calls Tryd.prog 40 #[.slice o n c,.string s] w fun x w'=>x=.returned v/\w=w':=by
 have HN:=hid h;have HL:=hid h.1;have HV:Hid (rG e s n=some v):=by show _=_;rw [h.1,MJ];exact hv
 clear h hv;go_enter Tryd.func40,Tryd.ntmps40;go_wp2_with fail;go_step3;go_wp2_with fail;go_step3;go_wp2_with fail;go_loopw [5,6] (fun f t wr=>∃ i:Nat,t=.int .i64 ((i:Int)-1)/\f=.nilFunc/\i<=n/\rG e s i=some v/\w=wr) (fun _ t _=>(intOf t+1).toNat)
 case atStart=>exact ⟨n,rfl,rfl,Nat.le_refl _,HV.out,rfl⟩
 case round =>
  obtain ⟨i,rfl,rfl,hi,ha,rfl⟩:=hrel;have HA:=hid ha;clear ha;cases i with
  | zero=>exact absurd HA.out (by unfold rG;simp [yu])
  | succ i =>
   obtain ⟨x,hx⟩:∃ x,e.reverse[i]?=some x:=⟨_,List.getElem?_eq_getElem (by rw [List.length_reverse];have:=HL.out;omega)⟩;obtain ⟨b,rfl,c0,c1⟩:=HN.out.at hx;have HS:=hid (JQ (s:=s) hx);have hlt:i < n:=by omega
   rw [show ((i+1:Nat):Int)-1=(i:Int) by omega]
   by_cases hxs:x.1=s
   ·have he:(x.1.toList == s.toList)=true:=by simp [hxs]
    have HV2:Hid (x.2=v):=by
     show _=_
     have h1:=HS.out;rw [HA.out,if_pos hxs] at h1;exact (Option.some.inj h1).symm
    clear hx;go_wp2_with fail
    try rw [Exit.noGoto_ret]
    go_ret;exact ⟨congrArg Ending.returned HV2.out,rfl⟩
   ·have he : (x.1.toList == s.toList) = false := by
      cases hc:(x.1.toList == s.toList)
      ·rfl
      ·exact absurd (Sc.str_eq.1 hc) hxs
    have HV2:Hid (rG e s i=some v):=by
     show _=_
     have h1:=HS.out;rw [HA.out,if_neg hxs] at h1;exact h1.symm
    clear hx;go_wp2_with fail;go_roundw
    case rel=>exact ⟨i,rfl,rfl,by omega,HV2.out,trivial⟩
    case measure=>first | (simp [intOf];done) | (simp [intOf];omega)
theorem Qs:∀ args w,(callFunc 61 args).run Tryd.prog w=.ok (.enter 61 args) w:=enters_of Tryd.func61 (by kernel_rfl) rfl
theorem JR {X : Nat -> Prop} {most : Int} {pb n cb : Nat} {W : World} {mk : Mk} {o : Option Addr} {cap : Nat} (a b : Int) (hb : W.heap[cb]? = some (.cells #[.int .i64 1, .int .i64 n, .slice o 0 cap] 25 (0, 0))) (h : dQ X most pb W mk) :
    Calls Tryd.prog 61 #[.pointer (some ⟨pb,0,none⟩),.agg #[.int .i64 a,.int .i64 b],.pointer (some ⟨cb,0,none⟩)] W (I8 X most pb W (tv n,mk)):=by
 obtain ⟨W1,hW1⟩:∃ W1,W1=(W.alloc (.cells #[.int .i64 a,.int .i64 b] 28)).alloc (.cells #[.int .i64 0,.int .i64 0,.slice none 0 0] 25):=⟨_,rfl⟩;have fD:Hid (ah W W1):=by rw [hW1];exact (ah.alloc _ _).trans (ah.alloc _ _)
 have HB1:Hid (W1.heap[W.heap.size+1]?=some (.cells #[.int .i64 0,.int .i64 0,.slice none 0 0] 25 (0,0))):=by
  show _=_;rw [hW1]
  have:=heap_alloc_new (W.alloc (.cells #[.int .i64 a,.int .i64 b] 28)) (.cells #[.int .i64 0,.int .i64 0,.slice none 0 0] 25);simpa using this
 have hz1:W1.heap.size=W.heap.size+2:=by rw [hW1];simp
 obtain ⟨a0,a1,a2,_,_,_⟩:=ay (dF hb fD.out);obtain ⟨d0,d1,d2,y0,y1,y2⟩:=ay HB1.out;have HH:=hid (h.more fD.out (fun i=>i=W.heap.size+1) (fun i hi=>by subst hi;omega));have HP:=hid h.lt;clear h hb hz1;unfold I8;unfold fG;go_enter Tryd.func61,Tryd.ntmps61;generalize hB:W.heap.size=B at *;go_upto_region 1 with fail
 rw [<-hW1];clear hW1;go_wp2_with fail;have hf:=aZ W1 (B+1) (.int .i64 1) (.int .i64 n) (.slice o 0 cap);obtain ⟨f0,f1,f2⟩:=aV (a:=.int .i64 1) (b:=.int .i64 n) (c:=.slice o 0 cap) HB1.out;change bodyPost _ _ _ _ _ (bf W1 (B+1) (.int .i64 1) (.int .i64 n) (.slice o 0 cap));generalize bf W1 (B+1) (.int .i64 1) (.int .i64 n) (.slice o 0 cap)=wf at *;refine bodyPost_ret (by simp [results,Tryd.results61,go_sem,f0,f1,f2];rfl) rfl ?_;have hp:pb < W.heap.size:=by rw [hB];exact HP.out
 exact ⟨n,o,cap,rfl,rfl,(HH.out.put (hf.mono (fun i _ e=>.inr e))).less (fun i hi=>.inl hi),(Later.aS fD.out hp).put hf hp (fun i hi=>by omega)⟩
theorem Dv {X : Nat -> Prop} {most : Int} {pb n lo : Nat} {W : World} {mk : Mk} {o : Option Addr} {cap : Nat} (h : dQ X most pb W mk) :
    Calls Tryd.prog 42 #[fG 1 n o 0 cap] W fun x w'=>∃ bs ls,x=.returned (.func bs #[] ls)/\jO most pb lo w' (.func bs #[] ls) (pu (tv n))/\ah W w':=by
 have hb:=heap_alloc_new W (.cells #[.int .i64 1,.int .i64 n,.slice o 0 cap] 25);have hq:=ah.alloc W (.cells #[.int .i64 1,.int .i64 n,.slice o 0 cap] 25);have htf:=h.fresh hq (Nat.le_refl _);have HF:Hid (jO most pb lo (W.alloc (.cells #[.int .i64 1,.int .i64 n,.slice o 0 cap] 25)) (.func (.func 61) #[] #[.pointer (some ⟨W.heap.size,0,none⟩)]) (pu (tv n))) :=
  ⟨_,_,rfl,Qs,fun W' X' mk' a b hl hm _ _=>JR a b (aC hl.fr (fun e=>e.elim htf.1 htf.2.1) hb) hm⟩
 have HQ:=hid hq;clear h hb hq htf;unfold fG;go_enter Tryd.func42,Tryd.ntmps42;go_wp2_with fail;go_ret;exact ⟨_,_,rfl,HF.out,HQ.out⟩
end Em
end
end Go.Proofs.YtcninopmelmajaaDoor
