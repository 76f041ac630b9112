/-
  Texts laid together (ScTmRow, Blk, EqMem, EqStep): laws and walks, with their conditions.
-/
import Derived.Deep.RegionLaw
import Derived.Deep.RegionLawGrows
import Derived.Test.YtcninopmelmajaaDoorTX10
set_option maxHeartbeats 8000000
set_option maxRecDepth 1000000
namespace Go.Proofs.YtcninopmelmajaaDoor
open Go.Lib (hid)
section
open Go.RowKit
namespace Sc
structure cO (w:World) (T:Nat->Prop) (v:Value) (f:To) (xs:List Value):Prop where
 own:w.ownsRow 0 30 9 v f.length xs
 low:∀ k,v.ownBlock=some k->T k
 cells:kC (fun k=>T k/\v.ownBlock≠some k) w xs f
theorem cO.nil (w:World) (T:Nat->Prop):cO w T (.slice none 0 0) .nil []:=⟨World.ownsRow_nil _ _ _ _,fun k hk=>(by cases hk),rfl⟩
theorem cO.fr {w w':World} {T:Nat->Prop} {v:Value} {f:To} {xs:List Value} {S:Nat->Prop} (h:cO w T v f xs) (hf:Fr S w w') (hS:∀ k,T k->¬ S k):cO w' T v f xs :=
 ⟨aU h.own hf (fun k hk hs=>hS k (h.low k hk) hs),h.low,kC.fr hf (fun k _ hk=>⟨hk,hS k hk.1⟩) f xs h.cells⟩
theorem cO.stay {w w':World} {T:Nat->Prop} {v:Value} {f:To} {xs:List Value} (h:cO w T v f xs) (hf:ah w w'):cO w' T v f xs:=h.fr hf (fun _ _ h=>h)
theorem cO.lt {w:World} {T:Nat->Prop} {v:Value} {f:To} {xs:List Value} (h:cO w T v f xs):∀ k,v.ownBlock=some k->k < w.heap.size:=fun k hk=>(h.own.lt k hk).2
theorem cO.snoc {W w1 : World} {T : Nat -> Prop} {v : Value} {f : To} {xs : List Value} {h : Nd} {ps : To} {o1 : Option Addr} {l1 c1 : Nat} {o2 : Option Addr} {l2 c2 g c : Nat} (hr : cO W T v f xs)
    (hs:aB (fun k=>T k/\v.ownBlock≠some k) W o1 l1 h.tp) (ht:bC (fun k=>T k/\v.ownBlock≠some k) W o2 l2 ps)
    (ho:w1.ownsRow 0 30 9 (.slice (some ⟨g,0,none⟩) (f.length+1) c) (f.length+1) (xs++(cells9 h o1 l1 c1 o2 l2 c2).toList)) (hf:Fr (fun k=>v.ownBlock=some k) W w1) (hg:v.ownBlock=some g∨W.heap.size<=g) (hT:∀ k,W.heap.size<=k->T k) :
    cO w1 T (.slice (some ⟨g,0,none⟩) (f.length+1) c) (f.app (.cons h ps .nil)) (xs++(cells9 h o1 l1 c1 o2 l2 c2).toList):=by
 refine ⟨by rw [To.bJ];exact ho,?_,?_⟩
 ·intro k hk;simp [Value.ownBlock] at hk;subst hk;rcases hg with h | h
  ·exact hr.low g h
  ·exact hT _ h
 ·have hk : ∀ k, k < W.heap.size -> (T k /\ v.ownBlock ≠ some k) -> ((T k /\ (Value.slice (some ⟨g, 0, none⟩) (f.length + 1) c).ownBlock ≠ some k) /\ ¬ v.ownBlock = some k) := by
    rintro k hk ⟨h1,h2⟩;refine ⟨⟨h1,fun h=>?_⟩,h2⟩;simp [Value.ownBlock] at h;subst h;rcases hg with h | h
    ·exact h2 h
    ·omega
  exact kC.snoc (hs.fr hf hk) (ht.fr hf hk) f xs (kC.fr hf hk f xs hr.cells)
theorem cO.slc {w:World} {T:Nat->Prop} {o:Option Addr} {len cap:Nat} {f:To} {xs:List Value} (h:cO w T (.slice o len cap) f xs) (hl:len=f.length) (hm:len<=maxLen):bC T w o len f:=by
 refine ⟨hl,hm,fun h0=>?_⟩;rcases h.own.2 with ⟨_,h2⟩ | ⟨g,cap',cur,he,_⟩
 ·omega
 ·injection he with h1 h2 h3
  subst h1;refine ⟨g,0,rfl,kC.at (h.low g rfl) f xs 0 (kC.fr (Fr.refl (fun _=>False) w) (fun k _ hk=>⟨hk.1,fun h=>h⟩) f xs h.cells) ?_⟩;intro j u hj;have:=h.own.cells (g:=g) rfl j u hj;simpa [Addr.add_lit] using this
end Sc
end
section
open Go.RowKit
theorem nK {w0 W w3:World} {G:Prop} (h:ah w0 W) (hq:ah W w3) (k:ah w0 w3->G):G:=k (h.trans hq)
theorem lD (w:World) (b:Nat) (cs:Array Value) (t:TypeId) (h:b=w.heap.size):(w.alloc (.cells cs t)).heap[b]?=some (.cells cs t (0,0)):=by
 subst h;exact heap_alloc_new w _
theorem au {w W:World} {b:Nat} {o:Obj} (hq:ah w W) (h:w.heap[b]?=some o):W.heap[b]?=some o:=by
 have hlt:b < w.heap.size:=(Array.getElem?_eq_some_iff.1 h).1;rw [hq.block b hlt (fun h=>h)];exact h
theorem ig {w:World} {b:Nat} {o:Obj} (h:w.heap[b]?=some o):w.drew.heap[b]?=some o:=h
theorem ah.fr {S:Nat->Prop} {w w':World} (h:ah w w'):Fr S w w':=h.mono (fun _ _ h=>h.elim)
theorem Sr {S:Nat->Prop} {w0 W w3:World} {G:Prop} (h:Fr S w0 W) (hq:ah W w3) (k:Fr S w0 w3->G):G:=k (h.trans hq.fr)
theorem aF {w:World} {b i:Nat} {cs:Array Value} {u:Value} {t:TypeId} {z:Nat × Nat} (h:w.heap[b]?=some (.cells cs t z)):(w.setCell ⟨b,i,none⟩ u).heap[b]?=some (.cells (cs.setIfInBounds i u) t z):=by
 have hlt:=(Array.getElem?_eq_some_iff.1 h).1;have h':w.heap[b]=.cells cs t z:=by simpa [Array.getElem?_eq_getElem hlt] using h
 show (w.heap.modify b _)[b]?=_
 rw [Array.getElem?_eq_getElem (by simpa using hlt),Array.getElem_modify_self,h'];rfl
theorem aC {S:Nat->Prop} {w W:World} {b:Nat} {o:Obj} (hf:Fr S w W) (hb:¬ S b) (h:w.heap[b]?=some o):W.heap[b]?=some o:=by
 rw [hf.block b (Array.getElem?_eq_some_iff.1 h).1 hb];exact h
theorem tq {w0 W w3:World} {S:Nat->Prop} {G:Prop} (h:ah w0 W) (hf:Fr S W w3) (hS:∀ k,S k->w0.heap.size<=k) (k:ah w0 w3->w0.heap.size<=w3.heap.size->G):G :=
 have hq:ah w0 w3:=Fr.trans' h hf (fun i hi hs=>by have:=hS i hs;omega)
 k hq hq.size
end
section
open Go.RowKit
namespace Em
abbrev ec (t:lF) (o1:Option Addr) (l1 c1:Nat) (o2:Option Addr) (l2 c2:Nat):Array Value :=
 #[.int .i64 t.1.1,.int .i64 t.1.2.1,.slice o1 l1 c1,.int .i64 t.2.1.1,.int .i64 t.2.1.2.1,.slice o2 l2 c2,.int .i64 t.2.2.1,.int .i64 t.2.2.2]
def jI (R:Nat->Prop) (w:World):List Value->List lF->Prop
 | xs,[]=>xs=[]
 | xs,t::r=>∃ o1 l1 c1 o2 l2 c2 ys,xs=(ec t o1 l1 c1 o2 l2 c2).toList++ys/\aB R w o1 l1 t.1.2.2/\aB R w o2 l2 t.2.1.2.2/\jI R w ys r
theorem jI.fr {R T S:Nat->Prop} {w w':World} (hf:Fr S w w') (hR:∀ k,k < w.heap.size->R k->T k/\¬ S k):∀ (l:List lF) (xs:List Value),jI R w xs l->jI T w' xs l
 | [],_,h=>h
 | t::r,xs,h=>by
  obtain ⟨o1,l1,c1,o2,l2,c2,ys,rfl,s1,s2,hr⟩:=h;exact ⟨o1,l1,c1,o2,l2,c2,ys,rfl,s1.fr hf hR,s2.fr hf hR,jI.fr hf hR r ys hr⟩
theorem jI.snoc {R:Nat->Prop} {w:World} {t:lF} {o1:Option Addr} {l1 c1:Nat} {o2:Option Addr} {l2 c2:Nat} (s1:aB R w o1 l1 t.1.2.2) (s2:aB R w o2 l2 t.2.1.2.2):∀ (l:List lF) (xs:List Value),jI R w xs l->jI R w (xs++(ec t o1 l1 c1 o2 l2 c2).toList) (l++[t])
 | [],xs,h=>by
  cases h;exact ⟨o1,l1,c1,o2,l2,c2,[],by simp,s1,s2,rfl⟩
 | u::r,xs,h=>by
  obtain ⟨p1,m1,d1,p2,m2,d2,ys,rfl,s1',s2',hr⟩:=h;exact ⟨p1,m1,d1,p2,m2,d2,_,by rw [List.append_assoc],s1',s2',jI.snoc s1 s2 r ys hr⟩
theorem jI.get {R:Nat->Prop} {w:World}:∀ (l:List lF) (xs:List Value) (i:Nat) (t:lF),jI R w xs l->l[i]?=some t->∃ o1 l1 c1 o2 l2 c2,aB R w o1 l1 t.1.2.2/\aB R w o2 l2 t.2.1.2.2/\∀ j,j < 8->xs[i*8+j]?=(ec t o1 l1 c1 o2 l2 c2)[j]?
 | [],xs,i,t,_,h=>by simp at h
 | u::r,xs,0,t,h,hi=>by
  obtain ⟨o1,l1,c1,o2,l2,c2,ys,rfl,s1,s2,hr⟩:=h;simp at hi;subst hi;refine ⟨o1,l1,c1,o2,l2,c2,s1,s2,fun j hj=>?_⟩;rw [Nat.zero_mul,Nat.zero_add,List.getElem?_append_left (by simpa using hj)];simp
 | u::r,xs,i+1,t,h,hi=>by
  obtain ⟨p1,m1,d1,p2,m2,d2,ys,rfl,s1,s2,hr⟩:=h;obtain ⟨o1,l1,c1,o2,l2,c2,t1,t2,hj⟩:=jI.get r ys i t hr (by simpa using hi);refine ⟨o1,l1,c1,o2,l2,c2,t1,t2,fun j hj'=>?_⟩;rw [List.getElem?_append_right (by simp;omega),<-hj j hj']
  congr 1
  simp;omega
theorem jI.length {R:Nat->Prop} {w:World}:∀ (l:List lF) (xs:List Value),jI R w xs l->xs.length=l.length*8
 | [],xs,h=>by cases h;rfl
 | t::r,xs,h=>by
  obtain ⟨o1,l1,c1,o2,l2,c2,ys,rfl,_,_,hr⟩:=h;have:=jI.length r ys hr;simp;omega
def Ep (R:Nat->Prop) (w:World) (b off:Nat) (l:List lF):Prop:=∀ i t,l[i]?=some t->∃ o1 l1 c1 o2 l2 c2,aB R w o1 l1 t.1.2.2/\aB R w o2 l2 t.2.1.2.2 /\
 w.cell? ⟨b,off+i*8,none⟩=some (.int .i64 t.1.1)/\w.cell? ⟨b,off+i*8+1,none⟩=some (.int .i64 t.1.2.1)/\w.cell? ⟨b,off+i*8+2,none⟩=some (.slice o1 l1 c1) /\
 w.cell? ⟨b,off+i*8+3,none⟩=some (.int .i64 t.2.1.1)/\w.cell? ⟨b,off+i*8+4,none⟩=some (.int .i64 t.2.1.2.1)/\w.cell? ⟨b,off+i*8+5,none⟩=some (.slice o2 l2 c2) /\
 w.cell? ⟨b,off+i*8+6,none⟩=some (.int .i64 t.2.2.1)/\w.cell? ⟨b,off+i*8+7,none⟩=some (.int .i64 t.2.2.2)
theorem Ep.Lj {R:Nat->Prop} {w:World} {b off:Nat} {l:List lF} {xs:List Value} (h:jI R w xs l) (hc:∀ j u,xs[j]?=some u->w.cell? ⟨b,off+j,none⟩=some u):Ep R w b off l:=by
 intro i t hi;obtain ⟨o1,l1,c1,o2,l2,c2,s1,s2,hj⟩:=jI.get l xs i t h hi;have hc':∀ j (h8:j < 8),w.cell? ⟨b,off+i*8+j,none⟩=(ec t o1 l1 c1 o2 l2 c2)[j]?:=by
  intro j h8;have e:=hj j h8;rw [Array.getElem?_eq_getElem (by simpa using h8)] at e ⊢;have:=hc (i*8+j) _ e;rw [<-this];congr 2;omega
 exact ⟨o1,l1,c1,o2,l2,c2,s1,s2,hc' 0 (by omega),hc' 1 (by omega),hc' 2 (by omega),hc' 3 (by omega),hc' 4 (by omega),hc' 5 (by omega),hc' 6 (by omega),hc' 7 (by omega)⟩
theorem Ep.move {R T S:Nat->Prop} {w w':World} {b off:Nat} {l:List lF} (h:Ep R w b off l) (hf:Fr S w w') (hR:∀ k,k < w.heap.size->R k->T k/\¬ S k) (hc:∀ j,j < l.length*8->w'.cell? ⟨b,off+j,none⟩=w.cell? ⟨b,off+j,none⟩):Ep T w' b off l:=by
 intro i t hi;have hl:=(List.getElem?_eq_some_iff.1 hi).1;obtain ⟨o1,l1,c1,o2,l2,c2,s1,s2,a0,a1,a2,a3,a4,a5,a6,a7⟩:=h i t hi;have hc':∀ j,j < 8->w'.cell? ⟨b,off+i*8+j,none⟩=w.cell? ⟨b,off+i*8+j,none⟩:=fun j hj=>by
  have:=hc (i*8+j) (by omega);rw [show off+i*8+j=off+(i*8+j) from by omega];exact this
 exact ⟨o1,l1,c1,o2,l2,c2,s1.fr hf hR,s2.fr hf hR,(hc' 0 (by omega)).trans a0,(hc' 1 (by omega)).trans a1,(hc' 2 (by omega)).trans a2,(hc' 3 (by omega)).trans a3,(hc' 4 (by omega)).trans a4,(hc' 5 (by omega)).trans a5,(hc' 6 (by omega)).trans a6,(hc' 7 (by omega)).trans a7⟩
def Rw (pb:Nat) (W:World) (k:Nat):Prop:=∃ n c,W.cell? ⟨pb,0,none⟩=some (.slice (some ⟨k,0,none⟩) n c)
def TF (X:Nat->Prop) (pb:Nat) (W:World) (k:Nat):Prop:=k≠pb/\¬ Rw pb W k/\¬ X k
structure Later (pb:Nat) (W W':World):Prop where
 fr:Fr (fun k=>k=pb∨Rw pb W k) W W'
 row:∀ k,Rw pb W' k->Rw pb W k∨W.heap.size<=k
 pre:∀ k n c,W.cell? ⟨pb,0,none⟩=some (.slice (some ⟨k,0,none⟩) n c)->k≠pb->k < W.heap.size->(∀ j,j < n*8->W'.cell? ⟨k,j,none⟩=W.cell? ⟨k,j,none⟩)/\∀ n' c',W'.cell? ⟨pb,0,none⟩=some (.slice (some ⟨k,0,none⟩) n' c')->n<=n'
theorem Later.size {pb:Nat} {W W':World} (h:Later pb W W'):W.heap.size<=W'.heap.size:=h.fr.size
theorem Later.tf {X:Nat->Prop} {pb:Nat} {W W':World} (h:Later pb W W') {k:Nat} (hk:k < W.heap.size) (ht:TF X pb W k):TF X pb W' k:=⟨ht.1,fun hr=>by
 rcases h.row k hr with h1 | h1
 ·exact ht.2.1 h1
 ·omega,ht.2.2⟩
theorem Later.aS {pb:Nat} {W W':World} (h:ah W W') (hp:pb < W.heap.size):Later pb W W':=by
 have e:W'.cell? ⟨pb,0,none⟩=W.cell? ⟨pb,0,none⟩:=h.aY hp (fun h=>h);refine ⟨h.mono (fun _ _ h=>h.elim),fun k hk=>.inl ?_,fun k n c hc _ hk=>⟨fun j _=>h.aY hk (fun h=>h),fun n' c' hc'=>?_⟩⟩
 ·unfold Rw at hk ⊢;rw [e] at hk;exact hk
 ·rw [e,hc] at hc';injection hc' with hc'
  injection hc' with _ h2 _
  omega
theorem Later.refl {pb:Nat} {W:World} (hp:pb < W.heap.size):Later pb W W:=Later.aS (ah.refl W) hp
theorem Later.trans {pb:Nat} {a b c:World} (h:Later pb a b) (k:Later pb b c):Later pb a c:=by
 refine ⟨h.fr.trans' k.fr (fun i hi hs=>?_),fun i hi=>?_,fun i n q hc hne hi=>?_⟩
 ·rcases hs with hs | hs
  ·exact .inl hs
  ·rcases h.row i hs with h1 | h1
   ·exact .inr h1
   ·omega
 ·rcases k.row i hi with h1 | h1
  ·exact h.row i h1
  ·exact .inr (Nat.le_trans h.size h1)
 ·obtain ⟨p1,p2⟩:=h.pre i n q hc hne hi;have hib:i < b.heap.size:=Nat.lt_of_lt_of_le hi h.size
  by_cases hr:Rw pb b i
  ·obtain ⟨n',q',hc'⟩:=hr;obtain ⟨p3,p4⟩:=k.pre i n' q' hc' hne hib;have hn:=p2 n' q' hc';exact ⟨fun j hj=>(p3 j (by omega)).trans (p1 j hj),fun n'' q'' e=>Nat.le_trans hn (p4 n'' q'' e)⟩
  ·refine ⟨fun j hj=>(k.fr.aY hib (fun e=>?_)).trans (p1 j hj),fun n'' q'' e=>?_⟩
   ·rcases e with e | e
    ·exact hne e
    ·exact hr e
   ·rcases k.row i ⟨n'',q'',e⟩ with h1 | h1
    ·exact absurd h1 hr
    ·omega
theorem Later.quiet {pb:Nat} {a b c:World} (h:Later pb a b) (k:ah b c) (hp:pb < a.heap.size):Later pb a c:=h.trans (Later.aS k (Nat.lt_of_lt_of_le hp h.size))
theorem jm {pb:Nat} {a b:World} {o:Obj} (hp:pb < a.heap.size) (h:Later pb a b):Later pb a (b.alloc o):=h.quiet (ah.alloc _ _) hp
theorem jo {pb:Nat} {a b:World} (hp:pb < a.heap.size) (h:Later pb a b):Later pb a b.drew:=h.quiet (ah.drew _) hp
theorem jc {X:Nat->Prop} {pb:Nat} {W W':World} {o:Option Addr} {len:Nat} {f:Fo} (h:aB (TF X pb W) W o len f) (hl:Later pb W W'):aB (TF X pb W') W' o len f :=
 h.fr hl.fr (fun _ hk ht=>⟨hl.tf hk ht,fun e=>e.elim ht.1 ht.2.1⟩)
structure l9 (X:Nat->Prop) (most:Int) (pb:Nat) (W:World) (k:Mk) (o:Option Addr) (c:Nat) (xs:List Value):Prop where
 box:W.heap[pb]?=some (.cells #[.slice o k.eqs.length c,.int .i64 k.next,.int .i64 most,.bool k.many] 67 (0,0))
 own:W.ownsRow 0 43 8 (.slice o k.eqs.length c) k.eqs.length xs
 low:∀ g,(Value.slice o k.eqs.length c).ownBlock=some g->pb < g/\¬ X g
 cells:jI (TF X pb W) W xs k.eqs
 few:k.eqs.length<=4096
 small:∀ t∈k.eqs,t.1.2.2.size<=100000/\t.2.1.2.2.size<=100000
 old:∀ i,X i->i < W.heap.size
 GL:¬ X pb
theorem bT {W:World} {b:Nat} {v0 v1 v2 v3:Value} {t:TypeId} (h:W.heap[b]?=some (.cells #[v0,v1,v2,v3] t (0,0))):W.cell? ⟨b,0,none⟩=some v0/\W.cell? ⟨b,1,none⟩=some v1/\W.cell? ⟨b,2,none⟩=some v2/\W.cell? ⟨b,3,none⟩=some v3:=by
 refine ⟨?_,?_,?_,?_⟩<;>(rw [cell_of_row _ _ _ _ _ (0,0) h];rfl)
theorem l9.lt {X:Nat->Prop} {most:Int} {pb:Nat} {W:World} {k:Mk} {o:Option Addr} {c:Nat} {xs:List Value} (h:l9 X most pb W k o c xs):pb < W.heap.size:=lt_of_block h.box
theorem l9.form {X:Nat->Prop} {most:Int} {pb:Nat} {W:World} {k:Mk} {o:Option Addr} {c:Nat} {xs:List Value} (h:l9 X most pb W k o c xs):(o=none/\k.eqs.length=0/\c=0)∨∃ g,o=some ⟨g,0,none⟩/\pb < g/\g < W.heap.size/\k.eqs.length<=c:=by
 rcases h.own.2 with ⟨h1,h2⟩ | ⟨g,cap,cur,h1,_,h3,h4,h5,_⟩
 ·injection h1 with e1 e2 e3
  exact .inl ⟨e1,h2,e3⟩
 ·injection h1 with e1 e2 e3
  subst e1;exact .inr ⟨g,rfl,(h.low g rfl).1,lt_of_block h3,by omega⟩
theorem l9.BD {X:Nat->Prop} {most:Int} {pb:Nat} {W:World} {k:Mk} {o:Option Addr} {c:Nat} {xs:List Value} (h:l9 X most pb W k o c xs) (i:Nat):Rw pb W i↔o=some ⟨i,0,none⟩:=by
 unfold Rw;rw [(bT h.box).1];constructor
 ·rintro ⟨n,c',e⟩;injection e with e
  injection e with e1 _ _
 ·intro e;exact ⟨_,_,by rw [e]⟩
theorem l9.stay {X:Nat->Prop} {most:Int} {pb:Nat} {W W':World} {k:Mk} {o:Option Addr} {c:Nat} {xs:List Value} (h:l9 X most pb W k o c xs) (hq:ah W W'):l9 X most pb W' k o c xs :=
 ⟨au hq h.box,aU h.own hq (fun _ _ h=>h),h.low,jI.fr hq (fun _ hi ht=>⟨(Later.aS hq h.lt).tf hi ht,fun h=>h⟩) _ _ h.cells,h.few,h.small,fun i hi=>Nat.lt_of_lt_of_le (h.old i hi) hq.size,h.GL⟩
theorem l9.put {X:Nat->Prop} {most:Int} {pb:Nat} {W W':World} {k:Mk} {o:Option Addr} {c:Nat} {xs:List Value} (h:l9 X most pb W k o c xs) (hf:Fr X W W'):l9 X most pb W' k o c xs:=by
 have hc:W'.cell? ⟨pb,0,none⟩=W.cell? ⟨pb,0,none⟩:=hf.aY h.lt h.GL;exact ⟨aC hf h.GL h.box,aU h.own hf (fun g hg=>(h.low g hg).2),h.low,jI.fr hf (fun i hi ht=>⟨⟨ht.1,by unfold Rw;rw [hc];exact ht.2.1,ht.2.2⟩,ht.2.2⟩) _ _ h.cells,h.few,h.small,fun i hi=>Nat.lt_of_lt_of_le (h.old i hi) hf.size,h.GL⟩
theorem l9.more {X:Nat->Prop} {most:Int} {pb:Nat} {W W':World} {k:Mk} {o:Option Addr} {c:Nat} {xs:List Value} (h:l9 X most pb W k o c xs) (hq:ah W W') (Y:Nat->Prop) (hY:∀ i,Y i->W.heap.size<=i/\i < W'.heap.size):l9 (fun i=>X i∨Y i) most pb W' k o c xs:=by
 have h':=h.stay hq;have hz:=hq.size;have hp:=h.lt;refine ⟨h'.box,h'.own,fun g hg=>⟨(h.low g hg).1,fun e=>e.elim (h.low g hg).2 (fun y=>?_)⟩,?_,h.few,h.small,fun i hi=>hi.elim (h'.old i) (fun y=>(hY i y).2),fun e=>e.elim h.GL (fun y=>?_)⟩
 ·have:=(h.own.lt g hg).2;have:=hY g y;omega
 ·exact jI.fr hq (fun i hi ht=>⟨⟨ht.1,((Later.aS hq hp).tf hi ht).2.1,fun e=>e.elim ht.2.2 (fun y=>by have:=hY i y;omega)⟩,fun h=>h⟩) _ _ h.cells
 ·have:=hY pb y;omega
theorem l9.less {X Y:Nat->Prop} {most:Int} {pb:Nat} {W:World} {k:Mk} {o:Option Addr} {c:Nat} {xs:List Value} (h:l9 X most pb W k o c xs) (hY:∀ i,Y i->X i):l9 Y most pb W k o c xs :=
 ⟨h.box,h.own,fun g hg=>⟨(h.low g hg).1,fun e=>(h.low g hg).2 (hY g e)⟩,jI.fr (Fr.refl (fun _=>False) W) (fun i _ ht=>⟨⟨ht.1,ht.2.1,fun e=>ht.2.2 (hY i e)⟩,fun h=>h⟩) _ _ h.cells,h.few,h.small,fun i hi=>h.old i (hY i hi),fun e=>h.GL (hY pb e)⟩
theorem Later.put {pb:Nat} {a b c:World} {S:Nat->Prop} (h:Later pb a b) (hf:Fr S b c) (hp:pb < a.heap.size) (hS:∀ i,S i->a.heap.size<=i):Later pb a c:=by
 have hpn:¬ S pb:=fun e=>by have:=hS pb e;omega
 have e:c.cell? ⟨pb,0,none⟩=b.cell? ⟨pb,0,none⟩:=hf.aY (Nat.lt_of_lt_of_le hp h.size) hpn;refine ⟨h.fr.trans' hf (fun i hi hs=>by have:=hS i hs;omega),fun i hi=>h.row i (by unfold Rw at hi ⊢;rw [e] at hi;exact hi),fun i n q hc hne hi=>?_⟩;obtain ⟨p1,p2⟩:=h.pre i n q hc hne hi;refine ⟨fun j hj=>(hf.aY (Nat.lt_of_lt_of_le hi h.size) (fun hs=>by have:=hS i hs;omega)).trans (p1 j hj),fun n' q' hc'=>p2 n' q' (by rw [<-e];exact hc')⟩
def dQ (X:Nat->Prop) (most:Int) (pb:Nat) (W:World) (k:Mk):Prop:=∃ o c xs,l9 X most pb W k o c xs
theorem dQ.stay {X:Nat->Prop} {most:Int} {pb:Nat} {W W':World} {k:Mk} (h:dQ X most pb W k) (hq:ah W W'):dQ X most pb W' k:=by obtain ⟨o,c,xs,h⟩:=h;exact ⟨o,c,xs,h.stay hq⟩
theorem ja {X:Nat->Prop} {most:Int} {pb:Nat} {W:World} {o:Obj} {k:Mk} (h:dQ X most pb W k):dQ X most pb (W.alloc o) k:=h.stay (ah.alloc _ _)
theorem jb {X:Nat->Prop} {most:Int} {pb:Nat} {W:World} {k:Mk} (h:dQ X most pb W k):dQ X most pb W.drew k:=h.stay (ah.drew _)
theorem dQ.put {X:Nat->Prop} {most:Int} {pb:Nat} {W W':World} {k:Mk} (h:dQ X most pb W k) (hf:Fr X W W'):dQ X most pb W' k:=by obtain ⟨o,c,xs,h⟩:=h;exact ⟨o,c,xs,h.put hf⟩
theorem dQ.more {X:Nat->Prop} {most:Int} {pb:Nat} {W W':World} {k:Mk} (h:dQ X most pb W k) (hq:ah W W') (Y:Nat->Prop) (hY:∀ i,Y i->W.heap.size<=i/\i < W'.heap.size):dQ (fun i=>X i∨Y i) most pb W' k:=by obtain ⟨o,c,xs,h⟩:=h;exact ⟨o,c,xs,h.more hq Y hY⟩
theorem dQ.less {X Y:Nat->Prop} {most:Int} {pb:Nat} {W:World} {k:Mk} (h:dQ X most pb W k) (hY:∀ i,Y i->X i):dQ Y most pb W k:=by obtain ⟨o,c,xs,h⟩:=h;exact ⟨o,c,xs,h.less hY⟩
theorem dQ.lt {X:Nat->Prop} {most:Int} {pb:Nat} {W:World} {k:Mk} (h:dQ X most pb W k):pb < W.heap.size:=by obtain ⟨o,c,xs,h⟩:=h;exact h.lt
theorem dQ.old {X:Nat->Prop} {most:Int} {pb:Nat} {W:World} {k:Mk} (h:dQ X most pb W k):∀ i,X i->i < W.heap.size:=by obtain ⟨o,c,xs,h⟩:=h;exact h.old
theorem dQ.new {X:Nat->Prop} {most:Int} {pb:Nat} {W W':World} {k:Mk} {o:Option Addr} {len:Nat} {f:Fo} (h:dQ X most pb W k) (hq:ah W W') (hs:aB (fun i=>W.heap.size<=i) W' o len f):aB (TF X pb W') W' o len f:=by
 obtain ⟨oo,c,xs,h⟩:=h;have h':=h.stay hq;refine hs.mono (fun i hi hk=>⟨by have:=h.lt;omega,fun e=>?_,fun e=>by have:=h.old i e;omega⟩);have e':=(h.BD i).1 (by
  obtain ⟨n,c',e⟩:=e;rw [hq.aY h.lt (fun h=>h)] at e;exact ⟨n,c',e⟩)
 rcases h.form with ⟨h1,_⟩ | ⟨g,h1,_,h3,_⟩
 ·rw [h1] at e';cases e'
 ·rw [h1] at e';cases e';omega
def I8 (X:Nat->Prop) (most:Int) (pb:Nat) (W:World) (r:Ty × Mk) (x:Ending) (W':World):Prop:=∃ (n:Nat) (o:Option Addr) (cap:Nat),r.1=tv n/\x=.returned (fG 1 n o 0 cap)/\dQ X most pb W' r.2/\Later pb W W'
def I9 (X:Nat->Prop) (most:Int) (pb:Nat) (W:World) (k:Mk) (x:Ending) (W':World):Prop:=x=.returned (.tuple #[])/\dQ X most pb W' k/\Later pb W W'
theorem uJ {W:World} {b:Nat} {v0 v1 v2 v3:Value} {t:TypeId} (h:W.heap[b]?=some (.cells #[v0,v1,v2,v3] t (0,0))):W.frozen? ⟨b,0,none⟩=false/\W.frozen? ⟨b,1,none⟩=false/\W.frozen? ⟨b,2,none⟩=false/\W.frozen? ⟨b,3,none⟩=false:=by
 refine ⟨?_,?_,?_,?_⟩<;>simp [World.frozen?,h]
theorem Later.aaX {pb:Nat} {W W':World} (hf:Fr (fun i=>i=pb) W W') (hc:W'.cell? ⟨pb,0,none⟩=W.cell? ⟨pb,0,none⟩):Later pb W W':=by
 refine ⟨hf.mono (fun _ _ h=>.inl h),fun i hi=>.inl (by unfold Rw at hi ⊢;rw [hc] at hi;exact hi),fun i n c e hne hi=>⟨fun j _=>hf.aY hi hne,fun n' c' e'=>?_⟩⟩;rw [hc,e] at e';injection e' with e'
 injection e' with _ h2 _
 omega
theorem l9.GN {X : Nat -> Prop} {most : Int} {pb : Nat} {W : World} {k k' : Mk} {o : Option Addr} {c : Nat} {xs : List Value} (h : l9 X most pb W k o c xs) (j : Nat) (u : Value) (_ : 0 < j) (he : k'.eqs = k.eqs)
    (hb:#[Value.slice o k.eqs.length c,.int .i64 k.next,.int .i64 most,.bool k.many].setIfInBounds j u=#[Value.slice o k.eqs.length c,.int .i64 k'.next,.int .i64 most,.bool k'.many]):l9 X most pb (W.setCell ⟨pb,j,none⟩ u) k' o c xs/\Later pb W (W.setCell ⟨pb,j,none⟩ u):=by
 have hf:=Fr.setCell (fun i=>i=pb) W ⟨pb,j,none⟩ u rfl;have hbox:(W.setCell ⟨pb,j,none⟩ u).heap[pb]?=some (.cells #[Value.slice o k'.eqs.length c,.int .i64 k'.next,.int .i64 most,.bool k'.many] 67 (0,0)):=by
  rw [aF h.box,hb,he]
 have hc:(W.setCell ⟨pb,j,none⟩ u).cell? ⟨pb,0,none⟩=W.cell? ⟨pb,0,none⟩:=by
  rw [(bT hbox).1,(bT h.box).1,he]
 have hl:=Later.aaX hf hc;have GR:∀ g,(Value.slice o k.eqs.length c).ownBlock=some g->¬ g=pb:=fun g hg e=>by have:=(h.low g hg).1;omega
 refine ⟨⟨hbox,by rw [he];exact aU h.own hf GR,by rw [he];exact h.low,by rw [he];exact jI.fr hf (fun i hi ht=>⟨hl.tf hi ht,ht.1⟩) _ _ h.cells,by rw [he];exact h.few,by rw [he];exact h.small,fun i hi=>Nat.lt_of_lt_of_le (h.old i hi) hf.size,h.GL⟩,hl⟩
theorem l9.snoc {X : Nat -> Prop} {most : Int} {pb : Nat} {W w' : World} {k : Mk} {o : Option Addr} {c : Nat} {xs : List Value} (h : l9 X most pb W k o c xs) {t : lF} {o1 : Option Addr} {l1 c1 : Nat} {o2 : Option Addr} {l2 c2 : Nat} (s1 : aB (TF X pb W) W o1 l1 t.1.2.2) (s2 : aB (TF X pb W) W o2 l2 t.2.1.2.2) {g c' : Nat}
    (ho:w'.ownsRow 0 43 8 (.slice (some ⟨g,0,none⟩) (k.eqs.length+1) c') (k.eqs.length+1) (xs++(ec t o1 l1 c1 o2 l2 c2).toList)) (hf:Fr (fun i=>(Value.slice o k.eqs.length c).ownBlock=some i) W w') (hg:(Value.slice o k.eqs.length c).ownBlock=some g∨(W.heap.size<=g/\ah W w'))
    (hz:k.eqs.length+1<=4096) (hs:t.1.2.2.size<=100000/\t.2.1.2.2.size<=100000) :
    l9 X most pb (w'.setCell ⟨pb,0,none⟩ (.slice (some ⟨g,0,none⟩) (k.eqs.length+1) c')) { k with eqs:=k.eqs++[t] } (some ⟨g,0,none⟩) c' (xs++(ec t o1 l1 c1 o2 l2 c2).toList)/\Later pb W (w'.setCell ⟨pb,0,none⟩ (.slice (some ⟨g,0,none⟩) (k.eqs.length+1) c')):=by
 have hp:=h.lt;have hsz:=hf.size;have hown:∀ i,(Value.slice o k.eqs.length c).ownBlock=some i->pb < i/\¬ X i/\i < W.heap.size:=fun i hi=>⟨(h.low i hi).1,(h.low i hi).2,(h.own.lt i hi).2⟩
 have GR:g≠pb/\pb < g/\¬ X g:=by
  rcases hg with e | ⟨e,_⟩
  ·have:=hown g e;exact ⟨by omega,this.1,this.2.1⟩
  ·exact ⟨by omega,by omega,fun hx=>by have:=h.old g hx;omega⟩
 have hbw:w'.heap[pb]?=some (.cells #[.slice o k.eqs.length c,.int .i64 k.next,.int .i64 most,.bool k.many] 67 (0,0)):=aC hf (fun e=>by have:=hown pb e;omega) h.box;obtain ⟨W2,hW2⟩:∃ W2,W2=w'.setCell ⟨pb,0,none⟩ (.slice (some ⟨g,0,none⟩) (k.eqs.length+1) c'):=⟨_,rfl⟩;have hf2:Fr (fun i=>i=pb) w' W2:=by rw [hW2];exact Fr.setCell (fun i=>i=pb) w' ⟨pb,0,none⟩ _ rfl
 have hb2:W2.heap[pb]?=some (.cells #[.slice (some ⟨g,0,none⟩) (k.eqs.length+1) c',.int .i64 k.next,.int .i64 most,.bool k.many] 67 (0,0)):=by
  rw [hW2,aF hbw];rfl
 rw [<-hW2];clear hW2;have hfa:Fr (fun i=>i=pb∨(Value.slice o k.eqs.length c).ownBlock=some i) W W2:=(hf.mono (fun _ _ e=>.inr e)).trans (hf2.mono (fun _ _ e=>.inl e));have hrw2:∀ i,Rw pb W2 i↔i=g:=fun i=>by
  unfold Rw;rw [(bT hb2).1];constructor
  ·rintro ⟨n,c2,e⟩;injection e with e
   injection e with e1 _ _
   injection e1 with e1
   injection e1 with e1
   exact e1.symm
  ·intro e;exact ⟨_,_,by rw [e]⟩
 have hrw1:∀ i,Rw pb W i↔(Value.slice o k.eqs.length c).ownBlock=some i:=fun i=>by
  rw [h.BD];rcases h.form with ⟨rfl,h2,h3⟩ | ⟨q,rfl,_⟩
  ·constructor
   ·intro e;cases e
   ·intro e;simp [Value.ownBlock] at e
  ·simp [Value.ownBlock]
 have hTF:∀ i,i < W.heap.size->TF X pb W i->TF X pb W2 i/\¬ (i=pb∨(Value.slice o k.eqs.length c).ownBlock=some i):=fun i hi ht=>by
  refine ⟨⟨ht.1,fun e=>?_,ht.2.2⟩,fun e=>e.elim ht.1 (fun e=>ht.2.1 ((hrw1 i).2 e))⟩;have e':=(hrw2 i).1 e;subst e';rcases hg with e2 | ⟨e2,_⟩
  ·exact ht.2.1 ((hrw1 i).2 e2)
  ·omega
 have hol:(k.eqs++[t]).length=k.eqs.length+1:=by simp
 refine ⟨⟨by rw [show ({ k with eqs:=k.eqs++[t] }:Mk).eqs.length=k.eqs.length+1 from hol];exact hb2,by rw [show ({ k with eqs:=k.eqs++[t] }:Mk).eqs.length=k.eqs.length+1 from hol];exact aU ho hf2 (fun i hi=>by simp [Value.ownBlock] at hi;omega),fun i hi=>by simp [Value.ownBlock] at hi;subst hi;exact GR.2,jI.snoc (s1.fr hfa hTF) (s2.fr hfa hTF) _ _ (jI.fr hfa hTF _ _ h.cells),by rw [show ({ k with eqs:=k.eqs++[t] }:Mk).eqs.length=k.eqs.length+1 from hol];exact hz,fun u hu=>?_,fun i hi=>Nat.lt_of_lt_of_le (h.old i hi) hfa.size,h.GL⟩,?_⟩
 ·rcases List.mem_append.1 hu with hu | hu
  ·exact h.small u hu
  ·rw [List.mem_singleton.1 hu];exact hs
 ·refine ⟨hfa.mono (fun i _ e=>e.elim .inl (fun e=>.inr ((hrw1 i).2 e))),fun i hi=>?_,fun i n q hc hne hi=>?_⟩
  ·have e:=(hrw2 i).1 hi;subst e;rcases hg with e | ⟨e,_⟩
   ·exact .inl ((hrw1 i).2 e)
   ·exact .inr e
  ·have hiw:(Value.slice o k.eqs.length c).ownBlock=some i:=(hrw1 i).1 ⟨n,q,hc⟩;have hn:n=k.eqs.length:=by
    rw [(bT h.box).1] at hc;injection hc with hc
    injection hc with _ h2 _
    exact h2.symm
   subst hn;refine ⟨fun j hj=>?_,fun n' q' hc'=>?_⟩
   ·by_cases hgi:g=i
    ·subst hgi;have hxl:xs.length=k.eqs.length*8:=jI.length _ _ h.cells;have hv:∃ u,xs[j]?=some u:=⟨_,List.getElem?_eq_getElem (by omega)⟩;obtain ⟨u,hu⟩:=hv;have h1:=h.own.cells (g:=g) (by
      rcases h.form with ⟨rfl,_⟩ | ⟨q2,rfl,_⟩
      ·simp [Value.ownBlock] at hiw
      ·simp [Value.ownBlock] at hiw;subst hiw;rfl) j u hu
     have h2:=ho.cells (g:=g) rfl j u (by rw [List.getElem?_append_left (by omega)];exact hu);have h3:=hf2.aY (b:=g) (off:=j) (ho.lt g rfl).2 hne;rw [h3];simp only [Addr.add_lit,Nat.zero_add] at h1 h2;rw [h1,h2]
    ·rw [hf2.aY (Nat.lt_of_lt_of_le hi hf.size) hne];rcases hg with e | ⟨_,e⟩
     ·exact absurd (Option.some.inj (e.symm.trans hiw)) hgi
     ·exact e.aY hi (fun h=>h)
   ·rw [(bT hb2).1] at hc';injection hc' with hc'
    injection hc' with _ h2 _
    omega
theorem Sv {X:Nat->Prop} {most:Int} {pb:Nat} {W W':World} {k:Mk} (h:dQ X most pb W' k) (hl:Later pb W W'):I9 X most pb W k (.returned (.tuple #[])) W':=⟨rfl,h,hl⟩
theorem dQ.far {X:Nat->Prop} {most:Int} {pb:Nat} {W:World} {k:Mk} (h:dQ X most pb W k) {i:Nat} (hi:X i):¬ (i=pb∨Rw pb W i):=by
 obtain ⟨o,c,xs,h⟩:=h;rintro (e | e)
 ·subst e;exact h.GL hi
 ·have e':=(h.BD i).1 e;exact (h.low i (by rw [e'];rfl)).2 hi
theorem dQ.fresh {X:Nat->Prop} {most:Int} {pb:Nat} {W W':World} {k:Mk} (h:dQ X most pb W k) (hq:ah W W') {i:Nat} (hi:W.heap.size<=i):TF X pb W' i:=by
 obtain ⟨o,c,xs,h⟩:=h;refine ⟨by have:=h.lt;omega,fun e=>?_,fun e=>by have:=h.old i e;omega⟩;have e':=(h.BD i).1 (by
  obtain ⟨n,c',e⟩:=e;rw [hq.aY h.lt (fun h=>h)] at e;exact ⟨n,c',e⟩)
 rcases h.form with ⟨h1,_⟩ | ⟨g,h1,_,h3,_⟩
 ·rw [h1] at e';cases e'
 ·rw [h1] at e';cases e';omega
end Em
end
section
open Go.RowKit
namespace Em
theorem BF {P : Program} (W : World) {ops : Array Oper} {o : Oper} {a : Act} {K : Act -> World -> Prop} {Q : Exit -> Act -> World -> Prop} {E : Prop}
    (hg:o.guard=none) (s x:Operand) (t:TypeId) (hop:o.op=Op.call { callee:=Callee.builtin Builtin.append,args:=#[s,x],argTypes:=#[t,t] })
    (e:TypeId) (z:Value) (size bytes:Nat) (he:Elem P t e z size bytes)
    (v:Value) (n:Nat) (xs:List Value) (hs:a.eval s=v) (hown:W.ownsRow 0 e size v n xs)
    (news:Array Value) (hx:a.eval x=.slice (some ⟨W.heap.size,0,none⟩) 1 1) (hn:news.size=size) (h1c:∀ u∈news.toList,u.oneCell'=true)
    (b1:n+1<=maxLen) (b2:(n+1)*bytes<=140737488355328)
    (hK:∀ g c w',w'.ownsRow 0 e size (.slice (some ⟨g,0,none⟩) (n+1) c) (n+1) (xs++news.toList)->Fr (fun k=>v.ownBlock=some k) W w'->(v.ownBlock=some g∨(W.heap.size<=g/\ah W w'))->K (a.put o.dst (.slice (some ⟨g,0,none⟩) (n+1) c)) w') :
    if Region.wanted o (yielded ops a.tmps)=true then Oper.wp P o a (W.alloc (.cells news e)) K Q else E:=by
 obtain ⟨i0,hi,hz0,hz1,hz2⟩:=info_parts he.info;have hw:Region.wanted o (yielded ops a.tmps)=true:=by simp [Region.wanted,hg]
 have hc:∀ j u,news.toList[j]?=some u->(W.alloc (.cells news e)).cell? ((⟨W.heap.size,0,none⟩:Addr).add j)=some u:=by
  intro j u hu;rw [Addr.add_lit,cell_of_row (W.alloc (.cells news e)) W.heap.size (0+j) news e (0,0) (heap_alloc_new W _)];simpa using hu
 have hown':=hown;rcases hown.2 with ⟨rfl,rfl⟩ | ⟨g,cap,cur,rfl,hbg,hgg,hnc,hcm,hcs,htake⟩
 ·refine step_append_lies (w:=W.alloc (.cells news e)) hg s x t hop 0 e i0 z size bytes he.under hi hz0 hz1 hz2 he.cells he.pos (.slice none 0 0) 0 xs hs (hown.alloc _) ⟨W.heap.size,0,none⟩ 1 1 news.toList hx (by simpa using hn) hc h1c (by omega) b1 b2 (Nat.zero_le _) _ rfl ?_;intro g cap w' ho hgr hg' _;rcases hg' with h | h
  ·cases h
  ·have hq:ah W w':=(ah.alloc W _).trans (Fr.grown hgr (fun k hk=>by cases hk));exact hK g cap w' ho (hq.mono (fun _ _ h=>h.elim)) (.inr ⟨by simp at h;omega,hq⟩)
 ·by_cases hroom:n+1<=cap
  ·refine GU hw (wpList_append_fits (W.alloc (.cells news e)) hg s x t hop 0 e i0 size he.under hi hz1 g n cap xs hs (hown'.alloc _) ⟨W.heap.size,0,none⟩ 1 1 news.toList hx (by simpa using hn) hc h1c hroom ?_);intro w' ho hgr;exact of_nil (hK g cap w' ho ((Fr.alloc _ W _).trans (Fr.grown hgr (fun k hk=>hk))) (.inl rfl))
  ·refine step_append_grows hg s x t hop e i0 z size bytes he.under hi hz0 hz1 hz2 he.cells he.pos (some ⟨g,0,none⟩) n cap xs hs (fun h=>by cases h) hown'.1 (fun b hb j u hu=>by cases hb;exact (hown'.alloc _).cells (g:=g) rfl j u hu) ⟨W.heap.size,0,none⟩ 1 1 news.toList hx (by simpa using hn) hc h1c (by omega) b1 b2 ?_;intro v' w' ho hgr;obtain ⟨g',cap',rfl,hb,_⟩:=ho.form (by omega);have hq:ah W w':=(ah.alloc W _).trans (Fr.grown hgr (fun k hk=>by cases hk));exact hK g' cap' w' (ownsRow_base ho (fun _ _=>Nat.zero_le _)) (hq.mono (fun _ _ h=>h.elim)) (.inr ⟨by simp at hb;omega,hq⟩)
theorem yQ {P : Program} (W : World) {ops : Array Oper} {rest : List Oper} {o : Oper} {a : Act} {Q : Exit -> Act -> World -> Prop}
    (hg:o.guard=none) (s x:Operand) (t:TypeId) (hop:o.op=Op.call { callee:=Callee.builtin Builtin.append,args:=#[s,x],argTypes:=#[t,t] })
    (e:TypeId) (z:Value) (size bytes:Nat) (he:Elem P t e z size bytes)
    (v:Value) (n:Nat) (xs:List Value) (hs:a.eval s=v) (hown:W.ownsRow 0 e size v n xs)
    (news:Array Value) (hx:a.eval x=.slice (some ⟨W.heap.size,0,none⟩) 1 1) (hn:news.size=size) (h1c:∀ u∈news.toList,u.oneCell'=true)
    (b1:n+1<=maxLen) (b2:(n+1)*bytes<=140737488355328)
    (hK:∀ g c w',w'.ownsRow 0 e size (.slice (some ⟨g,0,none⟩) (n+1) c) (n+1) (xs++news.toList)->Fr (fun k=>v.ownBlock=some k) W w'->(v.ownBlock=some g∨(W.heap.size<=g/\ah W w'))->wpList P ops Q rest (a.put o.dst (.slice (some ⟨g,0,none⟩) (n+1) c)) w') :
    wpList P ops Q (o::rest) a (W.alloc (.cells news e)):=by
 obtain ⟨i0,hi,hz0,hz1,hz2⟩:=info_parts he.info;have hc:∀ j u,news.toList[j]?=some u->(W.alloc (.cells news e)).cell? ((⟨W.heap.size,0,none⟩:Addr).add j)=some u:=by
  intro j u hu;rw [Addr.add_lit,cell_of_row (W.alloc (.cells news e)) W.heap.size (0+j) news e (0,0) (heap_alloc_new W _)];simpa using hu
 have hown':=hown;rcases hown.2 with ⟨rfl,rfl⟩ | ⟨g,cap,cur,rfl,hbg,hgg,hnc,hcm,hcs,htake⟩
 ·have hx0:xs=[]:=List.eq_nil_of_length_eq_zero (by simpa using hown.1);subst hx0;refine wpList_append_grows (W.alloc (.cells news e)) hg s x t hop e i0 z size bytes he.under hi hz0 hz1 hz2 he.cells he.pos none 0 0 [] hs (fun _=>⟨rfl,rfl⟩) (by simp) (fun b hb=>by cases hb) ⟨W.heap.size,0,none⟩ 1 1 news.toList hx (by simpa using hn) hc h1c (by omega) b1 b2 ?_;intro v' w' ho hgr;obtain ⟨g',cap',rfl,hb,_⟩:=ho.form (by omega);have hq:ah W w':=(ah.alloc W _).trans (Fr.grown hgr (fun k hk=>by cases hk));exact hK g' cap' w' (ownsRow_base ho (fun _ _=>Nat.zero_le _)) (hq.mono (fun _ _ h=>h.elim)) (.inr ⟨by simp at hb;omega,hq⟩)
 ·by_cases hroom:n+1<=cap
  ·refine wpList_append_fits (W.alloc (.cells news e)) hg s x t hop 0 e i0 size he.under hi hz1 g n cap xs hs (hown'.alloc _) ⟨W.heap.size,0,none⟩ 1 1 news.toList hx (by simpa using hn) hc h1c hroom ?_;intro w' ho hgr;exact hK g cap w' ho ((Fr.alloc _ W _).trans (Fr.grown hgr (fun k hk=>hk))) (.inl rfl)
  ·refine wpList_append_grows (W.alloc (.cells news e)) hg s x t hop e i0 z size bytes he.under hi hz0 hz1 hz2 he.cells he.pos (some ⟨g,0,none⟩) n cap xs hs (fun h=>by cases h) hown'.1 (fun b hb j u hu=>by cases hb;exact (hown'.alloc _).cells (g:=g) rfl j u hu) ⟨W.heap.size,0,none⟩ 1 1 news.toList hx (by simpa using hn) hc h1c (by omega) b1 b2 ?_;intro v' w' ho hgr;obtain ⟨g',cap',rfl,hb,_⟩:=ho.form (by omega);have hq:ah W w':=(ah.alloc W _).trans (Fr.grown hgr (fun k hk=>by cases hk));exact hK g' cap' w' (ownsRow_base ho (fun _ _=>Nat.zero_le _)) (hq.mono (fun _ _ h=>h.elim)) (.inr ⟨by simp at hb;omega,hq⟩)
theorem BG:Elem Tryd.prog 35 43 (.agg #[.int .i64 0,.int .i64 0,.slice none 0 0,.int .i64 0,.int .i64 0,.slice none 0 0,.int .i64 0,.int .i64 0]) 8 96 :=
 ⟨Tryd.underlying35,by kernel_rfl,by decide,by decide⟩
theorem take_any {X : Nat -> Prop} {most : Int} {pb : Nat} {W : World} {k : Mk} (h : dQ X most pb W k) (hn : k.next <= 1000000000) :
    Calls Tryd.prog 38 #[.pointer (some ⟨pb,0,none⟩)] W (I8 X most pb W (iV k)):=by
 obtain ⟨o,c,xs,h⟩:=h;obtain ⟨W0,hW0⟩:∃ W0,W0=W.alloc (.cells #[.int .i64 0,.int .i64 0,.slice none 0 0] 25):=⟨_,rfl⟩;have hq0:ah W W0:=by rw [hW0];exact ah.alloc _ _
 have HB0:Hid (W0.heap[W.heap.size]?=some (.cells #[.int .i64 0,.int .i64 0,.slice none 0 0] 25 (0,0))):=by show _=_;rw [hW0];exact heap_alloc_new W _
 have h0:=h.more hq0 (fun i=>i=W.heap.size) (fun i hi=>⟨by omega,by rw [hW0];simp;omega⟩);have hp:=h.lt;obtain ⟨h1,hl1⟩:=h0.GN (k':={ k with next:=k.next+1 }) 1 (.int .i64 ((k.next:Int)+1)) (by decide) rfl rfl;obtain ⟨c0,c1,c2,c3⟩:=bT h0.box;obtain ⟨f0,f1,f2,f3⟩:=uJ h0.box;have bD:=hid hq0;have HP:=hid hp;have HH:=hid h1;have HL:=hid hl1;have hpn:¬ pb=W.heap.size:=by omega
 clear h h0 h1 hl1 hp hq0;unfold fG at *;go_enter Tryd.func38,Tryd.ntmps38;go_upto_region 1 with fail
 rw [<-hW0];clear hW0;go_upto_region 2 with fail
 obtain ⟨W1,hW1⟩:∃ W1,W1=W0.setCell ⟨pb,1,none⟩ (.int .i64 ((k.next:Int)+1)):=⟨_,rfl⟩;have HB1:Hid (W1.heap[W.heap.size]?=some (.cells #[.int .i64 0,.int .i64 0,.slice none 0 0] 25 (0,0))):=by
  show _=_;rw [hW1];exact aC (Fr.setCell (fun i=>i=pb) _ ⟨pb,1,none⟩ _ rfl) (fun e=>hpn e.symm) HB0.out
 change Code.wp _ _ _ _ (W0.setCell ⟨pb,1,none⟩ (.int .i64 ((k.next:Int)+1)));rw [<-hW1] at HH HL ⊢;clear hW1 c0 c1 c2 c3 f0 f1 f2 f3;obtain ⟨c0,c1,c2,c3⟩:=bT HH.out.box;replace c1:W1.cell? ⟨pb,1,none⟩=some (.int .i64 ((k.next:Int)+1)):=c1;go_wp2_with fail;refine (NC (k.next:Int) _).mono ?_;rintro e w2 ⟨rfl,hq2⟩;have fC:=hid hq2;have hb2:=dF HB1.out hq2;have HB2:=hid hb2;obtain ⟨d0,d1,d2,y0,y1,y2⟩:=ay hb2;clear hq2 hb2 c0 c1 c2 c3;unfold fG;go_wp2_with fail;clear d0 d1 d2 y0 y1 y2;generalize hB:W.heap.size=B at *;have hf:=aZ w2 B (.int .i64 1) (.int .i64 k.next) (.slice none 0 0);obtain ⟨f0,f1,f2⟩:=aV (a:=.int .i64 1) (b:=.int .i64 k.next) (c:=.slice none 0 0) HB2.out;change bodyPost _ _ _ _ _ (bf w2 B (.int .i64 1) (.int .i64 k.next) (.slice none 0 0));generalize bf w2 B (.int .i64 1) (.int .i64 k.next) (.slice none 0 0)=wf at *;refine bodyPost_ret (by simp [results,Tryd.results38,go_sem,f0,f1,f2];rfl) rfl ?_;have hp:pb < W.heap.size:=by rw [hB];exact HP.out
 have hl:=((Later.aS bD.out hp).trans (HL.out.quiet fC.out (Nat.lt_of_lt_of_le hp bD.out.size))).put hf hp (fun i hi=>by omega);exact ⟨k.next,none,0,rfl,rfl,(dQ.put ⟨o,c,xs,HH.out.stay fC.out⟩ (hf.mono (fun _ _ e=>.inr e))).less (fun i hi=>.inl hi),hl⟩
theorem Zg {X : Nat -> Prop} {most : Int} {pb : Nat} {W W1 w' : World} {k : Mk} {o : Option Addr} {c : Nat} {xs : List Value} (h : l9 X most pb W1 k o c xs) (hl : Later pb W W1) (hp : pb < W.heap.size) {t : lF} {o1 : Option Addr} {l1 c1 : Nat} {o2 : Option Addr} {l2 c2 : Nat} (s1 : aB (TF X pb W1) W1 o1 l1 t.1.2.2) (s2 : aB (TF X pb W1) W1 o2 l2 t.2.1.2.2) {g c' : Nat}
    (ho:w'.ownsRow 0 43 8 (.slice (some ⟨g,0,none⟩) (k.eqs.length+1) c') (k.eqs.length+1) (xs++(ec t o1 l1 c1 o2 l2 c2).toList)) (hf:Fr (fun i=>(Value.slice o k.eqs.length c).ownBlock=some i) W1.drew w') (hg:(Value.slice o k.eqs.length c).ownBlock=some g∨(W1.drew.heap.size<=g/\ah W1.drew w'))
    (hz:k.eqs.length+1<=4096) (hs:t.1.2.2.size<=100000/\t.2.1.2.2.size<=100000) :
    dQ X most pb (w'.setCell ⟨pb,0,none⟩ (.slice (some ⟨g,0,none⟩) (k.eqs.length+1) c')) { k with eqs:=k.eqs++[t] }/\Later pb W (w'.setCell ⟨pb,0,none⟩ (.slice (some ⟨g,0,none⟩) (k.eqs.length+1) c')):=by
 have hd:=Later.aS (ah.drew W1) h.lt;obtain ⟨h1,h2⟩:=(h.stay (ah.drew W1)).snoc (jc s1 hd) (jc s2 hd) ho hf hg hz hs;exact ⟨⟨_,_,_,h1⟩,(hl.quiet (ah.drew W1) hp).trans h2⟩
theorem yR {W:World} {b:Nat} {v0 v1:Value} {t:TypeId} (h:W.heap[b]?=some (.cells #[v0,v1] t (0,0))):W.cell? ⟨b,0,none⟩=some v0/\W.cell? ⟨b,1,none⟩=some v1:=by
 refine ⟨?_,?_⟩<;>(rw [cell_of_row _ _ _ _ _ (0,0) h];rfl)
theorem dM {X : Nat -> Prop} {most : Int} {pb : Nat} {W : World} {k : Mk} (h : dQ X most pb W k) (hm : most <= 4096) (l r : Ty) (fr en : Int) {o1 : Option Addr} {l1 c1 : Nat} {o2 : Option Addr} {l2 c2 : Nat} (s1 : aB (TF X pb W) W o1 l1 l.2.2) (s2 : aB (TF X pb W) W o2 l2 r.2.2) (z1 : l.2.2.size <= 100000) (z2 : r.2.2.size <= 100000) :
    Calls Tryd.prog 39 #[.pointer (some ⟨pb,0,none⟩),fG l.1 l.2.1 o1 l1 c1,fG r.1 r.2.1 o2 l2 c2,.agg #[.int .i64 fr,.int .i64 en]] W (I9 X most pb W (dh most l r fr en k).2):=by
 obtain ⟨o,c,xs,h⟩:=h;obtain ⟨W0,hW0⟩:∃ W0,W0=((W.alloc (.cells #[.int .i64 l.1,.int .i64 l.2.1,.slice o1 l1 c1] 25)).alloc (.cells #[.int .i64 r.1,.int .i64 r.2.1,.slice o2 l2 c2] 25)).alloc (.cells #[.int .i64 fr,.int .i64 en] 28):=⟨_,rfl⟩;have hq0:ah W W0:=by rw [hW0];exact ((ah.alloc _ _).trans (ah.alloc _ _)).trans (ah.alloc _ _)
 have HBl:Hid (W0.heap[W.heap.size]?=some (.cells #[.int .i64 l.1,.int .i64 l.2.1,.slice o1 l1 c1] 25 (0,0))):=by
  show _=_;rw [hW0];exact dF (heap_alloc_new W _) ((ah.alloc _ _).trans (ah.alloc _ _))
 have HBr:Hid (W0.heap[W.heap.size+1]?=some (.cells #[.int .i64 r.1,.int .i64 r.2.1,.slice o2 l2 c2] 25 (0,0))):=by
  show _=_;rw [hW0];refine dF ?_ (ah.alloc _ _)
  have:=heap_alloc_new (W.alloc (.cells #[.int .i64 l.1,.int .i64 l.2.1,.slice o1 l1 c1] 25)) (.cells #[.int .i64 r.1,.int .i64 r.2.1,.slice o2 l2 c2] 25);simpa using this
 have HBs:Hid (W0.heap[W.heap.size+1+1]?=some (.cells #[.int .i64 fr,.int .i64 en] 28 (0,0))):=by
  show _=_;rw [hW0]
  have:=heap_alloc_new ((W.alloc (.cells #[.int .i64 l.1,.int .i64 l.2.1,.slice o1 l1 c1] 25)).alloc (.cells #[.int .i64 r.1,.int .i64 r.2.1,.slice o2 l2 c2] 25)) (.cells #[.int .i64 fr,.int .i64 en] 28);simpa using this
 have h0:=h.stay hq0;have HP:=hid h.lt;have hl0:=Later.aS hq0 h.lt;have yS:=hid hl0;have nH:=hid (jc s1 hl0);have HS2:=hid (jc s2 hl0);have HH:=hid h0;have bD:=hid hq0;obtain ⟨q0,q1,q2,q3⟩:=bT h0.box;obtain ⟨f0,f1,f2,f3⟩:=uJ h0.box;have hfew:=h.few;have HM:=hid hm;clear h h0 hq0 hl0 s1 s2 hm
 by_cases hlt:most<=k.eqs.length
 ·have hge:decide (most<=(k.eqs.length:Int))=true:=by simp [hlt]
  have HE:Hid ((dh most l r fr en k).2={ k with many:=true }):=by show _=_;unfold dh;rw [if_pos hlt]
  rw [HE.out];unfold fG;go_enter Tryd.func39,Tryd.ntmps39;go_upto_region 1 with fail
  rw [<-hW0];clear hW0;go_quiet (fail);have yT:=ah.drewN W0 nq;have h1:=HH.out.stay yT;have hl1:=yS.out.quiet yT HP.out;clear q0 q1 q2 q3 f0 f1 f2 f3 yT;generalize W0.drewN nq=W1 at *;obtain ⟨q0,q1,q2,q3⟩:=bT h1.box;obtain ⟨f0,f1,f2,f3⟩:=uJ h1.box;obtain ⟨h2,hl2⟩:=h1.GN (k':={ k with many:=true }) 3 (.bool true) (by decide) rfl rfl;have H2:=hid h2;have HL2:=hid (hl1.trans hl2);clear h1 hl1 h2 hl2;go_wp2_with fail;go_end0;exact ⟨rfl,⟨o,c,xs,H2.out⟩,HL2.out⟩
 ·have hge:decide (most<=(k.eqs.length:Int))=false:=by simp [hlt]
  have HE:Hid ((dh most l r fr en k).2={ k with eqs:=k.eqs++[(l,r,fr,en)] }):=by show _=_;unfold dh;rw [if_neg hlt]
  rw [HE.out];unfold fG;go_enter Tryd.func39,Tryd.ntmps39;go_upto_region 1 with fail
  rw [<-hW0];clear hW0;go_quiet (fail);have yT:=ah.drewN W0 nq;have h1:=HH.out.stay yT;have hl1:=yS.out.quiet yT HP.out;have H1:=hid h1;have O1:=hid hl1;have ht1:=jc nH.out (Later.aS yT HH.out.lt);have ht2:=jc HS2.out (Later.aS yT HH.out.lt);have HT1:=hid ht1;have HT2:=hid ht2;have hbl:=dF HBl.out yT;have hbr:=dF HBr.out yT;have hbs:=au yT HBs.out;clear q0 q1 q2 q3 f0 f1 f2 f3 yT ht1 ht2 hl1 nH HS2 HBl HBr HBs yS HH bD;generalize W0.drewN nq=W1 at *;clear W0;obtain ⟨q0,q1,q2,q3⟩:=bT h1.box;obtain ⟨f0,f1,f2,f3⟩:=uJ h1.box;go_upto_region 3 with fail
  have hA:=ah.alloc W1 (.cells (ec (l,r,fr,en) o1 l1 c1 o2 l2 c2) 43);have qA:=(bT (au hA h1.box)).1;obtain ⟨x0,x1,x2,_,_,_⟩:=ay hbl;obtain ⟨y0,y1,y2,_,_,_⟩:=ay hbr;obtain ⟨u0,u1⟩:=yR hbs;clear h1 hbl hbr hbs;have hn:k.eqs.length+1<=4096:=by have:=HM.out;omega
  clear hA;go_region_law ((refine BF W1.drew rfl (.tmp 25) (.tmp 30) 35 rfl 43 _ 8 96 BG (.slice o k.eqs.length c) k.eqs.length xs rfl ?hown (ec (l,r,fr,en) o1 l1 c1 o2 l2 c2) rfl rfl ?c1 ?c2 ?c3 ?_);(case hown=>exact H1.out.own);(case c1=>simp [Value.oneCell']);(case c2=>(unfold maxLen;omega));(case c3=>omega);intro g4 c4 w4 nM hf4 hg4;have hb4:=aC hf4 (fun e=>by have:=(H1.out.low pb e).1;omega) (show W1.drew.heap[pb]?=_ from H1.out.box);obtain ⟨r0,r1,r2,r3⟩:=bT hb4;obtain ⟨s0,s1,s2,s3⟩:=uJ hb4;have bF:Hid (dQ X most pb (w4.setCell ⟨pb,0,none⟩ (.slice (some ⟨g4,0,none⟩) (k.eqs.length+1) c4)) { k with eqs:=k.eqs++[(l,r,fr,en)] }/\Later pb W (w4.setCell ⟨pb,0,none⟩ (.slice (some ⟨g4,0,none⟩) (k.eqs.length+1) c4))):=Zg (t:=(l,r,fr,en)) H1.out O1.out HP.out HT1.out HT2.out nM hf4 hg4 hn ⟨z1,z2⟩;clear nM hf4 hg4 hb4)
  all_goals
   go_wp2_with fail;go_end0
   first
    | with_reducible exact Sv bF.out.1 bF.out.2
    | with_reducible exact Sv (bF.out.1.stay (ah.drew _)) (bF.out.2.quiet (ah.drew _) HP.out)
end Em
end
end Go.Proofs.YtcninopmelmajaaDoor
