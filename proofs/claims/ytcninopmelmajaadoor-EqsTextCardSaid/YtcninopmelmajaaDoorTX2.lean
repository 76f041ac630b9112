/-
  Texts laid together (TyPlain, Mem, Mem2, Rf): laws and walks, with their conditions.
-/
import Derived.WalkKit
import Derived.WalkSpells
import Derived.WalkLawsBesides
import Derived.Lib.Hide
import Derived.RangeFuncOwn
import Derived.RangeFuncCalls
set_option maxHeartbeats 8000000
set_option maxRecDepth 1000000
namespace Go.Proofs.YtcninopmelmajaaDoor
section
inductive Fo where
 | nil:Fo
 | cons (k n:Int) (ps:Fo) (rest:Fo):Fo
def inB (l:List Int) (v:Int):Bool:=l.contains v
namespace Fo
def length:Fo->Nat
 | nil=>0
 | cons _ _ _ r=>r.length+1
def drop:Fo->Nat->Fo
 | f,0=>f
 | nil,_+1=>nil
 | cons _ _ _ r,i+1=>r.drop i
def get:Fo->Nat->Option (Int × Int × Fo)
 | nil,_=>none
 | cons k n ps _,0=>some (k,n,ps)
 | cons _ _ _ r,i+1=>r.get i
def app:Fo->Fo->Fo
 | nil,g=>g
 | cons k n ps r,g=>cons k n ps (r.app g)
def size:Fo->Nat
 | nil=>0
 | cons _ _ ps r=>ps.size+1+r.size
def depth:Fo->Nat
 | nil=>0
 | cons _ _ ps r=>max (ps.depth+1) r.depth
def same:Fo->Fo->Bool
 | nil,nil=>true
 | cons k n ps r,cons k' n' ps' r'=>(k == k') && (n == n') && ps.same ps' && r.same r'
 | _,_=>false
def vars:List Int->Fo->List Int
 | l,nil=>l
 | l,cons k n ps r=>vars (vars (if k == 1 && !inB l n then l++[n] else l) ps) r
def plain (k n:Int) (m:Nat):Bool :=
 if k == 1 then decide (0<=n) && decide (n < 1073741824) && decide (m=0)
 else if k == 2 || k == 3 then n == 0 && decide (m=0)
 else if k == 4 then n == 0 && decide (m=2)
 else if k == 5 then n == 0 && decide (2<=m) && decide (m<=8)
 else false
def right:Fo->Bool
 | nil=>true
 | cons k n ps r=>plain k n ps.length && ps.right && r.right
def change (p:Int->Int):Fo->Fo
 | nil=>nil
 | cons k n ps r=>cons k (if k == 1 then p n else n) (ps.change p) (r.change p)
theorem drop_zero (f:Fo):f.drop 0=f:=by cases f<;>rfl
theorem tN:∀ (f:Fo) (i:Nat),i < f.length->∃ k n ps,f.drop i=cons k n ps (f.drop (i+1))/\f.get i=some (k,n,ps)
 | nil,i,h=>by simp [length] at h
 | cons k n ps r,0,_=>⟨k,n,ps,by simp [drop,drop_zero],rfl⟩
 | cons k n ps r,i+1,h=>by
  obtain ⟨k',n',ps',h1,h2⟩:=tN r i (by simp [length] at h;omega);exact ⟨k',n',ps',by simp only [drop];rw [h1],h2⟩
theorem drop_end:∀ (f:Fo) (i:Nat),f.length<=i->f.drop i=nil
 | nil,0,_=>rfl
 | nil,i+1,_=>rfl
 | cons k n ps r,0,h=>by simp [length] at h
 | cons k n ps r,i+1,h=>drop_end r i (by simp [length] at h;omega)
theorem Ci:∀ (f:Fo) (i:Nat) (t:Int × Int × Fo),f.get i=some t->i < f.length
 | nil,i,t,h=>by simp [get] at h
 | cons k n ps r,0,t,_=>by simp [length]
 | cons k n ps r,i+1,t,h=>by have:=Ci r i t h;simp [length];omega
theorem length_le:∀ f:Fo,f.length<=f.size
 | nil=>Nat.le_refl _
 | cons k n ps r=>by have:=length_le r;simp only [length,size];omega
theorem size_drop:∀ (f:Fo) (i:Nat),(f.drop i).size<=f.size
 | f,0=>by rw [drop_zero];exact Nat.le_refl _
 | nil,i+1=>Nat.le_refl _
 | cons k n ps r,i+1=>by have:=size_drop r i;simp only [drop,size];omega
theorem dG (f:Fo) (i:Nat) (k n:Int) (ps:Fo) (h:f.get i=some (k,n,ps)):ps.size+1<=f.size:=by
 obtain ⟨k',n',ps',h1,h2⟩:=tN f i (Ci _ _ _ h);rw [h] at h2;cases h2;have:=size_drop f i;rw [h1] at this;simp only [size] at this;omega
theorem same_eq:∀ f g:Fo,f.same g=true->f=g
 | nil,nil,_=>rfl
 | nil,cons _ _ _ _,h=>by simp [same] at h
 | cons _ _ _ _,nil,h=>by simp [same] at h
 | cons k n ps r,cons k' n' ps' r',h=>by
  simp [same] at h;obtain ⟨⟨⟨rfl,rfl⟩,h3⟩,h4⟩:=h;rw [same_eq ps ps' h3,same_eq r r' h4]
theorem same_length:∀ f g:Fo,f.same g=true->f.length=g.length:=fun f g h=>by rw [same_eq f g h]
theorem qm (p:Int->Int):∀ f:Fo,(f.change p).size=f.size
 | nil=>rfl
 | cons k n ps r=>by simp [change,size,qm p r,qm p ps]
theorem zk:∀ f:Fo,f.change (fun n=>n)=f
 | nil=>rfl
 | cons k n ps r=>by simp [change,zk r,zk ps]
theorem qZ:∀ f:Fo,f.app nil=f
 | nil=>rfl
 | cons k n ps r=>by simp [app,qZ r]
theorem mG:∀ f g h:Fo,(f.app g).app h=f.app (g.app h)
 | nil,_,_=>rfl
 | cons k n ps r,g,h=>by simp [app,mG r g h]
theorem bJ:∀ f g:Fo,(f.app g).length=f.length+g.length
 | nil,g=>by simp [app,length]
 | cons k n ps r,g=>by simp [app,length,bJ r g];omega
theorem ind {T:Int->Int->Fo->Prop} (step:∀ k n ps,(∀ i k' n' qs,ps.get i=some (k',n',qs)->T k' n' qs)->T k n ps):∀ (f:Fo) (i:Nat) (k n:Int) (ps:Fo),f.get i=some (k,n,ps)->T k n ps
 | nil,i,k,n,ps,h=>by simp [get] at h
 | cons k n ps r,0,k',n',qs,h=>by
  simp [get] at h;obtain ⟨rfl,rfl,rfl⟩:=h;exact step k n ps (ind step ps)
 | cons k n ps r,i+1,k',n',qs,h=>ind step r i k' n' qs h
theorem uY {T:Int->Int->Fo->Prop} (step:∀ k n ps,(∀ i k' n' qs,ps.get i=some (k',n',qs)->T k' n' qs)->T k n ps) (k n:Int) (ps:Fo):T k n ps :=
 step k n ps (fun i k' n' qs h=>ind step ps i k' n' qs h)
def room:Nat->Int->Fo->Int
 | _,m,nil=>m
 | d, m, cons _ _ ps r => if m < 0 then m else
     match d with
     | 0=>room 0 (-1) r
     | d+1=>room (d+1) (room d (m-1) ps) r
theorem fE:∀ (f:Fo) (d:Nat) (m:Int),m < 0->room d m f=m
 | nil,_,_,_=>by unfold room;rfl
 | cons k n ps r,d,m,h=>by unfold room;rw [if_pos h]
theorem room_le:∀ (f:Fo) (d:Nat) (m:Int),0<=m->room d m f<=m/\-1<=room d m f
 | nil,_,_,_=>by unfold room;omega
 | cons k n ps r,d,m,h=>by
  unfold room;rw [if_neg (by omega)];cases d with
  | zero=>simp only;rw [fE r 0 (-1) (by omega)];omega
  | succ d =>
   simp only
   by_cases hm:0<=m-1
   ·have h1:=room_le ps d (m-1) hm
    by_cases h0:0<=room d (m-1) ps
    ·have h2:=room_le r (d+1) _ h0;omega
    ·rw [fE r _ _ (by omega)];omega
   ·rw [fE ps _ _ (by omega),fE r _ _ (by omega)];omega
theorem zl:∀ (f:Fo) (d:Nat) (m:Int),0<=room d m f->room d m f=m-f.size/\0<=m
 | nil,_,m,h=>by unfold room at h ⊢;simp [size];exact h
 | cons k n ps r,d,m,h=>by
  unfold room at h ⊢
  by_cases hm:m < 0
  ·rw [if_pos hm] at h;omega
  ·rw [if_neg hm] at h ⊢;cases d with
   | zero=>simp only at h;rw [fE r 0 (-1) (by omega)] at h;omega
   | succ d =>
    simp only at h ⊢;obtain ⟨h1,h2⟩:=zl r (d+1) _ h;obtain ⟨h3,h4⟩:=zl ps d (m-1) h2;rw [h1,h3];simp only [size];omega
end Fo
def Jj (G:Int->Prop):Fo->Prop
 | .nil=>True
 | .cons _ n ps r=>G n/\Jj G ps/\Jj G r
theorem ni {G:Int->Prop}:∀ (f:Fo) (i:Nat) (k n:Int) (ps:Fo),Jj G f->f.get i=some (k,n,ps)->G n/\Jj G ps
 | .nil,i,k,n,ps,_,h=>by simp [Fo.get] at h
 | .cons k n ps r,0,k',n',ps',hw,h=>by
  simp [Fo.get] at h;obtain ⟨rfl,rfl,rfl⟩:=h;exact ⟨hw.1,hw.2.1⟩
 | .cons k n ps r,i+1,k',n',ps',hw,h=>ni r i k' n' ps' hw.2.2 h
theorem uM {G:Int->Prop} (h:∀ n,G n):∀ f:Fo,Jj G f
 | .nil=>trivial
 | .cons _ n ps r=>⟨h n,uM h ps,uM h r⟩
end
section
open Go.RowKit
structure Fr (S:Nat->Prop) (w w':World):Prop where
 os:w'.os=w.os
 tape:w'.tape=w.tape
 output:w'.output=w.output
 size:w.heap.size<=w'.heap.size
 block:∀ k,k < w.heap.size->¬ S k->w'.heap[k]?=w.heap[k]?
theorem Fr.refl (S:Nat->Prop) (w:World):Fr S w w:=⟨rfl,rfl,rfl,Nat.le_refl _,fun _ _ _=>rfl⟩
theorem Fr.trans {S:Nat->Prop} {a b c:World} (h:Fr S a b) (k:Fr S b c):Fr S a c :=
 ⟨k.os.trans h.os,k.tape.trans h.tape,k.output.trans h.output,Nat.le_trans h.size k.size,
  fun i hi hs=>(k.block i (Nat.lt_of_lt_of_le hi h.size) hs).trans (h.block i hi hs)⟩
theorem Fr.trans' {S T:Nat->Prop} {a b c:World} (h:Fr S a b) (k:Fr T b c) (hT:∀ i,i < a.heap.size->T i->S i):Fr S a c :=
 ⟨k.os.trans h.os,k.tape.trans h.tape,k.output.trans h.output,Nat.le_trans h.size k.size,
  fun i hi hs=>(k.block i (Nat.lt_of_lt_of_le hi h.size) (fun ht=>hs (hT i hi ht))).trans (h.block i hi hs)⟩
theorem Fr.mono {S T:Nat->Prop} {w w':World} (h:Fr S w w') (hT:∀ k,k < w.heap.size->S k->T k):Fr T w w' :=
 ⟨h.os,h.tape,h.output,h.size,fun k hk hs=>h.block k hk (fun hh=>hs (hT k hk hh))⟩
theorem Fr.setCell (S:Nat->Prop) (w:World) (p:Addr) (u:Value) (hp:S p.block):Fr S w (w.setCell p u) :=
 ⟨rfl,rfl,rfl,by simp [World.setCell],fun k _ hs=>Below.heap_setCell _ _ _ _ (fun e=>hs (by rw [e];exact hp))⟩
theorem Fr.alloc (S:Nat->Prop) (w:World) (o:Obj):Fr S w (w.alloc o) :=
 ⟨rfl,rfl,rfl,by simp,fun k hk _=>Below.heap_alloc _ _ _ hk⟩
theorem Fr.drew (S:Nat->Prop) (w:World):Fr S w w.drew:=⟨rfl,rfl,rfl,Nat.le_refl _,fun _ _ _=>rfl⟩
theorem Fr.drewN (S:Nat->Prop) (w:World) (n:Nat):Fr S w (w.drewN n):=⟨rfl,rfl,rfl,Nat.le_refl _,fun _ _ _=>rfl⟩
theorem Fr.grown {S:Nat->Prop} {w w':World} {row:Option Nat} (h:w.grownBy w' row) (hS:∀ k,row=some k->S k):Fr S w w' :=
 ⟨h.os,h.tape,h.output,h.size,fun k hk hs=>h.block k hk (fun e=>hs (hS k e.symm))⟩
theorem Fr.below {S:Nat->Prop} {w w':World} {B:Nat} (h:Fr S w w') (hB:B<=w.heap.size) (hS:∀ k,S k->B<=k):Below B w w' :=
 ⟨h.os,h.tape,h.output,h.size,fun k hk=>h.block k (Nat.lt_of_lt_of_le hk hB) (fun e=>by have:=hS k e;omega)⟩
theorem Fr.cell {S:Nat->Prop} {w w':World} (h:Fr S w w') {a:Addr} (hk:a.block < w.heap.size) (hs:¬ S a.block):w'.cell? a=w.cell? a:=by
 simp [World.cell?,h.block _ hk hs]
theorem ownsRow_base {w:World} {base base':Nat} {e:TypeId} {size:Nat} {v:Value} {n:Nat} {xs:List Value} (h:w.ownsRow base e size v n xs) (hb:∀ k,v.ownBlock=some k->base'<=k):w.ownsRow base' e size v n xs:=by
 refine ⟨h.1,?_⟩;rcases h.2 with hn | ⟨g,cap,cur,rfl,hb',rest⟩
 ·exact .inl hn
 ·exact .inr ⟨g,cap,cur,rfl,hb g rfl,rest⟩
theorem xR {w w':World} {base:Nat} {e:TypeId} {size:Nat} {v:Value} {n:Nat} {xs:List Value} (h:w.ownsRow base e size v n xs) (hb:∀ k,v.ownBlock=some k->w'.heap[k]?=w.heap[k]?):w'.ownsRow base e size v n xs:=by
 refine ⟨h.1,?_⟩;rcases h.2 with hn | ⟨g,cap,cur,rfl,hb',hgg,rest⟩
 ·exact .inl hn
 ·exact .inr ⟨g,cap,cur,rfl,hb',by rw [hb g rfl];exact hgg,rest⟩
theorem ownsRow_setCell_other {w:World} {base:Nat} {e:TypeId} {size:Nat} {v:Value} {n:Nat} {xs:List Value} (h:w.ownsRow base e size v n xs) (p:Addr) (u:Value) (hb:v.ownBlock≠some p.block):(w.setCell p u).ownsRow base e size v n xs :=
 xR h (fun k hk=>Below.heap_setCell _ _ _ _ (fun e=>hb (by rw [hk,e])))
theorem aU {S:Nat->Prop} {w w':World} {base:Nat} {e:TypeId} {size:Nat} {v:Value} {n:Nat} {xs:List Value} (h:w.ownsRow base e size v n xs) (hf:Fr S w w') (hb:∀ k,v.ownBlock=some k->¬ S k):w'.ownsRow base e size v n xs :=
 xR h (fun k hk=>hf.block k (h.lt k hk).2 (hb k hk))
theorem xU {P : Program} (w : World) {ops : Array Oper} {rest : List Oper} {o : Oper} {a : Act} {Q : Exit -> Act -> World -> Prop}
    (hg:o.guard=none) (s x:Operand) (t:TypeId) (hop:o.op=Op.call { callee:=Callee.builtin Builtin.append,args:=#[s,x],argTypes:=#[t,t] })
    (base:Nat) (e:TypeId) (i:TypeInfo) (z:Value) (size bytes:Nat) (h1:P.underlying t=some (.slice e)) (h2:P.info? e=some i) (h3:i.zero=some z) (h4:i.size=size) (h5:i.bytes=bytes) (h6:z.cells.size=size) (h7:0 < size)
    (v:Value) (n:Nat) (xs:List Value) (hs:a.eval s=v) (hown:w.ownsRow base e size v n xs)
    (ad:Addr) (m c:Nat) (news:List Value) (hx:a.eval x=.slice (some ad) m c) (hn:news.length=m*size) (hc:∀ j u,news[j]?=some u->w.cell? (ad.add j)=some u) (h1c:∀ u∈news,u.oneCell'=true)
    (hm:0 < m) (b1:n+m<=maxLen) (b2:(n+m)*bytes<=140737488355328) (b3:base<=w.heap.size)
    (hK:∀ v' w',w'.ownsRow base e size v' (n+m) (xs++news)->w.grownBy w' v.ownBlock->(∃ k,v'.ownBlock=some k/\(v.ownBlock=some k∨w.heap.size<=k))->wpList P ops Q rest (a.put o.dst v') w') :
    wpList P ops Q (o::rest) a w:=by
 rcases hown.2 with ⟨rfl,rfl⟩ | ⟨g,cap,cur,rfl,hbg,hgg,hnc,hcm,hcs,htake⟩
 ·have hx0:xs=[]:=List.eq_nil_of_length_eq_zero (by simpa using hown.1);subst hx0;refine wpList_append_grows w hg s x t hop e i z size bytes h1 h2 h3 h4 h5 h6 h7 none 0 0 [] hs (fun _=>⟨rfl,rfl⟩) (by simp) (fun b hb=>by cases hb) ad m c news hx hn hc h1c (by omega) b1 b2 ?_;intro v' w' ho hgr;have hlt:=ho.lt;rcases ho.2 with ⟨rfl,h0⟩ | ⟨k,cap,cur,rfl,hk,_⟩
  ·omega
  ·exact hK _ _ (ownsRow_base ho (fun k' hk'=>Nat.le_trans b3 (hlt k' hk').1)) ⟨hgr.os,hgr.tape,hgr.output,hgr.size,fun k hk hne=>hgr.block k hk (by simp)⟩ ⟨k,rfl,.inr hk⟩
 ·by_cases hroom:n+m<=cap
  ·refine wpList_append_fits w hg s x t hop base e i size h1 h2 h4 g n cap xs hs hown ad m c news hx hn hc h1c hroom ?_;intro w' ho hgr;exact hK _ _ ho hgr ⟨g,rfl,.inl rfl⟩
  ·refine wpList_append_grows w hg s x t hop e i z size bytes h1 h2 h3 h4 h5 h6 h7 (some ⟨g,0,none⟩) n cap xs hs (fun hh=>by cases hh) hown.1 ?_ ad m c news hx hn hc h1c (by omega) b1 b2 ?_
   ·intro b hb j u hu;cases hb;exact hown.cells (g:=g) rfl j u hu
   ·intro v' w' ho hgr;have hlt:=ho.lt;rcases ho.2 with ⟨rfl,h0⟩ | ⟨k,cap',cur',rfl,hk,_⟩
    ·omega
    ·exact hK _ _ (ownsRow_base ho (fun k' hk'=>Nat.le_trans b3 (hlt k' hk').1)) ⟨hgr.os,hgr.tape,hgr.output,hgr.size,fun k hk hne=>hgr.block k hk (by simp)⟩ ⟨k,rfl,.inr hk⟩
end
section
open Go.RowKit
theorem Fr.aY {S:Nat->Prop} {w w':World} (h:Fr S w w') {b off:Nat} (hk:b < w.heap.size) (hs:¬ S b):w'.cell? ⟨b,off,none⟩=w.cell? ⟨b,off,none⟩:=h.cell hk hs
structure Elem (P:Program) (t e:TypeId) (z:Value) (size bytes:Nat):Prop where
 under:P.underlying t=some (.slice e)
 info:(P.info? e).map (fun i=>(i.zero,i.size,i.bytes))=some (some z,size,bytes)
 cells:z.cells.size=size
 pos:0 < size
theorem aX {P : Program} (W : World) {ops : Array Oper} {rest : List Oper} {o : Oper} {a : Act} {Q : Exit -> Act -> World -> Prop}
    (hg:o.guard=none) (s x:Operand) (t:TypeId) (hop:o.op=Op.call { callee:=Callee.builtin Builtin.append,args:=#[s,x],argTypes:=#[t,t] })
    (e:TypeId) (z:Value) (size bytes:Nat) (he:Elem P t e z size bytes)
    (v:Value) (n:Nat) (xs:List Value) (hs:a.eval s=v) (hown:W.ownsRow 0 e size v n xs)
    (news:Array Value) (hx:a.eval x=.slice (some ⟨W.heap.size,0,none⟩) 1 1) (hn:news.size=size) (h1c:∀ u∈news.toList,u.oneCell'=true)
    (b1:n+1<=maxLen) (b2:(n+1)*bytes<=140737488355328)
    (hK:∀ g c w',w'.ownsRow 0 e size (.slice (some ⟨g,0,none⟩) (n+1) c) (n+1) (xs++news.toList)->Fr (fun k=>v.ownBlock=some k) W w'->(v.ownBlock=some g∨W.heap.size<=g)->wpList P ops Q rest (a.put o.dst (.slice (some ⟨g,0,none⟩) (n+1) c)) w') :
    wpList P ops Q (o::rest) a (W.alloc (.cells news e)):=by
 obtain ⟨i0,hi,hz0,hz1,hz2⟩:=info_parts he.info;refine xU (W.alloc (.cells news e)) hg s x t hop 0 e i0 z size bytes he.under hi hz0 hz1 hz2 he.cells he.pos v n xs hs (hown.alloc _) ⟨W.heap.size,0,none⟩ 1 1 news.toList hx (by simpa using hn) ?_ h1c (by omega) b1 b2 (Nat.zero_le _) ?_
 ·intro j u hu;rw [Addr.add_lit,cell_of_row (W.alloc (.cells news e)) W.heap.size (0+j) news e (0,0) (heap_alloc_new W _)];simpa using hu
 ·intro v' w' ho hgr hblk;obtain ⟨k,hk,hk'⟩:=hblk;rcases ho.2 with ⟨rfl,h0⟩ | ⟨g,cap,cur,rfl,_⟩
  ·omega
  ·simp [Value.ownBlock] at hk;subst hk;refine hK g cap w' ho ((Fr.alloc _ W _).trans (Fr.grown hgr (fun k hk=>hk))) ?_;rcases hk' with h | h
   ·exact .inl h
   ·exact .inr (by simp at h;omega)
end
section
open Go.RowKit
theorem Fr.putObj (S:Nat->Prop) (w:World) (r:Nat) (o:Obj) (h:S r):Fr S w (w.putObj r o) :=
 ⟨rfl,rfl,rfl,by simp,fun k _ hk=>World.putObj_heap_other (fun e=>hk (by rw [e];exact h))⟩
theorem EM (k:Nat):Fence.wide.room k:=fun d h=>by cases h
theorem OZ {m:Nat} (m':Nat) {P:Program} {l:Nat} {args:Array Value} {W:World} {R:Ending->World->Prop} (h:YieldAt Fence.wide m P l args W R):YieldAt Fence.wide m' P l args W R:=by
 obtain ⟨fn,tmps,assign,body,hy,hR⟩:=h;exact ⟨fn,tmps,assign,body,hy,hR.1,fun c cs _=>hR.2 c cs (EM _)⟩
def aaW {α:Type} (n:Nat) (P:Program) (g:Nat) (lb:Array Value) (Enc:Nat->α->Array Value->World->Prop) (R:Nat->Prop) (xs:List α) (w:World):Prop :=
 ∀ (l:Nat) (J:Nat->(Nat->Prop)->World->Prop) (Jx:World->Prop) (W:World) (D0:Nat->Prop),Fr (fun _=>False) w W ->
  (∀ i D A,J i D A->∀ k,D k->k < A.heap.size/\¬ R k) ->
  (∀ i D A B,J i D A->Fr (fun k=>W.heap.size<=k/\¬ D k) A B->J i D B) ->
  (∀ A B,Jx A->Fr (fun _=>False) A B->Jx B) ->
  (∀ i x va D W1,xs[i]?=some x->Enc i x va W1->J i D W1->YieldAt Fence.wide n P l va W1 fun e W' =>
   (e=.returned (.bool true)/\∃ D',J (i+1) D' W'/\Fr D W1 W'/\∀ k,D' k->D k∨W1.heap.size<=k)∨(e=.returned (.bool false)/\Jx W')) ->
  J 0 D0 W ->
  CallsIn Fence.wide n P g (#[.func (.yield l) #[] #[]]++lb) W fun e W'=>(∃ v,e=.returned v)/\((∃ D,J xs.length D W')∨Jx W')
def Zx (I:Nat->(Nat->Prop)->World->Prop) (Ix:Code->World->Prop) (i:Nat) (D:Nat->Prop) (W:World):Exit->Act->World->Prop
 | .normal,_,W'=>∃ D',I (i+1) D' W'/\Fr D W W'/\∀ k,D' k->D k∨W.heap.size<=k
 | .ret,_,W'=>Ix .ret W'/\Fr D W W'
 | .exit id,_,W'=>Ix (.exit id) W'/\Fr D W W'
 | .goto t,_,W'=>Ix (.goto t) W'/\Fr D W W'
 | .panic _,_,_=>False
 | .outgrown,_,_=>False
theorem Hf {α : Type} {n : Nat} {P : Program} {g : Operand} {ps : Array Tmp} {assign body : Code} {Q : Exit -> Act -> World -> Prop} {a : Act} {w : World}
    {gf:Nat} {lb:Array Value} (hg:a.eval g=.func (.func gf) #[] lb) (eg:∀ args w,(callFunc gf args).run P w=.ok (.enter gf args) w)
    {Enc:Nat->α->Array Value->World->Prop} {R:Nat->Prop} {xs:List α} {w0:World} (hseq:aaW (n-1) P gf lb Enc R xs w0) (hR:∀ k,R k->k < w0.heap.size) (hb0:Fr (fun _=>False) w0 w) (hps:∀ i x va W,Enc i x va W->va.size=ps.size)
    (I:Nat->(Nat->Prop)->World->Prop) (Im:Nat->α->Act->(Nat->Prop)->World->Prop) (Ix:Code->World->Prop) (D0:Nat->Prop)
    (hown:∀ i D A,I i D A->∀ k,D k->k < A.heap.size/\¬ R k/\(k < w.heap.size∨w.heap.size+2<=k))
    (hI:∀ i D A B,I i D A->Fr (fun k=>w.heap.size<=k/\¬ D k) A B->I i D B)
    (hIm:∀ i x a' D A B,Im i x a' D A->Fr (fun k=>k=w.heap.size+1) A B->Im i x a' D B)
    (hIx:∀ c A B,Ix c A->Fr (fun k=>k=w.heap.size+1) A B->Ix c B)
    (h0:I 0 D0 w)
    (hassign:∀ (l i:Nat) (x:α) (va:Array Value) (D:Nat->Prop) (W:World) (K:Act->World->Prop),xs[i]?=some x->Enc i x va W->I i D W->w.heap.size+2<=W.heap.size->(∀ a' W',Im i x a' D W'->Fr (fun _=>False) W W'->K a' W') ->
     assign.wpIn (Fence.wide.inRound l) (n-1) P (Exit.then K (fun _ _ _=>False)) { tmps:=(ps.zip va).foldl (fun t (p,v)=>t.setIfInBounds p v) a.tmps,defers:=[] } W)
    (hbody:∀ (l i:Nat) (x:α) (a':Act) (D:Nat->Prop) (W:World),xs[i]?=some x->Im i x a' D W->w.heap.size+2<=W.heap.size->body.wpIn (Fence.wide.inRound l) (n-1) P (Zx I Ix i D W) a' W)
    (hdone:∀ (D:Nat->Prop) (W:World),I xs.length D W->W.heap[w.heap.size]?=some (.deferred (some []))->Q .normal { a with defers:={ target:=.collected w.heap.size,args:=#[] }::a.defers } W)
    (hstop:∀ (c:Code) (W:World),Ix c W->W.heap[w.heap.size]?=some (.deferred (some []))->c.wpIn Fence.wide n P Q { a with defers:={ target:=.collected w.heap.size,args:=#[] }::a.defers } W) :
    (Code.rangeFunc g ps assign body).wpIn Fence.wide n P Q a w:=by
 refine wpIn_rangeFunc ?_;intro fn hfn;change ∃ l mark w₁ d w₁' f args w₂,(Instr.enterLoop fn a.tmps ps assign body none).run P w=_/\_;obtain ⟨B,hB⟩:∃ B,B=w.heap.size:=⟨_,rfl⟩;obtain ⟨rc,hrc⟩:∃ rc:LoopState->Option Code->Loop,rc=fun st pe=>{ state:=st,pending:=pe,fn,tmps:=a.tmps,params:=ps,assign,body,defers:=w.heap.size }:=⟨_,rfl⟩
 obtain ⟨W1,hW1⟩:∃ W1,W1=(w.alloc (.deferred (some []))).alloc (.loop (rc .ready none)):=⟨_,rfl⟩;have hf1:Fr (fun _=>False) w W1:=by rw [hW1];exact (Fr.alloc _ _ _).trans (Fr.alloc _ _ _)
 have hs1:W1.heap.size=B+2:=by rw [hW1,hB];simp
 have hL1:W1.heap[B+1]?=some (.loop (rc .ready none)):=by
  have h:=World.alloc_heap_new (w.alloc (.deferred (some []))) (.loop (rc .ready none));rw [World.size_alloc] at h;rw [hW1,hB];exact h
 have hK1:W1.heap[B]?=some (.deferred (some [])):=by
  rw [hW1,hB];exact ((Fr.alloc (fun _=>False) (w.alloc (.deferred (some []))) _).block w.heap.size (by simp) (fun h=>h)).trans (World.alloc_heap_new w _)
 refine ⟨B+1,[{ target:=.collected B,args:=#[] }],W1,{ target:=.fn (.func gf) lb,args:=#[.func (.yield (B+1)) #[] #[]] },W1,gf,#[.func (.yield (B+1)) #[] #[]]++lb,W1,?_,?_,fun _ _=>trivial,?_,fun h=>by simp [Fence.wide] at h,?_⟩
 ·rw [hW1,hrc,hB];exact run_enterLoop_outer _ _ _ _ _
 ·simp only [resolve,hg];simp [go_sem]
 ·simp [invoke,go_sem,eg]
 rw [<-hB] at hown hI hIm hIx hassign hbody hdone hstop;refine (hseq (B+1)
  (fun i D W=>∃ D1,I i D1 W/\W.heap[B+1]?=some (.loop (rc .ready none))/\W.heap[B]?=some (.deferred (some []))/\∀ k,D k↔(D1 k∨k=B+1))
  (fun W=>∃ c,Ix c W/\W.heap[B+1]?=some (.loop (rc .done (some c)))/\W.heap[B]?=some (.deferred (some [])))
  W1 (fun k=>D0 k∨k=B+1) (hb0.trans hf1) ?own ?stay ?aa9 ?round ?start).mono ?fin
 case own =>
  rintro i D A ⟨D1,hi,hl,hk,hd⟩ k hDk;rcases (hd k).1 hDk with h | h
  ·exact ⟨(hown i D1 A hi k h).1,(hown i D1 A hi k h).2.1⟩
  ·subst h;exact ⟨(Array.getElem?_eq_some_iff.1 hl).1,fun h=>by have h1:=hR _ h;have h2:=hb0.size;rw [<-hB] at h2;omega⟩
 case stay =>
  rintro i D A C ⟨D1,hi,hl,hk,hd⟩ hf;have hl':=(Array.getElem?_eq_some_iff.1 hl).1;refine ⟨D1,hI i D1 A C hi (hf.mono (fun k _ h=>⟨by omega,fun h'=>h.2 ((hd k).2 (.inl h'))⟩)),(hf.block _ hl' (by omega)).trans hl,(hf.block _ (by omega) (by omega)).trans hk,hd⟩
 case aa9 =>
  rintro A C ⟨c,hc,hl,hk⟩ hf;have hl':=(Array.getElem?_eq_some_iff.1 hl).1;exact ⟨c,hIx c A C hc (hf.mono (fun k _ h=>h.elim)),(hf.block _ hl' (fun h=>h)).trans hl,(hf.block _ (by omega) (fun h=>h)).trans hk⟩
 case start =>
  exact ⟨D0,hI 0 D0 w W1 h0 (hf1.mono (fun k _ h=>h.elim)),hL1,hK1,fun k=>Iff.rfl⟩
 case fin =>
  rintro e W2 ⟨⟨v,rfl⟩,(⟨D,D1,hi,hl,hk,hd⟩ | ⟨c,hc,hl,hk⟩)⟩
  ·refine ⟨none,_,by have h:=run_endLoop (P:=P) hl (by rw [hrc];simp);rw [hrc] at h;exact h,hdone D1 _ (hI _ _ _ _ hi (Fr.putObj _ _ _ _ ⟨by omega,fun h=>by have:=hown _ _ _ hi _ h;omega⟩)) ((World.putObj_heap_other (by omega)).trans hk)⟩
  ·exact ⟨some c,_,by have h:=run_endLoop (P:=P) hl (by rw [hrc];simp);rw [hrc] at h;exact h,hstop c _ (hIx c _ _ hc (Fr.putObj _ _ _ _ rfl)) ((World.putObj_heap_other (by omega)).trans hk)⟩
 case round =>
  rintro i x va D W hx henc ⟨D1,hi,hl,hk,hd⟩;have hlt:B+1 < W.heap.size:=(Array.getElem?_eq_some_iff.1 hl).1;have hy:=run_yield (P:=P) (args:=va) hl (by rw [hrc];exact hps i x va W henc);rw [hrc] at hy;refine ⟨fn,_,assign,body,hy,roundIn_of_wpIn hfn (hassign _ i x va D1 W _ hx henc hi (by omega) ?_)⟩;intro a' W' him hfa;have hl1:=(hfa.block _ hlt (fun h=>h)).trans hl;have hlt1:B+1 < W'.heap.size:=(Array.getElem?_eq_some_iff.1 hl1).1;have hk1:=(hfa.block B (by omega) (fun h=>h)).trans hk;refine ⟨_,run_beginRound hl1 (by rw [hrc]),?_⟩;obtain ⟨W2,hW2⟩:∃ W2,W2=W'.putObj (B+1) (.loop { rc .ready none with state:=.busy }):=⟨_,rfl⟩;rw [<-hW2];have hl2:W2.heap[B+1]?=some (.loop { rc .ready none with state:=.busy }):=by rw [hW2];exact World.putObj_heap_same hlt1
  have hk2:W2.heap[B]?=some (.deferred (some [])):=by rw [hW2];exact (World.putObj_heap_other (by omega)).trans hk1
  have hfp:Fr (fun k=>k=B+1) W' W2:=by rw [hW2];exact Fr.putObj _ _ _ _ rfl
  have hnd:∀ k,k=B∨k=B+1->¬ D1 k:=fun k hk h=>by have:=hown _ _ _ hi _ h;omega
  have fin : ∀ (jump : Option Code) (W3 : World), Fr D1 W2 W3 ->
      (Instr.endRound (B+1) jump).run P W3=.ok (.bool jump.isNone) (W3.putObj (B+1) (.loop (rc (if jump.isNone then .ready else .done) jump))) /\
      (W3.putObj (B+1) (.loop (rc (if jump.isNone then .ready else .done) jump))).heap[B+1]?=some (.loop (rc (if jump.isNone then .ready else .done) jump)) /\
      (W3.putObj (B+1) (.loop (rc (if jump.isNone then .ready else .done) jump))).heap[B]?=some (.deferred (some [])):=fun jump W3 h3=>by
   have hl3:=(h3.block _ (Array.getElem?_eq_some_iff.1 hl2).1 (hnd _ (.inr rfl))).trans hl2;have hk3:=(h3.block B (Array.getElem?_eq_some_iff.1 hk2).1 (hnd _ (.inl rfl))).trans hk2;have h:=run_endRound (P:=P) jump hl3;rw [hrc] at h ⊢;exact ⟨h,World.putObj_heap_same (Array.getElem?_eq_some_iff.1 hl3).1,(World.putObj_heap_other (by omega)).trans hk3⟩
  refine wpIn_mono (hbody _ i x a' D1 W2 hx (hIm _ _ _ _ _ _ him hfp) (by have:=(Array.getElem?_eq_some_iff.1 hl2).1;omega)) ?_;rintro e a3 W3 hp;cases e with
  | normal =>
   obtain ⟨D2,hi3,h3,hd3⟩:=hp;obtain ⟨hr,hl4,hk4⟩:=fin none W3 h3;refine ⟨_,_,hr,.inl ⟨rfl,fun k=>D2 k∨k=B+1,⟨D2,hI _ _ _ _ hi3 (Fr.putObj _ _ _ _ ⟨by omega,fun h=>by have:=hown _ _ _ hi3 _ h;omega⟩),hl4,hk4,fun k=>Iff.rfl⟩,?_,?_⟩⟩
   ·refine (hfa.mono (fun k _ h=>h.elim)).trans ((hfp.mono (fun k _ h=>(hd k).2 (.inr h))).trans ((h3.mono (fun k _ h=>(hd k).2 (.inl h))).trans (Fr.putObj _ _ _ _ ((hd _).2 (.inr rfl)))))
   ·intro k h;rcases h with h | h
    ·rcases hd3 k h with h | h
     ·exact .inl ((hd k).2 (.inl h))
     ·exact .inr (Nat.le_trans (Nat.le_trans hfa.size hfp.size) h)
    ·exact .inl ((hd k).2 (.inr h))
  | ret =>
   obtain ⟨hc,h3⟩:=hp;obtain ⟨hr,hl4,hk4⟩:=fin (some .ret) W3 h3;exact ⟨_,_,hr,.inr ⟨rfl,.ret,hIx _ _ _ hc (Fr.putObj _ _ _ _ rfl),hl4,hk4⟩⟩
  | exit id =>
   obtain ⟨hc,h3⟩:=hp;obtain ⟨hr,hl4,hk4⟩:=fin (some (.exit id)) W3 h3;exact ⟨_,_,hr,.inr ⟨rfl,.exit id,hIx _ _ _ hc (Fr.putObj _ _ _ _ rfl),hl4,hk4⟩⟩
  | goto t =>
   obtain ⟨hc,h3⟩:=hp;obtain ⟨hr,hl4,hk4⟩:=fin (some (.goto t)) W3 h3;exact ⟨_,_,hr,.inr ⟨rfl,.goto t,hIx _ _ _ hc (Fr.putObj _ _ _ _ rfl),hl4,hk4⟩⟩
  | panic ch=>exact hp.elim
  | outgrown=>exact hp.elim
end
end Go.Proofs.YtcninopmelmajaaDoor
