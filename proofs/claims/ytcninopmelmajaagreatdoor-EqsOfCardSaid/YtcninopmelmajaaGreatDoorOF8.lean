/-
  Texts laid together (PaTok, Cells, TyMem, TyIn, TyRef, TySame, TyRight): laws and walks, with their conditions.
-/
import Derived.IntWalk
import Derived.Test.YtcninopmelmajaaGreatDoorOF5
import Derived.Test.YtcninopmelmajaaGreatDoorOF6
set_option maxHeartbeats 8000000
set_option maxRecDepth 1000000
namespace Go.Proofs.YtcninopmelmajaaGreatDoor
open Go.Lib (hid)
section
namespace Pa
open Lx
theorem Oz {p:UInt8->Bool} {c:UInt8} {r:List UInt8} (h:p c=false):dn p (c::r)=0:=by simp [dn,h]
theorem DW {p:UInt8->Bool} {c:UInt8} {r:List UInt8} (h:p c=true):dn p (c::r)=dn p r+1:=by simp [dn,h]
theorem F8 (p:UInt8->Bool):∀ l:List UInt8,dn p (l.take (dn p l))=dn p l
 | []=>rfl
 | c::r=>by
  cases h:p c
  ·rw [Oz h];rfl
  ·rw [DW h,List.take_succ_cons,DW h,F8 p r]
theorem DK (p:UInt8->Bool):∀ l:List UInt8,∀ c∈l.take (dn p l),p c=true
 | [],c,h=>by simp at h
 | d::r,c,h=>by
  cases hd:p d
  ·rw [Oz hd] at h;simp at h
  ·rw [DW hd,List.take_succ_cons] at h;rcases List.mem_cons.1 h with e | e
   ·subst e;exact hd
   ·exact DK p r c e
def Yh (t:Tok):Prop:=(t.kind=1->nameB t.text=true)/\(t.kind=2->t.text.length<=9/\∀ c∈t.text,dR c=true)
theorem QN {l:List UInt8} (h:(nextL l).2.2=0) (a:Nat):Yh ⟨(nextL l).1,l.take (nextL l).2.1,a,a+(nextL l).2.1⟩:=by
 cases l with
 | nil=>simp [nextL] at h
 | cons c r =>
  unfold nextL at h ⊢;simp only at h ⊢;cases h1:eX c
  ·simp only [h1,Bool.false_eq_true,if_false] at h ⊢;cases h2:dR c
   ·simp only [h2,Bool.false_eq_true,if_false] at h ⊢;cases h3:vN c
    ·simp only [h3,Bool.false_eq_true,if_false] at h ⊢
     split
     ·exact ⟨fun e=>by simp at e,fun e=>by simp at e⟩
     ·exact ⟨fun e=>by simp at e,fun e=>by simp at e⟩
    ·simp only [if_true] at h ⊢;exact ⟨fun e=>by simp at e,fun e=>by simp at e⟩
   ·simp only [h2,if_true] at h ⊢
    split
    ·exact ⟨fun e=>by simp at e,fun e=>by simp at e⟩
    ·split
     ·exact ⟨fun e=>by simp at e,fun e=>by simp at e⟩
     ·next h4 =>
      refine ⟨fun e=>by simp at e,fun _=>⟨?_,DK dR (c::r)⟩⟩;have:=oD dR (c::r);simp only [List.length_take];omega
  ·simp only [h1,if_true] at h ⊢
   split
   ·exact ⟨fun e=>by simp at e,fun e=>by simp at e⟩
   ·next h2 =>
    split
    ·exact ⟨fun e=>by simp at e,fun e=>by simp at e⟩
    ·next h3 =>
     refine ⟨fun _=>?_,fun e=>by simp at e⟩;have hle:=oD bG (c::r);have hp:0 < dn bG (c::r):=qL (qw h1);have hln:((c::r).take (dn bG (c::r))).length=dn bG (c::r):=by rw [List.length_take];omega
     show nameB ((c::r).take (dn bG (c::r)))=true
     unfold nameB;rw [F8,hln];have hg:fK eX ((c::r).take (dn bG (c::r)))=true:=by
      obtain ⟨k,hk⟩:∃ k,dn bG (c::r)=k+1:=⟨dn bG (c::r)-1,by omega⟩;rw [hk,List.take_succ_cons];exact h1
     have hk:KC ((c::r).take (dn bG (c::r)))=false:=by simpa using h2
     rw [hg,hk];simp;omega
def aaJ (s:List UInt8) (t:Tok):Prop:=t.kind≠0->t.fr < t.to/\t.to<=s.length/\t.text=(s.drop t.fr).take (t.to-t.fr)
theorem Ah (s:List UInt8):∀ (f a:Nat) (l:List UInt8) (ts:List Tok),s.drop a=l->a<=s.length->iF f a l=.inl ts->∀ t∈ts,Yh t/\aaJ s t
 | 0,a,l,ts,hs,ha,h=>by
  unfold iF at h;cases h;intro t ht;simp at ht;subst ht;exact ⟨⟨fun e=>by simp [lK] at e,fun e=>by simp [lK] at e⟩,fun e=>absurd rfl e⟩
 | f+1,a,l,ts,hs,ha,h=>by
  have hend:∀ n,Yh (lK n)/\aaJ s (lK n):=fun n=>⟨⟨fun e=>by simp [lK] at e,fun e=>by simp [lK] at e⟩,fun e=>absurd rfl e⟩
  unfold iF at h;simp only at h
  split at h
  ·cases h;intro t ht;simp at ht;subst ht;exact hend _
  ·split at h
   ·cases h
   ·next hn =>
    have hn0:(nextL (l.drop (aS false l))).2.2=0:=Decidable.not_not.1 hn;have hlen:=qM hn0;have hll:l.length=s.length-a:=by rw [<-hs,List.length_drop]
    have hdl:(l.drop (aS false l)).length=l.length-aS false l:=List.length_drop;have hsk:=nI false l;have hd:s.drop (a+aS false l)=l.drop (aS false l):=by rw [<-hs,List.drop_drop]
    split at h
    ·next ts' he =>
     have ih:=Ah s f _ _ ts' (by rw [<-List.drop_drop,hd]) (by omega) he;cases h;intro t ht;rcases List.mem_cons.1 ht with e | e
     ·subst e;refine ⟨QN hn0 _,fun _=>⟨?_,?_,?_⟩⟩
      ·show a+aS false l < a+aS false l+(nextL (l.drop (aS false l))).2.1;omega
      ·show a+aS false l+(nextL (l.drop (aS false l))).2.1<=s.length;omega
      ·show (l.drop (aS false l)).take _=(s.drop (a+aS false l)).take (a+aS false l+(nextL (l.drop (aS false l))).2.1-(a+aS false l))
       rw [hd];congr 1;omega
     ·exact ih t e
    ·cases h
theorem LP {s:List UInt8} {ts:List Tok} (h:kH s=.inl ts):∀ t∈ts,Yh t/\aaJ s t:=Ah s _ 0 s ts rfl (Nat.zero_le _) h
end Pa
end
section
abbrev xw (w:World) (b:Nat) (v0 v1 v2:Value):Prop:=w.cell? ⟨b,0,none⟩=some v0/\w.cell? ⟨b,1,none⟩=some v1/\w.cell? ⟨b,2,none⟩=some v2
abbrev AO (w:World) (b:Nat) (v0 v1 v2 v3 v4:Value):Prop:=w.cell? ⟨b,0,none⟩=some v0/\w.cell? ⟨b,1,none⟩=some v1/\w.cell? ⟨b,2,none⟩=some v2/\w.cell? ⟨b,3,none⟩=some v3/\w.cell? ⟨b,4,none⟩=some v4
abbrev Rw8 (w:World) (b:Nat) (v0 v1 v2 v3 v4 v5 v6 v7:Value):Prop:=w.cell? ⟨b,0,none⟩=some v0/\w.cell? ⟨b,1,none⟩=some v1/\w.cell? ⟨b,2,none⟩=some v2/\w.cell? ⟨b,3,none⟩=some v3/\w.cell? ⟨b,4,none⟩=some v4/\w.cell? ⟨b,5,none⟩=some v5/\w.cell? ⟨b,6,none⟩=some v6/\w.cell? ⟨b,7,none⟩=some v7
abbrev qP (w:World) (b:Nat) (h:Nd) (o1:Option Addr) (l1 c1:Nat) (o2:Option Addr) (l2 c2:Nat):Prop:=w.cell? ⟨b,0,none⟩=some (.int .i64 h.k)/\w.cell? ⟨b,1,none⟩=some (.string h.nm)/\w.cell? ⟨b,2,none⟩=some (.int .i64 h.n)/\w.cell? ⟨b,3,none⟩=some (.int .i64 h.tk)/\w.cell? ⟨b,4,none⟩=some (.int .i64 h.tn)/\w.cell? ⟨b,5,none⟩=some (.slice o1 l1 c1)/\w.cell? ⟨b,6,none⟩=some (.slice o2 l2 c2)/\w.cell? ⟨b,7,none⟩=some (.int .i64 h.fr)/\w.cell? ⟨b,8,none⟩=some (.int .i64 h.en)
abbrev EC (w:World) (b off:Nat) (h:Nd) (o1:Option Addr) (l1 c1:Nat) (o2:Option Addr) (l2 c2:Nat):Prop:=w.cell? ⟨b,off,none⟩=some (.int .i64 h.k)/\w.cell? ⟨b,off+1,none⟩=some (.string h.nm)/\w.cell? ⟨b,off+2,none⟩=some (.int .i64 h.n)/\w.cell? ⟨b,off+3,none⟩=some (.int .i64 h.tk)/\w.cell? ⟨b,off+4,none⟩=some (.int .i64 h.tn)/\w.cell? ⟨b,off+5,none⟩=some (.slice o1 l1 c1)/\w.cell? ⟨b,off+6,none⟩=some (.slice o2 l2 c2)/\w.cell? ⟨b,off+7,none⟩=some (.int .i64 h.fr)/\w.cell? ⟨b,off+8,none⟩=some (.int .i64 h.en)
end
section
open Go.RowKit
def At (w:World):Nat->Nat->Fo->Prop
 | _,_,.nil=>True
 | b, off, .cons k n ps r => w.cell? ⟨b, off, none⟩ = some (.int .i64 k) /\ w.cell? ⟨b, off + 1, none⟩ = some (.int .i64 n) /\
     (∃ o len cap,w.cell? ⟨b,off+2,none⟩=some (.slice o len cap)/\len=ps.length/\len<=maxLen/\(0 < len->∃ b' off',o=some ⟨b',off',none⟩/\At w b' off' ps))/\At w b (off+3) r
def kT (w:World) (o:Option Addr) (len:Nat) (f:Fo):Prop:=len=f.length/\len<=maxLen/\(0 < len->∃ b off,o=some ⟨b,off,none⟩/\At w b off f)
theorem kT.nil (w:World) (o:Option Addr):kT w o 0 .nil:=⟨rfl,Nat.zero_le _,fun h=>absurd h (Nat.lt_irrefl _)⟩
theorem At.stay {w w':World} (hq:ah w w'):∀ (f:Fo) (b off:Nat),At w b off f->At w' b off f
 | .nil,_,_,_=>trivial
 | .cons k n ps r,b,off,h=>by
  obtain ⟨h1,h2,⟨o,len,cap,h3,h4,h4',h5⟩,h6⟩:=h;refine ⟨hq.at h1,hq.at h2,⟨o,len,cap,hq.at h3,h4,h4',fun hl=>?_⟩,At.stay hq r b (off+3) h6⟩;obtain ⟨b',off',ho,ha⟩:=h5 hl;exact ⟨b',off',ho,At.stay hq ps b' off' ha⟩
theorem kT.stay {w w':World} {o:Option Addr} {len:Nat} {f:Fo} (h:kT w o len f) (hq:ah w w'):kT w' o len f:=by
 refine ⟨h.1,h.2.1,fun hl=>?_⟩;obtain ⟨b,off,ho,ha⟩:=h.2.2 hl;exact ⟨b,off,ho,At.stay hq f b off ha⟩
theorem At.nth {w : World} : ∀ (f : Fo) (b off i : Nat), At w b off f -> i < f.length -> ∃ k n ps o len cap, f.drop i = .cons k n ps (f.drop (i + 1)) /\ f.get i = some (k, n, ps) /\
    w.cell? ⟨b,off+i*3,none⟩=some (.int .i64 k)/\w.cell? ⟨b,off+i*3+1,none⟩=some (.int .i64 n)/\w.cell? ⟨b,off+i*3+2,none⟩=some (.slice o len cap)/\kT w o len ps
 | .nil,_,_,_,_,h=>by simp [Fo.length] at h
 | .cons k n ps r,b,off,0,h,_=>by
  obtain ⟨h1,h2,⟨o,len,cap,h3,h4,h4',h5⟩,h6⟩:=h;exact ⟨k,n,ps,o,len,cap,by simp [Fo.drop,Fo.drop_zero],rfl,by simpa using h1,by simpa using h2,by simpa using h3,h4,h4',h5⟩
 | .cons k n ps r,b,off,i+1,h,hi=>by
  obtain ⟨_,_,_,h6⟩:=h;obtain ⟨k',n',ps',o,len,cap,e1,e2,c1,c2,c3,hs⟩:=At.nth r b (off+3) i h6 (by simp [Fo.length] at hi;omega);refine ⟨k',n',ps',o,len,cap,by simp only [Fo.drop];rw [e1],e2,?_,?_,?_,hs⟩
  ·rw [show off+(i+1)*3=off+3+i*3 from by omega];exact c1
  ·rw [show off+(i+1)*3=off+3+i*3 from by omega];exact c2
  ·rw [show off+(i+1)*3=off+3+i*3 from by omega];exact c3
theorem kT.nth {w : World} {o : Option Addr} {len : Nat} {f : Fo} (h : kT w o len f) {i : Nat} (hi : i < len) : ∃ b off k n ps o' len' cap', o = some ⟨b, off, none⟩ /\ f.drop i = .cons k n ps (f.drop (i + 1)) /\ f.get i = some (k, n, ps) /\
    w.cell? ⟨b,off+i*3,none⟩=some (.int .i64 k)/\w.cell? ⟨b,off+i*3+1,none⟩=some (.int .i64 n)/\w.cell? ⟨b,off+i*3+2,none⟩=some (.slice o' len' cap')/\kT w o' len' ps:=by
 obtain ⟨b,off,rfl,ha⟩:=h.2.2 (by omega);obtain ⟨k,n,ps,o',len',cap',h1⟩:=At.nth f b off i ha (by have:=h.1;omega);exact ⟨b,off,k,n,ps,o',len',cap',rfl,h1⟩
def dZ (k n:Int) (o:Option Addr) (len cap:Nat):Value:=.agg #[.int .i64 k,.int .i64 n,.slice o len cap]
theorem fF (w : World) (k n : Int) (o : Option Addr) (len cap : Nat) (t : TypeId) (W : World) (hW : ah (w.alloc (.cells #[.int .i64 k, .int .i64 n, .slice o len cap] t)) W) :
    xw W w.heap.size (.int .i64 k) (.int .i64 n) (.slice o len cap):=by
 refine ⟨hW.at ?_,hW.at ?_,hW.at ?_⟩<;>(rw [cell_of_row _ _ _ _ _ (0,0) (heap_alloc_new w _)];rfl)
end
section
open Go.RowKit
def AtIn (R:Nat->Prop) (w:World):Nat->Nat->Fo->Prop
 | _,_,.nil=>True
 | b, off, .cons k n ps r => R b /\ w.cell? ⟨b, off, none⟩ = some (.int .i64 k) /\ w.cell? ⟨b, off + 1, none⟩ = some (.int .i64 n) /\
     (∃ o len cap,w.cell? ⟨b,off+2,none⟩=some (.slice o len cap)/\len=ps.length/\len<=maxLen/\(0 < len->∃ b' off',o=some ⟨b',off',none⟩/\AtIn R w b' off' ps))/\AtIn R w b (off+3) r
def aB (R:Nat->Prop) (w:World) (o:Option Addr) (len:Nat) (f:Fo):Prop:=len=f.length/\len<=maxLen/\(0 < len->∃ b off,o=some ⟨b,off,none⟩/\AtIn R w b off f)
theorem AtIn.at {R:Nat->Prop} {w:World}:∀ (f:Fo) (b off:Nat),AtIn R w b off f->At w b off f
 | .nil,_,_,_=>trivial
 | .cons k n ps r,b,off,h=>by
  obtain ⟨_,h1,h2,⟨o,len,cap,h3,h4,h4',h5⟩,h6⟩:=h;refine ⟨h1,h2,⟨o,len,cap,h3,h4,h4',fun hl=>?_⟩,AtIn.at r b (off+3) h6⟩;obtain ⟨b',off',ho,ha⟩:=h5 hl;exact ⟨b',off',ho,AtIn.at ps b' off' ha⟩
theorem aB.slc {R:Nat->Prop} {w:World} {o:Option Addr} {len:Nat} {f:Fo} (h:aB R w o len f):kT w o len f:=by
 refine ⟨h.1,h.2.1,fun hl=>?_⟩;obtain ⟨b,off,ho,ha⟩:=h.2.2 hl;exact ⟨b,off,ho,AtIn.at f b off ha⟩
theorem AtIn.fr {R T S:Nat->Prop} {w w':World} (hf:Fr S w w') (hR:∀ k,k < w.heap.size->R k->T k/\¬ S k):∀ (f:Fo) (b off:Nat),AtIn R w b off f->AtIn T w' b off f
 | .nil,_,_,_=>trivial
 | .cons k n ps r,b,off,h=>by
  obtain ⟨h0,h1,h2,⟨o,len,cap,h3,h4,h4',h5⟩,h6⟩:=h;have hb:b < w.heap.size:=World.block_lt_of_cell? w _ h1;obtain ⟨hT,hS⟩:=hR b hb h0;refine ⟨hT,(hf.bf hb hS).trans h1,(hf.bf hb hS).trans h2,⟨o,len,cap,(hf.bf hb hS).trans h3,h4,h4',fun hl=>?_⟩,AtIn.fr hf hR r b (off+3) h6⟩;obtain ⟨b',off',ho,ha⟩:=h5 hl;exact ⟨b',off',ho,AtIn.fr hf hR ps b' off' ha⟩
theorem aB.fr {R T S:Nat->Prop} {w w':World} {o:Option Addr} {len:Nat} {f:Fo} (h:aB R w o len f) (hf:Fr S w w') (hR:∀ k,k < w.heap.size->R k->T k/\¬ S k):aB T w' o len f:=by
 refine ⟨h.1,h.2.1,fun hl=>?_⟩;obtain ⟨b,off,ho,ha⟩:=h.2.2 hl;exact ⟨b,off,ho,AtIn.fr hf hR f b off ha⟩
theorem aB.nil (R:Nat->Prop) (w:World) (o:Option Addr):aB R w o 0 .nil:=⟨rfl,Nat.zero_le _,fun h=>absurd h (Nat.lt_irrefl _)⟩
def RowOf (R:Nat->Prop) (w:World):List Value->Fo->Prop
 | xs,.nil=>xs=[]
 | xs,.cons k n ps r=>∃ o len cap ys,xs=.int .i64 k::.int .i64 n::.slice o len cap::ys/\aB R w o len ps/\RowOf R w ys r
theorem RowOf.fr {R T S:Nat->Prop} {w w':World} (hf:Fr S w w') (hR:∀ k,k < w.heap.size->R k->T k/\¬ S k):∀ (f:Fo) (xs:List Value),RowOf R w xs f->RowOf T w' xs f
 | .nil,_,h=>h
 | .cons k n ps r,xs,h=>by
  obtain ⟨o,len,cap,ys,rfl,hs,hr⟩:=h;exact ⟨o,len,cap,ys,rfl,hs.fr hf hR,RowOf.fr hf hR r ys hr⟩
theorem RowOf.snoc {R:Nat->Prop} {w:World} {k n:Int} {ps:Fo} {o:Option Addr} {len cap:Nat} (hs:aB R w o len ps):∀ (f:Fo) (xs:List Value),RowOf R w xs f->RowOf R w (xs++[.int .i64 k,.int .i64 n,.slice o len cap]) (f.app (.cons k n ps .nil))
 | .nil,xs,h=>by
  cases h;exact ⟨o,len,cap,[],rfl,hs,rfl⟩
 | .cons k' n' ps' r,xs,h=>by
  obtain ⟨o',len',cap',ys,rfl,hs',hr⟩:=h;exact ⟨o',len',cap',_,rfl,hs',RowOf.snoc hs r ys hr⟩
theorem RowOf.length {R:Nat->Prop} {w:World}:∀ (f:Fo) (xs:List Value),RowOf R w xs f->xs.length=3*f.length
 | .nil,xs,h=>by cases h;rfl
 | .cons k' n' ps' r,xs,h=>by
  obtain ⟨o',len',cap',ys,rfl,hs',hr⟩:=h;have:=RowOf.length r ys hr;simp [Fo.length];omega
theorem RowOf.at {R:Nat->Prop} {w:World} {g:Nat} (hg:R g):∀ (f:Fo) (xs:List Value) (off:Nat),RowOf R w xs f->(∀ j u,xs[j]?=some u->w.cell? ⟨g,off+j,none⟩=some u)->AtIn R w g off f
 | .nil,_,_,_,_=>trivial
 | .cons k n ps r,xs,off,h,hc=>by
  obtain ⟨o,len,cap,ys,rfl,hs,hr⟩:=h;refine ⟨hg,hc 0 _ rfl,hc 1 _ rfl,⟨o,len,cap,hc 2 _ rfl,hs.1,hs.2.1,hs.2.2⟩,RowOf.at hg r ys (off+3) hr ?_⟩;intro j u hj;have:=hc (j+3) u (by simpa using hj);rw [<-this];congr 2;omega
structure jM (w:World) (B:Nat) (v:Value) (f:Fo) (xs:List Value):Prop where
 own:w.ownsRow 0 24 3 v f.length xs
 low:∀ k,v.ownBlock=some k->B<=k
 cells:RowOf (fun k=>B<=k/\v.ownBlock≠some k) w xs f
theorem jM.nil (w:World) (B:Nat):jM w B (.slice none 0 0) .nil []:=⟨World.ownsRow_nil _ _ _ _,fun k hk=>(by cases hk),rfl⟩
theorem jM.fr {w w':World} {B:Nat} {v:Value} {f:Fo} {xs:List Value} {S:Nat->Prop} (h:jM w B v f xs) (hf:Fr S w w') (hS:∀ k,S k->k < B):jM w' B v f xs:=by
 refine ⟨aV h.own hf (fun k hk hs=>?_),h.low,RowOf.fr hf (fun k _ hk=>⟨hk,fun hs=>?_⟩) f xs h.cells⟩
 ·have:=h.low k hk;have:=hS k hs;omega
 ·have:=hS k hs;omega
theorem jM.stay {w w':World} {B:Nat} {v:Value} {f:Fo} {xs:List Value} (h:jM w B v f xs) (hf:ah w w'):jM w' B v f xs:=h.fr hf (fun _ hk=>hk.elim)
theorem jM.snoc {W w1 : World} {B : Nat} {v : Value} {f : Fo} {xs : List Value} {k n : Int} {ps : Fo} {o : Option Addr} {len cap g c : Nat} (hr : jM W B v f xs)
    (hs:aB (fun k=>B<=k/\v.ownBlock≠some k) W o len ps)
    (ho:w1.ownsRow 0 24 3 (.slice (some ⟨g,0,none⟩) (f.length+1) c) (f.length+1) (xs++[.int .i64 k,.int .i64 n,.slice o len cap])) (hf:Fr (fun k=>v.ownBlock=some k) W w1) (hg:v.ownBlock=some g∨W.heap.size<=g) (hB:B<=W.heap.size) :
    jM w1 B (.slice (some ⟨g,0,none⟩) (f.length+1) c) (f.app (.cons k n ps .nil)) (xs++[.int .i64 k,.int .i64 n,.slice o len cap]):=by
 refine ⟨by rw [Fo.bQ];exact ho,?_,?_⟩
 ·intro k hk;simp [Value.ownBlock] at hk;subst hk;rcases hg with h | h
  ·exact hr.low g h
  ·omega
 ·have hk : ∀ k, k < W.heap.size -> (B <= k /\ v.ownBlock ≠ some k) -> ((B <= k /\ (Value.slice (some ⟨g, 0, none⟩) (f.length + 1) c).ownBlock ≠ some k) /\ ¬ v.ownBlock = some k) := by
    rintro k hk ⟨h1,h2⟩;refine ⟨⟨h1,fun h=>?_⟩,h2⟩;simp [Value.ownBlock] at h;subst h;rcases hg with h | h
    ·exact h2 h
    ·omega
  exact RowOf.snoc (hs.fr hf hk) f xs (RowOf.fr hf hk f xs hr.cells)
theorem jM.slc {w:World} {B:Nat} {o:Option Addr} {len cap:Nat} {f:Fo} {xs:List Value} (h:jM w B (.slice o len cap) f xs) (hl:len=f.length) (hm:len<=maxLen):aB (fun k=>B<=k) w o len f:=by
 refine ⟨hl,hm,fun h0=>?_⟩;rcases h.own.2 with ⟨_,h2⟩ | ⟨g,cap',cur,he,_⟩
 ·omega
 ·injection he with h1 h2 h3
  subst h1;refine ⟨g,0,rfl,RowOf.at (h.low g rfl) f xs 0 (RowOf.fr (Fr.refl (fun _=>False) w) (fun k _ hk=>⟨hk.1,fun h=>h⟩) f xs h.cells) ?_⟩;intro j u hj;have:=h.own.cells (g:=g) rfl j u hj;simpa [Addr.add_lit] using this
end
section
open Go.RowKit
def oW (w:World) (o:Option Addr) (l:List Int):Prop:=∀ i x,l[i]?=some x->∃ b off,o=some ⟨b,off,none⟩/\w.cell? ⟨b,off+i,none⟩=some (.int .i64 x)
theorem oW.stay {w w':World} {o:Option Addr} {l:List Int} (h:oW w o l) (hq:ah w w'):oW w' o l:=by
 intro i x hi;obtain ⟨b,off,ho,hc⟩:=h i x hi;exact ⟨b,off,ho,hq.at hc⟩
theorem QO {α:Type} {l:List α} {k:Nat} {t:α} (h:l[k]?=some t):l.drop k=t::l.drop (k+1):=by
 obtain ⟨hl,rfl⟩:=List.getElem?_eq_some_iff.1 h;exact List.drop_eq_getElem_cons hl
theorem Ph (o : Option Addr) (len cap : Nat) (l : List Int) (v : Int) (w : World) (h : oW w o l) (hl : len = l.length) (hb : len <= 1000000) :
    Calls Tryz.prog 89 #[.slice o len cap,.int .i64 v] w fun e w'=>e=.returned (.bool (inB l v))/\w=w':=by
 have H:=hid h;have HL:=hid hl;clear h hl;go_enter Tryz.func89,Tryz.ntmps89;go_wp2_with fail;go_loop [5] (fun t=>∃ i:Nat,t=.int .i64 i/\i<=len/\inB l v=inB (l.drop i) v) (fun t=>len-(intOf t).toNat)
 case atStart=>exact ⟨0,rfl,Nat.zero_le _,rfl⟩
 case round =>
  obtain ⟨i,rfl,hi,hc⟩:=hrel;have HC:=hid hc;clear hc
  by_cases hlt:i < len
  ·have hlt':(i:Int) < len:=by omega
   obtain ⟨x,hx⟩:∃ x,l[i]?=some x:=⟨_,List.getElem?_eq_getElem (by have:=HL.out;omega)⟩;obtain ⟨b,off,rfl,c⟩:=H.out i x hx;have HD:=hid (QO hx);clear hx;cases hxv:(x == v)
   ·have HX : Hid ((v == x) = false) := by
      show _=_
      rw [beq_eq_false_iff_ne] at hxv ⊢;exact fun h=>hxv h.symm
    go_wp2_with fail;go_round
    case rel=>exact ⟨i+1,by go_num,by omega,by rw [HC.out,HD.out,IV,HX.out];rfl⟩
    case measure=>simp [intOf];omega
   ·have HX:Hid (v=x):=by show _=_;exact (beq_iff_eq.1 hxv).symm
    go_wp2_with fail;go_ret;exact ⟨by rw [HC.out,HD.out,IV,HX.out];simp,rfl⟩
  ·have hlt':¬ (i:Int) < len:=by omega
   go_wp2_with fail;go_ret;exact ⟨by rw [HC.out,List.drop_eq_nil_of_le (by have:=HL.out;omega)];rfl,rfl⟩
def YL (k n:Int) (ps:Fo):Prop:=∀ (w:World) (o:Option Addr) (len cap:Nat) (d:Nat) (m:Int) (di:Int),di=d->kT w o len ps->0<=m->m<=100000->d<=100000 ->
 Calls Tryz.prog 100 #[dZ k n o len cap,.int .i64 m,.int .i64 di] w fun e w'=>e=.returned (.int .i64 (if d=0 then -1 else Fo.room (d-1) (m-1) ps))/\ah w w'
theorem VW (k n:Int) (ps:Fo):YL k n ps:=by
 refine Fo.sG (T:=YL) ?_ k n ps;intro k n ps ih w o len cap d m di ed hs hm0 hm1 hd1;subst ed;have HS:=hid hs;have IH:=hid ih;have HL:=hid hs.1;have hmx:=hs.2.1;unfold maxLen at hmx;clear hs ih
 by_cases hd0:d=0
 ·subst hd0;unfold dZ;go_enter Tryz.func100,Tryz.ntmps100;go_wp2_with fail;go_ret;exact ⟨rfl,ah.alloc _ _⟩
 ·obtain ⟨D,hD⟩:∃ D,D=d-1:=⟨_,rfl⟩;have acL:((d:Int) == 0)=false:=by simp;omega
  have hdD:d=D+1:=by omega
  obtain ⟨res,hres⟩:∃ res,res=Fo.room D (m-1) ps:=⟨_,rfl⟩;have aQ:=hid hres;have HF:Hid ((if d=0 then -1 else Fo.room (d-1) (m-1) ps)=res):=by show _=_;rw [if_neg (by omega),<-hD,hres]
  rw [HF.out];have OG:=hid hdD;have hD1:D<=100000:=by omega
  have acN:1<=d:=by omega
  clear hres hd0 hD hdD;unfold dZ;go_enter Tryz.func100,Tryz.ntmps100;go_wp2_with fail;obtain ⟨W0,hW0⟩:∃ W0,W0=w.alloc (.cells #[.int .i64 k,.int .i64 n,.slice o len cap] 24):=⟨_,rfl⟩;have HB0:Hid (∀ W,ah W0 W->W.cell? ⟨w.heap.size,0,none⟩=some (.int .i64 k)):=by
   intro W hq;rw [hW0] at hq;exact (fF w k n o len cap _ W hq).1
  have HB1:Hid (∀ W,ah W0 W->W.cell? ⟨w.heap.size,1,none⟩=some (.int .i64 n)):=by
   intro W hq;rw [hW0] at hq;exact (fF w k n o len cap _ W hq).2.1
  have HB:Hid (∀ W,ah W0 W->W.cell? ⟨w.heap.size,2,none⟩=some (.slice o len cap)):=by
   intro W hq;rw [hW0] at hq;exact (fF w k n o len cap _ W hq).2.2
  have aP:Hid (ah w W0):=by rw [hW0];exact ah.alloc _ _
  change Code.wp _ _ _ _ (w.alloc (.cells #[.int .i64 k,.int .i64 n,.slice o len cap] 24));rw [<-hW0];clear hW0;generalize w.heap.size=nb at *;go_loopw [1,7] (fun s t wr=>∃ (i:Nat) (x:Int),t=.int .i64 i/\s=.int .i64 x/\i<=len/\-1<=x/\x<=100000/\res=Fo.room D x (ps.drop i)/\ah W0 wr) (fun _ t _=>len-(intOf t).toNat)
  case atStart=>exact ⟨0,m-1,rfl,rfl,Nat.zero_le _,by omega,by omega,by rw [Fo.drop_zero];exact aQ.out,ah.refl _⟩
  case round =>
   obtain ⟨i,x,rfl,rfl,hi,hx0,hx1,hr,hq⟩:=hrel;have HR:=hid hr;have HQ:=hid hq;have c2:=HB.out wr hq;clear hr hq
   by_cases hlt:i < len
   ·have hlt':(i:Int) < len:=by omega
    by_cases hx:0<=x
    ·obtain ⟨b,off,k',n',qs,o',len',cap',rfl,hd,hg,e0,e1,e2,hs'⟩:=(HS.out.stay (aP.out.trans HQ.out)).nth hlt;have HC:=hid (IH.out i k' n' qs hg wr o' len' cap' D x ((d:Int)-1) (by have:=OG.out;omega) hs' hx hx1 hD1);obtain ⟨y,hy⟩:∃ y,y=if D=0 then -1 else Fo.room (D-1) (x-1) qs:=⟨_,rfl⟩
     have hyb:-1<=y/\y<=100000:=by
      rw [hy];split
      ·omega
      ·by_cases h1:0<=x-1
       ·have:=Fo.room_le qs (D-1) (x-1) h1;omega
       ·rw [Fo.fU _ _ _ (by omega)];omega
     have HY:Hid (res=Fo.room D y (ps.drop (i+1))):=by
      show _=_
      rw [HR.out,hd,hy];cases D with
      | zero => conv => lhs; unfold Fo.room
                rw [if_neg (by omega)];rfl
      | succ E => conv => lhs; unfold Fo.room
                  rw [if_neg (by omega),if_neg (by omega)];rfl
     rw [<-hy] at HC;unfold dZ at HC;clear hd hg hs' hy;go_wp2_with fail;refine HC.out.mono ?_;rintro e w1 ⟨rfl,hq1⟩;have bU:=hid (HQ.out.trans hq1);clear hq1;go_wp2_with fail;go_roundw
     case rel=>exact ⟨i+1,y,by go_num,rfl,by omega,hyb.1,hyb.2,HY.out,bU.out⟩
     case measure=>simp [intOf];omega
    ·have hx':x < 0:=by omega
     have HY:Hid (res=x):=by show _=_;rw [HR.out];exact Fo.fU _ _ _ hx'
     go_wp2_with fail;go_ret;exact ⟨by rw [HY.out];rfl,aP.out.trans HQ.out⟩
   ·have hlt':¬ (i:Int) < len:=by omega
    have HY:Hid (res=x):=by
     show _=_
     rw [HR.out,Fo.drop_end ps i (by have:=HL.out;omega)];unfold Fo.room;rfl
    go_wp2_with fail;go_ret;exact ⟨by rw [HY.out];rfl,aP.out.trans HQ.out⟩
def zi (ps:Fo):Bool:=decide (Fo.room 39 299 ps < 0)
theorem LG {ps:Fo} (h:zi ps=false):ps.size+1<=300:=by
 unfold zi at h;have h0:0<=Fo.room 39 299 ps:=by simpa using h
 have:=Fo.yY ps 39 299 h0;omega
theorem Px (k n : Int) (ps : Fo) (w : World) (o : Option Addr) (len cap : Nat) (hs : kT w o len ps) :
    Calls Tryz.prog 74 #[dZ k n o len cap] w fun e w'=>e=.returned (.bool (zi ps))/\ah w w':=by
 have HC:=hid (fun (W:World) (hq:ah w W)=>VW k n ps W o len cap 40 300 40 rfl (hs.stay hq) (by omega) (by omega) (by omega));unfold zi;rw [if_neg (by omega),show (40:Nat)-1=39 from rfl,show (300:Int)-1=299 from rfl] at HC;generalize Fo.room 39 299 ps=r at *;unfold dZ at *;go_enter Tryz.func74,Tryz.ntmps74;go_wp2_with fail;refine (HC.out _ (ah.alloc _ _)).mono ?_;rintro e w1 ⟨rfl,hq⟩;go_wp2_with fail;go_ret;exact ⟨rfl,(ah.alloc _ _).trans hq⟩
end
section
open Go.RowKit
def gG (k n:Int) (ps:Fo) (k' n':Int) (ps':Fo):Bool:=(k == k') && (n == n') && ps.same ps'
theorem EN (k n:Int) (ps r:Fo) (k' n':Int) (ps' r':Fo):(Fo.cons k n ps r).same (Fo.cons k' n' ps' r')=(gG k n ps k' n' ps' && r.same r'):=by simp [Fo.same,gG]
def YM (k n:Int) (ps:Fo):Prop:=∀ (k' n':Int) (ps':Fo) (w:World) (o:Option Addr) (len cap:Nat) (o':Option Addr) (len' cap':Nat),kT w o len ps->kT w o' len' ps' ->
 Calls Tryz.prog 38 #[dZ k n o len cap,dZ k' n' o' len' cap'] w fun e w'=>e=.returned (.bool (gG k n ps k' n' ps'))/\ah w w'
theorem Nb (w : World) (k n : Int) (o : Option Addr) (len cap : Nat) (k' n' : Int) (o' : Option Addr) (len' cap' : Nat) (t : TypeId) (W : World) (hW : ah ((w.alloc (.cells #[.int .i64 k, .int .i64 n, .slice o len cap] t)).alloc (.cells #[.int .i64 k', .int .i64 n', .slice o' len' cap'] t)) W) :
    (xw W w.heap.size (.int .i64 k) (.int .i64 n) (.slice o len cap)) /\
    (xw W (w.heap.size+1) (.int .i64 k') (.int .i64 n') (.slice o' len' cap')):=by
 refine ⟨fF w k n o len cap t W ((ah.alloc _ _).trans hW),?_⟩;have h:=fF (w.alloc (.cells #[.int .i64 k,.int .i64 n,.slice o len cap] t)) k' n' o' len' cap' t W hW;have e:(w.alloc (.cells #[.int .i64 k,.int .i64 n,.slice o len cap] t)).heap.size=w.heap.size+1:=by simp
 rw [e] at h;exact h
theorem kW (k n:Int) (ps:Fo):YM k n ps:=by
 refine Fo.sG (T:=YM) ?_ k n ps;intro k n ps ih k' n' ps' w o len cap o' len' cap' hs hs';have HS:=hid hs;have HS':=hid hs';have IH:=hid ih;have HL:=hid hs.1;have HL':=hid hs'.1;have hmx:=hs.2.1;unfold maxLen at hmx;clear hs hs' ih;obtain ⟨res,hres⟩:∃ res,res=gG k n ps k' n' ps':=⟨_,rfl⟩;have aQ:=hid hres;rw [<-hres];clear hres
 by_cases hk:k=k'
 ·by_cases hn:n=n'
  ·by_cases hlen:len=len'
   ·have HR2:Hid (res=ps.same ps'):=by show _=_;rw [aQ.out];simp [gG,hk,hn]
    subst hk hn hlen;have b1:(k != k)=false:=by simp
    have b2:(n != n)=false:=by simp
    have b3:((len:Int) != (len:Int))=false:=by simp
    unfold dZ;go_enter Tryz.func38,Tryz.ntmps38;go_wp2_with fail;obtain ⟨W0,hW0⟩:∃ W0,W0=(w.alloc (.cells #[.int .i64 k,.int .i64 n,.slice o len cap] 24)).alloc (.cells #[.int .i64 k,.int .i64 n,.slice o' len cap'] 24):=⟨_,rfl⟩;have yV:Hid (∀ W,ah W0 W->W.cell? ⟨w.heap.size,2,none⟩=some (.slice o len cap)/\W.cell? ⟨w.heap.size+1,2,none⟩=some (.slice o' len cap')):=by
     intro W hq;rw [hW0] at hq;have:=Nb w k n o len cap k n o' len cap' _ W hq;exact ⟨this.1.2.2,this.2.2.2⟩
    have aP:Hid (ah w W0):=by rw [hW0];exact (ah.alloc _ _).trans (ah.alloc _ _)
    change Code.wp _ _ _ _ ((w.alloc (.cells #[.int .i64 k,.int .i64 n,.slice o len cap] 24)).alloc (.cells #[.int .i64 k,.int .i64 n,.slice o' len cap'] 24));rw [<-hW0];clear hW0;generalize w.heap.size=nb at *;go_loopw [5] (fun t wr=>∃ (i:Nat),t=.int .i64 i/\i<=len/\res=(ps.drop i).same (ps'.drop i)/\ah W0 wr) (fun t _=>len-(intOf t).toNat)
    case atStart=>exact ⟨0,rfl,Nat.zero_le _,by rw [Fo.drop_zero,Fo.drop_zero];exact HR2.out,ah.refl _⟩
    case round =>
     obtain ⟨i,rfl,hi,hr,hq⟩:=hrel;have HR:=hid hr;have HQ:=hid hq;obtain ⟨c1,c2⟩:=yV.out wr hq;clear hr hq
     by_cases hlt:i < len
     ·have hlt':(i:Int) < len:=by omega
      obtain ⟨b,off,k1,n1,YN,o1,len1,cap1,rfl,hd1,hg1,e0,e1,e2,hs1⟩:=(HS.out.stay (aP.out.trans HQ.out)).nth hlt;obtain ⟨b2,off2,k2,n2,sF,o2,len2,cap2,rfl,hd2,hg2,f0,f1,f2,hs2⟩:=(HS'.out.stay (aP.out.trans HQ.out)).nth hlt;have HC:=hid (fun (W:World) (hq:ah wr W)=>IH.out i k1 n1 YN hg1 k2 n2 sF W o1 len1 cap1 o2 len2 cap2 (hs1.stay hq) (hs2.stay hq));have HN:Hid (res=(gG k1 n1 YN k2 n2 sF && (ps.drop (i+1)).same (ps'.drop (i+1)))):=by
       show _=_
       rw [HR.out,hd1,hd2,EN]
      unfold dZ at HC;clear hd1 hg1 hs1 hd2 hg2 hs2;cases hb:gG k1 n1 YN k2 n2 sF
      all_goals
       have KD:=hid hb;clear hb;go_wp2_with fail;refine wp_region_still_tail 10 (by kernel_rfl) (by kernel_rfl) ?_;simp only [List.take_succ_cons,List.take_zero,List.drop_succ_cons,List.drop_zero];change wpStill _ _ (World.drew wr) _ _ _
       repeat still_step
       refine wpStill_nil ?_;change wpList _ _ _ _ _ (World.drew wr);go_wp2_with fail;refine (HC.out _ (ah.drew _)).mono ?_;rintro e w1 ⟨rfl,hq1⟩;rw [KD.out];have bU:=hid ((HQ.out.trans (ah.drew _)).trans hq1);clear hq1;go_wp2_with fail
      ·go_ret;exact ⟨by rw [HN.out,KD.out];rfl,aP.out.trans bU.out⟩
      ·go_roundw
       case rel=>exact ⟨i+1,by go_num,by omega,by rw [HN.out,KD.out];rfl,bU.out⟩
       case measure=>simp [intOf];omega
     ·have hlt':¬ (i:Int) < len:=by omega
      have HY:Hid (res=true):=by
       show _=_
       rw [HR.out,Fo.drop_end ps i (by have:=HL.out;omega),Fo.drop_end ps' i (by have:=HL'.out;omega)];rfl
      go_wp2_with fail;go_ret;exact ⟨by rw [HY.out];rfl,aP.out.trans HQ.out⟩
   ·have HF : Hid (res = false) := by
      show _=_
      rw [aQ.out];have:ps.same ps'=false:=by
       cases h:ps.same ps'
       ·rfl
       ·exact absurd (Fo.same_length _ _ h) (by have:=HL.out;have:=HL'.out;omega)
      simp [gG,this]
    subst hk hn;have b1:(k != k)=false:=by simp
    have b2:(n != n)=false:=by simp
    have b3:((len:Int) != (len':Int))=true:=by simp;omega
    unfold dZ;go_enter Tryz.func38,Tryz.ntmps38;go_wp2_with fail;go_ret;exact ⟨by rw [HF.out];rfl,(ah.alloc _ _).trans (ah.alloc _ _)⟩
  ·have HF:Hid (res=false):=by show _=_;rw [aQ.out];simp [gG,hn]
   subst hk;have b1:(k != k)=false:=by simp
   have b2:(n != n')=true:=by simpa using hn
   clear hn;unfold dZ;go_enter Tryz.func38,Tryz.ntmps38;go_wp2_with fail;go_ret;exact ⟨by rw [HF.out];rfl,(ah.alloc _ _).trans (ah.alloc _ _)⟩
 ·have HF:Hid (res=false):=by show _=_;rw [aQ.out];simp [gG,hk]
  have b1:(k != k')=true:=by simpa using hk
  clear hk;unfold dZ;go_enter Tryz.func38,Tryz.ntmps38;go_wp2_with fail;go_ret;exact ⟨by rw [HF.out];rfl,(ah.alloc _ _).trans (ah.alloc _ _)⟩
end
section
open Go.RowKit
def iI (k n:Int) (ps:Fo):Bool:=Fo.plain k n ps.length && ps.right
theorem qo (k n:Int) (ps r:Fo):(Fo.cons k n ps r).right=(iI k n ps && r.right):=by simp [Fo.right,iI]
def EL (p:Int->Int->Fo->Bool):Fo->Nat->Int
 | .nil,_=>-1
 | .cons k n ps r,i=>if p k n ps then (i:Int) else EL p r (i+1)
def Nc (p:Int->Int->Fo->Bool):Fo->Bool
 | .nil=>false
 | .cons k n ps r=>p k n ps || Nc p r
theorem OA (p:Int->Int->Fo->Bool):∀ (f:Fo) (i:Nat),decide (0<=EL p f i)=Nc p f
 | .nil,i=>by simp [EL,Nc]
 | .cons k n ps r,i=>by
  unfold EL Nc;cases h:p k n ps
  ·simp only [Bool.false_eq_true,if_false,Bool.false_or];exact OA p r (i+1)
  ·simp
theorem wz:∀ f:Fo,Nc (fun k n ps=>!iI k n ps) f=!f.right
 | .nil=>rfl
 | .cons k n ps r=>by unfold Nc;rw [qo,wz r,Bool.not_and]
theorem uK (n:Int) (w:World):Calls Tryz.prog 126 #[.int .i64 n] w fun e w'=>e=.returned (.bool (decide (0<=n) && decide (n < 1073741824)))/\w=w':=by
 by_cases h:0<=n
 ·go_enter Tryz.func126,Tryz.ntmps126;go_wp2_with fail;go_ret;exact ⟨by first | (simp [h];done) | (simp;omega),rfl⟩
 ·go_enter Tryz.func126,Tryz.ntmps126;go_wp2_with fail;go_ret;exact ⟨by first | (simp;done) | (simp;omega),rfl⟩
theorem QS (k n:Int) (len:Nat) (o:Option Addr) (cap:Nat) (w:World):Calls Tryz.prog 111 #[dZ k n o len cap] w fun e w'=>e=.returned (.bool (Fo.plain k n len))/\ah w w':=by
 obtain ⟨res,hres⟩:∃ res,res=Fo.plain k n len:=⟨_,rfl⟩;have HR:=hid hres;rw [<-hres];clear hres;unfold dZ
 by_cases k1:k=1
 ·subst k1;cases hkn:(decide (0<=n) && decide (n < 1073741824))
  ·have HK:=hid (uK n);rw [hkn] at HK;have HF:Hid (res=false):=by show _=_;rw [HR.out];unfold Fo.plain;simp only [beq_self_eq_true,if_true];rw [hkn];rfl
   clear hkn;go_enter Tryz.func111,Tryz.ntmps111;go_wp2_with fail;refine (HK.out _).mono ?_;rintro e w1 ⟨rfl,rfl⟩;go_wp2_with fail;go_ret;exact ⟨by rw [HF.out];rfl,ah.alloc _ _⟩
  ·have HK:=hid (uK n);rw [hkn] at HK;have HF:Hid (res=((len:Int) == 0)):=by
    show _=_
    rw [HR.out];unfold Fo.plain;simp only [beq_self_eq_true,if_true];rw [hkn,Bool.eq_iff_iff];simp
   clear hkn;go_enter Tryz.func111,Tryz.ntmps111;go_wp2_with fail;refine (HK.out _).mono ?_;rintro e w1 ⟨rfl,rfl⟩;go_wp2_with fail
   all_goals
    go_ret;exact ⟨by rw [HF.out];first | rfl | simp_all,ah.alloc _ _⟩
 have b1:(k == 1)=false:=by simpa using k1
 by_cases hn:n=0
 ·subst hn
  by_cases k2:k=2
  ·subst k2;have HF:Hid (res=((len:Int) == 0)):=by show _=_;rw [HR.out,Bool.eq_iff_iff];simp [Fo.plain]
   go_enter Tryz.func111,Tryz.ntmps111;go_wp2_with fail
   all_goals
    go_ret;exact ⟨by rw [HF.out];first | rfl | simp_all,ah.alloc _ _⟩
  have b2:(k == 2)=false:=by simpa using k2
  by_cases k3:k=3
  ·subst k3;have HF:Hid (res=((len:Int) == 0)):=by show _=_;rw [HR.out,Bool.eq_iff_iff];simp [Fo.plain]
   go_enter Tryz.func111,Tryz.ntmps111;go_wp2_with fail
   all_goals
    go_ret;exact ⟨by rw [HF.out];first | rfl | simp_all,ah.alloc _ _⟩
  have b3:(k == 3)=false:=by simpa using k3
  by_cases k4:k=4
  ·subst k4;have HF:Hid (res=((len:Int) == 2)):=by show _=_;rw [HR.out,Bool.eq_iff_iff];simp [Fo.plain];omega
   go_enter Tryz.func111,Tryz.ntmps111;go_wp2_with fail
   all_goals
    go_ret;exact ⟨by rw [HF.out];first | rfl | simp_all,ah.alloc _ _⟩
  have b4:(k == 4)=false:=by simpa using k4
  by_cases k5:k=5
  ·subst k5
   by_cases h2:2<=len
   ·have h2':(2:Int)<=(len:Int):=by omega
    by_cases h8:len<=8
    ·have h8':(len:Int)<=8:=by omega
     have HF:Hid (res=true):=by show _=_;rw [HR.out];simp [Fo.plain,h2,h8]
     go_enter Tryz.func111,Tryz.ntmps111;go_wp2_with fail;go_ret;exact ⟨by rw [HF.out];rfl,ah.alloc _ _⟩
    ·have h8':¬ (len:Int)<=8:=by omega
     have HF:Hid (res=false):=by show _=_;rw [HR.out];simp [Fo.plain,h8]
     go_enter Tryz.func111,Tryz.ntmps111;go_wp2_with fail;go_ret;exact ⟨by rw [HF.out];rfl,ah.alloc _ _⟩
   ·have h2':¬ (2:Int)<=(len:Int):=by omega
    have HF:Hid (res=false):=by show _=_;rw [HR.out];simp [Fo.plain,h2]
    go_enter Tryz.func111,Tryz.ntmps111;go_wp2_with fail;go_ret;exact ⟨by rw [HF.out];rfl,ah.alloc _ _⟩
  have b5:(k == 5)=false:=by simpa using k5
  have HF:Hid (res=false):=by show _=_;rw [HR.out];unfold Fo.plain;simp only [b1,b2,b3,b4,b5];rfl
  clear k1 k2 k3 k4 k5;go_enter Tryz.func111,Tryz.ntmps111;go_wp2_with fail;go_ret;exact ⟨by rw [HF.out];rfl,ah.alloc _ _⟩
 ·have HF : Hid (res = false) := by
    show _=_
    rw [HR.out];have hn':(n == 0)=false:=by simpa using hn
    unfold Fo.plain;simp only [b1,hn',Bool.false_and]
    repeat' split
    all_goals first | rfl | simp_all
  have hn':(n == 0)=false:=by simpa using hn
  clear k1 hn;go_enter Tryz.func111,Tryz.ntmps111;go_wp2_with fail
  all_goals
   go_ret;exact ⟨by rw [HF.out];rfl,ah.alloc _ _⟩
def VX (g:Nat) (lb:Array Value) (w0:World) (f:Fo) (p:Int->Int->Fo->Bool):Prop:=∀ i k n ps,f.get i=some (k,n,ps)->∀ (W:World) (o:Option Addr) (len cap:Nat),ah w0 W->kT W o len ps ->
 Calls Tryz.prog g (#[dZ k n o len cap]++lb) W fun e W'=>e=.returned (.bool (p k n ps))/\ah W W'
theorem EM (g : Nat) (lb : Array Value) (p : Int -> Int -> Fo -> Bool) (eg : ∀ args w, (callFunc g args).run Tryz.prog w = .ok (.enter g args) w) (f : Fo) (o : Option Addr) (len cap : Nat) (w : World) (hs : kT w o len f) (hp : VX g lb w f p) :
    Calls Tryz.prog 127 #[.slice o len cap,.func (.func g) #[] lb] w fun e w'=>e=.returned (.int .i64 (EL p f 0))/\ah w w':=by
 have HS:=hid hs;have HP:=hid hp;have HL:=hid hs.1;have hmx:=hs.2.1;unfold maxLen at hmx;clear hs hp;obtain ⟨res,hres⟩:∃ res,res=EL p f 0:=⟨_,rfl⟩;have HR:=hid hres;rw [<-hres];clear hres;go_enter Tryz.func127,Tryz.ntmps127;go_wp2_with fail;go_loopw [8] (fun t wr=>∃ i:Nat,t=.int .i64 i/\i<=len/\res=EL p (f.drop i) i/\ah w wr) (fun t _=>len-(intOf t).toNat)
 case atStart=>exact ⟨0,rfl,Nat.zero_le _,by rw [Fo.drop_zero];exact HR.out,ah.refl _⟩
 case round =>
  obtain ⟨i,rfl,hi,hr,hq⟩:=hrel;have HRR:=hid hr;have HQ:=hid hq;clear hr hq
  by_cases hlt:i < len
  ·have hlt':(i:Int) < len:=by omega
   obtain ⟨b,off,k1,n1,qs,o1,len1,cap1,rfl,hd,hg,e0,e1,e2,hs1⟩:=(HS.out.stay HQ.out).nth hlt;have HD:=hid hd;have HC:=hid (HP.out i k1 n1 qs hg wr o1 len1 cap1 HQ.out hs1);unfold dZ at HC;clear hd hg hs1;cases hb:p k1 n1 qs
   all_goals
    have KD:=hid hb;rw [hb] at HC;clear hb;go_wp2_with fail;refine HC.out.mono ?_;rintro e w1 ⟨rfl,hq1⟩;have bU:=hid (HQ.out.trans hq1);clear hq1;go_wp2_with fail
   ·go_roundw
    case rel=>exact ⟨i+1,by go_num,by omega,by rw [HRR.out,HD.out,EL,KD.out];rfl,bU.out⟩
    case measure=>simp [intOf];omega
   ·go_ret;exact ⟨by rw [HRR.out,HD.out,EL,KD.out];rfl,bU.out⟩
  ·have hlt':¬ (i:Int) < len:=by omega
   go_wp2_with fail;go_ret;exact ⟨by rw [HRR.out,Fo.drop_end f i (by have:=HL.out;omega)];rfl,HQ.out⟩
theorem zO (g : Nat) (lb : Array Value) (p : Int -> Int -> Fo -> Bool) (eg : ∀ args w, (callFunc g args).run Tryz.prog w = .ok (.enter g args) w) (f : Fo) (o : Option Addr) (len cap : Nat) (w : World) (hs : kT w o len f) (hp : VX g lb w f p) :
    Calls Tryz.prog 112 #[.slice o len cap,.func (.func g) #[] lb] w fun e w'=>e=.returned (.bool (Nc p f))/\ah w w':=by
 have HC:=hid (EM g lb p eg f o len cap w hs hp);rw [<-OA p f 0];clear hs hp eg;generalize EL p f 0=r at *;go_enter Tryz.func112,Tryz.ntmps112;go_wp2_with fail;refine HC.out.mono ?_;rintro e w1 ⟨rfl,hq⟩;go_wp2_with fail;go_ret;exact ⟨rfl,hq⟩
end
end Go.Proofs.YtcninopmelmajaaGreatDoor
