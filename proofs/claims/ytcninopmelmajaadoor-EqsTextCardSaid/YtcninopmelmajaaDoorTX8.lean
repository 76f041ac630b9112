/-
  Texts laid together (PaTok, Cells, TyMem, TyIn, TyRef, TySame, TyRight, TyRight2): laws and walks, with their conditions.
-/
import Derived.IntWalk
import Derived.Shelf.Abstract
import Derived.Test.YtcninopmelmajaaDoorTX5
import Derived.Test.YtcninopmelmajaaDoorTX6
set_option maxHeartbeats 8000000
set_option maxRecDepth 1000000
namespace Go.Proofs.YtcninopmelmajaaDoor
open Go.Lib (hid)
section
namespace Pa
open Lx
theorem OL {p:UInt8->Bool} {c:UInt8} {r:List UInt8} (h:p c=false):dI p (c::r)=0:=by simp [dI,h]
theorem Eo {p:UInt8->Bool} {c:UInt8} {r:List UInt8} (h:p c=true):dI p (c::r)=dI p r+1:=by simp [dI,h]
theorem Gx (p:UInt8->Bool):∀ l:List UInt8,dI p (l.take (dI p l))=dI p l
 | []=>rfl
 | c::r=>by
  cases h:p c
  ·rw [OL h];rfl
  ·rw [Eo h,List.take_succ_cons,Eo h,Gx p r]
theorem Eh (p:UInt8->Bool):∀ l:List UInt8,∀ c∈l.take (dI p l),p c=true
 | [],c,h=>by simp at h
 | d::r,c,h=>by
  cases hd:p d
  ·rw [OL hd] at h;simp at h
  ·rw [Eo hd,List.take_succ_cons] at h;rcases List.mem_cons.1 h with e | e
   ·subst e;exact hd
   ·exact Eh p r c e
def Jr (t:Tok):Prop:=(t.kind=1->nameB t.text=true)/\(t.kind=2->t.text.length<=9/\∀ c∈t.text,dD c=true)
theorem Rf {l:List UInt8} (h:(nextL l).2.2=0) (a:Nat):Jr ⟨(nextL l).1,l.take (nextL l).2.1,a,a+(nextL l).2.1⟩:=by
 cases l with
 | nil=>simp [nextL] at h
 | cons c r =>
  unfold nextL at h ⊢;simp only at h ⊢;cases h1:gQ c
  ·simp only [h1,Bool.false_eq_true,if_false] at h ⊢;cases h2:dD c
   ·simp only [h2,Bool.false_eq_true,if_false] at h ⊢;cases h3:vN c
    ·simp only [h3,Bool.false_eq_true,if_false] at h ⊢
     split
     ·exact ⟨fun e=>by simp at e,fun e=>by simp at e⟩
     ·exact ⟨fun e=>by simp at e,fun e=>by simp at e⟩
    ·simp only [if_true] at h ⊢;exact ⟨fun e=>by simp at e,fun e=>by simp at e⟩
   ·simp only [h2,if_true] at h ⊢
    split
    ·exact ⟨fun e=>by simp at e,fun e=>by simp at e⟩
    ·split
     ·exact ⟨fun e=>by simp at e,fun e=>by simp at e⟩
     ·next h4 =>
      refine ⟨fun e=>by simp at e,fun _=>⟨?_,Eh dD (c::r)⟩⟩;have:=og dD (c::r);simp only [List.length_take];omega
  ·simp only [h1,if_true] at h ⊢
   split
   ·exact ⟨fun e=>by simp at e,fun e=>by simp at e⟩
   ·next h2 =>
    split
    ·exact ⟨fun e=>by simp at e,fun e=>by simp at e⟩
    ·next h3 =>
     refine ⟨fun _=>?_,fun e=>by simp at e⟩;have hle:=og bI (c::r);have hp:0 < dI bI (c::r):=qG (qc h1);have hln:((c::r).take (dI bI (c::r))).length=dI bI (c::r):=by rw [List.length_take];omega
     show nameB ((c::r).take (dI bI (c::r)))=true
     unfold nameB;rw [Gx,hln];have hg:gU gQ ((c::r).take (dI bI (c::r)))=true:=by
      obtain ⟨k,hk⟩:∃ k,dI bI (c::r)=k+1:=⟨dI bI (c::r)-1,by omega⟩;rw [hk,List.take_succ_cons];exact h1
     have hk:OQ ((c::r).take (dI bI (c::r)))=false:=by simpa using h2
     rw [hg,hk];simp;omega
def aaT (s:List UInt8) (t:Tok):Prop:=t.kind≠0->t.fr < t.to/\t.to<=s.length/\t.text=(s.drop t.fr).take (t.to-t.fr)
theorem Au (s:List UInt8):∀ (f a:Nat) (l:List UInt8) (ts:List Tok),s.drop a=l->a<=s.length->gZ f a l=.inl ts->∀ t∈ts,Jr t/\aaT s t
 | 0,a,l,ts,hs,ha,h=>by
  unfold gZ at h;cases h;intro t ht;simp at ht;subst ht;exact ⟨⟨fun e=>by simp [lC] at e,fun e=>by simp [lC] at e⟩,fun e=>absurd rfl e⟩
 | f+1,a,l,ts,hs,ha,h=>by
  have hend:∀ n,Jr (lC n)/\aaT s (lC n):=fun n=>⟨⟨fun e=>by simp [lC] at e,fun e=>by simp [lC] at e⟩,fun e=>absurd rfl e⟩
  unfold gZ at h;simp only at h
  split at h
  ·cases h;intro t ht;simp at ht;subst ht;exact hend _
  ·split at h
   ·cases h
   ·next hn =>
    have hn0:(nextL (l.drop (aO false l))).2.2=0:=Decidable.not_not.1 hn;have hlen:=qH hn0;have hll:l.length=s.length-a:=by rw [<-hs,List.length_drop]
    have hdl:(l.drop (aO false l)).length=l.length-aO false l:=List.length_drop;have hsk:=ng false l;have hd:s.drop (a+aO false l)=l.drop (aO false l):=by rw [<-hs,List.drop_drop]
    split at h
    ·next ts' he =>
     have ih:=Au s f _ _ ts' (by rw [<-List.drop_drop,hd]) (by omega) he;cases h;intro t ht;rcases List.mem_cons.1 ht with e | e
     ·subst e;refine ⟨Rf hn0 _,fun _=>⟨?_,?_,?_⟩⟩
      ·show a+aO false l < a+aO false l+(nextL (l.drop (aO false l))).2.1;omega
      ·show a+aO false l+(nextL (l.drop (aO false l))).2.1<=s.length;omega
      ·show (l.drop (aO false l)).take _=(s.drop (a+aO false l)).take (a+aO false l+(nextL (l.drop (aO false l))).2.1-(a+aO false l))
       rw [hd];congr 1;omega
     ·exact ih t e
    ·cases h
theorem wF {s:List UInt8} {ts:List Tok} (h:jZ s=.inl ts):∀ t∈ts,Jr t/\aaT s t:=Au s _ 0 s ts rfl (Nat.zero_le _) h
theorem digit_num {c:UInt8} (h:dD c=true):48<=c.toNat/\c.toNat<=57:=by
 unfold dD at h;simpa using h
theorem acA : ∀ (s : List UInt8) (n : Int) (a : Nat), (∀ c ∈ s, dD c = true) -> 0 <= n -> n < 10 ^ a -> a + s.length <= 9 ->
    0<=s.foldl (fun n c=>IntKind.i64.wrap (IntKind.i64.wrap (IntKind.i64.wrap (10*n)+c.toNat)-48)) n/\s.foldl (fun n c=>IntKind.i64.wrap (IntKind.i64.wrap (IntKind.i64.wrap (10*n)+c.toNat)-48)) n < 10 ^ (a+s.length)
 | [],n,a,hd,h0,h1,h2=>⟨h0,h1⟩
 | c::r,n,a,hd,h0,h1,h2=>by
  have hc:=digit_num (hd c (by simp));have hp:(10:Int) ^ a<=10 ^ 8:=by
   have h:a<=8:=by simp at h2;omega
   have:(10:Nat) ^ a<=10 ^ 8:=Nat.pow_le_pow_right (by omega) h
   exact_mod_cast this
  have e8:(10:Int) ^ 8=100000000:=by decide
  have e1:IntKind.i64.wrap (10*n)=10*n:=IntWalk.i64_in _ (by omega);have e2:IntKind.i64.wrap (10*n+c.toNat)=10*n+c.toNat:=IntWalk.i64_in _ (by omega);have e3:IntKind.i64.wrap (10*n+c.toNat-48)=10*n+c.toNat-48:=IntWalk.i64_in _ (by omega);have ep:(10:Int) ^ (a+1)=10*10 ^ a:=by rw [Int.pow_succ];omega
  rw [List.foldl_cons,e1,e2,e3];have:=acA r (10*n+c.toNat-48) (a+1) (fun d hd'=>hd d (by simp [hd'])) (by omega) (by omega) (by simp at h2;omega);rw [show a+(c::r).length=a+1+r.length from by simp;omega];exact this
theorem Xx {s:List UInt8} (hd:∀ c∈s,dD c=true) (hl:s.length<=9):0<=Pn s/\Pn s<=999999999:=by
 have h:=acA s 0 0 hd (Int.le_refl _) (by decide) (by omega);have hp:(10:Int) ^ (0+s.length)<=10 ^ 9:=by
  have:(10:Nat) ^ (0+s.length)<=10 ^ 9:=Nat.pow_le_pow_right (by omega) (by omega)
  exact_mod_cast this
 have e9:(10:Int) ^ 9=1000000000:=by decide
 unfold Pn;omega
end Pa
end
section
abbrev yB (w:World) (b:Nat) (v0 v1 v2:Value):Prop:=w.cell? ⟨b,0,none⟩=some v0/\w.cell? ⟨b,1,none⟩=some v1/\w.cell? ⟨b,2,none⟩=some v2
abbrev A8 (w:World) (b:Nat) (v0 v1 v2 v3 v4:Value):Prop:=w.cell? ⟨b,0,none⟩=some v0/\w.cell? ⟨b,1,none⟩=some v1/\w.cell? ⟨b,2,none⟩=some v2/\w.cell? ⟨b,3,none⟩=some v3/\w.cell? ⟨b,4,none⟩=some v4
abbrev Rw8 (w:World) (b:Nat) (v0 v1 v2 v3 v4 v5 v6 v7:Value):Prop:=w.cell? ⟨b,0,none⟩=some v0/\w.cell? ⟨b,1,none⟩=some v1/\w.cell? ⟨b,2,none⟩=some v2/\w.cell? ⟨b,3,none⟩=some v3/\w.cell? ⟨b,4,none⟩=some v4/\w.cell? ⟨b,5,none⟩=some v5/\w.cell? ⟨b,6,none⟩=some v6/\w.cell? ⟨b,7,none⟩=some v7
abbrev qV (w:World) (b:Nat) (h:Nd) (o1:Option Addr) (l1 c1:Nat) (o2:Option Addr) (l2 c2:Nat):Prop:=w.cell? ⟨b,0,none⟩=some (.int .i64 h.k)/\w.cell? ⟨b,1,none⟩=some (.string h.nm)/\w.cell? ⟨b,2,none⟩=some (.int .i64 h.n)/\w.cell? ⟨b,3,none⟩=some (.int .i64 h.tk)/\w.cell? ⟨b,4,none⟩=some (.int .i64 h.tn)/\w.cell? ⟨b,5,none⟩=some (.slice o1 l1 c1)/\w.cell? ⟨b,6,none⟩=some (.slice o2 l2 c2)/\w.cell? ⟨b,7,none⟩=some (.int .i64 h.fr)/\w.cell? ⟨b,8,none⟩=some (.int .i64 h.en)
abbrev ES (w:World) (b off:Nat) (h:Nd) (o1:Option Addr) (l1 c1:Nat) (o2:Option Addr) (l2 c2:Nat):Prop:=w.cell? ⟨b,off,none⟩=some (.int .i64 h.k)/\w.cell? ⟨b,off+1,none⟩=some (.string h.nm)/\w.cell? ⟨b,off+2,none⟩=some (.int .i64 h.n)/\w.cell? ⟨b,off+3,none⟩=some (.int .i64 h.tk)/\w.cell? ⟨b,off+4,none⟩=some (.int .i64 h.tn)/\w.cell? ⟨b,off+5,none⟩=some (.slice o1 l1 c1)/\w.cell? ⟨b,off+6,none⟩=some (.slice o2 l2 c2)/\w.cell? ⟨b,off+7,none⟩=some (.int .i64 h.fr)/\w.cell? ⟨b,off+8,none⟩=some (.int .i64 h.en)
end
section
open Go.RowKit
def At (w:World):Nat->Nat->Fo->Prop
 | _,_,.nil=>True
 | b, off, .cons k n ps r => w.cell? ⟨b, off, none⟩ = some (.int .i64 k) /\ w.cell? ⟨b, off + 1, none⟩ = some (.int .i64 n) /\
     (∃ o len cap,w.cell? ⟨b,off+2,none⟩=some (.slice o len cap)/\len=ps.length/\len<=maxLen/\(0 < len->∃ b' off',o=some ⟨b',off',none⟩/\At w b' off' ps))/\At w b (off+3) r
def nJ (w:World) (o:Option Addr) (len:Nat) (f:Fo):Prop:=len=f.length/\len<=maxLen/\(0 < len->∃ b off,o=some ⟨b,off,none⟩/\At w b off f)
theorem nJ.nil (w:World) (o:Option Addr):nJ w o 0 .nil:=⟨rfl,Nat.zero_le _,fun h=>absurd h (Nat.lt_irrefl _)⟩
theorem At.stay {w w':World} (hq:ah w w'):∀ (f:Fo) (b off:Nat),At w b off f->At w' b off f
 | .nil,_,_,_=>trivial
 | .cons k n ps r,b,off,h=>by
  obtain ⟨h1,h2,⟨o,len,cap,h3,h4,h4',h5⟩,h6⟩:=h;refine ⟨hq.at h1,hq.at h2,⟨o,len,cap,hq.at h3,h4,h4',fun hl=>?_⟩,At.stay hq r b (off+3) h6⟩;obtain ⟨b',off',ho,ha⟩:=h5 hl;exact ⟨b',off',ho,At.stay hq ps b' off' ha⟩
theorem nJ.stay {w w':World} {o:Option Addr} {len:Nat} {f:Fo} (h:nJ w o len f) (hq:ah w w'):nJ w' o len f:=by
 refine ⟨h.1,h.2.1,fun hl=>?_⟩;obtain ⟨b,off,ho,ha⟩:=h.2.2 hl;exact ⟨b,off,ho,At.stay hq f b off ha⟩
theorem At.nth {w : World} : ∀ (f : Fo) (b off i : Nat), At w b off f -> i < f.length -> ∃ k n ps o len cap, f.drop i = .cons k n ps (f.drop (i + 1)) /\ f.get i = some (k, n, ps) /\
    w.cell? ⟨b,off+i*3,none⟩=some (.int .i64 k)/\w.cell? ⟨b,off+i*3+1,none⟩=some (.int .i64 n)/\w.cell? ⟨b,off+i*3+2,none⟩=some (.slice o len cap)/\nJ w o len ps
 | .nil,_,_,_,_,h=>by simp [Fo.length] at h
 | .cons k n ps r,b,off,0,h,_=>by
  obtain ⟨h1,h2,⟨o,len,cap,h3,h4,h4',h5⟩,h6⟩:=h;exact ⟨k,n,ps,o,len,cap,by simp [Fo.drop,Fo.drop_zero],rfl,by simpa using h1,by simpa using h2,by simpa using h3,h4,h4',h5⟩
 | .cons k n ps r,b,off,i+1,h,hi=>by
  obtain ⟨_,_,_,h6⟩:=h;obtain ⟨k',n',ps',o,len,cap,e1,e2,c1,c2,c3,hs⟩:=At.nth r b (off+3) i h6 (by simp [Fo.length] at hi;omega);refine ⟨k',n',ps',o,len,cap,by simp only [Fo.drop];rw [e1],e2,?_,?_,?_,hs⟩
  ·rw [show off+(i+1)*3=off+3+i*3 from by omega];exact c1
  ·rw [show off+(i+1)*3=off+3+i*3 from by omega];exact c2
  ·rw [show off+(i+1)*3=off+3+i*3 from by omega];exact c3
theorem nJ.nth {w : World} {o : Option Addr} {len : Nat} {f : Fo} (h : nJ w o len f) {i : Nat} (hi : i < len) : ∃ b off k n ps o' len' cap', o = some ⟨b, off, none⟩ /\ f.drop i = .cons k n ps (f.drop (i + 1)) /\ f.get i = some (k, n, ps) /\
    w.cell? ⟨b,off+i*3,none⟩=some (.int .i64 k)/\w.cell? ⟨b,off+i*3+1,none⟩=some (.int .i64 n)/\w.cell? ⟨b,off+i*3+2,none⟩=some (.slice o' len' cap')/\nJ w o' len' ps:=by
 obtain ⟨b,off,rfl,ha⟩:=h.2.2 (by omega);obtain ⟨k,n,ps,o',len',cap',h1⟩:=At.nth f b off i ha (by have:=h.1;omega);exact ⟨b,off,k,n,ps,o',len',cap',rfl,h1⟩
def fG (k n:Int) (o:Option Addr) (len cap:Nat):Value:=.agg #[.int .i64 k,.int .i64 n,.slice o len cap]
theorem kY (w : World) (k n : Int) (o : Option Addr) (len cap : Nat) (t : TypeId) (W : World) (hW : ah (w.alloc (.cells #[.int .i64 k, .int .i64 n, .slice o len cap] t)) W) :
    yB W w.heap.size (.int .i64 k) (.int .i64 n) (.slice o len cap):=by
 refine ⟨hW.at ?_,hW.at ?_,hW.at ?_⟩<;>(rw [cell_of_row _ _ _ _ _ (0,0) (heap_alloc_new w _)];rfl)
end
section
open Go.RowKit
def AtIn (R:Nat->Prop) (w:World):Nat->Nat->Fo->Prop
 | _,_,.nil=>True
 | b, off, .cons k n ps r => R b /\ w.cell? ⟨b, off, none⟩ = some (.int .i64 k) /\ w.cell? ⟨b, off + 1, none⟩ = some (.int .i64 n) /\
     (∃ o len cap,w.cell? ⟨b,off+2,none⟩=some (.slice o len cap)/\len=ps.length/\len<=maxLen/\(0 < len->∃ b' off',o=some ⟨b',off',none⟩/\AtIn R w b' off' ps))/\AtIn R w b (off+3) r
def aB (R:Nat->Prop) (w:World) (o:Option Addr) (len:Nat) (f:Fo):Prop:=len=f.length/\len<=maxLen/\(0 < len->∃ b off,o=some ⟨b,off,none⟩/\AtIn R w b off f)
theorem AtIn.at {R:Nat->Prop} {w:World}:∀ (f:Fo) (b off:Nat),AtIn R w b off f->At w b off f
 | .nil,_,_,_=>trivial
 | .cons k n ps r,b,off,h=>by
  obtain ⟨_,h1,h2,⟨o,len,cap,h3,h4,h4',h5⟩,h6⟩:=h;refine ⟨h1,h2,⟨o,len,cap,h3,h4,h4',fun hl=>?_⟩,AtIn.at r b (off+3) h6⟩;obtain ⟨b',off',ho,ha⟩:=h5 hl;exact ⟨b',off',ho,AtIn.at ps b' off' ha⟩
theorem aB.slc {R:Nat->Prop} {w:World} {o:Option Addr} {len:Nat} {f:Fo} (h:aB R w o len f):nJ w o len f:=by
 refine ⟨h.1,h.2.1,fun hl=>?_⟩;obtain ⟨b,off,ho,ha⟩:=h.2.2 hl;exact ⟨b,off,ho,AtIn.at f b off ha⟩
theorem AtIn.fr {R T S:Nat->Prop} {w w':World} (hf:Fr S w w') (hR:∀ k,k < w.heap.size->R k->T k/\¬ S k):∀ (f:Fo) (b off:Nat),AtIn R w b off f->AtIn T w' b off f
 | .nil,_,_,_=>trivial
 | .cons k n ps r,b,off,h=>by
  obtain ⟨h0,h1,h2,⟨o,len,cap,h3,h4,h4',h5⟩,h6⟩:=h;have hb:b < w.heap.size:=World.block_lt_of_cell? w _ h1;obtain ⟨hT,hS⟩:=hR b hb h0;refine ⟨hT,(hf.aY hb hS).trans h1,(hf.aY hb hS).trans h2,⟨o,len,cap,(hf.aY hb hS).trans h3,h4,h4',fun hl=>?_⟩,AtIn.fr hf hR r b (off+3) h6⟩;obtain ⟨b',off',ho,ha⟩:=h5 hl;exact ⟨b',off',ho,AtIn.fr hf hR ps b' off' ha⟩
theorem aB.fr {R T S:Nat->Prop} {w w':World} {o:Option Addr} {len:Nat} {f:Fo} (h:aB R w o len f) (hf:Fr S w w') (hR:∀ k,k < w.heap.size->R k->T k/\¬ S k):aB T w' o len f:=by
 refine ⟨h.1,h.2.1,fun hl=>?_⟩;obtain ⟨b,off,ho,ha⟩:=h.2.2 hl;exact ⟨b,off,ho,AtIn.fr hf hR f b off ha⟩
theorem aB.nil (R:Nat->Prop) (w:World) (o:Option Addr):aB R w o 0 .nil:=⟨rfl,Nat.zero_le _,fun h=>absurd h (Nat.lt_irrefl _)⟩
def RowOf (R:Nat->Prop) (w:World):List Value->Fo->Prop
 | xs,.nil=>xs=[]
 | xs,.cons k n ps r=>∃ o len cap ys,xs=.int .i64 k::.int .i64 n::.slice o len cap::ys/\aB R w o len ps/\RowOf R w ys r
theorem RowOf.fr {R T S:Nat->Prop} {w w':World} (hf:Fr S w w') (hR:∀ k,k < w.heap.size->R k->T k/\¬ S k):∀ (f:Fo) (xs:List Value),RowOf R w xs f->RowOf T w' xs f
 | .nil,_,h=>h
 | .cons k n ps r,xs,h=>by
  obtain ⟨o,len,cap,ys,rfl,hs,hr⟩:=h;exact ⟨o,len,cap,ys,rfl,hs.fr hf hR,RowOf.fr hf hR r ys hr⟩
theorem RowOf.snoc {R:Nat->Prop} {w:World} {k n:Int} {ps:Fo} {o:Option Addr} {len cap:Nat} (hs:aB R w o len ps):∀ (f:Fo) (xs:List Value),RowOf R w xs f->RowOf R w (xs++[.int .i64 k,.int .i64 n,.slice o len cap]) (f.app (.cons k n ps .nil))
 | .nil,xs,h=>by
  cases h;exact ⟨o,len,cap,[],rfl,hs,rfl⟩
 | .cons k' n' ps' r,xs,h=>by
  obtain ⟨o',len',cap',ys,rfl,hs',hr⟩:=h;exact ⟨o',len',cap',_,rfl,hs',RowOf.snoc hs r ys hr⟩
theorem RowOf.length {R:Nat->Prop} {w:World}:∀ (f:Fo) (xs:List Value),RowOf R w xs f->xs.length=3*f.length
 | .nil,xs,h=>by cases h;rfl
 | .cons k' n' ps' r,xs,h=>by
  obtain ⟨o',len',cap',ys,rfl,hs',hr⟩:=h;have:=RowOf.length r ys hr;simp [Fo.length];omega
theorem RowOf.at {R:Nat->Prop} {w:World} {g:Nat} (hg:R g):∀ (f:Fo) (xs:List Value) (off:Nat),RowOf R w xs f->(∀ j u,xs[j]?=some u->w.cell? ⟨g,off+j,none⟩=some u)->AtIn R w g off f
 | .nil,_,_,_,_=>trivial
 | .cons k n ps r,xs,off,h,hc=>by
  obtain ⟨o,len,cap,ys,rfl,hs,hr⟩:=h;refine ⟨hg,hc 0 _ rfl,hc 1 _ rfl,⟨o,len,cap,hc 2 _ rfl,hs.1,hs.2.1,hs.2.2⟩,RowOf.at hg r ys (off+3) hr ?_⟩;intro j u hj;have:=hc (j+3) u (by simpa using hj);rw [<-this];congr 2;omega
structure jH (w:World) (B:Nat) (v:Value) (f:Fo) (xs:List Value):Prop where
 own:w.ownsRow 0 25 3 v f.length xs
 low:∀ k,v.ownBlock=some k->B<=k
 cells:RowOf (fun k=>B<=k/\v.ownBlock≠some k) w xs f
theorem jH.nil (w:World) (B:Nat):jH w B (.slice none 0 0) .nil []:=⟨World.ownsRow_nil _ _ _ _,fun k hk=>(by cases hk),rfl⟩
theorem jH.fr {w w':World} {B:Nat} {v:Value} {f:Fo} {xs:List Value} {S:Nat->Prop} (h:jH w B v f xs) (hf:Fr S w w') (hS:∀ k,S k->k < B):jH w' B v f xs:=by
 refine ⟨aU h.own hf (fun k hk hs=>?_),h.low,RowOf.fr hf (fun k _ hk=>⟨hk,fun hs=>?_⟩) f xs h.cells⟩
 ·have:=h.low k hk;have:=hS k hs;omega
 ·have:=hS k hs;omega
theorem jH.stay {w w':World} {B:Nat} {v:Value} {f:Fo} {xs:List Value} (h:jH w B v f xs) (hf:ah w w'):jH w' B v f xs:=h.fr hf (fun _ hk=>hk.elim)
theorem jH.snoc {W w1 : World} {B : Nat} {v : Value} {f : Fo} {xs : List Value} {k n : Int} {ps : Fo} {o : Option Addr} {len cap g c : Nat} (hr : jH W B v f xs)
    (hs:aB (fun k=>B<=k/\v.ownBlock≠some k) W o len ps)
    (ho:w1.ownsRow 0 25 3 (.slice (some ⟨g,0,none⟩) (f.length+1) c) (f.length+1) (xs++[.int .i64 k,.int .i64 n,.slice o len cap])) (hf:Fr (fun k=>v.ownBlock=some k) W w1) (hg:v.ownBlock=some g∨W.heap.size<=g) (hB:B<=W.heap.size) :
    jH w1 B (.slice (some ⟨g,0,none⟩) (f.length+1) c) (f.app (.cons k n ps .nil)) (xs++[.int .i64 k,.int .i64 n,.slice o len cap]):=by
 refine ⟨by rw [Fo.bJ];exact ho,?_,?_⟩
 ·intro k hk;simp [Value.ownBlock] at hk;subst hk;rcases hg with h | h
  ·exact hr.low g h
  ·omega
 ·have hk : ∀ k, k < W.heap.size -> (B <= k /\ v.ownBlock ≠ some k) -> ((B <= k /\ (Value.slice (some ⟨g, 0, none⟩) (f.length + 1) c).ownBlock ≠ some k) /\ ¬ v.ownBlock = some k) := by
    rintro k hk ⟨h1,h2⟩;refine ⟨⟨h1,fun h=>?_⟩,h2⟩;simp [Value.ownBlock] at h;subst h;rcases hg with h | h
    ·exact h2 h
    ·omega
  exact RowOf.snoc (hs.fr hf hk) f xs (RowOf.fr hf hk f xs hr.cells)
theorem jH.slc {w:World} {B:Nat} {o:Option Addr} {len cap:Nat} {f:Fo} {xs:List Value} (h:jH w B (.slice o len cap) f xs) (hl:len=f.length) (hm:len<=maxLen):aB (fun k=>B<=k) w o len f:=by
 refine ⟨hl,hm,fun h0=>?_⟩;rcases h.own.2 with ⟨_,h2⟩ | ⟨g,cap',cur,he,_⟩
 ·omega
 ·injection he with h1 h2 h3
  subst h1;refine ⟨g,0,rfl,RowOf.at (h.low g rfl) f xs 0 (RowOf.fr (Fr.refl (fun _=>False) w) (fun k _ hk=>⟨hk.1,fun h=>h⟩) f xs h.cells) ?_⟩;intro j u hj;have:=h.own.cells (g:=g) rfl j u hj;simpa [Addr.add_lit] using this
end
section
open Go.RowKit
def Y9 (k n:Int) (ps:Fo):Prop:=∀ (w:World) (o:Option Addr) (len cap:Nat) (d:Nat) (m:Int) (di:Int),di=d->nJ w o len ps->0<=m->m<=100000->d<=100000 ->
 Calls Tryd.prog 67 #[fG k n o len cap,.int .i64 m,.int .i64 di] w fun e w'=>e=.returned (.int .i64 (if d=0 then -1 else Fo.room (d-1) (m-1) ps))/\ah w w'
theorem Wq (k n:Int) (ps:Fo):Y9 k n ps:=by
 refine Fo.uY (T:=Y9) ?_ k n ps;intro k n ps ih w o len cap d m di ed hs hm0 hm1 hd1;subst ed;have HS:=hid hs;have IH:=hid ih;have HL:=hid hs.1;have hmx:=hs.2.1;unfold maxLen at hmx;clear hs ih
 by_cases hd0:d=0
 ·subst hd0;unfold fG;go_enter Tryd.func67,Tryd.ntmps67;go_wp2_with fail;go_ret;exact ⟨rfl,ah.alloc _ _⟩
 ·obtain ⟨D,hD⟩:∃ D,D=d-1:=⟨_,rfl⟩;have acQ:((d:Int) == 0)=false:=by simp;omega
  have hdD:d=D+1:=by omega
  obtain ⟨res,hres⟩:∃ res,res=Fo.room D (m-1) ps:=⟨_,rfl⟩;have aQ:=hid hres;have HF:Hid ((if d=0 then -1 else Fo.room (d-1) (m-1) ps)=res):=by show _=_;rw [if_neg (by omega),<-hD,hres]
  rw [HF.out];have OY:=hid hdD;have hD1:D<=100000:=by omega
  have acS:1<=d:=by omega
  clear hres hd0 hD hdD;unfold fG;go_enter Tryd.func67,Tryd.ntmps67;go_wp2_with fail;obtain ⟨W0,hW0⟩:∃ W0,W0=w.alloc (.cells #[.int .i64 k,.int .i64 n,.slice o len cap] 25):=⟨_,rfl⟩;have HB0:Hid (∀ W,ah W0 W->W.cell? ⟨w.heap.size,0,none⟩=some (.int .i64 k)):=by
   intro W hq;rw [hW0] at hq;exact (kY w k n o len cap _ W hq).1
  have HB1:Hid (∀ W,ah W0 W->W.cell? ⟨w.heap.size,1,none⟩=some (.int .i64 n)):=by
   intro W hq;rw [hW0] at hq;exact (kY w k n o len cap _ W hq).2.1
  have HB:Hid (∀ W,ah W0 W->W.cell? ⟨w.heap.size,2,none⟩=some (.slice o len cap)):=by
   intro W hq;rw [hW0] at hq;exact (kY w k n o len cap _ W hq).2.2
  have bD:Hid (ah w W0):=by rw [hW0];exact ah.alloc _ _
  change Code.wp _ _ _ _ (w.alloc (.cells #[.int .i64 k,.int .i64 n,.slice o len cap] 25));rw [<-hW0];clear hW0;generalize w.heap.size=nb at *;go_loopw [1,7] (fun s t wr=>∃ (i:Nat) (x:Int),t=.int .i64 i/\s=.int .i64 x/\i<=len/\-1<=x/\x<=100000/\res=Fo.room D x (ps.drop i)/\ah W0 wr) (fun _ t _=>len-(intOf t).toNat)
  case atStart=>exact ⟨0,m-1,rfl,rfl,Nat.zero_le _,by omega,by omega,by rw [Fo.drop_zero];exact aQ.out,ah.refl _⟩
  case round =>
   obtain ⟨i,x,rfl,rfl,hi,hx0,hx1,hr,hq⟩:=hrel;have HR:=hid hr;have HQ:=hid hq;have c2:=HB.out wr hq;clear hr hq
   by_cases hlt:i < len
   ·have hlt':(i:Int) < len:=by omega
    by_cases hx:0<=x
    ·obtain ⟨b,off,k',n',qs,o',len',cap',rfl,hd,hg,e0,e1,e2,hs'⟩:=(HS.out.stay (bD.out.trans HQ.out)).nth hlt;have HC:=hid (IH.out i k' n' qs hg wr o' len' cap' D x ((d:Int)-1) (by have:=OY.out;omega) hs' hx hx1 hD1);obtain ⟨y,hy⟩:∃ y,y=if D=0 then -1 else Fo.room (D-1) (x-1) qs:=⟨_,rfl⟩
     have hyb:-1<=y/\y<=100000:=by
      rw [hy];split
      ·omega
      ·by_cases h1:0<=x-1
       ·have:=Fo.room_le qs (D-1) (x-1) h1;omega
       ·rw [Fo.fE _ _ _ (by omega)];omega
     have HY:Hid (res=Fo.room D y (ps.drop (i+1))):=by
      show _=_
      rw [HR.out,hd,hy];cases D with
      | zero => conv => lhs; unfold Fo.room
                rw [if_neg (by omega)];rfl
      | succ E => conv => lhs; unfold Fo.room
                  rw [if_neg (by omega),if_neg (by omega)];rfl
     rw [<-hy] at HC;unfold fG at HC;clear hd hg hs' hy;go_wp2_with fail;refine HC.out.mono ?_;rintro e w1 ⟨rfl,hq1⟩;have fD:=hid (HQ.out.trans hq1);clear hq1;go_wp2_with fail;go_roundw
     case rel=>exact ⟨i+1,y,by go_num,rfl,by omega,hyb.1,hyb.2,HY.out,fD.out⟩
     case measure=>simp [intOf];omega
    ·have hx':x < 0:=by omega
     have HY:Hid (res=x):=by show _=_;rw [HR.out];exact Fo.fE _ _ _ hx'
     go_wp2_with fail;go_ret;exact ⟨by rw [HY.out];rfl,bD.out.trans HQ.out⟩
   ·have hlt':¬ (i:Int) < len:=by omega
    have HY:Hid (res=x):=by
     show _=_
     rw [HR.out,Fo.drop_end ps i (by have:=HL.out;omega)];unfold Fo.room;rfl
    go_wp2_with fail;go_ret;exact ⟨by rw [HY.out];rfl,bD.out.trans HQ.out⟩
def zi (ps:Fo):Bool:=decide (Fo.room 39 299 ps < 0)
theorem LU {ps:Fo} (h:zi ps=false):ps.size+1<=300:=by
 unfold zi at h;have h0:0<=Fo.room 39 299 ps:=by simpa using h
 have:=Fo.zl ps 39 299 h0;omega
theorem PU (k n : Int) (ps : Fo) (w : World) (o : Option Addr) (len cap : Nat) (hs : nJ w o len ps) :
    Calls Tryd.prog 52 #[fG k n o len cap] w fun e w'=>e=.returned (.bool (zi ps))/\ah w w':=by
 have HC:=hid (fun (W:World) (hq:ah w W)=>Wq k n ps W o len cap 40 300 40 rfl (hs.stay hq) (by omega) (by omega) (by omega));unfold zi;rw [if_neg (by omega),show (40:Nat)-1=39 from rfl,show (300:Int)-1=299 from rfl] at HC;generalize Fo.room 39 299 ps=r at *;unfold fG at *;go_enter Tryd.func52,Tryd.ntmps52;go_wp2_with fail;refine (HC.out _ (ah.alloc _ _)).mono ?_;rintro e w1 ⟨rfl,hq⟩;go_wp2_with fail;go_ret;exact ⟨rfl,(ah.alloc _ _).trans hq⟩
end
section
open Go.RowKit
def lJ (k n:Int) (ps:Fo) (k' n':Int) (ps':Fo):Bool:=(k == k') && (n == n') && ps.same ps'
theorem Gy (k n:Int) (ps r:Fo) (k' n':Int) (ps' r':Fo):(Fo.cons k n ps r).same (Fo.cons k' n' ps' r')=(lJ k n ps k' n' ps' && r.same r'):=by simp [Fo.same,lJ]
def Za (k n:Int) (ps:Fo):Prop:=∀ (k' n':Int) (ps':Fo) (w:World) (o:Option Addr) (len cap:Nat) (o':Option Addr) (len' cap':Nat),nJ w o len ps->nJ w o' len' ps' ->
 Calls Tryd.prog 12 #[fG k n o len cap,fG k' n' o' len' cap'] w fun e w'=>e=.returned (.bool (lJ k n ps k' n' ps'))/\ah w w'
theorem Ns (w : World) (k n : Int) (o : Option Addr) (len cap : Nat) (k' n' : Int) (o' : Option Addr) (len' cap' : Nat) (t : TypeId) (W : World) (hW : ah ((w.alloc (.cells #[.int .i64 k, .int .i64 n, .slice o len cap] t)).alloc (.cells #[.int .i64 k', .int .i64 n', .slice o' len' cap'] t)) W) :
    (yB W w.heap.size (.int .i64 k) (.int .i64 n) (.slice o len cap)) /\
    (yB W (w.heap.size+1) (.int .i64 k') (.int .i64 n') (.slice o' len' cap')):=by
 refine ⟨kY w k n o len cap t W ((ah.alloc _ _).trans hW),?_⟩;have h:=kY (w.alloc (.cells #[.int .i64 k,.int .i64 n,.slice o len cap] t)) k' n' o' len' cap' t W hW;have e:(w.alloc (.cells #[.int .i64 k,.int .i64 n,.slice o len cap] t)).heap.size=w.heap.size+1:=by simp
 rw [e] at h;exact h
theorem nD (k n:Int) (ps:Fo):Za k n ps:=by
 refine Fo.uY (T:=Za) ?_ k n ps;intro k n ps ih k' n' ps' w o len cap o' len' cap' hs hs';have HS:=hid hs;have HS':=hid hs';have IH:=hid ih;have HL:=hid hs.1;have HL':=hid hs'.1;have hmx:=hs.2.1;unfold maxLen at hmx;clear hs hs' ih;obtain ⟨res,hres⟩:∃ res,res=lJ k n ps k' n' ps':=⟨_,rfl⟩;have aQ:=hid hres;rw [<-hres];clear hres
 by_cases hk:k=k'
 ·by_cases hn:n=n'
  ·by_cases hlen:len=len'
   ·have HR2:Hid (res=ps.same ps'):=by show _=_;rw [aQ.out];simp [lJ,hk,hn]
    subst hk hn hlen;have b1:(k != k)=false:=by simp
    have b2:(n != n)=false:=by simp
    have b3:((len:Int) != (len:Int))=false:=by simp
    unfold fG;go_enter Tryd.func12,Tryd.ntmps12;go_wp2_with fail;obtain ⟨W0,hW0⟩:∃ W0,W0=(w.alloc (.cells #[.int .i64 k,.int .i64 n,.slice o len cap] 25)).alloc (.cells #[.int .i64 k,.int .i64 n,.slice o' len cap'] 25):=⟨_,rfl⟩;have IQ:Hid (∀ W,ah W0 W->W.cell? ⟨w.heap.size,2,none⟩=some (.slice o len cap)/\W.cell? ⟨w.heap.size+1,2,none⟩=some (.slice o' len cap')):=by
     intro W hq;rw [hW0] at hq;have:=Ns w k n o len cap k n o' len cap' _ W hq;exact ⟨this.1.2.2,this.2.2.2⟩
    have bD:Hid (ah w W0):=by rw [hW0];exact (ah.alloc _ _).trans (ah.alloc _ _)
    change Code.wp _ _ _ _ ((w.alloc (.cells #[.int .i64 k,.int .i64 n,.slice o len cap] 25)).alloc (.cells #[.int .i64 k,.int .i64 n,.slice o' len cap'] 25));rw [<-hW0];clear hW0;generalize w.heap.size=nb at *;go_loopw [5] (fun t wr=>∃ (i:Nat),t=.int .i64 i/\i<=len/\res=(ps.drop i).same (ps'.drop i)/\ah W0 wr) (fun t _=>len-(intOf t).toNat)
    case atStart=>exact ⟨0,rfl,Nat.zero_le _,by rw [Fo.drop_zero,Fo.drop_zero];exact HR2.out,ah.refl _⟩
    case round =>
     obtain ⟨i,rfl,hi,hr,hq⟩:=hrel;have HR:=hid hr;have HQ:=hid hq;obtain ⟨c1,c2⟩:=IQ.out wr hq;clear hr hq
     by_cases hlt:i < len
     ·have hlt':(i:Int) < len:=by omega
      obtain ⟨b,off,k1,n1,qs1,o1,len1,cap1,rfl,hd1,hg1,e0,e1,e2,hs1⟩:=(HS.out.stay (bD.out.trans HQ.out)).nth hlt;obtain ⟨b2,off2,k2,n2,qY,o2,len2,cap2,rfl,hd2,hg2,f0,f1,f2,hs2⟩:=(HS'.out.stay (bD.out.trans HQ.out)).nth hlt;have HC:=hid (fun (W:World) (hq:ah wr W)=>IH.out i k1 n1 qs1 hg1 k2 n2 qY W o1 len1 cap1 o2 len2 cap2 (hs1.stay hq) (hs2.stay hq));have HN:Hid (res=(lJ k1 n1 qs1 k2 n2 qY && (ps.drop (i+1)).same (ps'.drop (i+1)))):=by
       show _=_
       rw [HR.out,hd1,hd2,Gy]
      unfold fG at HC;clear hd1 hg1 hs1 hd2 hg2 hs2;cases hb:lJ k1 n1 qs1 k2 n2 qY
      all_goals
       have Yz:=hid hb;clear hb;go_wp2_with fail;refine wp_region_still_tail 10 (by kernel_rfl) (by kernel_rfl) ?_;simp only [List.take_succ_cons,List.take_zero,List.drop_succ_cons,List.drop_zero];change wpStill _ _ (World.drew wr) _ _ _
       repeat still_step
       refine wpStill_nil ?_;change wpList _ _ _ _ _ (World.drew wr);go_wp2_with fail;refine (HC.out _ (ah.drew _)).mono ?_;rintro e w1 ⟨rfl,hq1⟩;rw [Yz.out];have fD:=hid ((HQ.out.trans (ah.drew _)).trans hq1);clear hq1;go_wp2_with fail
      ·go_ret;exact ⟨by rw [HN.out,Yz.out];rfl,bD.out.trans fD.out⟩
      ·go_roundw
       case rel=>exact ⟨i+1,by go_num,by omega,by rw [HN.out,Yz.out];rfl,fD.out⟩
       case measure=>simp [intOf];omega
     ·have hlt':¬ (i:Int) < len:=by omega
      have HY:Hid (res=true):=by
       show _=_
       rw [HR.out,Fo.drop_end ps i (by have:=HL.out;omega),Fo.drop_end ps' i (by have:=HL'.out;omega)];rfl
      go_wp2_with fail;go_ret;exact ⟨by rw [HY.out];rfl,bD.out.trans HQ.out⟩
   ·have HF : Hid (res = false) := by
      show _=_
      rw [aQ.out];have:ps.same ps'=false:=by
       cases h:ps.same ps'
       ·rfl
       ·exact absurd (Fo.same_length _ _ h) (by have:=HL.out;have:=HL'.out;omega)
      simp [lJ,this]
    subst hk hn;have b1:(k != k)=false:=by simp
    have b2:(n != n)=false:=by simp
    have b3:((len:Int) != (len':Int))=true:=by simp;omega
    unfold fG;go_enter Tryd.func12,Tryd.ntmps12;go_wp2_with fail;go_ret;exact ⟨by rw [HF.out];rfl,(ah.alloc _ _).trans (ah.alloc _ _)⟩
  ·have HF:Hid (res=false):=by show _=_;rw [aQ.out];simp [lJ,hn]
   subst hk;have b1:(k != k)=false:=by simp
   have b2:(n != n')=true:=by simpa using hn
   clear hn;unfold fG;go_enter Tryd.func12,Tryd.ntmps12;go_wp2_with fail;go_ret;exact ⟨by rw [HF.out];rfl,(ah.alloc _ _).trans (ah.alloc _ _)⟩
 ·have HF:Hid (res=false):=by show _=_;rw [aQ.out];simp [lJ,hk]
  have b1:(k != k')=true:=by simpa using hk
  clear hk;unfold fG;go_enter Tryd.func12,Tryd.ntmps12;go_wp2_with fail;go_ret;exact ⟨by rw [HF.out];rfl,(ah.alloc _ _).trans (ah.alloc _ _)⟩
end
section
open Go.RowKit
def lI (k n:Int) (ps:Fo):Bool:=Fo.plain k n ps.length && ps.right
theorem wH (k n:Int) (ps r:Fo):(Fo.cons k n ps r).right=(lI k n ps && r.right):=by simp [Fo.right,lI]
def E8 (p:Int->Int->Fo->Bool):Fo->Nat->Int
 | .nil,_=>-1
 | .cons k n ps r,i=>if p k n ps then (i:Int) else E8 p r (i+1)
def Nu (p:Int->Int->Fo->Bool):Fo->Bool
 | .nil=>false
 | .cons k n ps r=>p k n ps || Nu p r
theorem OM (p:Int->Int->Fo->Bool):∀ (f:Fo) (i:Nat),decide (0<=E8 p f i)=Nu p f
 | .nil,i=>by simp [E8,Nu]
 | .cons k n ps r,i=>by
  unfold E8 Nu;cases h:p k n ps
  ·simp only [Bool.false_eq_true,if_false,Bool.false_or];exact OM p r (i+1)
  ·simp
theorem wu:∀ f:Fo,Nu (fun k n ps=>!lI k n ps) f=!f.right
 | .nil=>rfl
 | .cons k n ps r=>by unfold Nu;rw [wH,wu r,Bool.not_and]
theorem uK (n:Int) (w:World):Calls Tryd.prog 92 #[.int .i64 n] w fun e w'=>e=.returned (.bool (decide (0<=n) && decide (n < 1073741824)))/\w=w':=by
 by_cases h:0<=n
 ·go_enter Tryd.func92,Tryd.ntmps92;go_wp2_with fail;go_ret;exact ⟨by first | (simp [h];done) | (simp;omega),rfl⟩
 ·go_enter Tryd.func92,Tryd.ntmps92;go_wp2_with fail;go_ret;exact ⟨by first | (simp;done) | (simp;omega),rfl⟩
theorem Rh (k n:Int) (len:Nat) (o:Option Addr) (cap:Nat) (w:World):Calls Tryd.prog 86 #[fG k n o len cap] w fun e w'=>e=.returned (.bool (Fo.plain k n len))/\ah w w':=by
 obtain ⟨res,hres⟩:∃ res,res=Fo.plain k n len:=⟨_,rfl⟩;have HR:=hid hres;rw [<-hres];clear hres;unfold fG
 by_cases k1:k=1
 ·subst k1;cases hkn:(decide (0<=n) && decide (n < 1073741824))
  ·have HK:=hid (uK n);rw [hkn] at HK;have HF:Hid (res=false):=by show _=_;rw [HR.out];unfold Fo.plain;simp only [beq_self_eq_true,if_true];rw [hkn];rfl
   clear hkn;go_enter Tryd.func86,Tryd.ntmps86;go_wp2_with fail;refine (HK.out _).mono ?_;rintro e w1 ⟨rfl,rfl⟩;go_wp2_with fail;go_ret;exact ⟨by rw [HF.out];rfl,ah.alloc _ _⟩
  ·have HK:=hid (uK n);rw [hkn] at HK;have HF:Hid (res=((len:Int) == 0)):=by
    show _=_
    rw [HR.out];unfold Fo.plain;simp only [beq_self_eq_true,if_true];rw [hkn,Bool.eq_iff_iff];simp
   clear hkn;go_enter Tryd.func86,Tryd.ntmps86;go_wp2_with fail;refine (HK.out _).mono ?_;rintro e w1 ⟨rfl,rfl⟩;go_wp2_with fail
   all_goals
    go_ret;exact ⟨by rw [HF.out];first | rfl | simp_all,ah.alloc _ _⟩
 have b1:(k == 1)=false:=by simpa using k1
 by_cases hn:n=0
 ·subst hn
  by_cases k2:k=2
  ·subst k2;have HF:Hid (res=((len:Int) == 0)):=by show _=_;rw [HR.out,Bool.eq_iff_iff];simp [Fo.plain]
   go_enter Tryd.func86,Tryd.ntmps86;go_wp2_with fail
   all_goals
    go_ret;exact ⟨by rw [HF.out];first | rfl | simp_all,ah.alloc _ _⟩
  have b2:(k == 2)=false:=by simpa using k2
  by_cases k3:k=3
  ·subst k3;have HF:Hid (res=((len:Int) == 0)):=by show _=_;rw [HR.out,Bool.eq_iff_iff];simp [Fo.plain]
   go_enter Tryd.func86,Tryd.ntmps86;go_wp2_with fail
   all_goals
    go_ret;exact ⟨by rw [HF.out];first | rfl | simp_all,ah.alloc _ _⟩
  have b3:(k == 3)=false:=by simpa using k3
  by_cases k4:k=4
  ·subst k4;have HF:Hid (res=((len:Int) == 2)):=by show _=_;rw [HR.out,Bool.eq_iff_iff];simp [Fo.plain];omega
   go_enter Tryd.func86,Tryd.ntmps86;go_wp2_with fail
   all_goals
    go_ret;exact ⟨by rw [HF.out];first | rfl | simp_all,ah.alloc _ _⟩
  have b4:(k == 4)=false:=by simpa using k4
  by_cases k5:k=5
  ·subst k5
   by_cases h2:2<=len
   ·have h2':(2:Int)<=(len:Int):=by omega
    by_cases h8:len<=8
    ·have h8':(len:Int)<=8:=by omega
     have HF:Hid (res=true):=by show _=_;rw [HR.out];simp [Fo.plain,h2,h8]
     go_enter Tryd.func86,Tryd.ntmps86;go_wp2_with fail;go_ret;exact ⟨by rw [HF.out];rfl,ah.alloc _ _⟩
    ·have h8':¬ (len:Int)<=8:=by omega
     have HF:Hid (res=false):=by show _=_;rw [HR.out];simp [Fo.plain,h8]
     go_enter Tryd.func86,Tryd.ntmps86;go_wp2_with fail;go_ret;exact ⟨by rw [HF.out];rfl,ah.alloc _ _⟩
   ·have h2':¬ (2:Int)<=(len:Int):=by omega
    have HF:Hid (res=false):=by show _=_;rw [HR.out];simp [Fo.plain,h2]
    go_enter Tryd.func86,Tryd.ntmps86;go_wp2_with fail;go_ret;exact ⟨by rw [HF.out];rfl,ah.alloc _ _⟩
  have b5:(k == 5)=false:=by simpa using k5
  have HF:Hid (res=false):=by show _=_;rw [HR.out];unfold Fo.plain;simp only [b1,b2,b3,b4,b5];rfl
  clear k1 k2 k3 k4 k5;go_enter Tryd.func86,Tryd.ntmps86;go_wp2_with fail;go_ret;exact ⟨by rw [HF.out];rfl,ah.alloc _ _⟩
 ·have HF : Hid (res = false) := by
    show _=_
    rw [HR.out];have hn':(n == 0)=false:=by simpa using hn
    unfold Fo.plain;simp only [b1,hn',Bool.false_and]
    repeat' split
    all_goals first | rfl | simp_all
  have hn':(n == 0)=false:=by simpa using hn
  clear k1 hn;go_enter Tryd.func86,Tryd.ntmps86;go_wp2_with fail
  all_goals
   go_ret;exact ⟨by rw [HF.out];rfl,ah.alloc _ _⟩
def Ws (g:Nat) (lb:Array Value) (w0:World) (f:Fo) (p:Int->Int->Fo->Bool):Prop:=∀ i k n ps,f.get i=some (k,n,ps)->∀ (W:World) (o:Option Addr) (len cap:Nat),ah w0 W->nJ W o len ps ->
 Calls Tryd.prog g (#[fG k n o len cap]++lb) W fun e W'=>e=.returned (.bool (p k n ps))/\ah W W'
theorem Fa (g : Nat) (lb : Array Value) (p : Int -> Int -> Fo -> Bool) (eg : ∀ args w, (callFunc g args).run Tryd.prog w = .ok (.enter g args) w) (f : Fo) (o : Option Addr) (len cap : Nat) (w : World) (hs : nJ w o len f) (hp : Ws g lb w f p) :
    Calls Tryd.prog 96 #[.slice o len cap,.func (.func g) #[] lb] w fun e w'=>e=.returned (.int .i64 (E8 p f 0))/\ah w w':=by
 have HS:=hid hs;have HP:=hid hp;have HL:=hid hs.1;have hmx:=hs.2.1;unfold maxLen at hmx;clear hs hp;obtain ⟨res,hres⟩:∃ res,res=E8 p f 0:=⟨_,rfl⟩;have HR:=hid hres;rw [<-hres];clear hres;go_enter Tryd.func96,Tryd.ntmps96;go_wp2_with fail;go_loopw [8] (fun t wr=>∃ i:Nat,t=.int .i64 i/\i<=len/\res=E8 p (f.drop i) i/\ah w wr) (fun t _=>len-(intOf t).toNat)
 case atStart=>exact ⟨0,rfl,Nat.zero_le _,by rw [Fo.drop_zero];exact HR.out,ah.refl _⟩
 case round =>
  obtain ⟨i,rfl,hi,hr,hq⟩:=hrel;have HRR:=hid hr;have HQ:=hid hq;clear hr hq
  by_cases hlt:i < len
  ·have hlt':(i:Int) < len:=by omega
   obtain ⟨b,off,k1,n1,qs,o1,len1,cap1,rfl,hd,hg,e0,e1,e2,hs1⟩:=(HS.out.stay HQ.out).nth hlt;have HD:=hid hd;have HC:=hid (HP.out i k1 n1 qs hg wr o1 len1 cap1 HQ.out hs1);unfold fG at HC;clear hd hg hs1;cases hb:p k1 n1 qs
   all_goals
    have Yz:=hid hb;rw [hb] at HC;clear hb;go_wp2_with fail;refine HC.out.mono ?_;rintro e w1 ⟨rfl,hq1⟩;have fD:=hid (HQ.out.trans hq1);clear hq1;go_wp2_with fail
   ·go_roundw
    case rel=>exact ⟨i+1,by go_num,by omega,by rw [HRR.out,HD.out,E8,Yz.out];rfl,fD.out⟩
    case measure=>simp [intOf];omega
   ·go_ret;exact ⟨by rw [HRR.out,HD.out,E8,Yz.out];rfl,fD.out⟩
  ·have hlt':¬ (i:Int) < len:=by omega
   go_wp2_with fail;go_ret;exact ⟨by rw [HRR.out,Fo.drop_end f i (by have:=HL.out;omega)];rfl,HQ.out⟩
theorem zV (g : Nat) (lb : Array Value) (p : Int -> Int -> Fo -> Bool) (eg : ∀ args w, (callFunc g args).run Tryd.prog w = .ok (.enter g args) w) (f : Fo) (o : Option Addr) (len cap : Nat) (w : World) (hs : nJ w o len f) (hp : Ws g lb w f p) :
    Calls Tryd.prog 87 #[.slice o len cap,.func (.func g) #[] lb] w fun e w'=>e=.returned (.bool (Nu p f))/\ah w w':=by
 have HC:=hid (Fa g lb p eg f o len cap w hs hp);rw [<-OM p f 0];clear hs hp eg;generalize E8 p f 0=r at *;go_enter Tryd.func87,Tryd.ntmps87;go_wp2_with fail;refine HC.out.mono ?_;rintro e w1 ⟨rfl,hq⟩;go_wp2_with fail;go_ret;exact ⟨rfl,hq⟩
end
section
open Go.RowKit Go.Shelf
theorem Wu:∀ args w,(callFunc 88 args).run Tryd.prog w=.ok (.enter 88 args) w:=enters_of Tryd.func88 (by kernel_rfl) rfl
def Nv (k n:Int) (ps:Fo):Prop:=∀ (w:World) (o:Option Addr) (len cap:Nat),nJ w o len ps ->
 Calls Tryd.prog 73 #[fG k n o len cap] w fun e w'=>e=.returned (.bool (lI k n ps))/\ah w w'
theorem Ri (k n : Int) (ps : Fo) (h : Nv k n ps) (w : World) (o : Option Addr) (len cap : Nat) (hs : nJ w o len ps) :
    Calls Tryd.prog 88 #[fG k n o len cap] w fun e w'=>e=.returned (.bool (!lI k n ps))/\ah w w':=by
 have HC:=hid (fun (W:World) (hq:ah w W)=>h W o len cap (hs.stay hq));clear h hs;generalize lI k n ps=r at *;unfold fG at *;go_enter Tryd.func88,Tryd.ntmps88;go_wp2_with fail;refine (HC.out _ (ah.alloc _ _)).mono ?_;rintro e w1 ⟨rfl,hq⟩;go_wp2_with fail;go_ret;exact ⟨rfl,(ah.alloc _ _).trans hq⟩
theorem PL (k n:Int) (ps:Fo):Nv k n ps:=by
 refine Fo.uY (T:=Nv) ?_ k n ps;intro k n ps ih w o len cap hs;have hl:=hs.1;have HP:=hid (Rh k n len o cap);have HC:Hid (∀ W,ah w W->Calls Tryd.prog 87 #[.slice o len cap,.func (.func 88) #[] #[]] W fun e w'=>e=.returned (.bool (!ps.right))/\ah W w'):=by
  intro W hq;have:=zV 88 #[] (fun k n ps=>!lI k n ps) Wu ps o len cap W (hs.stay hq) (fun i k1 n1 qs hg W1 o1 len1 cap1 _ hs1=>Ri k1 n1 qs (ih i k1 n1 qs hg) W1 o1 len1 cap1 hs1);rw [wu] at this;exact this
 have HR:Hid (lI k n ps=(Fo.plain k n len && ps.right)):=by show _=_;unfold lI;rw [hl]
 rw [HR.out];clear hs ih hl HR;cases hp:Fo.plain k n len
 ·have HPV:=hid hp;rw [hp] at HP;clear hp;unfold fG at *;go_enter Tryd.func73,Tryd.ntmps73;go_wp2_with fail;refine (HP.out _).mono ?_;rintro e w1 ⟨rfl,hq⟩;go_wp2_with fail;go_ret;exact ⟨rfl,(ah.alloc _ _).trans hq⟩
 ·have HPV:=hid hp;rw [hp] at HP;clear hp;generalize ps.right=r at *;unfold fG at *;go_enter Tryd.func73,Tryd.ntmps73;go_wp2_with fail;refine (HP.out _).mono ?_;rintro e w1 ⟨rfl,hq⟩;have HQ:=hid ((ah.alloc w (.cells #[.int .i64 k,.int .i64 n,.slice o len cap] 25)).trans hq);have c2:=(kY w k n o len cap 25 w1 hq).2.2;clear hq;go_wp2_with fail;refine (HC.out _ HQ.out).mono ?_;rintro e w2 ⟨rfl,hq2⟩;go_wp2_with fail;go_ret;exact ⟨by simp,HQ.out.trans hq2⟩
end
end Go.Proofs.YtcninopmelmajaaDoor
