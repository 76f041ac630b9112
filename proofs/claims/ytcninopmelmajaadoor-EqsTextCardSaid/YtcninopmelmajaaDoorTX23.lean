/-
  Texts laid together (PaSize, ScStr, ScAround, ScList, ScBare, ScCall, ScRFree): laws and walks, with their conditions.
-/
import Derived.Deep.QuietTactic
import Derived.Test.YtcninopmelmajaaDoorTX22
set_option maxHeartbeats 8000000
set_option maxRecDepth 1000000
namespace Go.Proofs.YtcninopmelmajaaDoor
open Go.Lib (hid)
section
namespace Pa
open Lx
def zF:Fo->Prop
 | .nil=>True
 | .cons _ m ps r=>m=0/\zF ps/\zF r
theorem TS:∀ f g:Fo,zF f->zF g->zF (f.app g)
 | .nil,_,_,h=>h
 | .cons _ _ _ r,g,h,h'=>⟨h.1,h.2.1,TS r g h.2.2 h'⟩
theorem Af:∀ f g:Fo,(f.app g).size=f.size+g.size
 | .nil,_=>by simp [Fo.app,Fo.size]
 | .cons _ _ ps r,g=>by simp only [Fo.app,Fo.size];rw [Af r g];omega
def TyZ (i:Nat):l7->Prop
 | .inl ((_,m,qs),j)=>m=0/\zF qs/\qs.size+2+2*i<=2*j
 | .inr _=>True
theorem Jt {T:Nat->l7} {l:List Tok} (hT:∀ i,TyZ i (T i)):∀ (n:Nat) (ps:Fo) (i i0:Nat) (qs:Fo) (j:Nat),zF ps->ps.size+1+2*i0<=2*i->gV T l n ps i=.inl (qs,j)->zF qs/\qs.size+1+2*i0<=2*j
 | 0,ps,i,i0,qs,j,hz,hs,h=>by unfold gV at h;cases h;exact ⟨hz,hs⟩
 | n+1,ps,i,i0,qs,j,hz,hs,h=>by
  unfold gV at h
  split at h
  ·split at h
   ·cases h
   ·have h1:=hT (i+1)
    split at h
    ·cases h
    ·next k m us j' he =>
     rw [he] at h1;obtain ⟨h2,h3,h4⟩:=h1;refine Jt hT n _ j' i0 qs j (TS ps (.cons k m us .nil) hz ⟨h2,h3,trivial⟩) ?_ h;rw [Af];simp only [Fo.size];omega
  ·cases h;exact ⟨hz,hs⟩
theorem TT {l:List Tok} {i0:Nat}:∀ (x:Sum (Fo × Nat) (Nat × Nat)),(∀ qs j,x=.inl (qs,j)->zF qs/\qs.size+1+2*(i0+1)<=2*j)->TyZ i0 (oP l x)
 | .inr e,_=>trivial
 | .inl (ps,i),h=>by
  obtain ⟨h1,h2⟩:=h ps i rfl;unfold oP;simp only
  split
  ·split
   ·next k m qs=>simp only [Fo.size] at h2;exact ⟨h1.1,h1.2.1,by omega⟩
   ·exact ⟨rfl,h1,by omega⟩
  ·trivial
theorem YP (l:List Tok):∀ (f i:Nat),TyZ i (qh l f i)
 | 0,i=>trivial
 | f+1,i=>by
  have ih:=YP l f;have hh:TyZ i (jv (qh l f) l i):=by
   unfold jv
   split
   ·exact ⟨rfl,trivial,by simp [Fo.size];omega⟩
   ·split
    ·exact ⟨rfl,trivial,by simp [Fo.size];omega⟩
    ·split
     ·have h1:=ih (i+1);unfold SG
      split
      ·trivial
      ·next k m qs j he =>
       rw [he] at h1;exact TT _ (fun us j' h=>Jt ih 8 (.cons k m qs .nil) j (i+1) us j' ⟨h1.1,h1.2.1,trivial⟩ (by simp only [Fo.size];have:=h1.2.2;omega) h)
     ·trivial
  unfold qh Fp
  split
  ·trivial
  ·next k m qs j he =>
   rw [he] at hh
   split
   ·have h2:=ih (j+1);unfold BQ
    split
    ·trivial
    ·next k2 m2 qY j2 he2 =>
     rw [he2] at h2;refine ⟨rfl,⟨hh.1,hh.2.1,h2.1,h2.2.1,trivial⟩,?_⟩;have h3:=hh.2.2;have h4:=h2.2.2;simp only [Fo.size];omega
   ·exact hh
def NY (N J:Nat) (h:Nd):Prop:=h.nm.size<=N/\h.tp.size<=2*J/\h.tn=0/\zF h.tp
theorem NY.mono {N J J':Nat} {h:Nd} (k:NY N J h) (hj:J<=J'):NY N J' h:=⟨k.1,by have:=k.2.1;omega,k.2.2.1,k.2.2.2⟩
theorem CQ {G:Nd->Prop}:∀ f g:To,allT G f->allT G g->allT G (f.app g)
 | .nil,_,_,h=>h
 | .cons _ _ r,g,h,h'=>⟨h.1,h.2.1,CQ r g h.2.2 h'⟩
theorem xY (f g:To):(f.app g).size=f.size+g.size:=To.Ju f g
theorem L8 {N J:Nat} {k:Int} {nm:List UInt8} {n:Int} {p:Pt} (h:nm.length<=N):NY N J (nd k nm n p):=⟨by show nm.toArray.size<=N;simpa using h,Nat.zero_le _,rfl,trivial⟩
def YQ (N i:Nat):iU->Prop
 | .inl ((h,ps),_,j)=>NY N j h/\allT (NY N j) ps/\ps.size+2+2*i<=2*j
 | .inr _=>True
theorem TU {E:Nat->iU} {l:List Tok} {N:Nat} (hE:∀ i,YQ N i (E i)):∀ (n:Nat) (ps:To) (i i0:Nat) (qs:To) (j:Nat),allT (NY N i) ps->ps.size+1+2*i0<=2*i->pW E l n ps i=.inl (qs,j)->allT (NY N j) qs/\qs.size+1+2*i0<=2*j
 | 0,ps,i,i0,qs,j,hz,hs,h=>by unfold pW at h;cases h;exact ⟨hz,hs⟩
 | n+1,ps,i,i0,qs,j,hz,hs,h=>by
  unfold pW at h
  split at h
  ·split at h
   ·cases h
   ·have h1:=hE (i+1)
    split at h
    ·cases h
    ·next hd us p j' he =>
     rw [he] at h1;obtain ⟨h2,h3,h4⟩:=h1;refine TU hE n _ j' i0 qs j (CQ ps (.cons hd us .nil) (dR (fun h hh=>hh.mono (by omega)) _ hz) ⟨h2,h3,trivial⟩) ?_ h;rw [xY];simp only [To.size];omega
  ·cases h;exact ⟨hz,hs⟩
theorem Xy {l:List Tok} {i0 N:Nat}:∀ (x:Sum (To × Nat) (Nat × Nat)),(∀ qs j,x=.inl (qs,j)->allT (NY N j) qs/\qs.size+1+2*(i0+1)<=2*j)->YQ N i0 (qj l i0 x)
 | .inr e,_=>trivial
 | .inl (ps,i),h=>by
  obtain ⟨h1,h2⟩:=h ps i rfl;unfold qj;simp only
  split
  ·split
   ·next hd qs=>simp only [To.size] at h2;exact ⟨h1.1.mono (by omega),dR (fun h hh=>hh.mono (by omega)) _ h1.2.1,by omega⟩
   ·exact ⟨L8 (Nat.zero_le _),dR (fun h hh=>hh.mono (by omega)) _ h1,by omega⟩
  ·trivial
theorem NZ {E:Nat->iU} {T:Nat->l7} {l:List Tok} {N:Nat} (hl:∀ t∈l,t.text.length<=N) (hE:∀ i,YQ N i (E i)) (hT:∀ i,TyZ i (T i)) (i:Nat):YQ N i (gy E T l i):=by
 unfold gy
 split
 ·split
  ·trivial
  ·next t ht =>
   have hn:=hl t (List.mem_of_getElem? ht)
   split
   ·exact ⟨L8 hn,trivial,by simp [To.size];omega⟩
   ·split
    ·exact ⟨L8 (Nat.zero_le _),trivial,by simp [To.size];omega⟩
    ·split
     ·exact ⟨L8 (Nat.zero_le _),trivial,by simp [To.size];omega⟩
     ·split
      ·have h1:=hE (i+1);unfold SK
       split
       ·trivial
       ·next hd qs p j he =>
        rw [he] at h1;obtain ⟨h2,h3,h4⟩:=h1
        split
        ·have h5:=hT (j+1);unfold EK
         split
         ·trivial
         ·next k m us j2 he2 =>
          rw [he2] at h5;obtain ⟨h6,h7,h8⟩:=h5
          split
          ·refine ⟨⟨Nat.zero_le _,?_,h6,h7⟩,⟨h2.mono (by omega),dR (fun h hh=>hh.mono (by omega)) _ h3,trivial⟩,?_⟩
           ·show us.size<=_;omega
           ·simp only [To.size];omega
          ·trivial
        ·exact Xy _ (fun us j' h=>TU hE 8 (.cons hd qs .nil) j (i+1) us j' ⟨h2,h3,trivial⟩ (by simp only [To.size];omega) h)
      ·exact ⟨L8 (Nat.zero_le _),trivial,by simp [To.size];omega⟩
 ·trivial
theorem TV {E:Nat->iU} {T:Nat->l7} {l:List Tok} {N:Nat} (hl:∀ t∈l,t.text.length<=N) (hE:∀ i,YQ N i (E i)) (hT:∀ i,TyZ i (T i)) (i0:Nat):∀ (n:Nat) (t:Nd × To) (x:Pt) (i:Nat),(NY N i t.1/\allT (NY N i) t.2/\t.2.size+2+2*i0<=2*i)->YQ N i0 (sO E T l n t x i)
 | 0,t,x,i,h=>h
 | n+1,t,x,i,h=>by
  unfold sO
  split
  ·have h2:=NZ (l:=l) hl hE hT i
   split
   ·trivial
   ·next t2 x2 j he =>
    rw [he] at h2;obtain ⟨h3,h4,h5⟩:=h2;obtain ⟨h6,h7,h8⟩:=h;refine TV hl hE hT i0 n _ _ j ⟨L8 (Nat.zero_le _),⟨h6.mono (by omega),dR (fun h hh=>hh.mono (by omega)) _ h7,h3,h4,trivial⟩,?_⟩
    show (To.cons t.1 t.2 (.cons t2.1 t2.2 .nil)).size+2+2*i0<=2*j
    simp only [To.size];omega
  ·exact h
theorem xZ {E:Nat->iU} {l:List Tok} {N:Nat} (hl:∀ t∈l,t.text.length<=N) (hE:∀ i,YQ N i (E i)) (i0:Nat):∀ (ss:List Stp) (m m':Fm),m.nm.length<=N->allT (NY N m.i) m.ps->m.ps.size+2+2*i0<=2*m.i->gW E l ss m=.inl m'->m'.nm.length<=N/\allT (NY N m'.i) m'.ps/\m'.ps.size+2+2*i0<=2*m'.i
 | [],m,m',hn,hp,hs,h=>by unfold gW at h;cases h;exact ⟨hn,hp,hs⟩
 | .e::r,m,m',hn,hp,hs,h=>by
  unfold gW jS at h;simp only at h;have ht:=hE m.i;cases he:E m.i with
  | inr e=>rw [he] at h;cases h
  | inl x =>
   obtain ⟨⟨hd,qs⟩,p,j⟩:=x;rw [he] at h ht;obtain ⟨h2,h3,h4⟩:=ht;refine xZ hl hE i0 r ⟨m.nm,m.ps.app (.cons hd qs .nil),p,j⟩ m' hn (CQ m.ps (.cons hd qs .nil) (dR (fun h hh=>hh.mono (by show m.i<=j;omega)) _ hp) ⟨h2,h3,trivial⟩) ?_ h
   show (m.ps.app (.cons hd qs .nil)).size+2+2*i0<=2*j
   rw [xY];simp only [To.size];omega
 | .n::r,m,m',hn,hp,hs,h=>by
  unfold gW jS at h;simp only at h
  by_cases hq:oO l m.i=true
  ·rw [if_pos hq] at h;refine xZ hl hE i0 r ⟨txt l m.i,m.ps,m.x,m.i+1⟩ m' ?_ (dR (fun h hh=>hh.mono (by show m.i<=m.i+1;omega)) _ hp) (by show m.ps.size+2+2*i0<=2*(m.i+1);omega) h
   show (txt l m.i).length<=N
   unfold txt
   split
   ·next t ht=>exact hl t (List.mem_of_getElem? ht)
   ·exact Nat.zero_le _
  ·rw [if_neg hq] at h;cases h
 | .s t::r,m,m',hn,hp,hs,h=>by
  unfold gW jS at h;simp only at h
  by_cases hq:(bZ l m.i 3 t || bZ l m.i 4 t)=true
  ·rw [if_pos hq] at h;exact xZ hl hE i0 r ⟨m.nm,m.ps,m.x,m.i+1⟩ m' hn (dR (fun h hh=>hh.mono (by show m.i<=m.i+1;omega)) _ hp) (by show m.ps.size+2+2*i0<=2*(m.i+1);omega) h
  ·rw [if_neg hq] at h;cases h
theorem YR {l:List Tok} {N:Nat} (hl:∀ t∈l,t.text.length<=N):∀ (f i:Nat),YQ N i (zZ l f i)
 | 0,i=>trivial
 | f+1,i=>by
  have ih:=YR (l:=l) hl f;have iT:=fun i=>YP l (f-1) i
  unfold zZ
  split
  ·unfold tK LY
   split
   ·trivial
   ·next m he =>
    have hfr:i+1<=kP l i:=by unfold kP;split<;>omega
    obtain ⟨h1,h2,h3⟩:=xZ hl ih i _ ⟨[],.nil,(0,0),kP l i⟩ m (Nat.zero_le _) trivial (by simp only [To.size];omega) he;exact ⟨L8 h1,h2,by omega⟩
  ·have h2:=NZ (l:=l) hl ih iT i;unfold YG
   split
   ·trivial
   ·next t x j he =>
    rw [he] at h2;exact TV hl ih iT i _ _ _ _ h2
end Pa
end
section
open Go.RowKit Go.Shelf
namespace Sc
def CS (w:World) (o:Option Addr) (l:List ByteArray):Prop:=∀ j s,l[j]?=some s->∃ b off,o=some ⟨b,off,none⟩/\w.cell? ⟨b,off+j,none⟩=some (.string s)
theorem CS.stay {w w':World} {o:Option Addr} {l:List ByteArray} (h:CS w o l) (hq:ah w w'):CS w' o l:=by
 intro j s hs;obtain ⟨b,off,h0,h1⟩:=h j s hs;exact ⟨b,off,h0,hq.at h1⟩
def strs (l:List ByteArray):List Value:=l.map .string
end Sc
end
section
open Go.RowKit Go.Shelf
namespace Sc
theorem iY.str {T:Nat->Prop} {w:World} {o:Option Addr} {n:Nat} {e:List ByteArray} (h:iY T w o n e):CS w o e.reverse:=by
 intro j s hj;have hl:=(List.getElem?_eq_some_iff.1 hj).1;obtain ⟨b,he,_,hc⟩:=h.2.2 (by have:=h.1;simp at hl;omega);exact ⟨b,0,he,by rw [Nat.zero_add];exact hc j s hj⟩
theorem FH {w:World} {b:Nat} (h:w.heap[b]?=some (.cells #[] 9 (0,0))):w.ownsRow 0 9 1 (.slice (some ⟨b,0,none⟩) 0 0) ([]:List ByteArray).length (strs []) :=
 ⟨rfl,.inr ⟨b,0,#[],rfl,Nat.zero_le _,h,Nat.le_refl _,Nat.zero_le _,rfl,rfl⟩⟩
theorem Jv (w : World) (ty : TypeId) (v : Value) (n : Nat) (xs : List Value) (hown : w.ownsRow 0 9 1 v n xs) (hv : v ≠ .slice none 0 0) (o : Option Addr) (c : Nat) :
    (Builtin.append_ #[56,56] ty #[v,.slice o 0 c]).run Tryd.prog w=.ok v w:=by
 rcases hown.2 with ⟨rfl,_⟩ | ⟨g,cap,cur,rfl,_,hg,hc,hm,hs,_⟩
 ·exact absurd rfl hv
 ·obtain ⟨i0,hi,hz0,hz1,hz2⟩:=info_parts mW.info;have hu:=mW.under;cases o<;>simp [Builtin.append_,run_underlying hu,sizeOf,typeInfo,hi,Builtin.lenOf,Builtin.firstCells,loadCells,loadCellsFrom,storeCells,hc]
theorem qK {ops : Array Oper} {o : Oper} {a : Act} {K : Act -> World -> Prop} {Q : Exit -> Act -> World -> Prop} {E : Prop} (W : World)
    (hg:o.guard=none) (s x:Operand) (hop:o.op=Op.call { callee:=Callee.builtin Builtin.append,args:=#[s,x],argTypes:=#[56,56] })
    (v:Value) (xs:List ByteArray) (hs:a.eval s=v) (hown:W.ownsRow 0 9 1 v xs.length (strs xs)) (va:Option Addr) (ys:List ByteArray) (m c:Nat) (hm:m=ys.length) (hx:a.eval x=.slice va m c) (hat:CS W va ys) (hb:xs.length+ys.length<=1000000) (hne:v≠.slice none 0 0)
    (hK:∀ v' w',w'.ownsRow 0 9 1 v' (xs++ys).length (strs (xs++ys))->Fr (fun k=>v.ownBlock=some k) W w'->(∀ g,v'.ownBlock=some g->v.ownBlock=some g∨g=W.heap.size)->v'≠.slice none 0 0->K (a.put o.dst v') w') :
    if Region.wanted o (yielded ops a.tmps)=true then Oper.wp Tryd.prog o a W K Q else E:=by
 subst hm;rw [if_pos (by unfold Region.wanted;rw [hg])]
 by_cases h0:ys=[]
 ·subst h0;have hr:=Jv W o.type v _ _ hown hne va c;unfold Oper.wp execOp;simp only [hop,resolve,invoke,builtin,Sem.run_bind,Sem.run_pure,Result.andThen_ok,List.map_toArray,List.map_cons,List.map_nil,hs,hx,List.length_nil,hr];exact hK v W (by simpa using hown) (Fr.refl _ _) (fun g h=>.inl h) hne
 ·obtain ⟨y,r,rfl⟩:=List.exists_cons_of_ne_nil h0;obtain ⟨b,off,rfl,_⟩:=hat 0 y rfl;obtain ⟨i0,hi,hz0,hz1,hz2⟩:=info_parts mW.info;refine wp_append_lies (P:=Tryd.prog) W s x 56 hop 0 9 i0 (.string ⟨#[]⟩) 1 16 mW.under hi hz0 hz1 hz2 mW.cells mW.pos v xs.length (strs xs) hs hown ⟨b,off,none⟩ (y::r).length c (strs (y::r)) hx (by simp [strs]) ?_ (by unfold strs;intro u hu;obtain ⟨z,_,rfl⟩:=List.mem_map.1 hu;rfl) (by simp) (by unfold maxLen;omega) (by omega) (Nat.zero_le _) _ rfl ?_
  ·intro j u hj;unfold strs at hj;rw [List.getElem?_map] at hj;cases hz:(y::r)[j]? with
   | none=>rw [hz] at hj;cases hj
   | some z =>
    rw [hz] at hj;cases hj;obtain ⟨b',off',he,hc⟩:=hat j z hz;cases he;simpa [Addr.add_lit] using hc
  ·intro g cap w' ho hgr hg' _;refine hK _ w' ?_ (Fr.grown hgr (fun k hk=>hk)) ?_ (by simp)
   ·rw [List.length_append];unfold strs at *;rw [List.map_append];exact ho
   ·intro g2 h2;simp [Value.ownBlock] at h2;subst h2;exact hg'
theorem Hr {W:World} {b:Nat} {n:ByteArray} (h:W.heap[b]?=some (.cells #[.string n] 9 (0,0))):CS W (some ⟨b,0,none⟩) [n]:=by
 intro i x hx;cases i with
 | zero =>
  simp at hx;subst hx;exact ⟨b,0,rfl,by rw [cell_of_row _ _ _ _ _ (0,0) h];rfl⟩
 | succ i=>simp at hx
def L9 (T:Nat->Prop) (w:World) (e:List ByteArray) (x:Ending) (w':World):Prop:=∃ o c,x=.returned (.slice o e.length c)/\iY (fun k=>T k∨w.heap.size<=k) w' o e.length e/\ah w w'
theorem ZK {T : Nat -> Prop} {w w4 : World} {v : Value} {L e : List ByteArray} {nm : ByteArray} (ho : w4.ownsRow 0 9 1 v ([] ++ L ++ [nm]).length (strs ([] ++ L ++ [nm]))) (hr : e.reverse = L) (hg : ∀ g, v.ownBlock = some g -> w.heap.size <= g) (hq : ah w w4) (hz : e.length <= 900000) :
    L9 T w (nm::e) (.returned v) w4:=by
 subst hr;simp only [List.nil_append,List.length_append,List.length_reverse,List.length_cons,List.length_nil,Nat.zero_add] at ho;obtain ⟨g,c,rfl,_,_⟩:=ho.form (by omega);refine ⟨_,c,rfl,?_,hq⟩;have ho':w4.ownsRow 0 9 1 (.slice (some ⟨g,0,none⟩) (e.length+1) c) (e.length+1) (e.reverse.map Value.string++[.string nm]):=by
  have e2:strs (e.reverse++[nm])=e.reverse.map Value.string++[.string nm]:=by simp [strs]
  rw [<-e2];exact ho
 exact iY.G5 (n:=e.length+1) ho' rfl (by unfold maxLen;omega) (.inr (hg g rfl))
theorem Mc (h : Nd) (o1 : Option Addr) (l1 c1 : Nat) (o2 : Option Addr) (l2 c2 : Nat) (i : Nat) (T : Nat -> Prop) (e : List ByteArray) (o : Option Addr) (n c : Nat) (w : World) (hN : iY T w o n e) (hz : n <= 900000) :
    Calls Tryd.prog 19 #[bP h o1 l1 c1 o2 l2 c2,.int .i64 (i:Nat),.slice o n c] w (L9 T w (bW h.k h.nm i e)):=by
 have HN:=hid hN;have e1:((i:Int) == 1)=(i == 1):=by rw [Bool.eq_iff_iff,beq_iff_eq,beq_iff_eq];omega
 obtain ⟨W0,hW0⟩:∃ W0,W0=w.alloc (.cells (cells9 h o1 l1 c1 o2 l2 c2) 30):=⟨_,rfl⟩;have bD:Hid (ah w W0):=by rw [hW0];exact ah.alloc _ _
 have IQ:Hid (∀ W,ah W0 W->dL W w.heap.size 0 h o1 l1 c1 o2 l2 c2):=by
  intro W hq;rw [hW0] at hq;exact PI w h o1 l1 c1 o2 l2 c2 _ W hq
 have nH:Hid (∀ W,ah W0 W->W.cell? ⟨w.heap.size,1,none⟩=some (.string h.nm)):=fun W hq=>(IQ.out W hq).2.1
 have HZ:Hid (W0.heap.size=w.heap.size+1):=by show _=_;rw [hW0];simp
 cases hb:mF h.k i
 case false =>
  have HE:Hid (bW h.k h.nm i e=e):=by show _=_;unfold bW;rw [hb];rfl
  unfold mF at hb;simp only [Bool.or_eq_false_iff] at hb;obtain ⟨⟨h4,h7⟩,h6⟩:=hb;clear hN;rw [HE.out];have Jw:=hid HN.out.1;unfold bP;cases h6k:(h.k == 6)
  ·go_enter Tryd.func19,Tryd.ntmps19;go_upto_region 1 with fail
   rw [<-hW0];clear hW0 h6;obtain ⟨a0,a1,a2,a3,a4,a5,a6,a7,a8⟩:=IQ.out W0 (ah.refl _);go_wp2_with fail;go_ret;exact ⟨o,c,by rw [<-Jw.out];rfl,Jw.out ▸ (HN.out.stay bD.out).fr (Fr.refl (fun _=>False) _) (fun k _ h=>⟨.inl h,fun h=>h⟩),bD.out⟩
  ·rw [h6k] at h6;have h1:(i == 1)=false:=by simpa using h6
   rw [h1] at e1;go_enter Tryd.func19,Tryd.ntmps19;go_upto_region 1 with fail
   rw [<-hW0];clear hW0 h6;obtain ⟨a0,a1,a2,a3,a4,a5,a6,a7,a8⟩:=IQ.out W0 (ah.refl _);go_wp2_with fail;go_ret;exact ⟨o,c,by rw [<-Jw.out];rfl,Jw.out ▸ (HN.out.stay bD.out).fr (Fr.refl (fun _=>False) _) (fun k _ h=>⟨.inl h,fun h=>h⟩),bD.out⟩
 case true =>
  have HE:Hid (bW h.k h.nm i e=h.nm::e):=by show _=_;unfold bW;rw [hb];rfl
  unfold mF at hb;have hc:(h.k == 4)=true∨((h.k == 4)=false/\(h.k == 7)=true)∨((h.k == 4)=false/\(h.k == 7)=false/\(h.k == 6)=true/\(i == 1)=true):=by
   cases h4:(h.k == 4)
   ·cases h7:(h.k == 7)
    ·rw [h4,h7] at hb;simp only [Bool.false_or,Bool.and_eq_true] at hb;exact .inr (.inr ⟨rfl,rfl,hb.1,hb.2⟩)
    ·exact .inr (.inl ⟨rfl,rfl⟩)
   ·exact .inl rfl
  have hlen:=hN.1;have HAT:Hid (CS W0 o e.reverse):=(hN.stay bD.out).str;have hrl:e.reverse.length=n:=by rw [List.length_reverse,hlen]
  rw [HE.out];clear hN hb;generalize hr:e.reverse=L at *;have EH:=hid hr;have HLEN:=hid hlen;clear hr;have abe:=bD.out.size;clear hlen;unfold bP;rcases hc with h4 | ⟨h4,h7⟩ | ⟨h4,h7,h6,h1⟩
  all_goals
   first | rw [h1] at e1 | skip
   go_enter Tryd.func19,Tryd.ntmps19;go_upto_region 1 with fail
   rw [<-hW0];clear hW0;obtain ⟨a0,a1,a2,a3,a4,a5,a6,a7,a8⟩:=IQ.out W0 (ah.refl _);clear a1 a2 a3 a4 a5 a6 a7 a8;go_upto_region 2 with fail
   clear a0;have hqc:=ah.refl W0;have HLO:Hid (w.heap.size<=W0.heap.size):=abe;clear abe;go_region_held3 (fun w'=>w'.cell? ⟨w.heap.size,1,none⟩=some (.string h.nm))
    (((refine nH.out _ ?_);(repeat with_reducible first | exact hqc | exact ah.refl _ | refine jq ?_ | refine jr ?_)))
    (first
     | ((refine qK _ rfl (.tmp 24) (.tmp 25) rfl (.slice (some ⟨W0.heap.size,0,none⟩) 0 0) [] rfl ?hown o L n c hrl.symm rfl ?hat ?hbd ?hne ?_);(case hown=>((refine FH ?_);(repeat (first | ((with_reducible refine lD _ _ _ _ ?hbe);(case hbe=>(simp;done))) | with_reducible refine au (ah.alloc _ _) ?_ | with_reducible refine ig ?_ | fail))));(case hat=>((refine HAT.out.stay ?_);(repeat with_reducible first | exact hqc | exact ah.refl _ | refine jq ?_ | refine jr ?_)));(case hbd=>(simp;omega));(case hne=>simp);intro v3 w3 ho3 hf3 hg3 hn3;(refine tq (w0:=W0) ?hch hf3 ?hlo ?_);(case hch=>(repeat with_reducible first | exact hqc | exact ah.refl _ | refine jq ?_ | refine jr ?_));(case hlo=>(intro k hk;simp [Value.ownBlock] at hk;omega));intro hqc hw3)
     | ((refine qK _ rfl (.tmp 24) (.tmp 25) rfl (.slice (some ⟨W0.heap.size+1,0,none⟩) 0 0) [] rfl ?hown o L n c hrl.symm rfl ?hat ?hbd ?hne ?_);(case hown=>((refine FH ?_);(repeat (first | ((with_reducible refine lD _ _ _ _ ?hbe);(case hbe=>(simp;done))) | with_reducible refine au (ah.alloc _ _) ?_ | with_reducible refine ig ?_ | fail))));(case hat=>((refine HAT.out.stay ?_);(repeat with_reducible first | exact hqc | exact ah.refl _ | refine jq ?_ | refine jr ?_)));(case hbd=>(simp;omega));(case hne=>simp);intro v3 w3 ho3 hf3 hg3 hn3;(refine tq (w0:=W0) ?hch hf3 ?hlo ?_);(case hch=>(repeat with_reducible first | exact hqc | exact ah.refl _ | refine jq ?_ | refine jr ?_));(case hlo=>(intro k hk;simp [Value.ownBlock] at hk;omega));intro hqc hw3)
     | ((refine qK _ rfl (.tmp 26) (.tmp 29) rfl v3 ([]++L) rfl ?hown (some ⟨W0.heap.size,0,none⟩) [h.nm] 1 1 rfl rfl ?hat ?hbd hn3 ?_);(case hown=>(first | with_reducible exact ho3 | with_reducible exact ho3.alloc _ | fail));(case hat=>((refine Hr ?_);(repeat (first | ((with_reducible refine lD _ _ _ _ ?hbe);(case hbe=>(simp;done))) | with_reducible refine au (ah.alloc _ _) ?_ | with_reducible refine ig ?_ | ((with_reducible refine aC hf3 ?Qa ?_);(case Qa=>(simp [Value.ownBlock];done))) | ((with_reducible refine aC hf3 ?Qa ?_);(case Qa=>(simp [Value.ownBlock];omega))) | fail))));(case hbd=>(simp;omega));intro v4 w4 nM hf4 hg4 hn4;(refine tq (w0:=W0) ?hch hf4 ?hlo ?_);(case hch=>(repeat with_reducible first | exact hqc | exact ah.refl _ | refine jq ?_ | refine jr ?_));(case hlo=>(intro k hk;rcases hg3 k hk with h | h;(simp [Value.ownBlock] at h;omega);(simp at h;omega)));intro hqc hw4)
     | ((refine qK _ rfl (.tmp 26) (.tmp 29) rfl v3 ([]++L) rfl ?hown (some ⟨W0.heap.size+1,0,none⟩) [h.nm] 1 1 rfl rfl ?hat ?hbd hn3 ?_);(case hown=>(first | with_reducible exact ho3 | with_reducible exact ho3.alloc _ | fail));(case hat=>((refine Hr ?_);(repeat (first | ((with_reducible refine lD _ _ _ _ ?hbe);(case hbe=>(simp;done))) | with_reducible refine au (ah.alloc _ _) ?_ | with_reducible refine ig ?_ | ((with_reducible refine aC hf3 ?Qa ?_);(case Qa=>(simp [Value.ownBlock];done))) | ((with_reducible refine aC hf3 ?Qa ?_);(case Qa=>(simp [Value.ownBlock];omega))) | fail))));(case hbd=>(simp;omega));intro v4 w4 nM hf4 hg4 hn4;(refine tq (w0:=W0) ?hch hf4 ?hlo ?_);(case hch=>(repeat with_reducible first | exact hqc | exact ah.refl _ | refine jq ?_ | refine jr ?_));(case hlo=>(intro k hk;rcases hg3 k hk with h | h;(simp [Value.ownBlock] at h;omega);(simp at h;omega)));intro hqc hw4)
     | ((refine qK _ rfl (.tmp 26) (.tmp 29) rfl v3 ([]++L) rfl ?hown (some ⟨w3.heap.size,0,none⟩) [h.nm] 1 1 rfl rfl ?hat ?hbd hn3 ?_);(case hown=>(first | with_reducible exact ho3 | with_reducible exact ho3.alloc _ | fail));(case hat=>((refine Hr ?_);(repeat (first | ((with_reducible refine lD _ _ _ _ ?hbe);(case hbe=>(simp;done))) | with_reducible refine au (ah.alloc _ _) ?_ | with_reducible refine ig ?_ | ((with_reducible refine aC hf3 ?Qa ?_);(case Qa=>(simp [Value.ownBlock];done))) | ((with_reducible refine aC hf3 ?Qa ?_);(case Qa=>(simp [Value.ownBlock];omega))) | fail))));(case hbd=>(simp;omega));intro v4 w4 nM hf4 hg4 hn4;(refine tq (w0:=W0) ?hch hf4 ?hlo ?_);(case hch=>(repeat with_reducible first | exact hqc | exact ah.refl _ | refine jq ?_ | refine jr ?_));(case hlo=>(intro k hk;rcases hg3 k hk with h | h;(simp [Value.ownBlock] at h;omega);(simp at h;omega)));intro hqc hw4)
     | fail)
   all_goals
    go_wp2_with fail;go_ret;have hl0:=HLO.out;exact ZK nM EH.out (fun g hg=>by
     rcases hg4 g hg with h | h
     ·rcases hg3 g h with h | h
      ·simp [Value.ownBlock] at h;omega
      ·first | omega | (simp at h;omega)
     ·first | omega | (simp at h;omega)) (bD.out.trans hqc) (by have:=HLEN.out;omega)
end Sc
end
section
open Go.RowKit
namespace Sc
theorem TW {w0 W w3:World} {S:Nat->Prop} {G:Prop} (h:ah w0 W) (hf:Fr S W w3) (k:Fr S w0 w3->G):G:=k ((ah.fr h).trans hf)
theorem CU (B:Nat) (W:World):gY B W none 0 [] []:=⟨World.ownsRow_nil _ _ _ _,rfl,fun k hk=>(by cases hk)⟩
theorem Ht {B:Nat} {W W':World} {o:Option Addr} {c:Nat} {l:List Nd} {xs:List Value} {S:Nat->Prop} (h:gY B W o c l xs) (hf:Fr S W W') (hS:∀ k,(Value.slice o l.length c).ownBlock=some k->¬ S k):gY B W' o c l xs :=
 ⟨aU h.1 hf hS,h.2⟩
theorem CV {B B':Nat} {W:World} {o:Option Addr} {c:Nat} {l:List Nd} {xs:List Value} (h:gY B W o c l xs) (hB:B'<=B):gY B' W o c l xs :=
 ⟨h.1,h.2.1,fun k hk=>Nat.le_trans hB (h.2.2 k hk)⟩
theorem Md {B:Nat} {W:World} {o:Option Addr} {c:Nat} {l:List Nd} {xs:List Value} (h:gY B W o c l xs):∀ j u,xs[j]?=some u->∃ a,o=some a/\W.cell? (a.add j)=some u:=by
 intro j u hu;rcases h.1.2 with ⟨_,h2⟩ | ⟨g,cap',cur,he,_⟩
 ·have hx:=h.2.1;rw [List.length_eq_zero_iff.1 h2] at hx;have:xs=[]:=hx;subst this;simp at hu
 ·injection he with h1 h2 h3
  subst h1;exact ⟨_,rfl,h.1.cells rfl j u hu⟩
theorem Qb {ops : Array Oper} {op : Oper} {a : Act} {K : Act -> World -> Prop} {Q : Exit -> Act -> World -> Prop} {E : Prop} (W : World) (hg : op.guard = none) (s x : Operand)
    (hop:op.op=Op.call { callee:=Callee.builtin Builtin.append,args:=#[s,x],argTypes:=#[26,26] }) {B:Nat} {Wb:World}
    (o:Option Addr) (n c:Nat) (l:List Nd) (xs:List Value) (hs:a.eval s=.slice o n c) (hln:l.length=n) (hrow:gY B W o c l xs) (q:Option Addr) (m d:Nat) (l':List Nd) (ys:List Value) (hx:a.eval x=.slice q m d) (hlm:l'.length=m) (hrow2:gY 0 W q d l' ys)
    (hq:ah Wb W) (hB:B<=Wb.heap.size) (hb:n+m<=1000000)
    (hK:∀ o3 c3 w3,gY B w3 o3 c3 (l++l') (xs++ys)->Fr (fun k=>(Value.slice o n c).ownBlock=some k) W w3->K (a.put op.dst (.slice o3 (n+m) c3)) w3) :
    if Region.wanted op (yielded ops a.tmps)=true then Oper.wp Tryd.prog op a W K Q else E:=by
 subst hln;subst hlm;refine aI W hg s x 26 hop 30 _ 9 112 sZ (.slice o l.length c) l.length xs hs hrow.1 q l'.length d ys hx hrow2.1.1 (Md hrow2) (rE.one _ _ hrow2.2.1) (by unfold maxLen;omega) (by omega) ?_;intro o3 c3 w3 ho hf hob hnil;refine hK o3 c3 w3 ⟨by rw [List.length_append];exact ho,rE.app _ _ _ _ hrow.2.1 hrow2.2.1,?_⟩ hf;rw [List.length_append];intro k hk;have hz:=hq.size;rcases hob with h | h
 ·exact hrow.2.2 k (by rw [<-h];exact hk)
 ·rw [h] at hk;cases hk;omega
end Sc
end
section
namespace Sc
def Me (k:Int):Bool:=k == 1 || YS k
def okF:To->Prop
 | .nil=>True
 | .cons h ps r=>(h.k=1->ps=.nil)/\(Me h.k=false->h.nm=ByteArray.empty)/\okF ps/\okF r
end Sc
end
section
namespace Sc
section
variable (ok:ByteArray->Bool)
end
def lM:Int->ByteArray->Nat->List ByteArray->To->List Nd
 | _,_,_,_,.nil=>[]
 | bk,nm,i,e,.cons h ps r=>(if h.k=1 then (if ix (bW bk nm i e) h.nm < 0 then [h] else []) else lM h.k h.nm 0 (bW bk nm i e) ps)++lM bk nm (i+1) e r
def bM (e:List ByteArray) (h:Nd) (ps:To):List Nd:=if h.k=1 then (if ix e h.nm < 0 then [h] else []) else lM h.k h.nm 0 e ps
theorem oV (bk:Int) (nm:ByteArray) (i:Nat) (e:List ByteArray) (h:Nd) (ps r:To):lM bk nm i e (.cons h ps r)=bM (bW bk nm i e) h ps++lM bk nm (i+1) e r:=rfl
def Qc (s:List Nd) (x:Nd) (e:List ByteArray):List Nd:=if ix e x.nm < 0 then s++[x] else s
theorem Hu (out:Nd->List ByteArray->Nd):∀ (f:To) (bk:Int) (nm:ByteArray) (i:Nat) (s:List Nd) (e:List ByteArray),(wk Qc out bk nm i s e f).1=s++lM bk nm i e f
 | .nil,_,_,_,s,_=>by simp [wk,lM]
 | .cons h ps r,bk,nm,i,s,e=>by
  rw [N7,oV];simp only;rw [Hu out r];unfold AP bM
  by_cases h1:h.k=1
  ·simp only [if_pos h1];unfold Qc
   split<;>simp
  ·simp only [if_neg h1];rw [Hu out ps];simp
theorem TY (out:Nd->List ByteArray->Nd) (s:List Nd) (e:List ByteArray) (h:Nd) (ps:To):(AP Qc out s e h ps).1=s++bM e h ps:=by
 unfold AP bM
 by_cases h1:h.k=1
 ·simp only [if_pos h1];unfold Qc;split<;>simp
 ·simp only [if_neg h1];rw [Hu out ps]
end Sc
end
section
open Go.RowKit Go.Shelf
namespace Sc
def vU (h:Nd) (ps:To):Prop:=h.k=1->ps=.nil
def CW:To->Prop
 | .nil=>True
 | .cons h ps r=>vU h ps/\CW ps/\CW r
theorem CX:∀ (f:To) (i:Nat) (h:Nd) (ps:To),CW f->f.get i=some (h,ps)->vU h ps/\CW ps
 | .nil,i,h,ps,_,e=>by simp [To.get] at e
 | .cons h ps r,0,h',ps',hw,e=>by
  simp [To.get] at e;obtain ⟨rfl,rfl⟩:=e;exact ⟨hw.1,hw.2.1⟩
 | .cons h ps r,i+1,h',ps',hw,e=>CX r i h' ps' hw.2.2 e
theorem yc:∀ f:To,okF f->CW f
 | .nil,_=>trivial
 | .cons _ ps r,hw=>⟨hw.1,yc ps hw.2.2.1,yc r hw.2.2.2⟩
theorem Qd {e:List ByteArray} {h:Nd} {ps:To} (hk:h.k=1):bM e h ps=if ix e h.nm < 0 then [h] else []:=by unfold bM;rw [if_pos hk]
theorem Ua {e:List ByteArray} {h:Nd} {ps:To} (hk:¬ h.k=1):bM e h ps=lM h.k h.nm 0 e ps:=by unfold bM;rw [if_neg hk]
theorem yg:∀ (f:To) (bk:Int) (nm:ByteArray) (i:Nat) (e:List ByteArray),(lM bk nm i e f).length<=f.size
 | .nil,_,_,_,_=>Nat.zero_le _
 | .cons h ps r,bk,nm,i,e=>by
  have h1:=yg ps h.k h.nm 0 (bW bk nm i e);have h2:=yg r bk nm (i+1) e;rw [oV,List.length_append];simp only [To.size];unfold bM
  split
  ·split
   ·simp;omega
   ·simp;omega
  ·omega
theorem FI (e:List ByteArray) (h:Nd) (ps:To):(bM e h ps).length<=ps.size+1:=by
 have:=yg (.cons h ps .nil) 0 ByteArray.empty 0 e;rw [oV] at this;simp only [To.size,List.length_append] at this;have he:bW 0 ByteArray.empty 0 e=e:=by unfold bW mF;simp
 rw [he] at this;simp [lM] at this;omega
def Ub (h:Nd) (ps:To):Prop:=∀ (w:World) (R T:Nat->Prop) (o1:Option Addr) (l1 c1:Nat) (o2:Option Addr) (l2 c2:Nat) (no:Option Addr) (nn nc:Nat) (e:List ByteArray),bC R w o2 l2 ps->iY T w no nn e->nn+ps.size<=200000->vU h ps->CW ps ->
 Calls Tryd.prog 7 #[bP h o1 l1 c1 o2 l2 c2,.slice no nn nc] w (Ad w (bM e h ps))
theorem Jy (h:Nd) (ps:To):Ub h ps:=by
 refine To.uY (T:=Ub) ?_ h ps;intro h ps ih w R T o1 l1 c1 o2 l2 c2 no nn nc e hs hN hsz hv hav;have HS:=hid hs;have IH:=hid ih;have HN:=hid hN;have HAV:=hid hav;have hl:=hs.1;have hll:=To.length_le ps;rw [<-hl] at hll;have HL:=hid hl;obtain ⟨W0,hW0⟩:∃ W0,W0=w.alloc (.cells (cells9 h o1 l1 c1 o2 l2 c2) 30):=⟨_,rfl⟩;have HB:Hid (∀ W,ah W0 W->dL W w.heap.size 0 h o1 l1 c1 o2 l2 c2):=by
  intro W hq;rw [hW0] at hq;exact PI w h o1 l1 c1 o2 l2 c2 _ W hq
 have bD:Hid (ah w W0):=by rw [hW0];exact ah.alloc _ _
 have HZ:Hid (W0.heap.size=w.heap.size+1):=by show _=_;rw [hW0];simp
 have HI:=hid (G6 T e h.nm no nn nc W0 (hN.stay bD.out) (by omega));have Jw:=hid hN.1;clear hs ih hl hN hav;unfold bP
 by_cases hk:h.k=1
 ·have hk':(h.k == 1)=true:=by simp [hk]
  have hps:ps=.nil:=hv hk;rw [Qd hk];have yS:Hid (l2=0):=by have:=HL.out;rw [hps] at this;exact this
  clear hk hps hv;generalize ix e h.nm=r at *
  by_cases hx:r < 0
  ·rw [if_pos hx];go_enter Tryd.func7,Tryd.ntmps7;go_upto_region 1 with fail
   rw [<-hW0];clear hW0;obtain ⟨a0,a1,a2,a3,a4,a5,a6,a7,a8⟩:=HB.out W0 (ah.refl _);have hz0:=HZ.out;obtain ⟨W1,hW1⟩:∃ W1,W1=W0.alloc (.cells (cells9 h o1 l1 c1 o2 l2 c2) 30):=⟨_,rfl⟩;have hnew:=heap_alloc_new W0 (.cells (cells9 h o1 l1 c1 o2 l2 c2) 30);rw [<-hW1] at hnew;have fD:Hid (ah W0 W1):=by rw [hW1];exact ah.alloc _ _
   have kZ:Hid (gY w.heap.size W1 (some ⟨W0.heap.size,0,none⟩) 1 [h] (cells9 h o1 l1 c1 o2 l2 c2).toList):=by
    refine ⟨⟨rfl,.inr ⟨W0.heap.size,1,cells9 h o1 l1 c1 o2 l2 c2,rfl,Nat.zero_le _,hnew,Nat.le_refl _,by decide,rfl,rfl⟩⟩,?_,?_⟩
    ·exact ⟨o1,l1,c1,o2,l2,c2,[],by simp,rfl⟩
    ·intro k hk;simp [Value.ownBlock] at hk;omega
   clear hnew hz0;go_wp2_with fail;refine HI.out.mono ?_;rintro x w2 ⟨rfl,rfl⟩;go_wp2_with fail;go_ret;change Ad _ _ _ (W0.alloc (.cells (cells9 h o1 l1 c1 o2 l2 c2) 30));rw [<-hW1];exact ⟨_,1,_,rfl,kZ.out,bD.out.trans fD.out⟩
  ·rw [if_neg hx];go_enter Tryd.func7,Tryd.ntmps7;go_upto_region 1 with fail
   rw [<-hW0];clear hW0;obtain ⟨a0,a1,a2,a3,a4,a5,a6,a7,a8⟩:=HB.out W0 (ah.refl _);go_wp2_with fail;refine HI.out.mono ?_;rintro x w2 ⟨rfl,rfl⟩;go_wp2_with fail;go_loopw [5,6] (fun s t wr=>s=.slice none 0 0/\t=.int .i64 0/\wr=W0) (fun _ t _=>0)
   case atStart=>exact ⟨rfl,rfl,rfl⟩
   case round =>
    obtain ⟨rfl,rfl,rfl⟩:=hrel;have h0:=yS.out;subst h0;go_wp2_with fail;go_ret;exact ⟨none,0,[],rfl,CU _ _,bD.out⟩
 ·have hk':(h.k == 1)=false:=by simp [hk]
  rw [Ua hk];obtain ⟨RES,hres⟩:∃ RES,RES=lM h.k h.nm 0 e ps:=⟨_,rfl⟩;have aQ:=hid hres;rw [<-hres];have hlen:=yg ps h.k h.nm 0 e;rw [<-hres] at hlen;clear hres hv;go_enter Tryd.func7,Tryd.ntmps7;go_upto_region 1 with fail
  rw [<-hW0];clear hW0;generalize hnb:w.heap.size=nb at *;have yM:=hid hnb;clear hnb;obtain ⟨a0,a1,a2,a3,a4,a5,a6,a7,a8⟩:=HB.out W0 (ah.refl _);go_wp2_with fail;clear a0 a1 a2 a3 a4 a5 a6 a7 a8;go_loopw [5,6] (fun s t wr=>∃ (i n c:Nat) (o:Option Addr) (l:List Nd) (xs:List Value),t=.int .i64 i/\s=.slice o n c/\i<=l2/\l.length=n/\l++lM h.k h.nm i e (ps.drop i)=RES/\gY (nb+1) wr o c l xs/\ah W0 wr) (fun _ t _=>l2-(intOf t).toNat)
  case atStart=>exact ⟨0,0,0,none,[],[],rfl,rfl,Nat.zero_le _,rfl,by rw [To.drop_zero,aQ.out];rfl,CU _ _,ah.refl _⟩
  case round =>
   obtain ⟨i,n,c,o,l,xs,rfl,rfl,hi,hln,hn,hrow,hq⟩:=hrel;have hnz:n<=200000:=by
    have:=congrArg List.length hn;simp only [List.length_append] at this;omega
   have qX:=hid hln;have HNN:=hid hn;have HR:=hid hrow;have HQ:=hid hq;obtain ⟨a0,a1,a2,a3,a4,a5,a6,a7,a8⟩:=HB.out wr hq;clear hn hrow hq hln
   by_cases hlt:i < l2
   ·have hlt':(i:Int) < l2:=by omega
    obtain ⟨b,off,hd,qs,p1,m1,d1,p2,m2,d2,rfl,hd1,hg,hRb,KP,hs1,ht1⟩:=(HS.out).nth hlt;have hblt:=KP.lt;have ZL:=bD.out.trans HQ.out;have Jf:=To.dG ps i hd qs hg;have hvq:=CX ps i hd qs HAV.out hg;have ZM:Hid (∀ W,ah wr W->(qV W nb h o1 l1 c1 (some ⟨b,off,none⟩) l2 c2)/\(ES W b (off+i*9) hd p1 m1 d1 p2 m2 d2)):=fun W hq=>⟨HB.out W (HQ.out.trans hq),KP.fr (ZL.trans hq) (fun h=>h)⟩
    have HKF:Hid (∀ W,Fr (fun k=>(Value.slice o n c).ownBlock=some k) wr W->(qV W nb h o1 l1 c1 (some ⟨b,off,none⟩) l2 c2)/\(ES W b (off+i*9) hd p1 m1 d1 p2 m2 d2)):=fun W hf=>⟨(HB.out wr HQ.out).fr hf (fun hk=>by have:=HR.out.2.2 _ (by rw [qX.out];exact hk);omega),(KP.fr ZL (fun h=>h)).fr hf (fun hk=>by have:=HR.out.2.2 _ (by rw [qX.out];exact hk);have:=yM.out;omega)⟩
    have Jz:Hid (∀ W,ah wr W->Calls Tryd.prog 19 #[bP h o1 l1 c1 (some ⟨b,off,none⟩) l2 c2,.int .i64 (i:Nat),.slice no nn nc] W (L9 T W (bW h.k h.nm i e))):=fun W hq=>Mc h o1 l1 c1 _ l2 c2 i T e no nn nc W (HN.out.stay (bD.out.trans (HQ.out.trans hq))) (by omega)
    have henv:(bW h.k h.nm i e).length<=nn+1:=by have:=Jw.out;unfold bW;split<;>simp<;>omega
    have AO:Hid (∀ (W:World) (T:Nat->Prop) (no:Option Addr) (nc:Nat),iY T W no (bW h.k h.nm i e).length (bW h.k h.nm i e)->ah wr W->Calls Tryd.prog 7 #[bP hd p1 m1 d1 p2 m2 d2,.slice no (bW h.k h.nm i e).length nc] W (Ad W (bM (bW h.k h.nm i e) hd qs))):=fun W T no nc hN hq=>IH.out i hd qs hg W R T p1 m1 d1 p2 m2 d2 no _ nc _ (ht1.stay (ZL.trans hq)) hN (by omega) hvq.1 hvq.2
    have HD:Hid ((l++bM (bW h.k h.nm i e) hd qs)++lM h.k h.nm (i+1) e (ps.drop (i+1))=RES):=by
     have:=HNN.out;rw [hd1,oV] at this;show _=_;rw [<-this,List.append_assoc]
    have hql:=FI (bW h.k h.nm i e) hd qs;have HZ2:Hid (nb+1<=wr.heap.size):=by have:=HQ.out.size;have:=HZ.out;show _<=_;omega
    unfold bP at Jz AO;generalize bW h.k h.nm i e=E at *;generalize bM E hd qs=l' at *;have hbd:n+l'.length<=1000000:=by omega
    clear hd1 hg hs1 ht1 Jf hRb hvq KP henv hql;go_upto_region 7 with fail
    clear a0 a1 a2 a3 a4 a5 a6 a7 a8;have hqc:=ah.refl wr;go_region_held3 (fun W=>(W.cell? ⟨nb,0,none⟩=some (.int .i64 h.k)/\W.cell? ⟨nb,1,none⟩=some (.string h.nm)/\W.cell? ⟨nb,2,none⟩=some (.int .i64 h.n)/\W.cell? ⟨nb,3,none⟩=some (.int .i64 h.tk)/\W.cell? ⟨nb,4,none⟩=some (.int .i64 h.tn)/\W.cell? ⟨nb,5,none⟩=some (.slice o1 l1 c1)/\W.cell? ⟨nb,6,none⟩=some (.slice (some ⟨b,off,none⟩) l2 c2)/\W.cell? ⟨nb,7,none⟩=some (.int .i64 h.fr)/\W.cell? ⟨nb,8,none⟩=some (.int .i64 h.en))/\(W.cell? ⟨b,off+i*9,none⟩=some (.int .i64 hd.k)/\W.cell? ⟨b,off+i*9+1,none⟩=some (.string hd.nm)/\W.cell? ⟨b,off+i*9+2,none⟩=some (.int .i64 hd.n)/\W.cell? ⟨b,off+i*9+3,none⟩=some (.int .i64 hd.tk)/\W.cell? ⟨b,off+i*9+4,none⟩=some (.int .i64 hd.tn)/\W.cell? ⟨b,off+i*9+5,none⟩=some (.slice p1 m1 d1)/\W.cell? ⟨b,off+i*9+6,none⟩=some (.slice p2 m2 d2)/\W.cell? ⟨b,off+i*9+7,none⟩=some (.int .i64 hd.fr)/\W.cell? ⟨b,off+i*9+8,none⟩=some (.int .i64 hd.en)))
     (first | ((refine HKF.out _ ?_);exact dU) | ((refine ZM.out _ ?_);(repeat with_reducible first | exact hqc | exact ah.refl _ | refine jq ?_ | refine jr ?_)))
     (first
      | (go_at_call 19;(with_reducible refine Calls.mono (Jz.out _ ?hq) ?_);(case hq=>(repeat with_reducible first | exact hqc | exact ah.refl _ | refine jq ?_ | refine jr ?_));rintro e wx ⟨no2,nc2,rfl,hn1,fJ⟩;(refine nK (w0:=wr) ?hq2 fJ ?_);(case hq2=>(repeat with_reducible first | exact hqc | exact ah.refl _ | refine jq ?_ | refine jr ?_));intro hqc)
      | ((go_at_call 7;(with_reducible refine Calls.mono (AO.out _ _ _ _ (hn1.stay ?hq3) ?hq) ?_));(case hq3=>(repeat with_reducible first | exact ah.refl _ | refine jq ?_ | refine jr ?_));(case hq=>(repeat with_reducible first | exact hqc | exact ah.refl _ | refine jq ?_ | refine jr ?_));rintro e wx ⟨fo,fc,ys,rfl,hrow,fJ⟩;(refine nK (w0:=wr) ?hq2 fJ ?_);(case hq2=>(repeat with_reducible first | exact hqc | exact ah.refl _ | refine jq ?_ | refine jr ?_));intro hqc)
      | ((refine Qb _ rfl (.tmp 26) (.tmp 36) rfl o n c l xs rfl qX.out ?hown fo l'.length fc l' ys rfl rfl ?hrow2 (Wb:=wr) ?hch HZ2.out hbd ?_);(case hown=>((refine gY.stay HR.out ?_);(repeat with_reducible first | exact hqc | exact ah.refl _ | refine jq ?_ | refine jr ?_)));(case hrow2=>((refine gY.stay (CV hrow (Nat.zero_le _)) ?_);(repeat with_reducible first | exact ah.refl _ | refine jq ?_ | refine jr ?_)));(case hch=>(repeat with_reducible first | exact hqc | exact ah.refl _ | refine jq ?_ | refine jr ?_));intro o3 c3 w3 hr3 hf3;(refine TW (w0:=wr) ?ac2 hf3 ?_);(case ac2=>(repeat with_reducible first | exact hqc | exact ah.refl _ | refine jq ?_ | refine jr ?_));intro dU)
      | fail)
    all_goals
     have HR3:=hid hr3;have qI:Hid (ah W0 w3):=Fr.trans' HQ.out dU (fun k hk hs=>by have:=HR.out.2.2 k (by rw [qX.out];exact hs);have:=HZ.out;omega);have rF:Hid ((l++l').length=n+l'.length):=by show _=_;rw [List.length_append,qX.out]
     clear hr3 hf3 dU hqc fJ;go_wp2_with fail;go_roundw
     case rel=>exact ⟨i+1,n+l'.length,c3,o3,_,xs++ys,by go_num,rfl,by omega,rF.out,HD.out,HR3.out,qI.out⟩
     case measure=>simp [intOf];omega
   ·have hlt':¬ (i:Int) < l2:=by omega
    have HE:Hid (l=RES):=by
     have:=HNN.out;rw [To.drop_end ps i (by have:=HL.out;omega)] at this
     show _=_
     simpa [lM] using this
    go_wp2_with fail;go_ret;rw [<-HE.out];refine ⟨o,c,xs,by rw [qX.out];rfl,?_,bD.out.trans HQ.out⟩;rw [yM.out];exact CV HR.out (by omega)
end Sc
end
end Go.Proofs.YtcninopmelmajaaDoor
