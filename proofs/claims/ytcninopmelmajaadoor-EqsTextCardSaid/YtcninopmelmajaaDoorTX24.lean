/-
  Texts laid together (ScWalk0, ScWalk): laws and walks, with their conditions.
-/
import Derived.Test.YtcninopmelmajaaDoorTX12
import Derived.Test.YtcninopmelmajaaDoorTX23
set_option maxHeartbeats 8000000
set_option maxRecDepth 1000000
namespace Go.Proofs.YtcninopmelmajaaDoor
open Go.Lib (hid)
section
open Go.RowKit Go.Shelf
namespace Sc
theorem uP {w:World} {base:Nat} {e:TypeId} {size:Nat} {o:Option Addr} {n c:Nat} {xs:List Value} (h:w.ownsRow base e size (.slice o n c) n xs):n<=c:=by
 rcases h.2 with ⟨h1,h0⟩ | ⟨g,cap,cur,he,_,_,hc,_⟩
 ·omega
 ·injection he with _ _ h3;omega
theorem FK {ops : Array Oper} {op : Oper} {a : Act} {K : Act -> World -> Prop} {Q : Exit -> Act -> World -> Prop} {E : Prop} (W : World) (hg : op.guard = none) (s x : Operand)
    (hop:op.op=Op.call { callee:=Callee.builtin Builtin.append,args:=#[s,x],argTypes:=#[56,56] }) {T:Nat->Prop} {ao:Option Addr} {n:Nat} {e:List ByteArray} (hN:iY T W ao n e) (str:ByteArray) (H:Nat)
    (hs:a.eval s=.slice ao n n) (hx:a.eval x=.slice (some ⟨H,0,none⟩) 1 1) (hH:W.heap[H]?=some (.cells #[.string str] 9 (0,0))) (b1:n+1<=1000000) {Wb:World} (pX:ah Wb W)
    (hK:∀ g c w',iY (fun k=>Wb.heap.size<=k) w' (some ⟨g,0,none⟩) (n+1) (str::e)->n+1<=c->ah W w'->K (a.put op.dst (.slice (some ⟨g,0,none⟩) (n+1) c)) w') :
    if Region.wanted op (yielded ops a.tmps)=true then Oper.wp Tryd.prog op a W K Q else E:=by
 obtain ⟨i0,hi,hz0,hz1,hz2⟩:=info_parts mW.info;refine step_append_grows hg s x 56 hop 9 i0 (.string ⟨#[]⟩) 1 16 mW.under hi hz0 hz1 hz2 mW.cells mW.pos ao n n (e.reverse.map Value.string) hs
  (fun h=>by subst h;exact ⟨hN.none,hN.none⟩) (by simp [hN.1]) (Je hN) ⟨H,0,none⟩ 1 1 [.string str] hx rfl ?_ (by simp [Value.oneCell']) (by omega) (by unfold maxLen;omega) (by omega) ?_
 ·intro j u hu;rw [Addr.add_lit,cell_of_row W H (0+j) #[.string str] 9 (0,0) hH];simpa using hu
 ·intro v' w' hown hgr;obtain ⟨g,c,rfl,hb,_⟩:=hown.form (by omega);exact hK g c w' (iY.G5 hown (by rw [hN.1]) (by unfold maxLen;omega) (Nat.le_trans pX.size hb)) (uP hown) (Fr.grown hgr (fun k hk=>by cases hk))
theorem Qe {T Dn S : Nat -> Prop} {W W1 w1 : World} {B : Nat} {v : Value} {f : To} {xs : List Value} {E : Nat -> Nat -> Prop} {h : Nd} {ps : To} {o1 : Option Addr} {l1 c1 : Nat} {o2 : Option Addr} {l2 c2 g c : Nat} (hr : iq T W B v f xs E) (hB : B <= W.heap.size)
    (hf0:Fr S W W1) (hS:∀ k,S k->¬ T k/\(∀ j,¬ E j k)/\v.ownBlock≠some k) (hs:aB T W1 o1 l1 h.tp) (ht:TO T W1 Dn o2 l2 ps) (hDn:∀ k,Dn k->W.heap.size<=k/\k < W1.heap.size)
    (ho:w1.ownsRow 0 30 9 (.slice (some ⟨g,0,none⟩) (f.length+1) c) (f.length+1) (xs++(cells9 h o1 l1 c1 o2 l2 c2).toList)) (hf:Fr (fun k=>v.ownBlock=some k) W1 w1) (hg:v.ownBlock=some g∨W1.heap.size<=g) :
    iq T w1 B (.slice (some ⟨g,0,none⟩) (f.length+1) c) (f.app (.cons h ps .nil)) (xs++(cells9 h o1 l1 c1 o2 l2 c2).toList) (fun j k=>(j < f.length/\E j k)∨(j=f.length/\Dn k)):=by
 have hz:=hf0.size;have hz1:=hf.size;have hvl:∀ k,v.ownBlock=some k->k < W.heap.size:=fun k hk=>(hr.own.lt k hk).2
 have hv:∀ k,v.ownBlock=some k->¬ T k:=fun k hk hh=>(hr.low k hk).2 hh
 have Zh:∀ k,T k->¬ Dn k:=fun k hk hd=>by have:=hr.old k hk;have:=hDn k hd;omega
 refine ⟨by rw [To.bJ];exact ho,?_,?_,?_,?_,?_⟩
 ·intro k hk;simp [Value.ownBlock] at hk;subst hk;rcases hg with h | h
  ·exact ⟨(hr.low g h).1,hv g h⟩
  ·exact ⟨by omega,fun hh=>by have:=hr.old g hh;omega⟩
 ·refine oN.fr hf (fun k _ hk=>⟨hk,fun h=>hv k h hk⟩) _ _ _ (oN.snoc hs ht f E xs (oN.fr hf0 (fun k _ hk=>⟨hk,fun h=>(hS k h).1 hk⟩) f E xs hr.cells (fun j k hk h=>(hS k h).2.1 j hk))) ?_;rintro j k (⟨_,hk⟩ | ⟨_,hk⟩) h
  ·exact (hr.sep j k hk).2.2.1 h
  ·have:=hvl k h;have:=hDn k hk;omega
 ·rintro j k (⟨_,hk⟩ | ⟨_,hk⟩)
  ·have h1:=hr.sep j k hk;refine ⟨h1.1,by omega,fun h=>?_,h1.2.2.2⟩;simp [Value.ownBlock] at h;subst h;rcases hg with h | h
   ·exact h1.2.2.1 h
   ·omega
  ·have h1:=hDn k hk;refine ⟨by omega,by omega,fun h=>?_,fun hh=>Zh k hh hk⟩;simp [Value.ownBlock] at h;subst h;rcases hg with h | h
   ·have:=hvl _ h;omega
   ·omega
 ·rintro i j k (⟨hi,h1⟩ | ⟨hi,h1⟩) (⟨hj,h2⟩ | ⟨hj,h2⟩)
  ·exact hr.one i j k h1 h2
  ·have:=hr.sep i k h1;have:=hDn k h2;omega
  ·have:=hr.sep j k h2;have:=hDn k h1;omega
  ·omega
 ·intro k hk;have:=hr.old k hk;omega
theorem Xz {T:Nat->Prop} {w:World} {B:Nat} {o:Option Addr} {len cap:Nat} {f:To} {xs:List Value} {E:Nat->Nat->Prop} (h:iq T w B (.slice o len cap) f xs E) (hl:len=f.length) (hm:len<=maxLen):TO T w (fun k=>(Value.slice o len cap).ownBlock=some k∨∃ j,E j k) o len f:=by
 refine ⟨hl,hm,fun h0=>?_⟩;rcases h.own.2 with ⟨_,h2⟩ | ⟨g,cap',cur,he,_,hg,_⟩
 ·omega
 ·injection he with h1 h2 h3
  subst h1;refine ⟨g,E,rfl,.inl rfl,⟨cur,hg⟩,fun j k hk=>⟨.inr ⟨j,hk⟩,fun e=>(h.sep j k hk).2.2.1 (by rw [e];rfl)⟩,h.one,oN.at f E xs 0 h.cells ?_⟩;intro j u hj;have:=h.own.cells (g:=g) rfl j u hj;simpa [Addr.add_lit] using this
section
variable {σ:Type}
def DoQ (mM:σ->Nd->List ByteArray->σ) (out:Nd->List ByteArray->Nd) (J:Nat->σ->(Nat->Prop)->World->Prop) (b:Nat) (s:σ) (D:Nat->Prop) (e:List ByteArray) (h:Nd) (o1:Option Addr) (l1 c1:Nat) (o2:Option Addr) (l2 c2:Nat) (A:World) (x:Ending) (W':World):Prop :=
 x=.returned (bP (out h e) o1 l1 c1 o2 l2 c2)/\∃ D',J b (mM s h e) D' W'/\Fr D A W'/\∀ k,D' k->D k∨A.heap.size<=k
structure DoW (F:Nat) (lb:Array Value) (R:Nat->Prop) (L0:Nat) (mM:σ->Nd->List ByteArray->σ) (out:Nd->List ByteArray->Nd) (J:Nat->σ->(Nat->Prop)->World->Prop):Prop where
 own:∀ b s D A,J b s D A->∀ k,D k->k < A.heap.size/\¬ R k
 big:∀ b s D A,J b s D A->L0<=A.heap.size
 weak:∀ b b' s D A,J b s D A->b'<=b->J b' s D A
 stay:∀ b s D A B,J b s D A->Fr (fun k=>L0<=k/\¬ D k) A B->J b s D B
 call:∀ (b:Nat) (s:σ) (D:Nat->Prop) (A:World) (T:Nat->Prop) (e:List ByteArray) (h:Nd) (o1:Option Addr) (l1 c1:Nat) (o2:Option Addr) (l2 c2:Nat) (no:Option Addr) (n c:Nat),J (b+1) s D A->iY T A no n e->n<=300000->aB R A o1 l1 h.tp->h.k=1 ->
  Calls Tryd.prog F (#[bP h o1 l1 c1 o2 l2 c2,.slice no n c]++lb) A (DoQ mM out J b s D e h o1 l1 c1 o2 l2 c2 A)
def WkQ (R:Nat->Prop) (mM:σ->Nd->List ByteArray->σ) (out:Nd->List ByteArray->Nd) (J:Nat->σ->(Nat->Prop)->World->Prop) (b:Nat) (s:σ) (D:Nat->Prop) (e:List ByteArray) (h:Nd) (ps:To) (o1:Option Addr) (l1 c1 l2:Nat) (W:World) (x:Ending) (W':World):Prop :=
 ∃ (o2:Option Addr) (c2:Nat) (D' E:Nat->Prop),x=.returned (bP (AP mM out s e h ps).2.1 o1 l1 c1 o2 l2 c2)/\J b (AP mM out s e h ps).1 D' W'/\TO R W' E o2 l2 (AP mM out s e h ps).2.2/\(∀ k,E k->W.heap.size<=k/\k < W'.heap.size/\¬ D' k)/\Fr D W W'/\∀ k,D' k->D k∨W.heap.size<=k
def TWk (F:Nat) (lb:Array Value) (R:Nat->Prop) (mM:σ->Nd->List ByteArray->σ) (out:Nd->List ByteArray->Nd) (J:Nat->σ->(Nat->Prop)->World->Prop) (h:Nd) (ps:To):Prop :=
 ∀ (b:Nat) (s:σ) (D:Nat->Prop) (W:World) (T:Nat->Prop) (e:List ByteArray) (o1:Option Addr) (l1 c1:Nat) (o2:Option Addr) (l2 c2:Nat) (no:Option Addr) (n c:Nat),J (b+(ps.size+1)) s D W->iY T W no n e->n<=c->(∀ k,T k->¬ D k)->n+ps.size<=200000->aB R W o1 l1 h.tp->bC R W o2 l2 ps->vU h ps->CW ps ->
  Calls Tryd.prog 55 #[bP h o1 l1 c1 o2 l2 c2,.slice no n c,.func (.func F) #[] lb] W (WkQ R mM out J b s D e h ps o1 l1 c1 l2 W)
theorem XA (mM:σ->Nd->List ByteArray->σ) (out:Nd->List ByteArray->Nd) (s:σ) (e:List ByteArray) (h:Nd) (ps:To) (hk:h.k=1):AP mM out s e h ps=(mM s h e,out h e,ps):=by unfold AP;rw [if_pos hk]
theorem ZN (mM:σ->Nd->List ByteArray->σ) (out:Nd->List ByteArray->Nd) (s:σ) (e:List ByteArray) (h:Nd) (ps:To) (hk:¬ h.k=1):AP mM out s e h ps=((wk mM out h.k h.nm 0 s e ps).1,h,(wk mM out h.k h.nm 0 s e ps).2):=by unfold AP;rw [if_neg hk]
theorem Uc (mM:σ->Nd->List ByteArray->σ) (out:Nd->List ByteArray->Nd) (hout:∀ h e,(out h e).tp=h.tp) (s:σ) (e:List ByteArray) (h:Nd) (ps:To):(AP mM out s e h ps).2.1.tp=h.tp:=by
 unfold AP;split
 ·exact hout _ _
 ·rfl
theorem ET (f:To) (h:Nd) (ps r:To):f.app (.cons h ps r)=(f.app (.cons h ps .nil)).app r:=by rw [To.mG];rfl
end
end Sc
end
section
open Go.RowKit Go.Shelf
namespace Sc
section
variable {σ:Type} {F:Nat} {lb:Array Value} {R:Nat->Prop} {L0:Nat} {mM:σ->Nd->List ByteArray->σ} {out:Nd->List ByteArray->Nd} {J:Nat->σ->(Nat->Prop)->World->Prop}
def WkI (R:Nat->Prop) (mM:σ->Nd->List ByteArray->σ) (out:Nd->List ByteArray->Nd) (J:Nat->σ->(Nat->Prop)->World->Prop) (b:Nat) (D:Nat->Prop) (e:List ByteArray) (bk:Int) (nm:ByteArray) (ps:To) (FS:σ) (FP:To) (W0:World) (l2:Nat) (v t:Value) (wr:World):Prop :=
 ∃ (i:Nat) (f:To) (xs:List Value) (vo:Option Addr) (vc:Nat) (E:Nat->Nat->Prop) (s:σ) (D':Nat->Prop),t=.int .i64 i/\i<=l2/\v=.slice vo i vc/\f.length=i/\(wk mM out bk nm i s e (ps.drop i)).1=FS/\f.app (wk mM out bk nm i s e (ps.drop i)).2=FP /\
  iq R wr W0.heap.size (.slice vo i vc) f xs E/\J (b+(ps.drop i).size) s D' wr/\Fr D W0 wr/\(∀ k,D' k->D k∨W0.heap.size<=k)/\(∀ k,D' k->(Value.slice vo i vc).ownBlock≠some k/\∀ j,¬ E j k)
theorem FM (eg:∀ args w,(callFunc F args).run Tryd.prog w=.ok (.enter F args) w) (hK:DoW F lb R L0 mM out J) (hR:∀ k,R k->k < L0) (hout:∀ h e,(out h e).tp=h.tp) (h:Nd) (ps:To):TWk F lb R mM out J h ps:=by
 refine To.uY (T:=TWk F lb R mM out J) ?_ h ps;intro h ps ih b s D W T e o1 l1 c1 o2 l2 c2 no n c hJ hN hnc hT hz hs1 hs hv hav;have HK:=hid hK;have HS:=hid hs;have nH:=hid hs1;have IH:=hid ih;have HN:=hid hN;have HAV:=hid hav;have HTD:=hid hT;have HNC:=hid hnc;have hll:=To.length_le ps;rw [<-hs.1] at hll;have HL:=hid hs.1;have hbig:=hK.big _ _ _ _ hJ;have Ud:=hid hbig;have hown:=hK.own _ _ _ _ hJ;have HOWN:=hid hown;obtain ⟨W0,hW0⟩:∃ W0,W0=(W.alloc (.cells (cells9 h o1 l1 c1 o2 l2 c2) 30)).alloc (.cells zero9 30):=⟨_,rfl⟩;have bD:Hid (ah W W0):=by rw [hW0];exact (ah.alloc _ _).trans (ah.alloc _ _)
 have hz0:W.heap.size+2=W0.heap.size:=by rw [hW0];simp
 have HZ0:=hid hz0;have HB0:Hid (W0.heap[W.heap.size]?=some (.cells (cells9 h o1 l1 c1 o2 l2 c2) 30 (0,0))):=by
  show _=_;rw [hW0,Below.heap_alloc _ _ _ (by simp)];exact heap_alloc_new W _
 have HB1:Hid (W0.heap[W.heap.size+1]?=some (.cells zero9 30 (0,0))):=by
  show _=_;rw [hW0]
  have:=heap_alloc_new (W.alloc (.cells (cells9 h o1 l1 c1 o2 l2 c2) 30)) (.cells zero9 30);simpa using this
 have HJ0:Hid (J (b+(ps.size+1)) s D W0):=hK.stay _ _ _ _ _ hJ (bD.out.mono (fun _ _ h=>h.elim));clear hs hs1 ih hN hav hJ hT hK hnc hown hbig hz0
 by_cases hk:h.k=1
 ·have hk':(h.k == 1)=true:=by simp [hk]
  have HWK:=hid (XA mM out s e h ps hk);have hps:ps=.nil:=hv hk;have yS:Hid (l2=0):=by have:=HL.out;rw [hps] at this;exact this
  have HPS:=hid hps;have HC:=hid (HK.out.call (b+ps.size) s D W0 T e h o1 l1 c1 o2 l2 c2 no n c HJ0.out (HN.out.stay bD.out) (by omega) (nH.out.stay bD.out) hk);have XB:Hid (dL W0 W.heap.size 0 h o1 l1 c1 o2 l2 c2):=aA HB0.out;clear hk hps hv;unfold bP at HC ⊢;go_enter Tryd.func55,Tryd.ntmps55;go_upto_region 1 with fail
  rw [<-hW0];clear hW0;generalize hB:W.heap.size=B at *;have bY:=hid hB;clear hB;obtain ⟨a0,a1,a2,a3,a4,a5,a6,a7,a8⟩:=XB.out;go_wp2_with fail;refine HC.out.mono ?_;rintro x w1 ⟨rfl,D1,hj1,hf1,hd1⟩;unfold bP;have hz0:=HZ0.out;have hb1:=aC hf1 (fun h=>by have:=(HOWN.out _ h).1;have:=bY.out;omega) HB1.out;obtain ⟨⟨z0,z1,z2,z3,z4,z5,z6,z7,z8⟩,t0,t1,t2,t3,t4,t5,t6,t7,t8⟩:=aW hb1;have HB2:=hid hb1;have HJ1:=hid hj1;have vO:=hid hf1;have HD1:=hid hd1;clear hb1 hj1 hf1 hd1 a0 a1 a2 a3 a4 a5 a6 a7 a8;have HH:Hid ((AP mM out s e h ps).2.1=out h e/\(AP mM out s e h ps).1=mM s h e/\(AP mM out s e h ps).2.2=ps):=by show _/\_/\_;rw [HWK.out];exact ⟨rfl,rfl,rfl⟩
  generalize hho:out h e=ho at *;have HHO:=hid hho;clear hho;go_wp2_with fail;have ou:=iM w1 (B+1) (.int .i64 ho.k) (.string ho.nm) (.int .i64 ho.n) (.int .i64 ho.tk) (.int .i64 ho.tn) (.slice o1 l1 c1) (.slice o2 l2 c2) (.int .i64 ho.fr) (.int .i64 ho.en);have hbf:=dO (a0:=.int .i64 ho.k) (a1:=.string ho.nm) (a2:=.int .i64 ho.n) (a3:=.int .i64 ho.tk) (a4:=.int .i64 ho.tn) (a5:=.slice o1 l1 c1) (a6:=.slice o2 l2 c2) (a7:=.int .i64 ho.fr) (a8:=.int .i64 ho.en) HB2.out;change bodyPost _ _ _ _ _ (fV w1 (B+1) (.int .i64 ho.k) (.string ho.nm) (.int .i64 ho.n) (.int .i64 ho.tk) (.int .i64 ho.tn) (.slice o1 l1 c1) (.slice o2 l2 c2) (.int .i64 ho.fr) (.int .i64 ho.en));clear z0 z1 z2 z3 z4 z5 z6 z7 z8 t0 t1 t2 t3 t4 t5 t6 t7 t8;generalize fV w1 (B+1) (.int .i64 ho.k) (.string ho.nm) (.int .i64 ho.n) (.int .i64 ho.tk) (.int .i64 ho.tn) (.slice o1 l1 c1) (.slice o2 l2 c2) (.int .i64 ho.fr) (.int .i64 ho.en)=wf at *;obtain ⟨⟨x0,x1,x2,x3,x4,x5,x6,x7,x8⟩,_⟩:=aW hbf;have bF:Hid (WkQ R mM out J b s D e h ps o1 l1 c1 l2 W (.returned (bP ho o1 l1 c1 o2 l2 c2)) wf):=by
   have hzz:=vO.out.size;have hB:=bY.out;have hD1:∀ k,D1 k->k≠B+1:=fun k hk=>by
    rcases HD1.out k hk with h | h
    ·have:=(HOWN.out k h).1;omega
    ·omega
   refine ⟨o2,c2,D1,fun _=>False,by rw [HH.out.1,<-HHO.out],?_,?_,fun _ h=>h.elim,?_,?_⟩
   ·rw [HH.out.2.1];refine HK.out.stay _ _ _ _ _ (HK.out.weak _ b _ _ _ HJ1.out (by omega)) (ou.mono (fun k _ h=>⟨by have:=Ud.out;omega,fun hd=>hD1 k hd h⟩))
   ·rw [HH.out.2.2,HPS.out,yS.out];exact TO.nil _ _ _ _
   ·exact ((bD.out.fr).trans vO.out).trans' ou (fun k hk h=>by omega)
   ·intro k hk;rcases HD1.out k hk with h | h
    ·exact .inl h
    ·exact .inr (by omega)
  clear ou hbf;refine bodyPost_ret (by simp [results,Tryd.results55,go_sem,x0,x1,x2,x3,x4,x5,x6,x7,x8];rfl) rfl ?_;exact bF.out
 ·have hk':(h.k == 1)=false:=by simp [hk]
  have HWK:=hid (ZN mM out s e h ps hk);obtain ⟨FS,hFS⟩:∃ FS,(wk mM out h.k h.nm 0 s e ps).1=FS:=⟨_,rfl⟩;obtain ⟨FP,hFP⟩:∃ FP,(wk mM out h.k h.nm 0 s e ps).2=FP:=⟨_,rfl⟩;have HFS:=hid hFS;have WI:=hid hFP;have XB:Hid (dL W0 W.heap.size 0 h o1 l1 c1 o2 l2 c2):=aA HB0.out;have HJS:Hid (J (b+ps.size) s D W0):=HK.out.weak _ _ _ _ _ HJ0.out (by omega);clear hk hv hFS hFP;unfold bP;go_enter Tryd.func55,Tryd.ntmps55;go_upto_region 1 with fail
  rw [<-hW0];clear hW0;generalize hB:W.heap.size=B at *;have bY:=hid hB;clear hB;obtain ⟨a0,a1,a2,a3,a4,a5,a6,a7,a8⟩:=XB.out;go_wp2_with fail;clear a0 a1 a2 a3 a4 a5 a6 a7 a8;go_loopw [7,21] (fun v t wr=>WkI R mM out J b D e h.k h.nm ps FS FP W0 l2 v t wr) (fun _ t _=>l2-(intOf t).toNat)
  case atStart=>exact ⟨0,.nil,[],none,0,fun _ _=>False,s,D,rfl,Nat.zero_le _,rfl,rfl,by rw [To.drop_zero];exact HFS.out,by rw [To.drop_zero];exact WI.out,iq.nil _ _ (fun k hk=>by have:=hR k hk;have:=Ud.out;have:=HZ0.out;have:=bY.out;omega),by rw [To.drop_zero];exact HJS.out,Fr.refl _ _,fun k hk=>.inl hk,fun k _=>⟨by simp [Value.ownBlock],fun _ h=>h⟩⟩
  case round =>
   obtain ⟨i,f,xs,vo,vc,E,s',D',rfl,hi,rfl,hfl,hws,hwp,hrow,hj,hf,hd,hsep⟩:=hrel;have XC:=hid hfl;have HWS:=hid hws;have HWP:=hid hwp;have kZ:=hid hrow;have HJ:=hid hj;have HF:=hid hf;have HD:=hid hd;have Qg:=hid hsep;have hwz:=hf.size;clear hfl hws hwp hrow hj hf hd hsep;have HCB:Hid (dL wr B 0 h o1 l1 c1 o2 l2 c2):=XB.out.fr HF.out (fun h=>by have:=(HOWN.out _ h).1;have:=bY.out;omega)
   by_cases hlt:i < l2
   ·have hlt':(i:Int) < l2:=by omega
    obtain ⟨b9,off,hd,qs,p1,m1,d1,p2,m2,d2,rfl,hdr,hg,hRb,KP,hsl,hts⟩:=HS.out.nth hlt;have hdR:∀ k,R k->¬ D k:=fun k hk hd=>(HOWN.out k hd).2 hk
    have hfw:Fr D W wr:=bD.out.fr.trans HF.out;have ac3:=KP.fr hfw (hdR _ hRb);have abf:=hsl.fr hfw (T:=R) (fun k _ hk=>⟨hk,hdR k hk⟩);have abg:=hts.fr hfw (T:=R) (fun k _ hk=>⟨hk,hdR k hk⟩);have Jf:=To.dG ps i hd qs hg;have hvq:=CX ps i hd qs HAV.out hg;have hds:=To.size_drop ps i;have hdz:(ps.drop i).size=qs.size+1+(ps.drop (i+1)).size:=by rw [hdr];simp only [To.size]<;>omega
    obtain ⟨W1,hW1⟩:∃ W1,W1=wr.alloc (.cells (cells9 hd p1 m1 d1 p2 m2 d2) 30):=⟨_,rfl⟩;have hq1:ah wr W1:=by rw [hW1];exact ah.alloc _ _
    have HP1:Hid (dL W1 wr.heap.size 0 hd p1 m1 d1 p2 m2 d2):=by show dL _ _ _ _ _ _ _ _ _ _;rw [hW1];exact wz _ _ _ _ _ _ _ _ _
    have fD:=hid hq1;have abh:Hid (dL W1 B 0 h o1 l1 c1 (some ⟨b9,off,none⟩) l2 c2):=HCB.out.fr hq1 (fun h=>h);have Xn:=hid (abf.stay hq1);have ac4:=hid (abg.stay hq1);have Xg:=hid hdr;have HDZ:=hid hdz;have HIH:=hid (IH.out i hd qs hg);have adU:qs.size+1<=ps.size:=by omega
    have HVQ:=hid hvq;have Hw:Hid ((bW h.k h.nm i e).length<=n+1):=by
     show _<=_
     have:=HN.out.1;unfold bW;split<;>simp<;>omega
    obtain ⟨a0,a1,a2,a3,a4,a5,a6,a7,a8⟩:=HCB.out;obtain ⟨q0,q1,q2,q3,q4,q5,q6,q7,q8⟩:=ac3;have Zd:=hid hfw;clear hdr hg hsl hts Jf hvq hds hdz KP abf abg hq1 hdR hRb hfw;go_upto_region 7 with fail
    change Code.wp _ _ _ _ (wr.alloc (.cells (cells9 hd p1 m1 d1 p2 m2 d2) 30));rw [<-hW1];clear hW1;generalize hpb:wr.heap.size=pb at *;have HPB:=hid hpb;clear hpb a0 a1 a2 a3 a4 a5 a6 a7 a8 q0 q1 q2 q3 q4 q5 q6 q7 q8;obtain ⟨a0,a1,a2,a3,a4,a5,a6,a7,a8⟩:=abh.out;have HBN:=hid (PG h.k i W1);go_wp2_with fail;refine HBN.out.mono ?_;rintro x w2 ⟨rfl,rfl⟩;go_upto_if 30 with fail
    go_cut [10] (fun v wx=>∃ (no':Option Addr) (nc':Nat),v=.slice no' (bW h.k h.nm i e).length nc'/\iY (fun k=>(T k/\k < B)∨pb<=k) wx no' (bW h.k h.nm i e).length (bW h.k h.nm i e)/\(bW h.k h.nm i e).length<=nc'/\ah W1 wx)
    case first =>
     have Zw:Hid (iY (fun k=>(T k/\k < B)∨pb<=k) W1 no n e):=(HN.out.fr (T':=fun k=>(T k/\k < B)∨pb<=k) Zd.out (fun k hk ht=>⟨.inl ⟨ht,by have:=bY.out;omega⟩,HTD.out k ht⟩)).stay fD.out;cases hb:mF h.k i
     case false =>
      have HE:Hid (bW h.k h.nm i e=e):=by show _=_;unfold bW;rw [hb];rfl
      have Jw:=hid HN.out.1;go_wp2_with fail;go_meet;rw [HE.out];exact ⟨no,c,by rw [<-Jw.out],Jw.out ▸ Zw.out,by rw [<-Jw.out];exact HNC.out,ah.refl _⟩
     case true =>
      have HE:Hid (bW h.k h.nm i e=h.nm::e):=by show _=_;unfold bW;rw [hb];rfl
      have Jw:=hid HN.out.1;have hnone:no=none->n=0:=fun hx=>by have:=HN.out;rw [hx] at this;exact this.none
      have HCL:Hid (∀ W,Calls Tryd.prog 76 #[.slice no n c] W fun e w'=>e=.returned (.slice no n n)/\ah W w'):=fun W=>(Ti no n c W HNC.out hnone).mono (fun e w' h=>⟨h.1,by rw [h.2];exact ah.refl _⟩)
      have ac5:Hid (∀ W,ah W1 W->W.cell? ⟨B,1,none⟩=some (.string h.nm)):=fun W hq=>(abh.out.fr hq (fun h=>h)).2.1
      clear a0 a1 a2 a3 a4 a5 a6 a7 a8 hb hnone;go_upto_region 9 with fail
      have hqc:=ah.refl W1;go_region_held3 (fun w'=>w'.cell? ⟨B,1,none⟩=some (.string h.nm))
       (((refine ac5.out _ ?_);(repeat with_reducible first | exact hqc | exact ah.refl _ | refine jq ?_ | refine jr ?_)))
       (first
        | (go_at_call 76;(with_reducible refine Calls.mono (HCL.out _) ?_);rintro e wx ⟨rfl,fJ⟩;(refine nK (w0:=W1) ?hq2 fJ ?_);(case hq2=>(repeat with_reducible first | exact hqc | exact ah.refl _ | refine jq ?_ | refine jr ?_));intro hqc)
        | ((refine FK _ rfl (.tmp 32) (.tmp 35) rfl (iY.stay Zw.out ?hq3) h.nm W1.heap.size rfl rfl ?hH (by omega) (Wb:=W1) ?pX ?_);(case pX=>(repeat with_reducible first | exact hqc | exact ah.refl _ | refine jq ?_ | refine jr ?_));(case hq3=>(repeat with_reducible first | exact hqc | exact ah.refl _ | refine jq ?_ | refine jr ?_));(case hH=>(repeat (first | ((with_reducible refine lD _ _ _ _ ?hbe);(case hbe=>(simp;done))) | with_reducible refine au (ah.alloc _ _) ?_ | with_reducible refine ig ?_ | with_reducible refine au fJ ?_ | fail)));intro g3 c3 w3 hN3 hc3 hq3;(refine nK (w0:=W1) ?hq2 hq3 ?_);(case hq2=>(repeat with_reducible first | exact hqc | exact ah.refl _ | refine jq ?_ | refine jr ?_));intro hqc)
        | ((refine FK _ rfl (.tmp 32) (.tmp 35) rfl (iY.stay Zw.out ?hq3) h.nm wx.heap.size rfl rfl ?hH (by omega) (Wb:=W1) ?pX ?_);(case pX=>(repeat with_reducible first | exact hqc | exact ah.refl _ | refine jq ?_ | refine jr ?_));(case hq3=>(repeat with_reducible first | exact hqc | exact ah.refl _ | refine jq ?_ | refine jr ?_));(case hH=>(repeat (first | ((with_reducible refine lD _ _ _ _ ?hbe);(case hbe=>(simp;done))) | with_reducible refine au (ah.alloc _ _) ?_ | with_reducible refine ig ?_ | with_reducible refine au fJ ?_ | fail)));intro g3 c3 w3 hN3 hc3 hq3;(refine nK (w0:=W1) ?hq2 hq3 ?_);(case hq2=>(repeat with_reducible first | exact hqc | exact ah.refl _ | refine jq ?_ | refine jr ?_));intro hqc)
        | fail)
      all_goals
       go_wp2_with fail;go_meet;rw [HE.out,<-hN3.1];exact ⟨some ⟨g3,0,none⟩,c3,rfl,hN3.fr (Fr.refl (fun _=>False) _) (fun k _ hk=>⟨.inr (by have:=fD.out.size;have:=HPB.out;have hk':W1.heap.size<=k:=hk;omega),fun h=>h⟩),hc3,hqc⟩
    case rest =>
     rename World=>wx
     obtain ⟨no2,nc2,rfl,hn2,abj,fJ⟩:=hcut;have yL:=hid fJ;have G8:=hid (fD.out.trans fJ);obtain ⟨q0,q1,q2,q3,q4,q5,q6,q7,q8⟩:=HP1.out.fr fJ (fun h=>h);have hxz:=G8.out.size;have hjx:=HK.out.stay _ _ _ _ _ HJ.out (G8.out.mono (fun _ _ h=>h.elim));rw [HDZ.out,show b+(qs.size+1+(ps.drop (i+1)).size)=(b+(ps.drop (i+1)).size)+(qs.size+1) from by omega] at hjx;have HC:=hid (HIH.out (b+(ps.drop (i+1)).size) s' D' wx (fun k=>(T k/\k < B)∨(pb<=k/\¬ D' k)) (bW h.k h.nm i e) p1 m1 d1 p2 m2 d2 no2 _ nc2 hjx
      (hn2.fr (Fr.refl (fun _=>False) _) (fun k hkl hk=>by
       rcases hk with hk | hk
       ·exact ⟨.inl hk,fun h=>h⟩
       ·exact ⟨.inr ⟨hk,fun hd=>by have:=(HK.out.own _ _ _ _ HJ.out k hd).1;have:=HPB.out;omega⟩,fun h=>h⟩)) abj
      (fun k hk hd=>by
       rcases hk with ⟨h1,h2⟩ | ⟨h1,h2⟩
       ·rcases HD.out k hd with h | h
        ·exact HTD.out k h1 h
        ·have:=HZ0.out;omega
       ·exact h2 hd)
      (by have:=Hw.out;omega) (Xn.out.stay fJ) (ac4.out.stay fJ) HVQ.out.1 HVQ.out.2)
     unfold bP at HC;clear fJ hn2 abj hjx a0 a1 a2 a3 a4 a5 a6 a7 a8 HBN;go_wp2_with fail;refine HC.out.mono ?_;rintro x w1 ⟨r2,e2,D2,E2,rfl,hj2,ht2,hE2,hf2,abk⟩;unfold bP;have hws:=HWS.out;have hwp:=HWP.out;rw [Xg.out,N7] at hws hwp;have htp:=Uc mM out hout s' (bW h.k h.nm i e) hd qs;obtain ⟨qq,hqq⟩:∃ qq,AP mM out s' (bW h.k h.nm i e) hd qs=qq:=⟨_,rfl⟩;rw [hqq] at hws hwp hj2 ht2 htp ⊢;obtain ⟨s2,hd2,qY⟩:=qq;have XD:(wk mM out h.k h.nm (i+1) s2 e (ps.drop (i+1))).1=FS:=hws;have hwp':(f.app (.cons hd2 qY .nil)).app (wk mM out h.k h.nm (i+1) s2 e (ps.drop (i+1))).2=FP:=(ET f hd2 qY _).symm.trans hwp;have abl:hd2.tp=hd.tp:=htp;have ac6:=hid XD;have ac7:=hid hwp';have HTP:=hid abl;have HJ2:Hid (J (b+(ps.drop (i+1)).size) s2 D2 w1):=hj2;have HT2:Hid (TO R w1 E2 r2 m2 qY):=ht2;have HE2:=hid hE2;have HF2:=hid hf2;have HD2:=hid abk;have hDR:∀ k,D' k->¬ R k/\(∀ j,¬ E j k)/\(Value.slice vo i vc).ownBlock≠some k:=fun k hk=>⟨(HK.out.own _ _ _ _ HJ.out k hk).2,(Qg.out k hk).2,(Qg.out k hk).1⟩
     have HDR:=hid hDR;have HRX:=hid (kZ.out.stay G8.out);have HR1:=hid (HRX.out.fr HF2.out HDR.out);clear hws hwp XD hwp' htp abl hqq hj2 ht2 hE2 hf2 abk hDR q0 q1 q2 q3 q4 q5 q6 q7 q8;have adV:=To.size_drop ps i;have adI:i<=200000:=by omega
     go_wp2_with (at_builtin;go_must (refine aX w1 rfl (.tmp 37) (.tmp 42) 26 rfl 30 _ 9 112 sZ (.slice vo i vc) i xs rfl (XC.out ▸ HR1.out.own) (cells9 hd2 p1 m1 d1 r2 m2 e2) rfl rfl ?c1 ?c2 ?c3 ?_))
     case c1=>simp [Value.oneCell']
     case c2=>unfold maxLen;omega
     case c3=>omega
     intro g2 c' w4 ho hf4 hg2;have hWx:W0.heap.size<=wx.heap.size:=Nat.le_trans HF.out.size hxz;have hz1:=HF2.out.size;have hown1:∀ k,(Value.slice vo i vc).ownBlock=some k->W0.heap.size<=k/\k < wr.heap.size:=fun k hk=>⟨(kZ.out.low k hk).1,(kZ.out.own.lt k hk).2⟩
     have MB:∀ k,D2 k->(Value.slice vo i vc).ownBlock≠some k:=fun k hk he=>by
      rcases HD2.out k hk with h | h
      ·exact (Qg.out k h).1 he
      ·have:=(hown1 k he).2;omega
     have HR2:Hid (iq R w4 W0.heap.size (.slice (some ⟨g2,0,none⟩) (i+1) c') (f.app (.cons hd2 qY .nil)) (xs++(cells9 hd2 p1 m1 d1 r2 m2 e2).toList) (fun j k=>(j < f.length/\E j k)∨(j=f.length/\E2 k))):=by
      show iq _ _ _ _ _ _ _
      have hf':=XC.out;subst hf';exact Qe HRX.out hWx HF2.out HDR.out (by rw [HTP.out];exact (Xn.out.stay yL.out).fr HF2.out (fun k _ hk=>⟨hk,fun hd=>(HDR.out k hd).1 hk⟩)) HT2.out (fun k hk=>⟨(HE2.out k hk).1,(HE2.out k hk).2.1⟩) ho hf4 hg2
     have JA:Hid (J (b+(ps.drop (i+1)).size) s2 D2 w4):=HK.out.stay _ _ _ _ _ HJ2.out (hf4.mono (fun k _ h=>⟨by have:=(hown1 k h).1;have:=Ud.out;have:=HZ0.out;have:=bY.out;omega,fun hd=>MB k hd h⟩));have MC:Hid (Fr D W0 w4):=(((HF.out.trans G8.out.fr).trans' HF2.out (fun k hk hd=>by
      rcases HD.out k hd with h | h
      ·exact h
      ·omega)).trans' hf4 (fun k hk h=>by have:=(hown1 k h).1;omega))
     have HD4:Hid (∀ k,D2 k->D k∨W0.heap.size<=k):=fun k hk=>by
      rcases HD2.out k hk with h | h
      ·exact HD.out k h
      ·exact .inr (by omega)
     have abm:Hid (∀ k,D2 k->(Value.slice (some ⟨g2,0,none⟩) (i+1) c').ownBlock≠some k/\∀ j,¬ ((j < f.length/\E j k)∨(j=f.length/\E2 k))):=fun k hk=>by
      refine ⟨fun he=>?_,?_⟩
      ·simp [Value.ownBlock] at he;subst he;rcases hg2 with h | h
       ·exact MB _ hk h
       ·have:=(HK.out.own _ _ _ _ HJ2.out _ hk).1;omega
      ·rintro j (⟨_,h⟩ | ⟨_,h⟩)
       ·rcases HD2.out k hk with h' | h'
        ·exact (Qg.out k h').2 j h
        ·have:=(kZ.out.sep j k h).2.1;omega
       ·exact (HE2.out k h).2.2 hk
     have Ag:Hid ((f.app (.cons hd2 qY .nil)).length=i+1):=by show _=_;rw [To.bJ,XC.out];rfl
     clear ho hf4 hg2 hown1 MB;go_wp2_with fail;go_roundw
     case rel=>exact ⟨i+1,_,_,some ⟨g2,0,none⟩,c',_,s2,D2,by go_num,by omega,rfl,Ag.out,ac6.out,ac7.out,HR2.out,JA.out,MC.out,HD4.out,abm.out⟩
     case measure=>simp [intOf];omega
   ·have hlt':¬ (i:Int) < l2:=by omega
    have hil:i=l2:=by omega
    subst hil;have hb0:=aC HF.out (fun h=>by have:=(HOWN.out _ h).1;have:=bY.out;omega) HB0.out;have hb1:=aC HF.out (fun h=>by have:=(HOWN.out _ h).1;have:=bY.out;omega) HB1.out;obtain ⟨⟨x0,x1,x2,x3,x4,x5,x6,x7,x8⟩,y0,y1,y2,y3,y4,y5,y6,y7,y8⟩:=aW hb0;obtain ⟨⟨z0,z1,z2,z3,z4,z5,z6,z7,z8⟩,t0,t1,t2,t3,t4,t5,t6,t7,t8⟩:=aW hb1;have ac8:=hid hb1;clear hb0 hb1;go_wp2_with fail;have hb1':(wr.setCell ⟨B,6,none⟩ (.slice vo i vc)).heap[B+1]?=some (.cells zero9 30 (0,0)):=by
     rw [Below.heap_setCell _ _ _ _ (by show B+1≠B;omega)];exact ac8.out
    have ou:Fr (fun k=>k=B∨k=B+1) wr (fV (wr.setCell ⟨B,6,none⟩ (.slice vo i vc)) (B+1) (.int .i64 h.k) (.string h.nm) (.int .i64 h.n) (.int .i64 h.tk) (.int .i64 h.tn) (.slice o1 l1 c1) (.slice vo i vc) (.int .i64 h.fr) (.int .i64 h.en)) :=
     (Fr.setCell _ _ _ _ (.inl rfl)).trans ((iM _ _ _ _ _ _ _ _ _ _ _).mono (fun k _ hk=>.inr hk))
    have hbf:=dO (a0:=.int .i64 h.k) (a1:=.string h.nm) (a2:=.int .i64 h.n) (a3:=.int .i64 h.tk) (a4:=.int .i64 h.tn) (a5:=.slice o1 l1 c1) (a6:=.slice vo i vc) (a7:=.int .i64 h.fr) (a8:=.int .i64 h.en) hb1';change bodyPost _ _ _ _ _ (fV (wr.setCell ⟨B,6,none⟩ (.slice vo i vc)) (B+1) (.int .i64 h.k) (.string h.nm) (.int .i64 h.n) (.int .i64 h.tk) (.int .i64 h.tn) (.slice o1 l1 c1) (.slice vo i vc) (.int .i64 h.fr) (.int .i64 h.en));clear x0 x1 x2 x3 x4 x5 x6 x7 x8 y0 y1 y2 y3 y4 y5 y6 y7 y8 z0 z1 z2 z3 z4 z5 z6 z7 z8 t0 t1 t2 t3 t4 t5 t6 t7 t8 hb1';generalize (fV (wr.setCell ⟨B,6,none⟩ (.slice vo i vc)) (B+1) (.int .i64 h.k) (.string h.nm) (.int .i64 h.n) (.int .i64 h.tk) (.int .i64 h.tn) (.slice o1 l1 c1) (.slice vo i vc) (.int .i64 h.fr) (.int .i64 h.en))=wf at *;obtain ⟨⟨x0,x1,x2,x3,x4,x5,x6,x7,x8⟩,_⟩:=aW hbf;have bF:Hid (WkQ R mM out J b s D e h ps o1 l1 c1 i W (.returned (bP h o1 l1 c1 vo i vc)) wf):=by
     have hB:=bY.out;have hz0:=HZ0.out;have hfz:=ou.size;have hde:=To.drop_end ps i (by have:=HL.out;omega);have hws:=HWS.out;have hwp:=HWP.out;rw [hde] at hws hwp;have XD:s'=FS:=hws;have hwp':f=FP:=by rw [<-hwp];show f=f.app .nil;rw [To.qZ]
     have hD1:∀ k,D' k->¬ (k=B∨k=B+1):=fun k hk=>by
      rcases HD.out k hk with h | h
      ·have:=(HOWN.out k h).1;omega
      ·omega
     have hto:=Xz kZ.out XC.out.symm (by unfold maxLen;omega);have hE:∀ k,((Value.slice vo i vc).ownBlock=some k∨∃ j,E j k)->W0.heap.size<=k/\k < wr.heap.size/\¬ D' k:=fun k hk=>by
      rcases hk with h | ⟨j,h⟩
      ·exact ⟨(kZ.out.low k h).1,(kZ.out.own.lt k h).2,fun hd=>(Qg.out k hd).1 h⟩
      ·have:=kZ.out.sep j k h;exact ⟨this.1,this.2.1,fun hd=>(Qg.out k hd).2 j h⟩
     refine ⟨vo,vc,D',fun k=>(Value.slice vo i vc).ownBlock=some k∨∃ j,E j k,by rw [HWK.out],?_,?_,?_,?_,?_⟩
     ·rw [HWK.out];show J b (wk mM out h.k h.nm 0 s e ps).1 D' wf
      rw [HFS.out,<-XD];exact HK.out.stay _ _ _ _ _ (HK.out.weak _ b _ _ _ HJ.out (by omega)) (ou.mono (fun k _ h=>⟨by have:=Ud.out;omega,fun hd=>hD1 k hd h⟩))
     ·rw [HWK.out];show TO R wf _ vo i (wk mM out h.k h.nm 0 s e ps).2
      rw [WI.out,<-hwp'];exact hto.fr ou (fun k _ hk=>⟨hk,fun h=>by have:=hR k hk;have:=Ud.out;omega⟩) (fun k hk h=>by have:=(hE k hk).1;omega)
     ·intro k hk;have:=hE k hk;exact ⟨by omega,by omega,this.2.2⟩
     ·exact ((bD.out.fr).trans HF.out).trans' ou (fun k hk h=>by omega)
     ·intro k hk;rcases HD.out k hk with h | h
      ·exact .inl h
      ·exact .inr (by omega)
    clear ou hbf;refine bodyPost_ret (by simp [results,Tryd.results55,go_sem,x0,x1,x2,x3,x4,x5,x6,x7,x8];rfl) rfl ?_;exact bF.out
end
end Sc
end
end Go.Proofs.YtcninopmelmajaaDoor
