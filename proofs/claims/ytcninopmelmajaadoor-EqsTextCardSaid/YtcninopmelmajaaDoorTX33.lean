/-
  Texts laid together (EqAll, EmOk, EmSpan, EqMany0, EqOf, EqAwake, EqSame, EqDoc): laws and walks, with their conditions.
-/
import Derived.Test.YtcninopmelmajaaDoorTX32
set_option maxHeartbeats 8000000
set_option maxRecDepth 1000000
namespace Go.Proofs.YtcninopmelmajaaDoor
open Go.Lib (hid)
section
open Go.RowKit
namespace Em
def TmM (h:Nd) (ps:To):Prop:=∀ (W:World) (R X:Nat->Prop) (most:Int) (pb:Nat) (mk:Mk) (o1:Option Addr) (l1 c1:Nat) (o2:Option Addr) (l2 c2:Nat) (eo:Option Addr) (en ec:Nat) (e:iP) (E:Env),
 aB R W o1 l1 h.tp->bC R W o2 l2 ps->(∀ i,R i->i < pb)->dQ X most pb W mk->most<=4096->XR pb W eo en e->en<=ec->en+ps.size<=100000->sU most pb mk.next W e E->KU h ps.length->rH ps->Sc.bM (names e) h ps=[]->(dw most h ps E mk).2.next<=Aj->mk.many=true ->
 Calls Tryd.prog 22 #[.pointer (some ⟨pb,0,none⟩),bP h o1 l1 c1 o2 l2 c2,.slice eo en ec] W (I8 X most pb W (dw most h ps E mk))
theorem ML (h:Nd) (ps:To):TmM h ps:=by
 intro W R X most pb mk o1 l1 c1 o2 l2 c2 eo en ec e E hs1 hs2 hR hm oZ hb vW hz hE hok kF hfr hN qP;obtain ⟨W0,hW0⟩:∃ W0,W0=(W.alloc (.cells (cells9 h o1 l1 c1 o2 l2 c2) 30)).alloc (.cells #[.int .i64 0,.int .i64 0,.slice none 0 0] 25):=⟨_,rfl⟩;have hq0:ah W W0:=by rw [hW0];exact (ah.alloc _ _).trans (ah.alloc _ _)
 have hz0:W0.heap.size=W.heap.size+2:=by rw [hW0];simp
 have h4:Bx pb W0 W.heap.size (cells9 h o1 l1 c1 o2 l2 c2) 30:=Bx.new hm hq0 (Nat.le_refl _) (by rw [hW0];exact au (ah.alloc _ _) (heap_alloc_new W _));have h6:Bx pb W0 (W.heap.size+1) #[.int .i64 0,.int .i64 0,.slice none 0 0] 25:=Bx.new hm hq0 (by omega) (by
  rw [hW0];have:=heap_alloc_new (W.alloc (.cells (cells9 h o1 l1 c1 o2 l2 c2) 30)) (.cells #[.int .i64 0,.int .i64 0,.slice none 0 0] 25);simpa using this)
 have hm0:=hm.more hq0 (fun i=>i=W.heap.size+1) (fun i hi=>by subst hi;omega);have hp:=hm.lt;have hl0:=Later.aS hq0 hp;have hnx:=(lQ most h ps E hE.ne mk).1;have hnb:mk.next<=500000000:=Nat.le_trans hnx hN
 have P8:=hid (take_any hm0 (by omega));have yS:=hid hl0;have H4:=hid h4;have H6:=hid h6;have HP:=hid hp;have yM:Hid ((dw most h ps E mk).2.next<=Aj):=hN;have xK:=hid (Qy most h ps E mk qP);have aae:=hid hm0.lt;obtain ⟨X1,hX1⟩:∃ X1,X1=(fun i=>X i∨i=W.heap.size+1):=⟨_,rfl⟩;have jR:Hid (∀ i,X1 i=(X i∨i=W.heap.size+1)):=fun i=>by rw [hX1]
 rw [<-hX1] at P8;clear hs1 hs2 hR hm hb hE hok kF hfr hN hm0 hl0 hq0 h4 h6 hX1 hnx hp hz0 oZ;obtain ⟨fin,hfin⟩:∃ fin,({ mk with next:=mk.next+1 }:Mk)=fin:=⟨_,rfl⟩;have aQ:Hid (dw most h ps E mk=(tv mk.next,fin)):=by show _=_;rw [xK.out,hfin]
 have bF:=hid hfin;clear hfin;unfold bP;go_enter Tryd.func22,Tryd.ntmps22;generalize dV:W.heap.size=B at *;go_upto_region 1 with fail
 rw [<-hW0];clear hW0;go_wp2_with fail;refine P8.out.mono ?_;rintro x w1 ⟨n0,oo,cc,hn0,rfl,hm1,hl1⟩;obtain rfl:mk.next=n0:=Il hn0
 obtain ⟨W2,hW2⟩:∃ W2,W2=w1.alloc (.cells #[.int .i64 1,.int .i64 mk.next,.slice oo 0 cc] 25):=⟨_,rfl⟩;have hq2:ah w1 W2:=by rw [hW2];exact ah.alloc _ _
 have h7:Bx pb W2 w1.heap.size #[.int .i64 1,.int .i64 mk.next,.slice oo 0 cc] 25:=Bx.new hm1 hq2 (Nat.le_refl _) (by rw [hW2];exact heap_alloc_new w1 _);have H7:=hid h7;have hm2:=hm1.stay hq2;replace hm2:dQ X1 most pb W2 { mk with next:=mk.next+1 }:=hm2;have hl2:=hl1.quiet hq2 aae.out;have Fe:=hid hm2;have HL2:=hid (yS.out.trans hl2);have U4:=hid (H4.out.later hl2);have RF:=hid (H6.out.later hl2);have HP2:=hid hm2.lt;clear hm1 hl1 hq2 h7 hm2 hl2 hn0 H4 H6 yS P8;unfold fG;go_upto_region 2 with fail
 change Code.wp _ _ _ _ (w1.alloc (.cells #[.int .i64 1,.int .i64 mk.next,.slice oo 0 cc] 25));rw [<-hW2];clear hW2;generalize hC:w1.heap.size=C at *;obtain ⟨ko,kc,kxs,lg⟩:=Fe.out;obtain ⟨_,_,_,q3⟩:=bT lg.box;replace q3:W2.cell? ⟨pb,3,none⟩=some (.bool true):=by rw [<-qP];exact q3
 obtain ⟨a0,a1,a2,a3,a4,a5,a6,a7,a8⟩:=aA U4.out.1;obtain ⟨b0,b1,b2,_,_,_⟩:=ay H7.out.1;clear lg;have Qw:Hid (dQ X1 most pb W2 fin):=by show dQ _ _ _ _ _;rw [<-bF.out];exact Fe.out
 have IV:=hid (Later.refl HP2.out);have hb6:=(RF.out.later IV.out).1;have vS:=hid hb6;obtain ⟨d0,d1,d2,y0,y1,y2⟩:=ay hb6;clear hb6;go_wp2_with fail;clear d0 d1 d2 y0 y1 y2;have hf:=aZ W2 (B+1) (.int .i64 1) (.int .i64 mk.next) (.slice oo 0 cc);obtain ⟨f0,f1,f2⟩:=aV (a:=.int .i64 1) (b:=.int .i64 mk.next) (c:=.slice oo 0 cc) vS.out;change bodyPost _ _ _ _ _ (bf W2 (B+1) (.int .i64 1) (.int .i64 mk.next) (.slice oo 0 cc));generalize bf W2 (B+1) (.int .i64 1) (.int .i64 mk.next) (.slice oo 0 cc)=wf at *;refine bodyPost_ret (by simp [results,Tryd.results22,go_sem,f0,f1,f2];rfl) rfl ?_;have hp:pb < W.heap.size:=by rw [dV];exact HP.out
 unfold I8;refine ⟨mk.next,oo,cc,by rw [aQ.out],rfl,?_,(HL2.out.trans IV.out).put hf hp (fun i hi=>by omega)⟩;rw [aQ.out];exact (Qw.out.put (hf.mono (fun i _ e=>by rw [jR.out];exact Or.inr (by omega)))).less (fun i hi=>by rw [jR.out];exact Or.inl hi)
theorem MN:∀ (h:Nd) (ps:To),TmT h ps:=fun h ps=>by
 refine To.uY (T:=TmT) (fun h ps ih=>?_) h ps;intro W R X most pb mk o1 l1 c1 o2 l2 c2 eo en ec e E a1 a2 a3 a4 a5 a6 a7 a8 a9 a10 a11 a12 a13;cases hm:mk.many
 ·have key:TmN h ps:=U3 h ps ih;exact key W R X most pb mk o1 l1 c1 o2 l2 c2 eo en ec e E a1 a2 a3 a4 a5 a6 a7 a8 a9 a10 a11 a12 a13 hm
 ·exact ML h ps W R X most pb mk o1 l1 c1 o2 l2 c2 eo en ec e E a1 a2 a3 a4 a5 a6 a7 a8 a9 a10 a11 a12 a13 hm
end Em
end
section
namespace Em
theorem Iq:∀ (f:Fo) (l:List Int),Fo.vars l f=[]->l=[]/\gF f
 | .nil,l,h=>⟨h,trivial⟩
 | .cons k n ps r,l,h=>by
  unfold Fo.vars at h;obtain ⟨h1,h2⟩:=Iq r _ h;obtain ⟨h3,h4⟩:=Iq ps _ h1
  by_cases hk:k=1
  ·exfalso
   subst hk
   by_cases hi:inB l n=true
   ·rw [hi] at h3;simp at h3;subst h3;simp [inB] at hi
   ·have hi':inB l n=false:=by simpa using hi
    rw [hi'] at h3;simp at h3
  ·have:(k == 1)=false:=by simpa using hk
   rw [this] at h3;simp at h3;exact ⟨h3,hk,h4,h2⟩
theorem U9:∀ f:Fo,gF f->fB 0 f
 | .nil,_=>trivial
 | .cons _ _ ps r,⟨a,b,c⟩=>⟨fun h=>absurd h a,U9 ps b,U9 r c⟩
theorem uj {h:Nd} {m:Nat} (hs:fK h m=true):1<=h.k/\h.k<=10/\rD h=true/\rC h.k<=m/\(m:Int)<=xP h.k:=by
 unfold fK at hs;simp only [Bool.and_eq_true,decide_eq_true_eq] at hs;exact ⟨hs.1.1.1.1.1.1.1,hs.1.1.1.1.1.1.2,hs.1.1.1.1.2,hs.1.2,hs.2⟩
theorem Va {h:Nd} (ht:rD h=true) (h10:h.k=10):gT (h.tk,h.tn,h.tp):=by
 unfold rD at ht;rw [if_pos (by simp [h10])] at ht;unfold xQ at ht;rw [Bool.and_eq_true] at ht;have hv:Fo.vars [] (.cons h.tk h.tn h.tp .nil)=[]:=by simpa [List.isEmpty_iff] using ht.2
 obtain ⟨_,a,b,_⟩:=Iq _ _ hv;exact ⟨a,b⟩
theorem DK:∀ f:To,Cc f=true->ZR f
 | .nil,_=>trivial
 | .cons h ps r,e=>by
  rw [oH,Bool.and_eq_true,Bool.and_eq_true] at e;obtain ⟨h1,h2,_,_,h5⟩:=uj e.1.1;refine ⟨⟨h1,h2,fun hk=>?_⟩,DK ps e.1.2,DK r e.2⟩;have hm:xP h.k=0:=by rcases hk with hk | hk<;>(rw [hk];rfl)
  rw [hm] at h5;have hl:ps.length=0:=by omega
  cases ps with
  | nil=>rfl
  | cons _ _ _=>simp [To.length] at hl
theorem J6:∀ f:To,Cc f=true->gA f/\noV f
 | .nil,_=>⟨trivial,trivial⟩
 | .cons h ps r,e=>by
  rw [oH,Bool.and_eq_true,Bool.and_eq_true] at e;obtain ⟨h1,h2,h3,_,_⟩:=uj e.1.1;have hg:=Va h3;exact ⟨⟨hg,(J6 ps e.1.2).1,(J6 r e.2).1⟩,⟨fun h10=>⟨fun hk=>absurd hk (hg h10).1,U9 _ (hg h10).2⟩,(J6 ps e.1.2).2,(J6 r e.2).2⟩⟩
theorem DL:∀ f:To,Cc f=true->allT sF f->rH f
 | .nil,_,_=>trivial
 | .cons h ps r,e,g=>by
  rw [oH,Bool.and_eq_true,Bool.and_eq_true] at e;obtain ⟨h1,h2,_,h4,_⟩:=uj e.1.1;have hl:∀ k:Int,h.k=k->rC k<=ps.length:=fun k hk=>by rw [<-hk];exact h4
  refine ⟨⟨⟨h1,h2⟩,fun hk=>?_,fun hk=>?_,fun hk=>?_,fun hk=>?_,fun hk=>?_,fun hk=>?_,g.1.2.1⟩,DL ps e.1.2 g.2.1,DL r e.2 g.2.2⟩ <;>
   (have:=hl _ hk;simp [rC] at this;omega)
def IX (h:Nd) (ps:To) (most:Int):List lF × Int :=
 if (Sc.pY h ps).2.2=0 then (let m:=(dw (min most 4096) h ps [] ⟨[],0,false⟩).2;if m.many then ([],6) else (m.eqs,0)) else ([],(Sc.pY h ps).2.2)
theorem X3 {h:Nd} {ps:To} (h0:(Sc.pY h ps).2.2=0):Sc.RT h ps=true/\Sc.bM [] h ps=[]:=by
 unfold Sc.pY at h0
 split at h0
 ·next hr =>
  split at h0
  ·next hf=>exact ⟨hr,hf⟩
  ·exact absurd (show (5:Int)=0 from h0) (by decide)
 ·exact absurd h0 (by decide)
end Em
end
section
namespace Em
def spans:To->List (Int × Int)
 | .nil=>[]
 | .cons h ps r=>(h.fr,h.en)::(spans ps++spans r)
theorem Gf:∀ (f:To) (i:Nat) (h:Nd) (ps:To),f.get i=some (h,ps)->(h.fr,h.en)∈spans f
 | .nil,i,h,ps,e=>by simp [To.get] at e
 | .cons h' ps' r,0,h,ps,e=>by
  simp [To.get] at e;obtain ⟨rfl,rfl⟩:=e;simp [spans]
 | .cons h' ps' r,i+1,h,ps,e=>by
  have:=Gf r i h ps e;simp [spans,this]
theorem Vb:∀ (f:To) (i:Nat),i < f.length->∃ h ps,f.get i=some (h,ps)
 | .nil,i,h=>by simp [To.length] at h
 | .cons h ps r,0,_=>⟨h,ps,rfl⟩
 | .cons h ps r,i+1,hi=>Vb r i (by simp [To.length] at hi;omega)
theorem MO {f:To} {i:Nat} (hi:i < f.length):aH f i∈spans f:=by
 obtain ⟨h,ps,e⟩:=Vb f i hi;have:=Gf f i h ps e;unfold aH;rw [e];exact this
def SpL (S:List (Int × Int)) (l:List lF):Prop:=∀ t∈l,(t.2.2.1,t.2.2.2)∈S
def Sp (S:List (Int × Int)) {α:Type} (f:Dm α):Prop:=∀ d,SpL S d.L->SpL S (f d).2.L
theorem Sp.pure {S:List (Int × Int)} {α:Type} (a:α):Sp S (jg a):=fun _ h=>h
theorem Sp.bind {S:List (Int × Int)} {α β:Type} {f:Dm α} {g:α->Dm β} (h:Sp S f) (k:∀ a,Sp S (g a)):Sp S (fF f g):=fun d hd=>k _ _ (h d hd)
theorem Sp.take {S:List (Int × Int)}:Sp S jU:=fun _ h=>h
theorem Sp.add {S:List (Int × Int)} (most:Nat) (l r:Ty) {fr en:Int} (hs:(fr,en)∈S):Sp S (dP most l r fr en):=fun d h=>by
 unfold dP;dsimp only
 split
 ·intro t ht;rcases List.mem_append.1 ht with ht | ht
  ·exact h t ht
  ·rw [List.mem_singleton.1 ht];exact hs
 ·exact h
theorem Sp.ov {S:List (Int × Int)} {α:Type} (most:Nat) (x:α) {f:Dm α} (h:Sp S f):Sp S (sQ most x f):=fun d hd=>by
 unfold sQ
 split
 ·exact hd
 ·exact h d hd
theorem Sp.ite {S:List (Int × Int)} {α:Type} {c:Prop} [Decidable c] {f g:Dm α} (h1:c->Sp S f) (h2:¬ c->Sp S g):Sp S (if c then f else g):=by
 by_cases hc:c
 ·rw [if_pos hc];exact h1 hc
 ·rw [if_neg hc];exact h2 hc
def X4 (S:List (Int × Int)) (e:aP):Prop:=∀ x∈e,Sp S x.2
theorem X4.cons {S:List (Int × Int)} {e:aP} (h:X4 S e) {s:ByteArray} {f:Dm Nat} (hf:Sp S f):X4 S ((s,f)::e):=fun x hx=>by
 rcases List.mem_cons.1 hx with rfl | hx
 ·exact hf
 ·exact h x hx
theorem J7 {S:List (Int × Int)}:∀ (e:aP) (s:ByteArray),X4 S e->Sp S (jA e s)
 | [],_,_=>Sp.pure _
 | x::r,s,h=>by
  unfold jA;exact Sp.ite (fun _=>h x (by simp)) (fun _=>J7 r s (fun y hy=>h y (by simp [hy])))
def VSp (S:List (Int × Int)) (u:aP->Dm Nat):Prop:=∀ e,X4 S e->Sp S (u e)
theorem Ir {S:List (Int × Int)} {us:List (aP->Dm Nat)} (h:∀ u∈us,VSp S u) (i:Nat) {e:aP} (he:X4 S e):Sp S (dat us i e):=by
 unfold dat;rw [List.getD_eq_getElem?_getD];cases hi:us[i]? with
 | none=>exact Sp.pure _
 | some u=>exact h u (List.mem_of_getElem? hi) e he
theorem Oo {S:List (Int × Int)} {e:aP} (he:X4 S e):∀ {us:List (aP->Dm Nat)},(∀ u∈us,VSp S u)->Sp S (dmap e us)
 | [],_=>Sp.pure _
 | u::r,h=>Sp.bind (h u (by simp) e he) fun _=>Sp.bind (Oo he (fun x hx=>h x (by simp [hx]))) fun _=>Sp.pure _
theorem J8 {S:List (Int × Int)} (most:Nat) (h:Nd) (hs:(h.fr,h.en)∈S) {us:List (aP->Dm Nat)} (hv:∀ u∈us,VSp S u) {e:aP} (he:X4 S e):Sp S (jf most h us e):=by
 unfold jf;exact Sp.ite (fun _=>Ir hv 0 he) (fun _=>Sp.bind Sp.take fun b=>Sp.bind (Ir hv 0 (he.cons (Sp.pure b))) fun _=>Sp.bind (Sp.add _ _ _ hs) fun _=>Sp.pure _)
theorem Vd {S:List (Int × Int)} (most:Nat) (h:Nd) (ps:To) (hs:(h.fr,h.en)∈S) (hp:∀ x∈spans ps,x∈S) (hok:KU h ps.length) {us:List (aP->Dm Nat)} (hv:∀ u∈us,VSp S u) {e:aP} (he:X4 S e) (own:Nat):Sp S (jM most h ps us e own):=by
 unfold jM;have fin:∀ (l r:Ty) (fr en:Int),(fr,en)∈S->Sp S (fF (dP most l r fr en) fun _=>jg own):=fun l r fr en k=>Sp.bind (Sp.add _ _ _ k) fun _=>Sp.pure _
 have sp:∀ i,i < ps.length->((aH ps i).1,(aH ps i).2)∈S:=fun i hi=>hp _ (MO hi)
 refine Sp.ite (fun _=>fin _ _ _ _ hs) (fun _=>Sp.ite (fun _=>fin _ _ _ _ hs) (fun _=>Sp.ite (fun _=>Sp.bind (J7 e _ he) fun _=>fin _ _ _ _ hs) (fun _=>Sp.ite (fun _=>?_) (fun _=>Sp.ite (fun _=>?_) (fun _=>Sp.bind (Oo he hv) fun p=>?_)))))
 ·exact Sp.bind Sp.take fun b=>Sp.bind (Ir hv 0 (he.cons (Sp.pure b))) fun _=>fin _ _ _ _ hs
 ·exact Sp.bind (J8 most h hs hv he) fun _=>Sp.bind (Ir hv 1 (he.cons (J8 most h hs hv he))) fun _=>fin _ _ _ _ hs
 ·refine Sp.ite (fun _=>fin _ _ _ _ hs) (fun _=>Sp.ite (fun k=>?_) (fun _=>Sp.ite (fun _=>fin _ _ _ _ hs) (fun _=>Sp.ite (fun k=>?_) (fun _=>Sp.pure _))))
  ·have hl:=hok.2.2.2.2.2.1 k;exact Sp.bind (Sp.add _ _ _ (sp 0 (by omega))) fun _=>Sp.bind (Sp.add _ _ _ (sp 1 (by omega))) fun _=>fin _ _ _ _ (sp 2 (by omega))
  ·have hl:=hok.2.2.2.2.2.2.1 k;exact Sp.bind (Sp.add _ _ _ (sp 0 (by omega))) fun _=>fin _ _ _ _ hs
theorem Oq {S:List (Int × Int)} (most:Nat) (h:Nd) (ps:To) (hs:(h.fr,h.en)∈S) (hp:∀ x∈spans ps,x∈S) (hok:KU h ps.length) {us:List (aP->Dm Nat)} (hv:∀ u∈us,VSp S u):VSp S (Dh most h ps us):=fun _ he=>Sp.bind Sp.take fun own=>Sp.ov _ _ (Vd most h ps hs hp hok hv he own)
theorem DN {S:List (Int × Int)} (most:Nat):∀ f:To,rH f->(∀ x∈spans f,x∈S)->∀ u∈dJ most f,VSp S u
 | .nil,_,_,u,hu=>by cases hu
 | .cons h ps r,⟨k1,k2,k3⟩,hp,u,hu=>by
  have hp1:(h.fr,h.en)∈S:=hp _ (by simp [spans]);have hp2:∀ x∈spans ps,x∈S:=fun x hx=>hp x (by simp [spans,hx])
  have hp3:∀ x∈spans r,x∈S:=fun x hx=>hp x (by simp [spans,hx])
  rcases List.mem_cons.1 hu with rfl | hu
  ·exact Oq most h ps hp1 hp2 k1 (DN most ps k2 hp2)
  ·exact DN most r k3 hp3 u hu
theorem J9 (most:Nat) (h:Nd) (ps:To) (hok:KU h ps.length) (kF:rH ps):SpL (spans (.cons h ps .nil)) (dZ most h ps [] ⟨[],0⟩).2.L :=
 Oq most h ps (by simp [spans]) (fun x hx=>by simp [spans,hx]) hok (DN most ps kF (fun x hx=>by simp [spans,hx])) [] (fun x hx=>by cases hx) ⟨[],0⟩ (fun t ht=>by cases ht)
end Em
end
section
namespace Em
theorem X5 {h:Nd} {ps:To} (h0:(Sc.pY h ps).2.2=0) {M:Nat} (hM:M<=4096):IX h ps M=if (run M h ps).many then ([],6) else ((run M h ps).eqs,0):=by
 unfold IX;rw [if_pos h0,show min (M:Int) 4096=(M:Int) by omega];rfl
theorem Ve {h:Nd} {ps:To} (hr:Sc.RT h ps=true) (hf:Sc.bM [] h ps=[]):(Sc.pY h ps).2.2=0:=by
 unfold Sc.pY;rw [if_pos hr,hf]
end Em
end
section
open Go.RowKit
namespace Em
def qw (w:World) (o:Option Addr) (l:List lF):Prop:=l.length<=4096/\(∀ t∈l,t.1.2.2.size<=100000/\t.2.1.2.2.size<=100000)/\(l=[]∨∃ b off,o=some ⟨b,off,none⟩/\Ep (fun _=>True) w b off l)
theorem Ep.stay {w w':World} {b off:Nat} {l:List lF} (h:Ep (fun _=>True) w b off l) (hq:ah w w'):Ep (fun _=>True) w' b off l:=by
 intro i t hi;obtain ⟨o1,l1,c1,o2,l2,c2,s1,s2,a0,a1,a2,a3,a4,a5,a6,a7⟩:=h i t hi;exact ⟨o1,l1,c1,o2,l2,c2,s1.stay hq,s2.stay hq,hq.at a0,hq.at a1,hq.at a2,hq.at a3,hq.at a4,hq.at a5,hq.at a6,hq.at a7⟩
theorem qw.stay {w w':World} {o:Option Addr} {l:List lF} (h:qw w o l) (hq:ah w w'):qw w' o l:=by
 refine ⟨h.1,h.2.1,h.2.2.imp id ?_⟩;rintro ⟨b,off,h1,h2⟩;exact ⟨b,off,h1,h2.stay hq⟩
theorem qw.nil (w:World) (o:Option Addr):qw w o []:=⟨Nat.zero_le _,fun t ht=>(by cases ht),.inl rfl⟩
theorem dQ.eqs {X:Nat->Prop} {most:Int} {pb:Nat} {W:World} {k:Mk} {o:Option Addr} {c:Nat} {xs:List Value} (h:l9 X most pb W k o c xs):qw W o k.eqs/\k.eqs.length<=c:=by
 rcases h.form with ⟨h1,h2,h3⟩ | ⟨g,h1,_,_,h4⟩
 ·exact ⟨⟨h.few,h.small,.inl (List.eq_nil_of_length_eq_zero h2)⟩,by omega⟩
 ·subst h1;refine ⟨⟨h.few,h.small,.inr ⟨g,0,rfl,?_⟩⟩,h4⟩;have hq:Ep (TF X pb W) W g 0 k.eqs:=Ep.Lj h.cells (fun j u hj=>by
   have:=h.own.cells (g:=g) rfl j u hj;simpa [Addr.add_lit] using this)
  intro i t hi;obtain ⟨o1,l1,c1,o2,l2,c2,s1,s2,a⟩:=hq i t hi;exact ⟨o1,l1,c1,o2,l2,c2,s1.mono (fun _ _ _=>trivial),s2.mono (fun _ _ _=>trivial),a⟩
def OfQ (w:World) (r:List lF × Int) (x:Ending) (w':World):Prop:=∃ o c,x=.returned (.tuple #[.slice o r.1.length c,.int .i64 r.2])/\r.1.length<=c/\qw w' o r.1/\ah w w'
theorem Iu (w w':World) (er:Int) (hq:ah w w'):OfQ w ([],er) (.returned (.tuple #[.slice none 0 0,.int .i64 er])) w':=⟨none,0,rfl,Nat.le_refl _,qw.nil _ _,hq⟩
theorem aao {W:World} {m:Int}:dQ (fun _=>False) m W.heap.size (W.alloc (.cells #[.slice none 0 0,.int .i64 0,.int .i64 m,.bool false] 67)) ⟨[],0,false⟩ :=
 ⟨none,0,[],heap_alloc_new W _,World.ownsRow_nil _ _ _ _,fun g hg=>(by cases hg),rfl,Nat.zero_le _,fun t ht=>(by cases ht),fun i hi=>hi.elim,fun h=>h⟩
theorem Vf (h : Nd) (ps : To) (most : Int) (w : World) (R : Nat -> Prop) (o1 : Option Addr) (l1 c1 : Nat) (o2 : Option Addr) (l2 c2 : Nat) (hs1 : aB R w o1 l1 h.tp) (hs : bC R w o2 l2 ps) (hz : ps.size <= 50000) (hg : allT sF (.cons h ps .nil)) (ht : Lx.kD w) :
    Calls Tryd.prog 9 #[bP h o1 l1 c1 o2 l2 c2,.int .i64 most] w (OfQ w (IX h ps most)):=by
 obtain ⟨W0,hW0⟩:∃ W0,W0=w.alloc (.cells (cells9 h o1 l1 c1 o2 l2 c2) 30):=⟨_,rfl⟩;have bD:Hid (ah w W0):=by rw [hW0];exact ah.alloc _ _
 have HB0:Hid (W0.heap[w.heap.size]?=some (.cells (cells9 h o1 l1 c1 o2 l2 c2) 30 (0,0))):=by show _=_;rw [hW0];exact heap_alloc_new w _
 have HRS:=hid (Sc.JC h ps W0 R o1 l1 c1 o2 l2 c2 (hs1.stay bD.out) (hs.stay bD.out) (by omega) hg (ht.stay bD.out));obtain ⟨m,hm⟩:∃ m,min most 4096=m:=⟨_,rfl⟩;obtain ⟨fin,hfin⟩:∃ fin,(dw m h ps [] ⟨[],0,false⟩).2=fin:=⟨_,rfl⟩;have HM:Hid (m<=4096):=by show m<=4096;omega
 have HOF:Hid (IX h ps most=if (Sc.pY h ps).2.2=0 then (if fin.many then ([],6) else (fin.eqs,0)) else ([],(Sc.pY h ps).2.2)):=by
  show _=_
  unfold IX;rw [hm,hfin]
 have nT:Hid ((Sc.pY h ps).2.2=0->∀ W pb,ah w W->w.heap.size<=pb->dQ (fun _=>False) m pb W ⟨[],0,false⟩->Calls Tryd.prog 22 #[.pointer (some ⟨pb,0,none⟩),bP h o1 l1 c1 o2 l2 c2,.slice none 0 0] W fun x w'=>(∃ v,x=.returned v)/\dQ (fun _=>False) m pb w' fin/\Later pb W w'):=fun h0 W pb hq hpb hmk=>by
  obtain ⟨hrt,hfr⟩:=X3 h0;have hok:=DL _ hrt hg;have hkk:=DK _ hrt;have hnx:=Ui (M:=4096) HM.out h ps hkk;have hr:∀ i,(R i/\i < w.heap.size)->i < pb:=fun i hi=>by omega
  refine (MN h ps W (fun i=>R i/\i < w.heap.size) (fun _=>False) m pb ⟨[],0,false⟩ o1 l1 c1 o2 l2 c2 none 0 0 [] [] ((hs1.mono (fun i hi hk=>⟨hk,hi⟩)).stay hq) ((hs.mono (fun i hi hk=>⟨hk,hi⟩)).stay hq) hr hmk HM.out (mP.nil _ _ _) (Nat.le_refl _) (by omega) .nil hok.1 hok.2.1 hfr (Nat.le_trans hnx (by unfold Aj;omega))).mono ?_;rintro x w' ⟨n,o,c,_,rfl,h1,h2⟩;rw [hfin] at h1;exact ⟨⟨_,rfl⟩,h1,h2⟩
 obtain ⟨res,hres⟩:∃ res,IX h ps most=res:=⟨_,rfl⟩;have aQ:=hid hres;have hmn:most<=4096∨4096 < most:=by omega
 rw [hres];clear hs1 hs hg ht hres hz hfin;unfold bP at nT ⊢;unfold bP at HRS;go_enter Tryd.func9,Tryd.ntmps9;go_upto_region 1 with fail
 rw [<-hW0];clear hW0;generalize dV:w.heap.size=B at *;have bY:=hid dV;clear dV;obtain ⟨a0,a1,a2,a3,a4,a5,a6,a7,a8⟩:=aA HB0.out;go_wp2_with fail;refine HRS.out.mono ?_;rintro x w1 ⟨g,gs,q1,m1,d1,q2,m2,d2,p,er,rfl,hrv,hg1,hg2,hq1⟩;unfold bP;have HER:Hid ((Sc.pY h ps).2.2=er):=by show _=_;rw [hrv]
 have hq2:ah W0 ((w1.alloc (.cells (cells9 g q1 m1 d1 q2 m2 d2) 30)).alloc (.cells #[.int .i64 p.1,.int .i64 p.2] 28)):=hq1.trans ((ah.alloc _ _).trans (ah.alloc _ _));have fC:=hid hq2;clear hrv hg1 hg2 hq1 hq2 a0 a1 a2 a3 a4 a5 a6 a7 a8;go_upto_region 2 with fail
 change Code.wp _ _ _ _ ((w1.alloc (.cells (cells9 g q1 m1 d1 q2 m2 d2) 30)).alloc (.cells #[.int .i64 p.1,.int .i64 p.2] 28));generalize (w1.alloc (.cells (cells9 g q1 m1 d1 q2 m2 d2) 30)).alloc (.cells #[.int .i64 p.1,.int .i64 p.2] 28)=W2 at *
 by_cases he:er=0
 ·have he2:(er != 0)=false:=by simp [he]
  have rZ:Hid (res=if fin.many then ([],6) else (fin.eqs,0)):=by show _=_;rw [<-aQ.out,HOF.out,if_pos (by rw [HER.out];exact he)]
  have HT0:=hid (nT.out (by rw [HER.out];exact he));clear he nT;obtain ⟨W3,hW3⟩:∃ W3,W3=W2.alloc (.cells #[.slice none 0 0,.int .i64 0,.int .i64 m,.bool false] 67):=⟨_,rfl⟩;have hq3:ah W2 W3:=by rw [hW3];exact ah.alloc _ _
  have nZ:dQ (fun _=>False) m W2.heap.size W3 ⟨[],0,false⟩:=by rw [hW3];exact aao
  have EO:=bD.out.trans (fC.out.trans hq3);have hBz:w.heap.size<=W2.heap.size:=(bD.out.trans fC.out).size;have HC:=hid (HT0.out W3 W2.heap.size EO (by rw [<-bY.out];exact hBz) nZ);have G8:=hid EO;have HBZ:=hid hBz;have HRW:Hid (∀ i,¬ Rw W2.heap.size W3 i):=fun i hi=>by
   obtain ⟨n,c,e⟩:=hi;rw [hW3,cell_of_row _ _ _ _ _ (0,0) (heap_alloc_new W2 _)] at e;simp at e
  have hb3:=au (fC.out.trans hq3) HB0.out;obtain ⟨a0,a1,a2,a3,a4,a5,a6,a7,a8⟩:=aA hb3;clear nZ EO HT0 hb3 hq3 hBz;have LZ:(if most<=4096 then most else 4096)=m:=by rw [<-hm];by_cases hh:most<=4096<;>simp [hh]<;>omega
  rcases hmn with hle | hlt
  ·obtain rfl:most=m:=by omega
   go_upto_region 5 with fail
   change Code.wp _ _ _ _ (W2.alloc (.cells #[.slice none 0 0,.int .i64 0,.int .i64 most,.bool false] 67));rw [<-hW3];clear hW3;generalize W2.heap.size=pb at *;go_wp2_with fail;refine HC.out.mono ?_;rintro x w5 ⟨⟨v,rfl⟩,Eu,hl5⟩;obtain ⟨o5,c5,xs5,hmk5⟩:=Eu;obtain ⟨q0,q1,q2,q3⟩:=bT hmk5.box;have MP:=hid (dQ.eqs hmk5);have qU:Hid (ah w w5):=Fr.trans' G8.out hl5.fr (fun i hi e=>e.elim (fun e=>by have:=HBZ.out;omega) (fun e=>HRW.out i e));clear hmk5 hl5 a0 a1 a2 a3 a4 a5 a6 a7 a8;obtain ⟨many,qP⟩:∃ many,fin.many=many:=⟨_,rfl⟩;rw [qP] at q3;have HMY:=hid qP;clear qP;cases many
   ·have MQ:Hid (res=(fin.eqs,0)):=by show _=_;rw [rZ.out,HMY.out];rfl
    go_wp2_with fail;refine bodyPost_ret (by first | (simp [results,Tryd.results9,go_sem];done) | (simp [results,Tryd.results9,go_sem];rfl)) rfl ?_;rw [MQ.out];exact ⟨o5,c5,rfl,MP.out.2,MP.out.1,qU.out⟩
   ·have MQ:Hid (res=([],6)):=by show _=_;rw [rZ.out,HMY.out];rfl
    go_wp2_with fail;refine bodyPost_ret (by first | (simp [results,Tryd.results9,go_sem];done) | (simp [results,Tryd.results9,go_sem];rfl)) rfl ?_;rw [MQ.out];exact Iu _ _ _ qU.out
  ·obtain rfl:(4096:Int)=m:=by omega
   go_upto_region 5 with fail
   change Code.wp _ _ _ _ (W2.alloc (.cells #[.slice none 0 0,.int .i64 0,.int .i64 4096,.bool false] 67));rw [<-hW3];clear hW3;generalize W2.heap.size=pb at *;go_wp2_with fail;refine HC.out.mono ?_;rintro x w5 ⟨⟨v,rfl⟩,Eu,hl5⟩;obtain ⟨o5,c5,xs5,hmk5⟩:=Eu;obtain ⟨q0,q1,q2,q3⟩:=bT hmk5.box;have MP:=hid (dQ.eqs hmk5);have qU:Hid (ah w w5):=Fr.trans' G8.out hl5.fr (fun i hi e=>e.elim (fun e=>by have:=HBZ.out;omega) (fun e=>HRW.out i e));clear hmk5 hl5 a0 a1 a2 a3 a4 a5 a6 a7 a8;obtain ⟨many,qP⟩:∃ many,fin.many=many:=⟨_,rfl⟩;rw [qP] at q3;have HMY:=hid qP;clear qP;cases many
   ·have MQ:Hid (res=(fin.eqs,0)):=by show _=_;rw [rZ.out,HMY.out];rfl
    go_wp2_with fail;refine bodyPost_ret (by first | (simp [results,Tryd.results9,go_sem];done) | (simp [results,Tryd.results9,go_sem];rfl)) rfl ?_;rw [MQ.out];exact ⟨o5,c5,rfl,MP.out.2,MP.out.1,qU.out⟩
   ·have MQ:Hid (res=([],6)):=by show _=_;rw [rZ.out,HMY.out];rfl
    go_wp2_with fail;refine bodyPost_ret (by first | (simp [results,Tryd.results9,go_sem];done) | (simp [results,Tryd.results9,go_sem];rfl)) rfl ?_;rw [MQ.out];exact Iu _ _ _ qU.out
 ·have he2:(er != 0)=true:=by simp [he]
  have rZ:Hid (res=([],er)):=by show _=_;rw [<-aQ.out,HOF.out,if_neg (by rw [HER.out];exact he),HER.out]
  clear he;go_wp2_with fail;refine bodyPost_ret (by first | (simp [results,Tryd.results9,go_sem];done) | (simp [results,Tryd.results9,go_sem];rfl)) rfl ?_;rw [rZ.out];exact Iu _ _ _ (bD.out.trans fC.out)
end Em
end
section
open Go.RowKit Go.Shelf Lx Pa
namespace Em
abbrev Y1:ByteArray:=⟨#[102,117,110,32,120,32,45,62,32,120]⟩
def h17:Nd:=⟨4,⟨#[120]⟩,0,0,0,.nil,0,10⟩
def p17:To:=.cons ⟨1,⟨#[120]⟩,0,0,0,.nil,9,10⟩ .nil .nil
theorem t17:vT Y1.data.toList 9=.inl (h17,p17):=by kernel_rfl
theorem n17:IX h17 p17 9=([(tv 2,tv 1,9,10),(tv 0,iO (tv 1) (tv 2),0,10)],0):=by kernel_rfl
theorem g17:allT sF (.cons h17 p17 .nil):=by
 have h:∀ k nm a b,nm.size<=100000->sF ⟨k,nm,0,0,0,.nil,a,b⟩:=fun k nm a b hn=>⟨hn,Nat.zero_le _,(by decide:(Lit.int .i64 0).wf=true),trivial⟩
 exact ⟨h _ _ _ _ (by decide),⟨h _ _ _ _ (by decide),trivial,trivial⟩,trivial⟩
theorem z17:p17.size<=50000:=by decide
def A17 (w:World) (x:Ending) (w':World):Prop:=∃ b off c p1 k1 p2 k2 p3 k3,x=.returned (.tuple #[.slice (some ⟨b,off,none⟩) 2 c,.int .i64 0])/\2<=c/\nJ w' p3 2 (iO (tv 1) (tv 2)).2.2/\ah w w'/\(w'.cell? ⟨b,off,none⟩=some (.int .i64 1)/\w'.cell? ⟨b,off+1,none⟩=some (.int .i64 2)/\w'.cell? ⟨b,off+2,none⟩=some (.slice p1 0 k1)/\w'.cell? ⟨b,off+3,none⟩=some (.int .i64 1)/\w'.cell? ⟨b,off+4,none⟩=some (.int .i64 1)/\w'.cell? ⟨b,off+5,none⟩=some (.slice p2 0 k2)/\w'.cell? ⟨b,off+8+3,none⟩=some (.int .i64 4)/\w'.cell? ⟨b,off+8+4,none⟩=some (.int .i64 0)/\w'.cell? ⟨b,off+8+5,none⟩=some (.slice p3 2 k3))
theorem Vg {w0 W w':World} {o:Option Addr} {n:Nat} {f:Fo} {G:Prop} (hq:ah w0 W) (h:aB (fun i=>W.heap.size<=i) w' o n f) (k:aB (fun i=>w0.heap.size<=i) w' o n f->G):G:=k (h.mono (fun _ _ hi=>Nat.le_trans hq.size hi))
theorem Ko (w:World) (ht:Lx.kD w):Calls Tryd.prog 4 #[] w fun e w'=>e=.returned (.bool true)/\ah w w':=by
 have HC:=hid (Jm Y1 (by decide) 9 9 rfl (by decide) (by decide) w);rw [t17] at HC;have HN:=n17;have HG:=g17;have HZ:=z17;have HT:=hid ht;clear ht;generalize h17=h at *;generalize p17=ps at *;have HE:Hid (∀ (W:World) (o1:Option Addr) (l1 c1:Nat) (o2:Option Addr) (l2 c2:Nat),aB (fun b=>w.heap.size<=b) W o1 l1 h.tp->bC (fun b=>w.heap.size<=b) W o2 l2 ps->ah w W->Calls Tryd.prog 9 #[bP h o1 l1 c1 o2 l2 c2,.int .i64 9] W (A17 W)):=fun W o1 l1 c1 o2 l2 c2 k1 k2 hq=>by
  have k:=Vf h ps 9 W _ o1 l1 c1 o2 l2 c2 k1 k2 HZ HG (HT.out.stay hq);rw [HN] at k;refine k.mono ?_;rintro x w' ⟨o,c,rfl,hc,⟨_,_,hq'⟩,hqq⟩;rcases hq' with e | ⟨b,off,rfl,hqa⟩
  ·cases e
  ·obtain ⟨p1,n1,k1,p2,n2,k2,s1,s2,a0,a1,a2,a3,a4,a5,_⟩:=hqa 0 _ rfl;obtain ⟨_,_,_,p3,n3,k3,_,s3,_,_,_,b3,b4,b5,_⟩:=hqa 1 _ rfl;obtain rfl:n1=0:=s1.1;obtain rfl:n2=0:=s2.1;obtain rfl:n3=2:=s3.1;exact ⟨b,off,c,p1,k1,p2,k2,p3,k3,rfl,hc,s3.slc,hqq,a0,a1,a2,a3,a4,a5,b3,b4,b5⟩
 unfold bP at HE;clear HN HG HZ HT;go_enter Tryd.func4,Tryd.ntmps4;go_wp2_with fail;refine HC.out.mono ?_;rintro x w1 ⟨o1,l1,c1,o2,l2,c2,rfl,hs1,hs2,hq1⟩;unfold bP;obtain ⟨W2,hW2⟩:∃ W2,W2=(w1.alloc (.cells (cells9 h o1 l1 c1 o2 l2 c2) 30)).alloc (.cells #[.int .i64 0,.int .i64 0] 28):=⟨_,rfl⟩;have hqa:ah w1 W2:=by rw [hW2];exact (ah.alloc _ _).trans (ah.alloc _ _)
 have hb2:W2.heap[w1.heap.size]?=some (.cells (cells9 h o1 l1 c1 o2 l2 c2) 30 (0,0)):=by
  rw [hW2,Below.heap_alloc _ _ _ (by simp)];exact heap_alloc_new w1 _
 have fC:=hid (hq1.trans hqa);have HE2:=hid (HE.out W2 o1 l1 c1 o2 l2 c2 (hs1.stay hqa) (hs2.stay hqa) fC.out);go_upto_region 2 with fail
 change Code.wp _ _ _ _ ((w1.alloc (.cells (cells9 h o1 l1 c1 o2 l2 c2) 30)).alloc (.cells #[.int .i64 0,.int .i64 0] 28));rw [<-hW2];clear hW2 hqa hq1 hs1 hs2;generalize w1.heap.size=tb at *;obtain ⟨a0,a1,a2,a3,a4,a5,a6,a7,a8⟩:=aA hb2;clear hb2;go_wp2_with fail;refine HE2.out.mono ?_;rintro x w3 ⟨b,off,c,p1,k1,p2,k2,p3,k3,rfl,hc,hs3,hq3,hcells⟩;have qI:=hid (fC.out.trans hq3);have Sl:=hid hs3;have HCL:=hid hcells;have bK:Hid (∀ W,ah w3 W->(W.cell? ⟨b,off,none⟩=some (.int .i64 1)/\W.cell? ⟨b,off+1,none⟩=some (.int .i64 2)/\W.cell? ⟨b,off+2,none⟩=some (.slice p1 0 k1)/\W.cell? ⟨b,off+3,none⟩=some (.int .i64 1)/\W.cell? ⟨b,off+4,none⟩=some (.int .i64 1)/\W.cell? ⟨b,off+5,none⟩=some (.slice p2 0 k2)/\W.cell? ⟨b,off+8+3,none⟩=some (.int .i64 4)/\W.cell? ⟨b,off+8+4,none⟩=some (.int .i64 0)/\W.cell? ⟨b,off+8+5,none⟩=some (.slice p3 2 k3))):=fun W hq=>by
  obtain ⟨e0,e1,e2,e3,e4,e5,e6,e7,e8⟩:=HCL.out;exact ⟨hq.at e0,hq.at e1,hq.at e2,hq.at e3,hq.at e4,hq.at e5,hq.at e6,hq.at e7,hq.at e8⟩
 have HV:Hid (∀ (n:Int) (W:World),Calls Tryd.prog 13 #[.int .i64 n] W fun e w'=>e=.returned (.agg #[.int .i64 1,.int .i64 n,.slice none 0 0])/\ah W w'):=fun n W=>NC n W
 have nH:Hid (∀ W,Calls Tryd.prog 12 #[.agg #[.int .i64 1,.int .i64 2,.slice p1 0 k1],.agg #[.int .i64 1,.int .i64 2,.slice none 0 0]] W fun e w'=>e=.returned (.bool true)/\ah W w'):=fun W=>nD 1 2 .nil 1 2 .nil W p1 0 k1 none 0 0 (nJ.nil _ _) (nJ.nil _ _)
 have HS2:Hid (∀ W,Calls Tryd.prog 12 #[.agg #[.int .i64 1,.int .i64 1,.slice p2 0 k2],.agg #[.int .i64 1,.int .i64 1,.slice none 0 0]] W fun e w'=>e=.returned (.bool true)/\ah W w'):=fun W=>nD 1 1 .nil 1 1 .nil W p2 0 k2 none 0 0 (nJ.nil _ _) (nJ.nil _ _)
 have Jz:Hid (∀ (W:World) (g:Nat),W.heap[g]?=some (.cells #[.int .i64 1,.int .i64 1,.slice none 0 0,.int .i64 1,.int .i64 2,.slice none 0 0] 25 (0,0))->Calls Tryd.prog 14 #[.slice (some ⟨g,0,none⟩) 2 2] W (ArQ W 1 2)):=fun W g hg=>DI hg
 have GV:Hid (∀ (W:World) (o4:Option Addr) (c4:Nat),aB (fun i=>w3.heap.size<=i) W o4 2 (iO (tv 1) (tv 2)).2.2->ah w3 W->Calls Tryd.prog 12 #[.agg #[.int .i64 4,.int .i64 0,.slice p3 2 k3],.agg #[.int .i64 4,.int .i64 0,.slice o4 2 c4]] W fun e w'=>e=.returned (.bool true)/\ah W w'):=fun W o4 c4 hs hq=>nD 4 0 (iO (tv 1) (tv 2)).2.2 4 0 (iO (tv 1) (tv 2)).2.2 W p3 2 k3 o4 2 c4 (Sl.out.stay hq) hs.slc
 have hqc:=ah.refl w3;obtain ⟨e0,e1,e2,e3,e4,e5,e6,e7,e8⟩:=hcells;clear a0 a1 a2 a3 a4 a5 a6 a7 a8 hq3 hs3 HE2 HE;go_upto_region 3 with fail
 go_region_held3 (fun W=>W.cell? ⟨b,off,none⟩=some (.int .i64 1)/\W.cell? ⟨b,off+1,none⟩=some (.int .i64 2)/\W.cell? ⟨b,off+2,none⟩=some (.slice p1 0 k1)/\W.cell? ⟨b,off+3,none⟩=some (.int .i64 1)/\W.cell? ⟨b,off+4,none⟩=some (.int .i64 1)/\W.cell? ⟨b,off+5,none⟩=some (.slice p2 0 k2)/\W.cell? ⟨b,off+8+3,none⟩=some (.int .i64 4)/\W.cell? ⟨b,off+8+4,none⟩=some (.int .i64 0)/\W.cell? ⟨b,off+8+5,none⟩=some (.slice p3 2 k3))
  (((refine bK.out _ ?_);(repeat with_reducible first | exact hqc | exact ah.refl _ | refine jq ?_ | refine jr ?_)))
  (first
   | (go_at_call 13;(with_reducible refine Calls.mono (HV.out _ _) ?_);rintro e wx ⟨rfl,fJ⟩;(refine nK (w0:=w3) ?hq2 fJ ?_);(case hq2=>(repeat with_reducible first | exact hqc | exact ah.refl _ | refine jq ?_ | refine jr ?_));intro hqc)
   | (go_at_call 12;(with_reducible refine Calls.mono (nH.out _) ?_);rintro e wx ⟨rfl,fJ⟩;(refine nK (w0:=w3) ?hq2 fJ ?_);(case hq2=>(repeat with_reducible first | exact hqc | exact ah.refl _ | refine jq ?_ | refine jr ?_));intro hqc)
   | (go_at_call 12;(with_reducible refine Calls.mono (HS2.out _) ?_);rintro e wx ⟨rfl,fJ⟩;(refine nK (w0:=w3) ?hq2 fJ ?_);(case hq2=>(repeat with_reducible first | exact hqc | exact ah.refl _ | refine jq ?_ | refine jr ?_));intro hqc)
   | (go_at_call 14;(with_reducible refine Calls.mono (Jz.out _ _ ?hblk) ?_);(case hblk=>(repeat (first | ((with_reducible refine lD _ _ _ _ ?hbe);(case hbe=>(simp;done))) | with_reducible refine au (ah.alloc _ _) ?_ | with_reducible refine ig ?_ | fail)));rintro e wx ⟨o4,c4,rfl,hs4,fJ⟩;(refine Vg (w0:=w3) ?hqz hs4 ?_);(case hqz=>(repeat with_reducible first | exact hqc | exact ah.refl _ | refine jq ?_ | refine jr ?_));intro hs4;(refine nK (w0:=w3) ?hq2 fJ ?_);(case hq2=>(repeat with_reducible first | exact hqc | exact ah.refl _ | refine jq ?_ | refine jr ?_));intro hqc)
   | (go_at_call 12;(with_reducible refine Calls.mono (GV.out _ _ _ ?hsz ?hq) ?_);(case hq=>(repeat with_reducible first | exact hqc | exact ah.refl _ | refine jq ?_ | refine jr ?_));(case hsz=>(repeat (first | with_reducible exact hs4 | with_reducible refine aB.stay ?_ (ah.drew _) | fail)));rintro e wx ⟨rfl,fJ⟩;(refine nK (w0:=w3) ?hq2 fJ ?_);(case hq2=>(repeat with_reducible first | exact hqc | exact ah.refl _ | refine jq ?_ | refine jr ?_));intro hqc)
   | fail)
 all_goals
  go_wp2_with fail;go_ret;exact ⟨rfl,qI.out.trans hqc⟩
end Em
end
section
open Go.RowKit
namespace Em
theorem zG:∀ f:Fo,f.same f=true
 | .nil=>rfl
 | .cons k n ps r=>by simp [Fo.same,zG ps,zG r]
theorem DR (k n:Int) (ps:Fo):lJ k n ps k n ps=true:=by simp [lJ,zG ps]
theorem qw.get {w:World} {o:Option Addr} {l:List lF} (h:qw w o l) {i:Nat} {t:lF} (hi:l[i]?=some t):∃ b off o1 l1 c1 o2 l2 c2,o=some ⟨b,off,none⟩/\nJ w o1 l1 t.1.2.2/\nJ w o2 l2 t.2.1.2.2 /\
 w.cell? ⟨b,off+i*8,none⟩=some (.int .i64 t.1.1)/\w.cell? ⟨b,off+i*8+1,none⟩=some (.int .i64 t.1.2.1)/\w.cell? ⟨b,off+i*8+2,none⟩=some (.slice o1 l1 c1) /\
 w.cell? ⟨b,off+i*8+3,none⟩=some (.int .i64 t.2.1.1)/\w.cell? ⟨b,off+i*8+4,none⟩=some (.int .i64 t.2.1.2.1)/\w.cell? ⟨b,off+i*8+5,none⟩=some (.slice o2 l2 c2) /\
 w.cell? ⟨b,off+i*8+6,none⟩=some (.int .i64 t.2.2.1)/\w.cell? ⟨b,off+i*8+7,none⟩=some (.int .i64 t.2.2.2):=by
 rcases h.2.2 with e | ⟨b,off,rfl,hq⟩
 ·subst e;simp at hi
 ·obtain ⟨o1,l1,c1,o2,l2,c2,s1,s2,a⟩:=hq i t hi;exact ⟨b,off,o1,l1,c1,o2,l2,c2,rfl,s1.slc,s2.slc,a⟩
theorem QF (l : List lF) (w : World) (pa : Option Addr) (ca : Nat) (pb : Option Addr) (cb : Nat) (h1 : qw w pa l) (h2 : qw w pb l) :
    Calls Tryd.prog 11 #[.slice pa l.length ca,.slice pb l.length cb] w fun e w'=>e=.returned (.bool true)/\ah w w':=by
 obtain ⟨ln,hln⟩:∃ ln,l.length=ln:=⟨_,rfl⟩;have HL:=hid hln;have H1:=hid h1;have H2:=hid h2;have hz:ln<=4096:=by have:=h1.1;omega
 rw [hln];clear h1 h2 hln;go_enter Tryd.func11,Tryd.ntmps11;go_wp2_with fail;go_loopw [5] (fun t wr=>∃ i:Nat,t=.int .i64 i/\i<=ln/\ah w wr) (fun t _=>ln-(intOf t).toNat)
 case atStart=>exact ⟨0,rfl,Nat.zero_le _,ah.refl _⟩
 case round =>
  obtain ⟨i,rfl,hi,hq⟩:=hrel;have HQ:=hid hq
  by_cases hlt:i < ln
  ·have hlt':(i:Int) < ln:=by omega
   obtain ⟨t,ht⟩:∃ t,l[i]?=some t:=⟨_,List.getElem?_eq_getElem (by have:=HL.out;omega)⟩;obtain ⟨ba,oa,po1,pl1,pc1,po2,pl2,pc2,rfl,sa1,sa2,hca⟩:=H1.out.get ht;obtain ⟨bb,ob,qo1,ql1,qc1,qo2,ql2,qc2,rfl,sb1,sb2,hcb⟩:=H2.out.get ht;have HCA:=hid hca;have HCB:=hid hcb;have bK:Hid (∀ W,ah wr W->(W.cell? ⟨ba,oa+i*8,none⟩=some (.int .i64 t.1.1)/\W.cell? ⟨ba,oa+i*8+1,none⟩=some (.int .i64 t.1.2.1)/\W.cell? ⟨ba,oa+i*8+2,none⟩=some (.slice po1 pl1 pc1)/\W.cell? ⟨ba,oa+i*8+3,none⟩=some (.int .i64 t.2.1.1)/\W.cell? ⟨ba,oa+i*8+4,none⟩=some (.int .i64 t.2.1.2.1)/\W.cell? ⟨ba,oa+i*8+5,none⟩=some (.slice po2 pl2 pc2)/\W.cell? ⟨ba,oa+i*8+6,none⟩=some (.int .i64 t.2.2.1)/\W.cell? ⟨ba,oa+i*8+7,none⟩=some (.int .i64 t.2.2.2))/\(W.cell? ⟨bb,ob+i*8,none⟩=some (.int .i64 t.1.1)/\W.cell? ⟨bb,ob+i*8+1,none⟩=some (.int .i64 t.1.2.1)/\W.cell? ⟨bb,ob+i*8+2,none⟩=some (.slice qo1 ql1 qc1)/\W.cell? ⟨bb,ob+i*8+3,none⟩=some (.int .i64 t.2.1.1)/\W.cell? ⟨bb,ob+i*8+4,none⟩=some (.int .i64 t.2.1.2.1)/\W.cell? ⟨bb,ob+i*8+5,none⟩=some (.slice qo2 ql2 qc2)/\W.cell? ⟨bb,ob+i*8+6,none⟩=some (.int .i64 t.2.2.1)/\W.cell? ⟨bb,ob+i*8+7,none⟩=some (.int .i64 t.2.2.2))):=fun W hw=>by
    have hq':=HQ.out.trans hw;obtain ⟨x0,x1,x2,x3,x4,x5,x6,x7⟩:=HCA.out;obtain ⟨y0,y1,y2,y3,y4,y5,y6,y7⟩:=HCB.out;exact ⟨⟨hq'.at x0,hq'.at x1,hq'.at x2,hq'.at x3,hq'.at x4,hq'.at x5,hq'.at x6,hq'.at x7⟩,⟨hq'.at y0,hq'.at y1,hq'.at y2,hq'.at y3,hq'.at y4,hq'.at y5,hq'.at y6,hq'.at y7⟩⟩
   have HSL:Hid (∀ W,ah wr W->Calls Tryd.prog 12 #[.agg #[.int .i64 t.1.1,.int .i64 t.1.2.1,.slice po1 pl1 pc1],.agg #[.int .i64 t.1.1,.int .i64 t.1.2.1,.slice qo1 ql1 qc1]] W fun e w'=>e=.returned (.bool true)/\ah W w'):=fun W hw=>by
    have k:=nD t.1.1 t.1.2.1 t.1.2.2 t.1.1 t.1.2.1 t.1.2.2 W po1 pl1 pc1 qo1 ql1 qc1 (sa1.stay (HQ.out.trans hw)) (sb1.stay (HQ.out.trans hw));rw [DR] at k;exact k
   have HSR:Hid (∀ W,ah wr W->Calls Tryd.prog 12 #[.agg #[.int .i64 t.2.1.1,.int .i64 t.2.1.2.1,.slice po2 pl2 pc2],.agg #[.int .i64 t.2.1.1,.int .i64 t.2.1.2.1,.slice qo2 ql2 qc2]] W fun e w'=>e=.returned (.bool true)/\ah W w'):=fun W hw=>by
    have k:=nD t.2.1.1 t.2.1.2.1 t.2.1.2.2 t.2.1.1 t.2.1.2.1 t.2.1.2.2 W po2 pl2 pc2 qo2 ql2 qc2 (sa2.stay (HQ.out.trans hw)) (sb2.stay (HQ.out.trans hw));rw [DR] at k;exact k
   have hqc:=ah.refl wr;obtain ⟨⟨x0,x1,x2,x3,x4,x5,x6,x7⟩,⟨y0,y1,y2,y3,y4,y5,y6,y7⟩⟩:=bK.out wr hqc;clear hca hcb sa1 sa2 sb1 sb2 ht hq;go_upto_region 6 with fail
   go_region_held3 (fun W=>(W.cell? ⟨ba,oa+i*8,none⟩=some (.int .i64 t.1.1)/\W.cell? ⟨ba,oa+i*8+1,none⟩=some (.int .i64 t.1.2.1)/\W.cell? ⟨ba,oa+i*8+2,none⟩=some (.slice po1 pl1 pc1)/\W.cell? ⟨ba,oa+i*8+3,none⟩=some (.int .i64 t.2.1.1)/\W.cell? ⟨ba,oa+i*8+4,none⟩=some (.int .i64 t.2.1.2.1)/\W.cell? ⟨ba,oa+i*8+5,none⟩=some (.slice po2 pl2 pc2)/\W.cell? ⟨ba,oa+i*8+6,none⟩=some (.int .i64 t.2.2.1)/\W.cell? ⟨ba,oa+i*8+7,none⟩=some (.int .i64 t.2.2.2))/\(W.cell? ⟨bb,ob+i*8,none⟩=some (.int .i64 t.1.1)/\W.cell? ⟨bb,ob+i*8+1,none⟩=some (.int .i64 t.1.2.1)/\W.cell? ⟨bb,ob+i*8+2,none⟩=some (.slice qo1 ql1 qc1)/\W.cell? ⟨bb,ob+i*8+3,none⟩=some (.int .i64 t.2.1.1)/\W.cell? ⟨bb,ob+i*8+4,none⟩=some (.int .i64 t.2.1.2.1)/\W.cell? ⟨bb,ob+i*8+5,none⟩=some (.slice qo2 ql2 qc2)/\W.cell? ⟨bb,ob+i*8+6,none⟩=some (.int .i64 t.2.2.1)/\W.cell? ⟨bb,ob+i*8+7,none⟩=some (.int .i64 t.2.2.2)))
    (((refine bK.out _ ?_);(repeat with_reducible first | exact hqc | exact ah.refl _ | refine jq ?_ | refine jr ?_)))
    (first
     | (go_at_call 12;(with_reducible refine Calls.mono (HSL.out _ ?hq) ?_);(case hq=>(repeat with_reducible first | exact hqc | exact ah.refl _ | refine jq ?_ | refine jr ?_));rintro e wx ⟨rfl,fJ⟩;(refine nK (w0:=wr) ?hq2 fJ ?_);(case hq2=>(repeat with_reducible first | exact hqc | exact ah.refl _ | refine jq ?_ | refine jr ?_));intro hqc)
     | (go_at_call 12;(with_reducible refine Calls.mono (HSR.out _ ?hq) ?_);(case hq=>(repeat with_reducible first | exact hqc | exact ah.refl _ | refine jq ?_ | refine jr ?_));rintro e wx ⟨rfl,fJ⟩;(refine nK (w0:=wr) ?hq2 fJ ?_);(case hq2=>(repeat with_reducible first | exact hqc | exact ah.refl _ | refine jq ?_ | refine jr ?_));intro hqc)
     | fail)
   all_goals
    go_wp2_with fail;go_roundw
    case rel=>exact ⟨i+1,by go_num,by omega,HQ.out.trans hqc⟩
    case measure=>simp [intOf];omega
  ·have hlt':¬ (i:Int) < ln:=by omega
   clear hq;go_wp2_with fail;go_ret;exact ⟨rfl,HQ.out⟩
end Em
end
section
namespace Em
theorem Iw {M:Int} (hM:M<=0):dh M=dh 0:=by
 funext l r fr en m
 unfold dh;rw [if_pos (by omega),if_pos (by omega)]
theorem Gg {M:Int} (hM:M<=0) (sh:Ty->Ty):∀ l:List lF,dS M sh l=dS 0 sh l
 | []=>rfl
 | e::r=>by unfold dS;rw [Iw hM,Gg hM sh r]
theorem Kq {M:Int} (hM:M<=0):vw M=vw 0:=by
 funext h f s
 unfold vw copied;simp only [Gg hM]
theorem zH {M:Int} (hM:M<=0):∀ f:To,bQ M f=bQ 0 f
 | .nil=>rfl
 | .cons h ps r=>by
  unfold bQ;rw [zH hM ps,zH hM r]
  congr 1
  funext e
  unfold vC;rw [Iw hM,Kq hM]
theorem QG {M:Int} (hM:M<=0) (h:Nd) (ps:To):dw M h ps []=dw 0 h ps []:=by
 unfold dw vC;rw [Iw hM,Kq hM,zH hM]
theorem Ot {h:Nd} {ps:To} (h0:(Sc.pY h ps).2.2=0) {most:Int} (hm:most < 0):IX h ps most=([],6):=by
 have hk:=DK _ (X3 h0).1;have e:(run (0:Nat) h ps).many=true:=by
  cases hmy:(run (0:Nat) h ps).many
  ·have h1:=XI hk.1.1 hk.1.2.1 hmy;have h2:=ZQ hmy;omega
  ·rfl
 unfold IX;rw [if_pos h0,QG (by omega)];have e':(dw 0 h ps [] ⟨[],0,false⟩).2.many=true:=e;dsimp only;rw [e'];rfl
abbrev vF (m:Nat) (h:Nd) (ps:To):Dk:=(dZ m h ps [] ⟨[],0⟩).2
theorem Iy {h : Nd} {ps : To} (h0 : (Sc.pY h ps).2.2 = 0) (m : Nat) :
    ((run m h ps).many=false/\(run m h ps).eqs=(vV h ps [] ⟨[],0⟩).2.L/\(run m h ps).next=(vV h ps [] ⟨[],0⟩).2.next/\(vV h ps [] ⟨[],0⟩).2.L.length<=m/\vF m h ps=(vV h ps [] ⟨[],0⟩).2) ∨
    ((run m h ps).many=true/\m < (vV h ps [] ⟨[],0⟩).2.L.length/\m < (vF m h ps).L.length):=by
 obtain ⟨hg,hn⟩:=J6 (.cons h ps .nil) (X3 h0).1;rcases (Vh m h ps hg hn).run ⟨[],0,false⟩ ⟨[],0⟩ (Nat.zero_le _) rfl (by intro e he;cases he) rfl rfl (Nat.zero_le _) with ⟨a,_,b,c,d,_,_⟩ | ⟨a,b⟩
 ·left
  have a':(run m h ps).many=false:=a;have b':(run m h ps).eqs=(vV h ps [] ⟨[],0⟩).2.L:=b;have c':(run m h ps).next=(vV h ps [] ⟨[],0⟩).2.next:=c
  have d':(run m h ps).eqs.length<=m:=d;rw [b'] at d';rcases (JL m h ps).run ⟨[],0⟩ (Nat.zero_le _) with ⟨_,e⟩ | ⟨e,_⟩
  ·exact ⟨a',b',c',d',by unfold vF;rw [e]⟩
  ·omega
 ·right
  have a':(run m h ps).many=true:=a;rcases (JL m h ps).run ⟨[],0⟩ (Nat.zero_le _) with ⟨e,_⟩ | ⟨_,e⟩
  ·omega
  ·exact ⟨a',b,e⟩
theorem aap {h : Nd} {ps : To} (h0 : (Sc.pY h ps).2.2 = 0) (most : Int) (m : Nat) (hm : (m : Int) = max 0 (min most 300)) :
    (m < (vF m h ps).L.length->300 < most∨IX h ps most=([],6))/\(¬ m < (vF m h ps).L.length->(most < 0->IX h ps most=([],6))/\(0<=most->IX h ps most=((vF m h ps).L,0))):=by
 by_cases hneg:most < 0
 ·exact ⟨fun _=>.inr (Ot h0 hneg),fun _=>⟨fun _=>Ot h0 hneg,fun h=>by omega⟩⟩
 by_cases hbig:300 < most
 ·have e300:m=300:=by omega
  subst e300;refine ⟨fun _=>.inl hbig,fun hle=>⟨fun h=>by omega,fun _=>?_⟩⟩;rcases Iy h0 300 with ⟨a,b,c,d,e⟩ | ⟨_,_,e⟩
  ·rw [e];obtain ⟨M,hM⟩:∃ M:Nat,(M:Int)=min most 4096:=⟨(min most 4096).toNat,by omega⟩;rcases Iy h0 M with ⟨a',b',_⟩ | ⟨_,b',_⟩
   ·unfold IX;rw [if_pos h0,<-hM];have e1:(dw (M:Int) h ps [] ⟨[],0,false⟩).2.many=false:=a';have e2:(dw (M:Int) h ps [] ⟨[],0,false⟩).2.eqs=(vV h ps [] ⟨[],0⟩).2.L:=b';dsimp only;rw [e1,e2];rfl
   ·omega
  ·exact absurd e hle
 ·have em:(m:Int)=most:=by omega
  rw [<-em,X5 h0 (by omega)];rcases Iy h0 m with ⟨a,b,c,d,e⟩ | ⟨a,_,e⟩
  ·refine ⟨fun h=>?_,fun _=>⟨fun h=>by omega,fun _=>?_⟩⟩
   ·rw [e] at h;omega
   ·rw [a,b,e];rfl
  ·refine ⟨fun _=>.inr (by rw [a];rfl),fun h=>absurd e h⟩
theorem Vj {h:Nd} {ps:To} (h0:(Sc.pY h ps).2.2=0) {m:Nat} (hm:m<=4000) (hz:ps.size<=1000):(vF m h ps).next<=1000000:=by
 have:=(Qp m h ps (DK _ (X3 h0).1)).1;unfold vF;omega
end Em
end
end Go.Proofs.YtcninopmelmajaaDoor
