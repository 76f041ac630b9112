/-
  Texts laid together (ScWalk, ScFreeDo): laws and walks, with their conditions.
-/
import Derived.Laws.OwnMore
import Derived.Test.YtcninopmelmajaaGreatDoorOF26
set_option maxHeartbeats 8000000
set_option maxRecDepth 1000000
namespace Go.Proofs.YtcninopmelmajaaGreatDoor
open Go.Lib (hid)
section
open Go.RowKit Go.Shelf
namespace Sc
section
variable {σ:Type} {F:Nat} {lb:Array Value} {R:Nat->Prop} {L0:Nat} {mV:σ->Nd->List ByteArray->σ} {out:Nd->List ByteArray->Nd} {J:Nat->σ->(Nat->Prop)->World->Prop}
def WkI (R:Nat->Prop) (mV:σ->Nd->List ByteArray->σ) (out:Nd->List ByteArray->Nd) (J:Nat->σ->(Nat->Prop)->World->Prop) (b:Nat) (D:Nat->Prop) (e:List ByteArray) (bk:Int) (nm:ByteArray) (ps:To) (FS:σ) (FP:To) (W0:World) (l2:Nat) (v t:Value) (wr:World):Prop :=
 ∃ (i:Nat) (f:To) (xs:List Value) (vo:Option Addr) (vc:Nat) (E:Nat->Nat->Prop) (s:σ) (D':Nat->Prop),t=.int .i64 i/\i<=l2/\v=.slice vo i vc/\f.length=i/\(wk mV out bk nm i s e (ps.drop i)).1=FS/\f.app (wk mV out bk nm i s e (ps.drop i)).2=FP /\
  iG R wr W0.heap.size (.slice vo i vc) f xs E/\J (b+(ps.drop i).size) s D' wr/\Fr D W0 wr/\(∀ k,D' k->D k∨W0.heap.size<=k)/\(∀ k,D' k->(Value.slice vo i vc).ownBlock≠some k/\∀ j,¬ E j k)
theorem E8 (eg:∀ args w,(callFunc F args).run Tryz.prog w=.ok (.enter F args) w) (hK:DoW F lb R L0 mV out J) (hR:∀ k,R k->k < L0) (hout:∀ h e,(out h e).tp=h.tp) (h:Nd) (ps:To):TWk F lb R mV out J h ps:=by
 refine To.sG (T:=TWk F lb R mV out J) ?_ h ps;intro h ps ih b s D W T e o1 l1 c1 o2 l2 c2 no n c hJ hN hnc hT hz hs1 hs hv hav;have HK:=hid hK;have HS:=hid hs;have ny:=hid hs1;have IH:=hid ih;have HN:=hid hN;have HAV:=hid hav;have HTD:=hid hT;have HNC:=hid hnc;have hll:=To.length_le ps;rw [<-hs.1] at hll;have HL:=hid hs.1;have hbig:=hK.big _ _ _ _ hJ;have TN:=hid hbig;have hown:=hK.own _ _ _ _ hJ;have HOWN:=hid hown;obtain ⟨W0,hW0⟩:∃ W0,W0=(W.alloc (.cells (cells9 h o1 l1 c1 o2 l2 c2) 29)).alloc (.cells zero9 29):=⟨_,rfl⟩;have aP:Hid (ah W W0):=by rw [hW0];exact (ah.alloc _ _).trans (ah.alloc _ _)
 have hz0:W.heap.size+2=W0.heap.size:=by rw [hW0];simp
 have HZ0:=hid hz0;have HB0:Hid (W0.heap[W.heap.size]?=some (.cells (cells9 h o1 l1 c1 o2 l2 c2) 29 (0,0))):=by
  show _=_;rw [hW0,Below.heap_alloc _ _ _ (by simp)];exact heap_alloc_new W _
 have HB1:Hid (W0.heap[W.heap.size+1]?=some (.cells zero9 29 (0,0))):=by
  show _=_;rw [hW0]
  have:=heap_alloc_new (W.alloc (.cells (cells9 h o1 l1 c1 o2 l2 c2) 29)) (.cells zero9 29);simpa using this
 have HJ0:Hid (J (b+(ps.size+1)) s D W0):=hK.stay _ _ _ _ _ hJ (aP.out.mono (fun _ _ h=>h.elim));clear hs hs1 ih hN hav hJ hT hK hnc hown hbig hz0
 by_cases hk:h.k=1
 ·have hk':(h.k == 1)=true:=by simp [hk]
  have HWK:=hid (Xk mV out s e h ps hk);have hps:ps=.nil:=hv hk;have yQ:Hid (l2=0):=by have:=HL.out;rw [hps] at this;exact this
  have HPS:=hid hps;have HC:=hid (HK.out.call (b+ps.size) s D W0 T e h o1 l1 c1 o2 l2 c2 no n c HJ0.out (HN.out.stay aP.out) (by omega) (ny.out.stay aP.out) hk);have Xl:Hid (dJ W0 W.heap.size 0 h o1 l1 c1 o2 l2 c2):=aA HB0.out;clear hk hps hv;unfold bI at HC ⊢;go_enter Tryz.func92,Tryz.ntmps92;go_upto_region 1 with fail
  rw [<-hW0];clear hW0;generalize hB:W.heap.size=B at *;have cO:=hid hB;clear hB;obtain ⟨a0,a1,a2,a3,a4,a5,a6,a7,a8⟩:=Xl.out;go_wp2_with fail;refine HC.out.mono ?_;rintro x w1 ⟨rfl,D1,hj1,hf1,hd1⟩;unfold bI;have hz0:=HZ0.out;have hb1:=aC hf1 (fun h=>by have:=(HOWN.out _ h).1;have:=cO.out;omega) HB1.out;obtain ⟨⟨z0,z1,z2,z3,z4,z5,z6,z7,z8⟩,t0,t1,t2,t3,t4,t5,t6,t7,t8⟩:=aX hb1;have HB2:=hid hb1;have HJ1:=hid hj1;have vO:=hid hf1;have HD1:=hid hd1;clear hb1 hj1 hf1 hd1 a0 a1 a2 a3 a4 a5 a6 a7 a8;have HH:Hid ((Aq mV out s e h ps).2.1=out h e/\(Aq mV out s e h ps).1=mV s h e/\(Aq mV out s e h ps).2.2=ps):=by show _/\_/\_;rw [HWK.out];exact ⟨rfl,rfl,rfl⟩
  generalize hho:out h e=ho at *;have HHO:=hid hho;clear hho;go_wp2_with fail;have oH:=iW w1 (B+1) (.int .i64 ho.k) (.string ho.nm) (.int .i64 ho.n) (.int .i64 ho.tk) (.int .i64 ho.tn) (.slice o1 l1 c1) (.slice o2 l2 c2) (.int .i64 ho.fr) (.int .i64 ho.en);have hbf:=dQ (a0:=.int .i64 ho.k) (a1:=.string ho.nm) (a2:=.int .i64 ho.n) (a3:=.int .i64 ho.tk) (a4:=.int .i64 ho.tn) (a5:=.slice o1 l1 c1) (a6:=.slice o2 l2 c2) (a7:=.int .i64 ho.fr) (a8:=.int .i64 ho.en) HB2.out;change bodyPost _ _ _ _ _ (gW w1 (B+1) (.int .i64 ho.k) (.string ho.nm) (.int .i64 ho.n) (.int .i64 ho.tk) (.int .i64 ho.tn) (.slice o1 l1 c1) (.slice o2 l2 c2) (.int .i64 ho.fr) (.int .i64 ho.en));clear z0 z1 z2 z3 z4 z5 z6 z7 z8 t0 t1 t2 t3 t4 t5 t6 t7 t8;generalize gW w1 (B+1) (.int .i64 ho.k) (.string ho.nm) (.int .i64 ho.n) (.int .i64 ho.tk) (.int .i64 ho.tn) (.slice o1 l1 c1) (.slice o2 l2 c2) (.int .i64 ho.fr) (.int .i64 ho.en)=wf at *;obtain ⟨⟨x0,x1,x2,x3,x4,x5,x6,x7,x8⟩,_⟩:=aX hbf;have bH:Hid (WkQ R mV out J b s D e h ps o1 l1 c1 l2 W (.returned (bI ho o1 l1 c1 o2 l2 c2)) wf):=by
   have hzz:=vO.out.size;have hB:=cO.out;have hD1:∀ k,D1 k->k≠B+1:=fun k hk=>by
    rcases HD1.out k hk with h | h
    ·have:=(HOWN.out k h).1;omega
    ·omega
   refine ⟨o2,c2,D1,fun _=>False,by rw [HH.out.1,<-HHO.out],?_,?_,fun _ h=>h.elim,?_,?_⟩
   ·rw [HH.out.2.1];refine HK.out.stay _ _ _ _ _ (HK.out.weak _ b _ _ _ HJ1.out (by omega)) (oH.mono (fun k _ h=>⟨by have:=TN.out;omega,fun hd=>hD1 k hd h⟩))
   ·rw [HH.out.2.2,HPS.out,yQ.out];exact TO.nil _ _ _ _
   ·exact ((aP.out.fr).trans vO.out).trans' oH (fun k hk h=>by omega)
   ·intro k hk;rcases HD1.out k hk with h | h
    ·exact .inl h
    ·exact .inr (by omega)
  clear oH hbf;refine bodyPost_ret (by simp [results,Tryz.results92,go_sem,x0,x1,x2,x3,x4,x5,x6,x7,x8];rfl) rfl ?_;exact bH.out
 ·have hk':(h.k == 1)=false:=by simp [hk]
  have HWK:=hid (Zu mV out s e h ps hk);obtain ⟨FS,hFS⟩:∃ FS,(wk mV out h.k h.nm 0 s e ps).1=FS:=⟨_,rfl⟩;obtain ⟨FP,hFP⟩:∃ FP,(wk mV out h.k h.nm 0 s e ps).2=FP:=⟨_,rfl⟩;have HFS:=hid hFS;have V9:=hid hFP;have Xl:Hid (dJ W0 W.heap.size 0 h o1 l1 c1 o2 l2 c2):=aA HB0.out;have HJS:Hid (J (b+ps.size) s D W0):=HK.out.weak _ _ _ _ _ HJ0.out (by omega);clear hk hv hFS hFP;unfold bI;go_enter Tryz.func92,Tryz.ntmps92;go_upto_region 1 with fail
  rw [<-hW0];clear hW0;generalize hB:W.heap.size=B at *;have cO:=hid hB;clear hB;obtain ⟨a0,a1,a2,a3,a4,a5,a6,a7,a8⟩:=Xl.out;go_wp2_with fail;clear a0 a1 a2 a3 a4 a5 a6 a7 a8;go_loopw [7,21] (fun v t wr=>WkI R mV out J b D e h.k h.nm ps FS FP W0 l2 v t wr) (fun _ t _=>l2-(intOf t).toNat)
  case atStart=>exact ⟨0,.nil,[],none,0,fun _ _=>False,s,D,rfl,Nat.zero_le _,rfl,rfl,by rw [To.drop_zero];exact HFS.out,by rw [To.drop_zero];exact V9.out,iG.nil _ _ (fun k hk=>by have:=hR k hk;have:=TN.out;have:=HZ0.out;have:=cO.out;omega),by rw [To.drop_zero];exact HJS.out,Fr.refl _ _,fun k hk=>.inl hk,fun k _=>⟨by simp [Value.ownBlock],fun _ h=>h⟩⟩
  case round =>
   obtain ⟨i,f,xs,vo,vc,E,s',D',rfl,hi,rfl,hfl,hws,hwp,hrow,hj,hf,hd,hsep⟩:=hrel;have Xm:=hid hfl;have HWS:=hid hws;have HWP:=hid hwp;have l9:=hid hrow;have HJ:=hid hj;have HF:=hid hf;have HD:=hid hd;have PY:=hid hsep;have hwz:=hf.size;clear hfl hws hwp hrow hj hf hd hsep;have HCB:Hid (dJ wr B 0 h o1 l1 c1 o2 l2 c2):=Xl.out.fr HF.out (fun h=>by have:=(HOWN.out _ h).1;have:=cO.out;omega)
   by_cases hlt:i < l2
   ·have hlt':(i:Int) < l2:=by omega
    obtain ⟨b9,off,hd,qs,p1,m1,d1,p2,m2,d2,rfl,hdr,hg,hRb,Q7,hsl,hts⟩:=HS.out.nth hlt;have hdR:∀ k,R k->¬ D k:=fun k hk hd=>(HOWN.out k hd).2 hk
    have hfw:Fr D W wr:=aP.out.fr.trans HF.out;have acY:=Q7.fr hfw (hdR _ hRb);have abb:=hsl.fr hfw (T:=R) (fun k _ hk=>⟨hk,hdR k hk⟩);have abd:=hts.fr hfw (T:=R) (fun k _ hk=>⟨hk,hdR k hk⟩);have KZ:=To.dK ps i hd qs hg;have hvq:=Ce ps i hd qs HAV.out hg;have hds:=To.size_drop ps i;have hdz:(ps.drop i).size=qs.size+1+(ps.drop (i+1)).size:=by rw [hdr];simp only [To.size]<;>omega
    obtain ⟨W1,hW1⟩:∃ W1,W1=wr.alloc (.cells (cells9 hd p1 m1 d1 p2 m2 d2) 29):=⟨_,rfl⟩;have hq1:ah wr W1:=by rw [hW1];exact ah.alloc _ _
    have Xn:Hid (dJ W1 wr.heap.size 0 hd p1 m1 d1 p2 m2 d2):=by show dJ _ _ _ _ _ _ _ _ _ _;rw [hW1];exact wB _ _ _ _ _ _ _ _ _
    have bU:=hid hq1;have abe:Hid (dJ W1 B 0 h o1 l1 c1 (some ⟨b9,off,none⟩) l2 c2):=HCB.out.fr hq1 (fun h=>h);have Xa:=hid (abb.stay hq1);have acZ:=hid (abd.stay hq1);have Y1:=hid hdr;have HDZ:=hid hdz;have HIH:=hid (IH.out i hd qs hg);have adO:qs.size+1<=ps.size:=by omega
    have HVQ:=hid hvq;have Kt:Hid ((bZ h.k h.nm i e).length<=n+1):=by
     show _<=_
     have:=HN.out.1;unfold bZ;split<;>simp<;>omega
    obtain ⟨a0,a1,a2,a3,a4,a5,a6,a7,a8⟩:=HCB.out;obtain ⟨q0,q1,q2,q3,q4,q5,q6,q7,q8⟩:=acY;have YR:=hid hfw;clear hdr hg hsl hts KZ hvq hds hdz Q7 abb abd hq1 hdR hRb hfw;go_upto_region 7 with fail
    change Code.wp _ _ _ _ (wr.alloc (.cells (cells9 hd p1 m1 d1 p2 m2 d2) 29));rw [<-hW1];clear hW1;generalize hpb:wr.heap.size=pb at *;have HPB:=hid hpb;clear hpb a0 a1 a2 a3 a4 a5 a6 a7 a8 q0 q1 q2 q3 q4 q5 q6 q7 q8;obtain ⟨a0,a1,a2,a3,a4,a5,a6,a7,a8⟩:=abe.out;have HBN:=hid (Pg h.k i W1);go_wp2_with fail;refine HBN.out.mono ?_;rintro x w2 ⟨rfl,rfl⟩;go_upto_if 30 with fail
    go_cut [10] (fun v wx=>∃ (no':Option Addr) (nc':Nat),v=.slice no' (bZ h.k h.nm i e).length nc'/\jh (fun k=>(T k/\k < B)∨pb<=k) wx no' (bZ h.k h.nm i e).length (bZ h.k h.nm i e)/\(bZ h.k h.nm i e).length<=nc'/\ah W1 wx)
    case first =>
     have HNW:Hid (jh (fun k=>(T k/\k < B)∨pb<=k) W1 no n e):=(HN.out.fr (T':=fun k=>(T k/\k < B)∨pb<=k) YR.out (fun k hk ht=>⟨.inl ⟨ht,by have:=cO.out;omega⟩,HTD.out k ht⟩)).stay bU.out;cases hb:mP h.k i
     case false =>
      have HE:Hid (bZ h.k h.nm i e=e):=by show _=_;unfold bZ;rw [hb];rfl
      have Jd:=hid HN.out.1;go_wp2_with fail;go_meet;rw [HE.out];exact ⟨no,c,by rw [<-Jd.out],Jd.out ▸ HNW.out,by rw [<-Jd.out];exact HNC.out,ah.refl _⟩
     case true =>
      have HE:Hid (bZ h.k h.nm i e=h.nm::e):=by show _=_;unfold bZ;rw [hb];rfl
      have Jd:=hid HN.out.1;have hnone:no=none->n=0:=fun hx=>by have:=HN.out;rw [hx] at this;exact this.none
      have HCL:Hid (∀ W,Calls Tryz.prog 115 #[.slice no n c] W fun e w'=>e=.returned (.slice no n n)/\ah W w'):=fun W=>(SS no n c W HNC.out hnone).mono (fun e w' h=>⟨h.1,by rw [h.2];exact ah.refl _⟩)
      have ac0:Hid (∀ W,ah W1 W->W.cell? ⟨B,1,none⟩=some (.string h.nm)):=fun W hq=>(abe.out.fr hq (fun h=>h)).2.1
      clear a0 a1 a2 a3 a4 a5 a6 a7 a8 hb hnone;go_upto_region 9 with fail
      have hqc:=ah.refl W1;go_region_held3 (fun w'=>w'.cell? ⟨B,1,none⟩=some (.string h.nm))
       (((refine ac0.out _ ?_);(repeat with_reducible first | exact hqc | exact ah.refl _ | refine jq ?_ | refine jr ?_)))
       (first
        | (go_at_call 115;(with_reducible refine Calls.mono (HCL.out _) ?_);rintro e wx ⟨rfl,gB⟩;(refine nT (w0:=W1) ?hq2 gB ?_);(case hq2=>(repeat with_reducible first | exact hqc | exact ah.refl _ | refine jq ?_ | refine jr ?_));intro hqc)
        | ((refine E5 _ rfl (.tmp 32) (.tmp 35) rfl (jh.stay HNW.out ?hq3) h.nm W1.heap.size rfl rfl ?hH (by omega) (Wb:=W1) ?qp ?_);(case qp=>(repeat with_reducible first | exact hqc | exact ah.refl _ | refine jq ?_ | refine jr ?_));(case hq3=>(repeat with_reducible first | exact hqc | exact ah.refl _ | refine jq ?_ | refine jr ?_));(case hH=>(repeat (first | ((with_reducible refine iE _ _ _ _ ?hbe);(case hbe=>(simp;done))) | with_reducible refine au (ah.alloc _ _) ?_ | with_reducible refine eu ?_ | with_reducible refine au gB ?_ | fail)));intro g3 c3 w3 hN3 hc3 hq3;(refine nT (w0:=W1) ?hq2 hq3 ?_);(case hq2=>(repeat with_reducible first | exact hqc | exact ah.refl _ | refine jq ?_ | refine jr ?_));intro hqc)
        | ((refine E5 _ rfl (.tmp 32) (.tmp 35) rfl (jh.stay HNW.out ?hq3) h.nm wx.heap.size rfl rfl ?hH (by omega) (Wb:=W1) ?qp ?_);(case qp=>(repeat with_reducible first | exact hqc | exact ah.refl _ | refine jq ?_ | refine jr ?_));(case hq3=>(repeat with_reducible first | exact hqc | exact ah.refl _ | refine jq ?_ | refine jr ?_));(case hH=>(repeat (first | ((with_reducible refine iE _ _ _ _ ?hbe);(case hbe=>(simp;done))) | with_reducible refine au (ah.alloc _ _) ?_ | with_reducible refine eu ?_ | with_reducible refine au gB ?_ | fail)));intro g3 c3 w3 hN3 hc3 hq3;(refine nT (w0:=W1) ?hq2 hq3 ?_);(case hq2=>(repeat with_reducible first | exact hqc | exact ah.refl _ | refine jq ?_ | refine jr ?_));intro hqc)
        | fail)
      all_goals
       go_wp2_with fail;go_meet;rw [HE.out,<-hN3.1];exact ⟨some ⟨g3,0,none⟩,c3,rfl,hN3.fr (Fr.refl (fun _=>False) _) (fun k _ hk=>⟨.inr (by have:=bU.out.size;have:=HPB.out;have hk':W1.heap.size<=k:=hk;omega),fun h=>h⟩),hc3,hqc⟩
    case rest =>
     rename World=>wx
     obtain ⟨no2,nc2,rfl,hn2,abf,gB⟩:=hcut;have yL:=hid gB;have Gw:=hid (bU.out.trans gB);obtain ⟨q0,q1,q2,q3,q4,q5,q6,q7,q8⟩:=Xn.out.fr gB (fun h=>h);have hxz:=Gw.out.size;have hjx:=HK.out.stay _ _ _ _ _ HJ.out (Gw.out.mono (fun _ _ h=>h.elim));rw [HDZ.out,show b+(qs.size+1+(ps.drop (i+1)).size)=(b+(ps.drop (i+1)).size)+(qs.size+1) from by omega] at hjx;have HC:=hid (HIH.out (b+(ps.drop (i+1)).size) s' D' wx (fun k=>(T k/\k < B)∨(pb<=k/\¬ D' k)) (bZ h.k h.nm i e) p1 m1 d1 p2 m2 d2 no2 _ nc2 hjx
      (hn2.fr (Fr.refl (fun _=>False) _) (fun k hkl hk=>by
       rcases hk with hk | hk
       ·exact ⟨.inl hk,fun h=>h⟩
       ·exact ⟨.inr ⟨hk,fun hd=>by have:=(HK.out.own _ _ _ _ HJ.out k hd).1;have:=HPB.out;omega⟩,fun h=>h⟩)) abf
      (fun k hk hd=>by
       rcases hk with ⟨h1,h2⟩ | ⟨h1,h2⟩
       ·rcases HD.out k hd with h | h
        ·exact HTD.out k h1 h
        ·have:=HZ0.out;omega
       ·exact h2 hd)
      (by have:=Kt.out;omega) (Xa.out.stay gB) (acZ.out.stay gB) HVQ.out.1 HVQ.out.2)
     unfold bI at HC;clear gB hn2 abf hjx a0 a1 a2 a3 a4 a5 a6 a7 a8 HBN;go_wp2_with fail;refine HC.out.mono ?_;rintro x w1 ⟨r2,e2,D2,E2,rfl,hj2,ht2,hE2,hf2,abg⟩;unfold bI;have hws:=HWS.out;have hwp:=HWP.out;rw [Y1.out,NQ] at hws hwp;have htp:=TM mV out hout s' (bZ h.k h.nm i e) hd qs;obtain ⟨qq,hqq⟩:∃ qq,Aq mV out s' (bZ h.k h.nm i e) hd qs=qq:=⟨_,rfl⟩;rw [hqq] at hws hwp hj2 ht2 htp ⊢;obtain ⟨s2,hd2,sF⟩:=qq;have Xo:(wk mV out h.k h.nm (i+1) s2 e (ps.drop (i+1))).1=FS:=hws;have hwp':(f.app (.cons hd2 sF .nil)).app (wk mV out h.k h.nm (i+1) s2 e (ps.drop (i+1))).2=FP:=(ED f hd2 sF _).symm.trans hwp;have abh:hd2.tp=hd.tp:=htp;have ac1:=hid Xo;have ac2:=hid hwp';have HTP:=hid abh;have HJ2:Hid (J (b+(ps.drop (i+1)).size) s2 D2 w1):=hj2;have HT2:Hid (TO R w1 E2 r2 m2 sF):=ht2;have HE2:=hid hE2;have HF2:=hid hf2;have HD2:=hid abg;have hDR:∀ k,D' k->¬ R k/\(∀ j,¬ E j k)/\(Value.slice vo i vc).ownBlock≠some k:=fun k hk=>⟨(HK.out.own _ _ _ _ HJ.out k hk).2,(PY.out k hk).2,(PY.out k hk).1⟩
     have HDR:=hid hDR;have HRX:=hid (l9.out.stay Gw.out);have HR1:=hid (HRX.out.fr HF2.out HDR.out);clear hws hwp Xo hwp' htp abh hqq hj2 ht2 hE2 hf2 abg hDR q0 q1 q2 q3 q4 q5 q6 q7 q8;have adP:=To.size_drop ps i;have adB:i<=200000:=by omega
     go_wp2_with (at_builtin;go_must (refine aY w1 rfl (.tmp 37) (.tmp 42) 25 rfl 29 _ 9 112 wC (.slice vo i vc) i xs rfl (Xm.out ▸ HR1.out.own) (cells9 hd2 p1 m1 d1 r2 m2 e2) rfl rfl ?c1 ?c2 ?c3 ?_))
     case c1=>simp [Value.oneCell']
     case c2=>unfold maxLen;omega
     case c3=>omega
     intro g2 c' w4 ho hf4 hg2;have hWx:W0.heap.size<=wx.heap.size:=Nat.le_trans HF.out.size hxz;have hz1:=HF2.out.size;have hown1:∀ k,(Value.slice vo i vc).ownBlock=some k->W0.heap.size<=k/\k < wr.heap.size:=fun k hk=>⟨(l9.out.low k hk).1,(l9.out.own.lt k hk).2⟩
     have LY:∀ k,D2 k->(Value.slice vo i vc).ownBlock≠some k:=fun k hk he=>by
      rcases HD2.out k hk with h | h
      ·exact (PY.out k h).1 he
      ·have:=(hown1 k he).2;omega
     have HR2:Hid (iG R w4 W0.heap.size (.slice (some ⟨g2,0,none⟩) (i+1) c') (f.app (.cons hd2 sF .nil)) (xs++(cells9 hd2 p1 m1 d1 r2 m2 e2).toList) (fun j k=>(j < f.length/\E j k)∨(j=f.length/\E2 k))):=by
      show iG _ _ _ _ _ _ _
      have hf':=Xm.out;subst hf';exact PX HRX.out hWx HF2.out HDR.out (by rw [HTP.out];exact (Xa.out.stay yL.out).fr HF2.out (fun k _ hk=>⟨hk,fun hd=>(HDR.out k hd).1 hk⟩)) HT2.out (fun k hk=>⟨(HE2.out k hk).1,(HE2.out k hk).2.1⟩) ho hf4 hg2
     have Jg:Hid (J (b+(ps.drop (i+1)).size) s2 D2 w4):=HK.out.stay _ _ _ _ _ HJ2.out (hf4.mono (fun k _ h=>⟨by have:=(hown1 k h).1;have:=TN.out;have:=HZ0.out;have:=cO.out;omega,fun hd=>LY k hd h⟩));have LZ:Hid (Fr D W0 w4):=(((HF.out.trans Gw.out.fr).trans' HF2.out (fun k hk hd=>by
      rcases HD.out k hd with h | h
      ·exact h
      ·omega)).trans' hf4 (fun k hk h=>by have:=(hown1 k h).1;omega))
     have HD4:Hid (∀ k,D2 k->D k∨W0.heap.size<=k):=fun k hk=>by
      rcases HD2.out k hk with h | h
      ·exact HD.out k h
      ·exact .inr (by omega)
     have abj:Hid (∀ k,D2 k->(Value.slice (some ⟨g2,0,none⟩) (i+1) c').ownBlock≠some k/\∀ j,¬ ((j < f.length/\E j k)∨(j=f.length/\E2 k))):=fun k hk=>by
      refine ⟨fun he=>?_,?_⟩
      ·simp [Value.ownBlock] at he;subst he;rcases hg2 with h | h
       ·exact LY _ hk h
       ·have:=(HK.out.own _ _ _ _ HJ2.out _ hk).1;omega
      ·rintro j (⟨_,h⟩ | ⟨_,h⟩)
       ·rcases HD2.out k hk with h' | h'
        ·exact (PY.out k h').2 j h
        ·have:=(l9.out.sep j k h).2.1;omega
       ·exact (HE2.out k h).2.2 hk
     have zY:Hid ((f.app (.cons hd2 sF .nil)).length=i+1):=by show _=_;rw [To.bQ,Xm.out];rfl
     clear ho hf4 hg2 hown1 LY;go_wp2_with fail;go_roundw
     case rel=>exact ⟨i+1,_,_,some ⟨g2,0,none⟩,c',_,s2,D2,by go_num,by omega,rfl,zY.out,ac1.out,ac2.out,HR2.out,Jg.out,LZ.out,HD4.out,abj.out⟩
     case measure=>simp [intOf];omega
   ·have hlt':¬ (i:Int) < l2:=by omega
    have hil:i=l2:=by omega
    subst hil;have hb0:=aC HF.out (fun h=>by have:=(HOWN.out _ h).1;have:=cO.out;omega) HB0.out;have hb1:=aC HF.out (fun h=>by have:=(HOWN.out _ h).1;have:=cO.out;omega) HB1.out;obtain ⟨⟨x0,x1,x2,x3,x4,x5,x6,x7,x8⟩,y0,y1,y2,y3,y4,y5,y6,y7,y8⟩:=aX hb0;obtain ⟨⟨z0,z1,z2,z3,z4,z5,z6,z7,z8⟩,t0,t1,t2,t3,t4,t5,t6,t7,t8⟩:=aX hb1;have ac3:=hid hb1;clear hb0 hb1;go_wp2_with fail;have hb1':(wr.setCell ⟨B,6,none⟩ (.slice vo i vc)).heap[B+1]?=some (.cells zero9 29 (0,0)):=by
     rw [Below.heap_setCell _ _ _ _ (by show B+1≠B;omega)];exact ac3.out
    have oH:Fr (fun k=>k=B∨k=B+1) wr (gW (wr.setCell ⟨B,6,none⟩ (.slice vo i vc)) (B+1) (.int .i64 h.k) (.string h.nm) (.int .i64 h.n) (.int .i64 h.tk) (.int .i64 h.tn) (.slice o1 l1 c1) (.slice vo i vc) (.int .i64 h.fr) (.int .i64 h.en)) :=
     (Fr.setCell _ _ _ _ (.inl rfl)).trans ((iW _ _ _ _ _ _ _ _ _ _ _).mono (fun k _ hk=>.inr hk))
    have hbf:=dQ (a0:=.int .i64 h.k) (a1:=.string h.nm) (a2:=.int .i64 h.n) (a3:=.int .i64 h.tk) (a4:=.int .i64 h.tn) (a5:=.slice o1 l1 c1) (a6:=.slice vo i vc) (a7:=.int .i64 h.fr) (a8:=.int .i64 h.en) hb1';change bodyPost _ _ _ _ _ (gW (wr.setCell ⟨B,6,none⟩ (.slice vo i vc)) (B+1) (.int .i64 h.k) (.string h.nm) (.int .i64 h.n) (.int .i64 h.tk) (.int .i64 h.tn) (.slice o1 l1 c1) (.slice vo i vc) (.int .i64 h.fr) (.int .i64 h.en));clear x0 x1 x2 x3 x4 x5 x6 x7 x8 y0 y1 y2 y3 y4 y5 y6 y7 y8 z0 z1 z2 z3 z4 z5 z6 z7 z8 t0 t1 t2 t3 t4 t5 t6 t7 t8 hb1';generalize (gW (wr.setCell ⟨B,6,none⟩ (.slice vo i vc)) (B+1) (.int .i64 h.k) (.string h.nm) (.int .i64 h.n) (.int .i64 h.tk) (.int .i64 h.tn) (.slice o1 l1 c1) (.slice vo i vc) (.int .i64 h.fr) (.int .i64 h.en))=wf at *;obtain ⟨⟨x0,x1,x2,x3,x4,x5,x6,x7,x8⟩,_⟩:=aX hbf;have bH:Hid (WkQ R mV out J b s D e h ps o1 l1 c1 i W (.returned (bI h o1 l1 c1 vo i vc)) wf):=by
     have hB:=cO.out;have hz0:=HZ0.out;have hfz:=oH.size;have hde:=To.drop_end ps i (by have:=HL.out;omega);have hws:=HWS.out;have hwp:=HWP.out;rw [hde] at hws hwp;have Xo:s'=FS:=hws;have hwp':f=FP:=by rw [<-hwp];show f=f.app .nil;rw [To.rD]
     have hD1:∀ k,D' k->¬ (k=B∨k=B+1):=fun k hk=>by
      rcases HD.out k hk with h | h
      ·have:=(HOWN.out k h).1;omega
      ·omega
     have hto:=Xj l9.out Xm.out.symm (by unfold maxLen;omega);have hE:∀ k,((Value.slice vo i vc).ownBlock=some k∨∃ j,E j k)->W0.heap.size<=k/\k < wr.heap.size/\¬ D' k:=fun k hk=>by
      rcases hk with h | ⟨j,h⟩
      ·exact ⟨(l9.out.low k h).1,(l9.out.own.lt k h).2,fun hd=>(PY.out k hd).1 h⟩
      ·have:=l9.out.sep j k h;exact ⟨this.1,this.2.1,fun hd=>(PY.out k hd).2 j h⟩
     refine ⟨vo,vc,D',fun k=>(Value.slice vo i vc).ownBlock=some k∨∃ j,E j k,by rw [HWK.out],?_,?_,?_,?_,?_⟩
     ·rw [HWK.out];show J b (wk mV out h.k h.nm 0 s e ps).1 D' wf
      rw [HFS.out,<-Xo];exact HK.out.stay _ _ _ _ _ (HK.out.weak _ b _ _ _ HJ.out (by omega)) (oH.mono (fun k _ h=>⟨by have:=TN.out;omega,fun hd=>hD1 k hd h⟩))
     ·rw [HWK.out];show TO R wf _ vo i (wk mV out h.k h.nm 0 s e ps).2
      rw [V9.out,<-hwp'];exact hto.fr oH (fun k _ hk=>⟨hk,fun h=>by have:=hR k hk;have:=TN.out;omega⟩) (fun k hk h=>by have:=(hE k hk).1;omega)
     ·intro k hk;have:=hE k hk;exact ⟨by omega,by omega,this.2.2⟩
     ·exact ((aP.out.fr).trans HF.out).trans' oH (fun k hk h=>by omega)
     ·intro k hk;rcases HD.out k hk with h | h
      ·exact .inl h
      ·exact .inr (by omega)
    clear oH hbf;refine bodyPost_ret (by simp [results,Tryz.results92,go_sem,x0,x1,x2,x3,x4,x5,x6,x7,x8];rfl) rfl ?_;exact bH.out
end
end Sc
end
section
open Go.RowKit Go.Shelf
namespace Sc
abbrev GX (w:World) (g off:Nat) (a0 a1 a2 a3 a4 a5 a6 a7 a8:Value):World :=
 ((((((((w.setCell ⟨g,off,none⟩ a0).setCell ⟨g,off+1,none⟩ a1).setCell ⟨g,off+2,none⟩ a2).setCell ⟨g,off+3,none⟩ a3).setCell ⟨g,off+4,none⟩ a4).setCell ⟨g,off+5,none⟩ a5).setCell ⟨g,off+6,none⟩ a6).setCell ⟨g,off+7,none⟩ a7).setCell ⟨g,off+8,none⟩ a8
theorem Fa (w:World) (g off:Nat) (a0 a1 a2 a3 a4 a5 a6 a7 a8:Value):Fr (fun k=>k=g) w (GX w g off a0 a1 a2 a3 a4 a5 a6 a7 a8) :=
 ((((((((Fr.setCell (fun k=>k=g) w ⟨g,off,none⟩ a0 rfl).trans (Fr.setCell (fun k=>k=g) _ ⟨g,off+1,none⟩ a1 rfl)).trans (Fr.setCell (fun k=>k=g) _ ⟨g,off+2,none⟩ a2 rfl)).trans (Fr.setCell (fun k=>k=g) _ ⟨g,off+3,none⟩ a3 rfl)).trans (Fr.setCell (fun k=>k=g) _ ⟨g,off+4,none⟩ a4 rfl)).trans (Fr.setCell (fun k=>k=g) _ ⟨g,off+5,none⟩ a5 rfl)).trans (Fr.setCell (fun k=>k=g) _ ⟨g,off+6,none⟩ a6 rfl)).trans (Fr.setCell (fun k=>k=g) _ ⟨g,off+7,none⟩ a7 rfl)).trans (Fr.setCell (fun k=>k=g) _ ⟨g,off+8,none⟩ a8 rfl)
theorem Ci {w : World} {base : Nat} {e : TypeId} {g m c n : Nat} {xs : List Value} {z0 z1 z2 z3 z4 z5 z6 z7 z8 : Value} (hx : xs.length = n * 9) (h : w.ownsRow base e 9 (.slice (some ⟨g, 0, none⟩) m c) m (xs ++ [z0, z1, z2, z3, z4, z5, z6, z7, z8])) (a0 a1 a2 a3 a4 a5 a6 a7 a8 : Value) :
    (GX w g (n*9) a0 a1 a2 a3 a4 a5 a6 a7 a8).ownsRow base e 9 (.slice (some ⟨g,0,none⟩) m c) m (xs++[a0,a1,a2,a3,a4,a5,a6,a7,a8]):=by
 have h1:=((((((((((h.stored (n*9) a0).1.stored (n*9+1) a1).1.stored (n*9+2) a2).1.stored (n*9+3) a3).1.stored (n*9+4) a4).1.stored (n*9+5) a5).1.stored (n*9+6) a6).1.stored (n*9+7) a7).1.stored (n*9+8) a8).1);have key:∀ (j:Nat) (u:Value) (ys:List Value),(xs++ys).set (n*9+j) u=xs++ys.set j u:=fun j u ys=>by
  rw [List.set_append_right _ _ (by omega),hx];congr 2;omega
 have k0:(xs++[z0,z1,z2,z3,z4,z5,z6,z7,z8]).set (n*9) a0=xs++[a0,z1,z2,z3,z4,z5,z6,z7,z8]:=key 0 a0 _;rw [k0,key,key,key,key,key,key,key,key] at h1;exact h1
theorem L6 {w : World} {base : Nat} {e : TypeId} {g m c n : Nat} {xs : List Value} {z0 z1 z2 z3 z4 z5 z6 z7 z8 : Value} (hx : xs.length = n * 9) (hm : n + 1 = m) (h : w.ownsRow base e 9 (.slice (some ⟨g, 0, none⟩) m c) m (xs ++ [z0, z1, z2, z3, z4, z5, z6, z7, z8])) :
    (w.cell? ⟨g,n*9,none⟩=some z0/\w.cell? ⟨g,n*9+1,none⟩=some z1/\w.cell? ⟨g,n*9+2,none⟩=some z2/\w.cell? ⟨g,n*9+3,none⟩=some z3/\w.cell? ⟨g,n*9+4,none⟩=some z4/\w.cell? ⟨g,n*9+5,none⟩=some z5/\w.cell? ⟨g,n*9+6,none⟩=some z6/\w.cell? ⟨g,n*9+7,none⟩=some z7/\w.cell? ⟨g,n*9+8,none⟩=some z8) /\
    (w.frozen? ⟨g,n*9,none⟩=false/\w.frozen? ⟨g,n*9+1,none⟩=false/\w.frozen? ⟨g,n*9+2,none⟩=false/\w.frozen? ⟨g,n*9+3,none⟩=false/\w.frozen? ⟨g,n*9+4,none⟩=false/\w.frozen? ⟨g,n*9+5,none⟩=false/\w.frozen? ⟨g,n*9+6,none⟩=false/\w.frozen? ⟨g,n*9+7,none⟩=false/\w.frozen? ⟨g,n*9+8,none⟩=false):=by
 have key:∀ j,j < 9->w.cell? ⟨g,n*9+j,none⟩=[z0,z1,z2,z3,z4,z5,z6,z7,z8][j]?:=fun j hj=>by
  rw [h.cellAt _ (by omega),List.getElem?_append_right (by omega),hx];congr 1;omega
 exact ⟨⟨key 0 (by omega),key 1 (by omega),key 2 (by omega),key 3 (by omega),key 4 (by omega),key 5 (by omega),key 6 (by omega),key 7 (by omega),key 8 (by omega)⟩,h.frozenAt _,h.frozenAt _,h.frozenAt _,h.frozenAt _,h.frozenAt _,h.frozenAt _,h.frozenAt _,h.frozenAt _,h.frozenAt _⟩
def FJ (ob b:Nat) (s:List Nd) (D:Nat->Prop) (W:World):Prop:=∃ (o:Option Addr) (c:Nat) (xs:List Value),W.heap[ob]?=some (.cells #[.slice o s.length c] 25 (0,0))/\ji (ob+1) W o c s xs/\s.length+b<=300000/\∀ k,D k↔(k=ob∨(Value.slice o s.length c).ownBlock=some k)
theorem GY {W w4 : World} {ob B g4 m co : Nat} {o : Option Addr} {h : Nd} {o1 : Option Addr} {l1 c1 : Nat} {o2 : Option Addr} {l2 c2 : Nat} (hb : W.heap[ob]? = some (.cells #[.slice o m co] 25 (0, 0))) (hx : W.heap[B]? = some (.cells (cells9 h o1 l1 c1 o2 l2 c2) 29 (0, 0)))
    (hlow:∀ k,(Value.slice o m co).ownBlock=some k->ob+1<=k/\k < B) (hz:B+2=W.heap.size) (hob:ob < B) (hf':Fr (fun k=>(Value.slice o m co).ownBlock=some k) W.drew w4) (hg:(Value.slice o m co).ownBlock=some g4∨W.heap.size<=g4) :
    (ob≠g4/\g4≠ob)/\(B≠g4/\g4≠B)/\w4.heap[ob]?=some (.cells #[.slice o m co] 25 (0,0))/\w4.heap[B]?=some (.cells (cells9 h o1 l1 c1 o2 l2 c2) 29 (0,0)):=by
 have hf:=(Fr.drew (fun k=>(Value.slice o m co).ownBlock=some k) W).trans hf';have h1:ob≠g4:=by
  rcases hg with h | h
  ·have:=(hlow _ h).1;omega
  ·omega
 have h2:B≠g4:=by
  rcases hg with h | h
  ·have:=(hlow _ h).2;omega
  ·omega
 exact ⟨⟨h1,fun e=>h1 e.symm⟩,⟨h2,fun e=>h2 e.symm⟩,aC hf (fun e=>by have:=(hlow _ e).1;omega) hb,aC hf (fun e=>by have:=(hlow _ e).2;omega) hx⟩
def Cj (ob:Nat) (s:List Nd) (D:Nat->Prop) (W0 wx:World):Prop:=∃ (o:Option Addr) (c:Nat) (xs:List Value),wx.heap[ob]?=some (.cells #[.slice o s.length c] 25 (0,0))/\ji (ob+1) wx o c s xs/\Fr D W0 wx/\∀ k,(Value.slice o s.length c).ownBlock=some k->D k∨W0.heap.size<=k
theorem Jh {W w4 wx : World} {ob g4 m co c4 : Nat} {o : Option Addr} {xs : List Value} {D : Nat -> Prop} {s : List Nd} {h : Nd} {o1 : Option Addr} {l1 c1 : Nat} {o2 : Option Addr} {l2 c2 : Nat} (hm : s.length = m) (hl : ji (ob + 1) W o co s xs)
    (hw:wx.ownsRow 0 29 9 (.slice (some ⟨g4,0,none⟩) (m+1) c4) (m+1) (xs++(cells9 h o1 l1 c1 o2 l2 c2).toList)) (hb:wx.heap[ob]?=some (.cells #[.slice (some ⟨g4,0,none⟩) (m+1) c4] 25 (0,0)))
    (hf':Fr (fun k=>(Value.slice o m co).ownBlock=some k) W.drew w4) (hfx:Fr (fun k=>k=ob∨k=g4) w4 wx) (hg:(Value.slice o m co).ownBlock=some g4∨W.heap.size<=g4) (hob:ob < W.heap.size) (hD:∀ k,D k↔(k=ob∨(Value.slice o m co).ownBlock=some k)):Cj ob (s++[h]) D W wx:=by
 have hn:(s++[h]).length=m+1:=by simp [hm]
 refine ⟨some ⟨g4,0,none⟩,c4,xs++(cells9 h o1 l1 c1 o2 l2 c2).toList,by rw [hn];exact hb,⟨by rw [hn];exact hw,tK.app _ _ _ _ hl.2.1 ⟨o1,l1,c1,o2,l2,c2,[],by simp,rfl⟩,?_⟩,?_,?_⟩
 ·intro k hk;simp [Value.ownBlock] at hk;subst hk;rcases hg with h | h
  ·exact hl.2.2 _ (by rw [hm];exact h)
  ·omega
 ·refine (((Fr.drew (fun k=>(Value.slice o m co).ownBlock=some k) W).trans hf').mono (fun k _ h=>(hD k).2 (.inr h))).trans' hfx (fun k hk h=>?_);rcases h with h | h
  ·exact (hD k).2 (.inl h)
  ·subst h;rcases hg with h | h
   ·exact (hD _).2 (.inr h)
   ·omega
 ·intro k hk;simp [Value.ownBlock] at hk;subst hk;rcases hg with h | h
  ·exact .inl ((hD _).2 (.inr h))
  ·exact .inr h
theorem Fb {W w4 : World} {ob g4 m co c4 : Nat} {o : Option Addr} {xs : List Value} {D : Nat -> Prop} {s : List Nd} {h : Nd} {o1 : Option Addr} {l1 c1 : Nat} {o2 : Option Addr} {l2 c2 : Nat} (hm : s.length = m) (hl : ji (ob + 1) W o co s xs)
    (ho:w4.ownsRow 0 29 9 (.slice (some ⟨g4,0,none⟩) (m+1) c4) (m+1) (xs++zero9.toList)) (hb:w4.heap[ob]?=some (.cells #[.slice o m co] 25 (0,0))) (hne:ob≠g4)
    (hf':Fr (fun k=>(Value.slice o m co).ownBlock=some k) W.drew w4) (hg:(Value.slice o m co).ownBlock=some g4∨W.drew.heap.size<=g4) (hob:ob < W.heap.size) (hD:∀ k,D k↔(k=ob∨(Value.slice o m co).ownBlock=some k)) :
    Cj ob (s++[h]) D W ((GX w4 g4 (m*9) (.int .i64 h.k) (.string h.nm) (.int .i64 h.n) (.int .i64 h.tk) (.int .i64 h.tn) (.slice o1 l1 c1) (.slice o2 l2 c2) (.int .i64 h.fr) (.int .i64 h.en)).setCell ⟨ob,0,none⟩ (.slice (some ⟨g4,0,none⟩) (m+1) c4)):=by
 have hx:xs.length=m*9:=by rw [<-hm];exact hl.1.1
 have hfp:=Fa w4 g4 (m*9) (.int .i64 h.k) (.string h.nm) (.int .i64 h.n) (.int .i64 h.tk) (.int .i64 h.tn) (.slice o1 l1 c1) (.slice o2 l2 c2) (.int .i64 h.fr) (.int .i64 h.en);have hr:=Ci (n:=m) hx ho (.int .i64 h.k) (.string h.nm) (.int .i64 h.n) (.int .i64 h.tk) (.int .i64 h.tn) (.slice o1 l1 c1) (.slice o2 l2 c2) (.int .i64 h.fr) (.int .i64 h.en);have uZ:=aC hfp hne hb;exact Jh hm hl (aV hr (Fr.setCell (fun k=>k=ob) _ _ _ rfl) (fun k hk e=>by simp [Value.ownBlock] at hk;omega)) (one_setCell uZ) hf' ((hfp.mono (fun _ _ h=>.inr h)).trans (Fr.setCell _ _ _ _ (.inl rfl))) hg hob hD
theorem Fe {W w4 : World} {ob g4 m co c4 : Nat} {o : Option Addr} {xs : List Value} {D : Nat -> Prop} {s : List Nd} {h : Nd} {o1 : Option Addr} {l1 c1 : Nat} {o2 : Option Addr} {l2 c2 : Nat} (hm : s.length = m) (hl : ji (ob + 1) W o co s xs)
    (ho:w4.ownsRow 0 29 9 (.slice (some ⟨g4,0,none⟩) (m+1) c4) (m+1) (xs++zero9.toList)) (hb:w4.heap[ob]?=some (.cells #[.slice o m co] 25 (0,0))) (hne:ob≠g4)
    (hf':Fr (fun k=>(Value.slice o m co).ownBlock=some k) W.drew w4) (hg:(Value.slice o m co).ownBlock=some g4∨W.drew.heap.size<=g4) (hob:ob < W.heap.size) (hD:∀ k,D k↔(k=ob∨(Value.slice o m co).ownBlock=some k)) :
    Cj ob (s++[h]) D W (GX (w4.setCell ⟨ob,0,none⟩ (.slice (some ⟨g4,0,none⟩) (m+1) c4)) g4 (m*9) (.int .i64 h.k) (.string h.nm) (.int .i64 h.n) (.int .i64 h.tk) (.int .i64 h.tn) (.slice o1 l1 c1) (.slice o2 l2 c2) (.int .i64 h.fr) (.int .i64 h.en)):=by
 have hx:xs.length=m*9:=by rw [<-hm];exact hl.1.1
 have hfs:=Fr.setCell (fun k=>k=ob) w4 ⟨ob,0,none⟩ (.slice (some ⟨g4,0,none⟩) (m+1) c4) rfl;have hfp:=Fa (w4.setCell ⟨ob,0,none⟩ (.slice (some ⟨g4,0,none⟩) (m+1) c4)) g4 (m*9) (.int .i64 h.k) (.string h.nm) (.int .i64 h.n) (.int .i64 h.tk) (.int .i64 h.tn) (.slice o1 l1 c1) (.slice o2 l2 c2) (.int .i64 h.fr) (.int .i64 h.en);have hr:=Ci (n:=m) hx (aV ho hfs (fun k hk e=>by simp [Value.ownBlock] at hk;omega)) (.int .i64 h.k) (.string h.nm) (.int .i64 h.n) (.int .i64 h.tk) (.int .i64 h.tn) (.slice o1 l1 c1) (.slice o2 l2 c2) (.int .i64 h.fr) (.int .i64 h.en);exact Jh hm hl hr (aC hfp hne (one_setCell hb)) hf' ((hfs.mono (fun _ _ h=>.inl h)).trans (hfp.mono (fun _ _ h=>.inr h))) hg hob hD
theorem Cj.drew {ob:Nat} {s:List Nd} {D:Nat->Prop} {W0 wx:World} (h:Cj ob s D W0 wx):Cj ob s D W0 wx.drew:=by
 obtain ⟨o,c,xs,h1,h2,h3,h4⟩:=h;exact ⟨o,c,xs,h1,h2,h3.trans (Fr.drew D wx),h4⟩
theorem L8 (R:Nat->Prop) (ob:Nat) (hR:∀ k,R k->k < ob):DoW 93 #[.pointer (some ⟨ob,0,none⟩)] R ob PU (fun x _=>x) (FJ ob) where
 own:=by
  rintro b s D A ⟨o,c,xs,hb,hl,hz,hd⟩ k hk;rcases (hd k).1 hk with rfl | h
  ·exact ⟨lt_of_block hb,fun h=>by have:=hR _ h;omega⟩
  ·exact ⟨(hl.1.lt k h).2,fun hr=>by have:=hR _ hr;have:=hl.2.2 k h;omega⟩
 big:=by
  rintro b s D A ⟨o,c,xs,hb,_⟩;exact Nat.le_of_lt (lt_of_block hb)
 weak:=by
  rintro b b' s D A ⟨o,c,xs,hb,hl,hz,hd⟩ hle;exact ⟨o,c,xs,hb,hl,by omega,hd⟩
 stay:=by
  rintro b s D A B ⟨o,c,xs,hb,hl,hz,hd⟩ hf;exact ⟨o,c,xs,aC hf (fun h=>h.2 ((hd _).2 (.inl rfl))) hb,GV hl hf (fun k hk h=>h.2 ((hd k).2 (.inr hk))),hz,hd⟩
 call:=by
  rintro b s D A T e h o1 l1 c1 o2 l2 c2 no n c ⟨o,co,xs,hb,hl,hz,hd⟩ hN hn hs hk;obtain ⟨W0,hW0⟩:∃ W0,W0=(A.alloc (.cells (cells9 h o1 l1 c1 o2 l2 c2) 29)).alloc (.cells zero9 29):=⟨_,rfl⟩;have aP:Hid (ah A W0):=by rw [hW0];exact (ah.alloc _ _).trans (ah.alloc _ _)
  have hz0:A.heap.size+2=W0.heap.size:=by rw [hW0];simp
  have HZ0:=hid hz0;have HB0:Hid (W0.heap[A.heap.size]?=some (.cells (cells9 h o1 l1 c1 o2 l2 c2) 29 (0,0))):=by
   show _=_;rw [hW0,Below.heap_alloc _ _ _ (by simp)];exact heap_alloc_new A _
  have HB1:Hid (W0.heap[A.heap.size+1]?=some (.cells zero9 29 (0,0))):=by
   show _=_;rw [hW0]
   have:=heap_alloc_new (A.alloc (.cells (cells9 h o1 l1 c1 o2 l2 c2) 29)) (.cells zero9 29);simpa using this
  have hob:=lt_of_block hb;have hb2:=aC aP.out (fun h=>h) hb;have HOB:=hid hb2;have wE:=hid (ji.stay hl aP.out);have Yy:=hid hl;have HD:=hid hd;have HI:=hid (EW T e h.nm no n c W0 (hN.stay aP.out) (by omega));have HXL:Hid (xs.length=s.length*9):=hl.1.1;clear hb hb2 hl hd hN hs hk hz0;unfold bI
  by_cases hx:ix e h.nm < 0
  ·have HS:Hid (PU s h e=s++[h]):=by show _=_;unfold PU;rw [if_pos hx]
   generalize ix e h.nm=r at *;go_enter Tryz.func93,Tryz.ntmps93;go_upto_region 1 with fail
   rw [<-hW0];clear hW0;generalize hB:A.heap.size=B at *;have cO:=hid hB;clear hB;obtain ⟨⟨x0,x1,x2,x3,x4,x5,x6,x7,x8⟩,y0,y1,y2,y3,y4,y5,y6,y7,y8⟩:=aX HB0.out;go_wp2_with fail;refine HI.out.mono ?_;rintro x w2 ⟨rfl,rfl⟩;go_upto_region 2 with fail
   have cob:=cell_of_one HOB.out;have fob:=free_of_one HOB.out;generalize hm:s.length=m at *;have HM:=hid hm;clear hm;have hlow:∀ k,(Value.slice o m co).ownBlock=some k->ob+1<=k/\k < B:=fun k hk=>by have h1:=Yy.out.2.2 k (by rw [HM.out];exact hk);have h2:=(Yy.out.1.lt k (by rw [HM.out];exact hk)).2;have:=cO.out;omega
   have Wv:=hid hlow;clear hlow;have abk:Hid (W0.ownsRow 0 29 9 (.slice o m co) m xs):=by have:=wE.out.1;rw [HM.out] at this;exact this
   have hA:=ah.alloc W0 (.cells zero9 29);obtain ⟨⟨xa0,xa1,xa2,xa3,xa4,xa5,xa6,xa7,xa8⟩,_⟩:=aX (au hA HB0.out);have coA:=cell_of_one (au hA HOB.out);clear hA;have hi1:(m:Int) < ((m+1:Nat):Int):=by omega
   have hi2:(m:Int) < (m:Int)+1:=by omega
   have hi3:(0:Int)<=m:=by omega
   have HHO:Hid (ob < W0.heap.size):=by have:=HZ0.out;show _ < _;omega
   have OG:Hid (∀ k,D k↔(k=ob∨(Value.slice o m co).ownBlock=some k)):=HD.out;go_cut [15] (fun _ wx=>Cj ob (s++[h]) D W0 wx)
   case first =>
    go_region_law ((refine St.Ar W0.drew rfl (.tmp 11) (.tmp 14) 25 rfl 29 _ 9 112 wC (.slice o m co) m xs rfl ?hown zero9 rfl rfl ?c1 ?c2 ?c3 ?_);(case hown=>exact abk.out);(case c1=>simp [Value.oneCell']);(case c2=>(unfold maxLen;omega));(case c3=>omega);intro g4 c4 w4 mM hf4 hg4;obtain ⟨⟨p0,p1,p2,p3,p4,p5,p6,p7,p8⟩,r0,r1,r2,r3,r4,r5,r6,r7,r8⟩:=L6 (z0:=.int .i64 0) (z1:=.string ⟨#[]⟩) (z2:=.int .i64 0) (z3:=.int .i64 0) (z4:=.int .i64 0) (z5:=.slice none 0 0) (z6:=.slice none 0 0) (z7:=.int .i64 0) (z8:=.int .i64 0) HXL.out rfl mM;have HO4:=hid mM;have LZ:=hid hf4;have HG4:=hid hg4;clear mM;obtain ⟨⟨ha1,ha2⟩,⟨ha3,ha4⟩,hb4,hx4⟩:=GY HOB.out HB0.out Wv.out HZ0.out hob hf4 hg4;have co4:=cell_of_one hb4;have fo4:=free_of_one hb4;obtain ⟨⟨xx0,xx1,xx2,xx3,xx4,xx5,xx6,xx7,xx8⟩,_⟩:=aX hx4;have HB4:=hid hb4;clear hb4 hx4 hf4 hg4)
    all_goals
     go_wp2_with fail;go_meet
     first
      | with_reducible exact Fb HM.out wE.out HO4.out HB4.out ha1 LZ.out HG4.out HHO.out OG.out
      | with_reducible exact Fe HM.out wE.out HO4.out HB4.out ha1 LZ.out HG4.out HHO.out OG.out
      | with_reducible exact (Fb HM.out wE.out HO4.out HB4.out ha1 LZ.out HG4.out HHO.out OG.out).drew
      | with_reducible exact (Fe HM.out wE.out HO4.out HB4.out ha1 LZ.out HG4.out HHO.out OG.out).drew
   case rest =>
    rename World=>wx
    obtain ⟨oq,cq,ys,hbq,hlq,hfq,hnq⟩:=hcut;have hDB:∀ k,D k->k < B:=fun k hk=>by
     rcases (OG.out k).1 hk with h | h
     ·omega
     ·exact (Wv.out k h).2
    have hxq:=aC hfq (fun h=>by have:=hDB _ h;omega) HB0.out;have hrq:=aC hfq (fun h=>by have:=hDB _ h;omega) HB1.out;have HBQ:=hid hbq;have HLQ:=hid hlq;have HFQ:=hid hfq;have HNQ:=hid hnq;have HRQ:=hid hrq;have HDB:=hid hDB;clear x0 x1 x2 x3 x4 x5 x6 x7 x8 y0 y1 y2 y3 y4 y5 y6 y7 y8 cob fob xa0 xa1 xa2 xa3 xa4 xa5 xa6 xa7 xa8 coA hbq hlq hfq hnq hDB;obtain ⟨⟨x0,x1,x2,x3,x4,x5,x6,x7,x8⟩,_⟩:=aX hxq;obtain ⟨⟨z0,z1,z2,z3,z4,z5,z6,z7,z8⟩,t0,t1,t2,t3,t4,t5,t6,t7,t8⟩:=aX hrq;clear hxq hrq;go_wp2_with fail;have oH:=iW wx (B+1) (.int .i64 h.k) (.string h.nm) (.int .i64 h.n) (.int .i64 h.tk) (.int .i64 h.tn) (.slice o1 l1 c1) (.slice o2 l2 c2) (.int .i64 h.fr) (.int .i64 h.en);have hbf:=dQ (a0:=.int .i64 h.k) (a1:=.string h.nm) (a2:=.int .i64 h.n) (a3:=.int .i64 h.tk) (a4:=.int .i64 h.tn) (a5:=.slice o1 l1 c1) (a6:=.slice o2 l2 c2) (a7:=.int .i64 h.fr) (a8:=.int .i64 h.en) HRQ.out;change bodyPost _ _ _ _ _ (gW wx (B+1) (.int .i64 h.k) (.string h.nm) (.int .i64 h.n) (.int .i64 h.tk) (.int .i64 h.tn) (.slice o1 l1 c1) (.slice o2 l2 c2) (.int .i64 h.fr) (.int .i64 h.en));clear x0 x1 x2 x3 x4 x5 x6 x7 x8 z0 z1 z2 z3 z4 z5 z6 z7 z8 t0 t1 t2 t3 t4 t5 t6 t7 t8;generalize gW wx (B+1) (.int .i64 h.k) (.string h.nm) (.int .i64 h.n) (.int .i64 h.tk) (.int .i64 h.tn) (.slice o1 l1 c1) (.slice o2 l2 c2) (.int .i64 h.fr) (.int .i64 h.en)=wf at *;obtain ⟨⟨x0,x1,x2,x3,x4,x5,x6,x7,x8⟩,_⟩:=aX hbf;have bH:Hid (DoQ PU (fun x _=>x) (FJ ob) b s D e h o1 l1 c1 o2 l2 c2 A (.returned (bI h o1 l1 c1 o2 l2 c2)) wf):=by
     have hz2:=HZ0.out;have hB:=cO.out;have hnk:∀ k,(Value.slice oq (s++[h]).length cq).ownBlock=some k->k≠B+1:=fun k hk=>by
      rcases HNQ.out k hk with h | h
      ·have:=HDB.out k h;omega
      ·omega
     refine ⟨rfl,fun k=>k=ob∨(Value.slice oq (s++[h]).length cq).ownBlock=some k,?_,?_,?_⟩
     ·rw [HS.out];refine ⟨oq,cq,ys,aC oH (by omega) HBQ.out,GV HLQ.out oH hnk,?_,fun k=>Iff.rfl⟩;rw [List.length_append];have:=HM.out;simp only [List.length_cons,List.length_nil];omega
     ·exact ((aP.out.fr).trans HFQ.out).trans' oH (fun k hk h=>by omega)
     ·intro k hk;rcases hk with h | h
      ·exact .inl ((OG.out k).2 (.inl h))
      ·rcases HNQ.out k h with h | h
       ·exact .inl h
       ·exact .inr (by omega)
    clear oH hbf;refine bodyPost_ret (by simp [results,Tryz.results93,go_sem,x0,x1,x2,x3,x4,x5,x6,x7,x8];rfl) rfl ?_;exact bH.out
  ·have HS:Hid (PU s h e=s):=by show _=_;unfold PU;rw [if_neg hx]
   generalize ix e h.nm=r at *;go_enter Tryz.func93,Tryz.ntmps93;go_upto_region 1 with fail
   rw [<-hW0];clear hW0;generalize hB:A.heap.size=B at *;have cO:=hid hB;clear hB;obtain ⟨⟨x0,x1,x2,x3,x4,x5,x6,x7,x8⟩,y0,y1,y2,y3,y4,y5,y6,y7,y8⟩:=aX HB0.out;obtain ⟨⟨z0,z1,z2,z3,z4,z5,z6,z7,z8⟩,t0,t1,t2,t3,t4,t5,t6,t7,t8⟩:=aX HB1.out;go_wp2_with fail;refine HI.out.mono ?_;rintro x w2 ⟨rfl,rfl⟩;go_wp2_with fail;have oH:=iW W0 (B+1) (.int .i64 h.k) (.string h.nm) (.int .i64 h.n) (.int .i64 h.tk) (.int .i64 h.tn) (.slice o1 l1 c1) (.slice o2 l2 c2) (.int .i64 h.fr) (.int .i64 h.en);have hbf:=dQ (a0:=.int .i64 h.k) (a1:=.string h.nm) (a2:=.int .i64 h.n) (a3:=.int .i64 h.tk) (a4:=.int .i64 h.tn) (a5:=.slice o1 l1 c1) (a6:=.slice o2 l2 c2) (a7:=.int .i64 h.fr) (a8:=.int .i64 h.en) HB1.out;change bodyPost _ _ _ _ _ (gW W0 (B+1) (.int .i64 h.k) (.string h.nm) (.int .i64 h.n) (.int .i64 h.tk) (.int .i64 h.tn) (.slice o1 l1 c1) (.slice o2 l2 c2) (.int .i64 h.fr) (.int .i64 h.en));clear x0 x1 x2 x3 x4 x5 x6 x7 x8 y0 y1 y2 y3 y4 y5 y6 y7 y8 z0 z1 z2 z3 z4 z5 z6 z7 z8 t0 t1 t2 t3 t4 t5 t6 t7 t8;generalize gW W0 (B+1) (.int .i64 h.k) (.string h.nm) (.int .i64 h.n) (.int .i64 h.tk) (.int .i64 h.tn) (.slice o1 l1 c1) (.slice o2 l2 c2) (.int .i64 h.fr) (.int .i64 h.en)=wf at *;obtain ⟨⟨x0,x1,x2,x3,x4,x5,x6,x7,x8⟩,_⟩:=aX hbf;have bH:Hid (DoQ PU (fun x _=>x) (FJ ob) b s D e h o1 l1 c1 o2 l2 c2 A (.returned (bI h o1 l1 c1 o2 l2 c2)) wf):=by
    have hz2:=HZ0.out;have hB:=cO.out;refine ⟨rfl,D,?_,(aP.out.fr).trans' oH (fun k hk h=>by omega),fun k hk=>.inl hk⟩;rw [HS.out];exact ⟨o,co,xs,aC oH (by omega) HOB.out,GV wE.out oH (fun k hk e=>by have:=(Yy.out.1.lt k hk).2;omega),by omega,HD.out⟩
   clear oH hbf;refine bodyPost_ret (by simp [results,Tryz.results93,go_sem,x0,x1,x2,x3,x4,x5,x6,x7,x8];rfl) rfl ?_;exact bH.out
end Sc
end
end Go.Proofs.YtcninopmelmajaaGreatDoor
