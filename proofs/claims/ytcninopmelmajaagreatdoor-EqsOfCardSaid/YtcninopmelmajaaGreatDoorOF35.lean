/-
  Texts laid together (EqOne): laws and walks, with their conditions.
-/
import Derived.Test.YtcninopmelmajaaGreatDoorOF34
set_option maxHeartbeats 8000000
set_option maxRecDepth 1000000
namespace Go.Proofs.YtcninopmelmajaaGreatDoor
open Go.Lib (hid)
section
open Go.RowKit
namespace Em
theorem UK (h:Nd) (ps:To) (ih:∀ i g qs,ps.get i=some (g,qs)->TmT g qs):TmN h ps:=by
 intro W R X most pb mk o1 l1 c1 o2 l2 c2 eo en ec e E hs1 hs2 hR hm pK hb vX hz hE hok mZ hfr hN qW;have IH:=hid ih;clear ih;obtain ⟨W0,hW0⟩:∃ W0,W0=(W.alloc (.cells (cells9 h o1 l1 c1 o2 l2 c2) 29)).alloc (.cells #[.int .i64 0,.int .i64 0,.slice none 0 0] 24):=⟨_,rfl⟩;have hq0:ah W W0:=by rw [hW0];exact (ah.alloc _ _).trans (ah.alloc _ _)
 have hz0:W0.heap.size=W.heap.size+2:=by rw [hW0];simp
 have h4:Bx pb W0 W.heap.size (cells9 h o1 l1 c1 o2 l2 c2) 29:=Bx.new hm hq0 (Nat.le_refl _) (by rw [hW0];exact au (ah.alloc _ _) (heap_alloc_new W _));have h6:Bx pb W0 (W.heap.size+1) #[.int .i64 0,.int .i64 0,.slice none 0 0] 24:=Bx.new hm hq0 (by omega) (by
  rw [hW0];have:=heap_alloc_new (W.alloc (.cells (cells9 h o1 l1 c1 o2 l2 c2) 29)) (.cells #[.int .i64 0,.int .i64 0,.slice none 0 0] 24);simpa using this)
 have hm0:=hm.more hq0 (fun i=>i=W.heap.size+1) (fun i hi=>by subst hi;omega);have hp:=hm.lt;have hl0:=Later.aT hq0 hp;have hnx:=(lQ most h ps E hE.ne mk).1;have hnb:mk.next<=500000000:=Nat.le_trans hnx hN
 have PO:=hid (take_any hm0 (by omega));have HM:=hid hm;have yQ:=hid hl0;have H4:=hid h4;have H6:=hid h6;have HP:=hid hp;have ny:=hid hs1;have HS2:=hid hs2;have HR:=hid hR;have Ep:=hid hb;have HE:=hid hE;have Di:=hid hok;have qV:=hid mZ;have Ap:=hid hfr;have zX:Hid ((dF most h ps E mk).2.next<=Aa):=hN;have wR:=hid pK;have tC:=hid (XA most h ps E mk qW);have ZT:=hid hm0.lt;obtain ⟨X1,hX1⟩:∃ X1,X1=(fun i=>X i∨i=W.heap.size+1):=⟨_,rfl⟩;have jO:Hid (∀ i,X1 i=(X i∨i=W.heap.size+1)):=fun i=>by rw [hX1]
 rw [<-hX1] at PO;clear hs1 hs2 hR hm hb hE hok mZ hfr hN hm0 hl0 hq0 h4 h6 hX1 hnx hp hz0 pK;unfold Iz;unfold bI;go_enter Tryz.func42,Tryz.ntmps42;generalize dW:W.heap.size=B at *;go_upto_region 1 with fail
 rw [<-hW0];clear hW0;go_wp2_with fail;refine PO.out.mono ?_;rintro x w1 ⟨n0,oo,cc,hn0,rfl,hm1,hl1⟩;obtain rfl:mk.next=n0:=Hl hn0
 obtain ⟨W2,hW2⟩:∃ W2,W2=w1.alloc (.cells #[.int .i64 1,.int .i64 mk.next,.slice oo 0 cc] 24):=⟨_,rfl⟩;have hq2:ah w1 W2:=by rw [hW2];exact ah.alloc _ _
 have h7:Bx pb W2 w1.heap.size #[.int .i64 1,.int .i64 mk.next,.slice oo 0 cc] 24:=Bx.new hm1 hq2 (Nat.le_refl _) (by rw [hW2];exact heap_alloc_new w1 _);have H7:=hid h7;have hm2:=hm1.stay hq2;replace hm2:dV X1 most pb W2 { mk with next:=mk.next+1 }:=hm2;have hl2:=hl1.quiet hq2 ZT.out;have EO:=hid hm2;have HL2:=hid (yQ.out.trans hl2);have UL:=hid (H4.out.later hl2);have Rj:=hid (H6.out.later hl2);have HP2:=hid hm2.lt;clear hm1 hl1 hq2 h7 hm2 hl2 hn0 H4 H6 yQ PO;unfold dZ;go_upto_region 2 with fail
 change Code.wp _ _ _ _ (w1.alloc (.cells #[.int .i64 1,.int .i64 mk.next,.slice oo 0 cc] 24));rw [<-hW2];clear hW2;generalize hC:w1.heap.size=C at *;obtain ⟨ko,kc,kxs,lH⟩:=EO.out;obtain ⟨_,_,_,q3⟩:=bV lH.box;replace q3:W2.cell? ⟨pb,3,none⟩=some (.bool false):=by rw [<-qW];exact q3
 obtain ⟨a0,a1,a2,a3,a4,a5,a6,a7,a8⟩:=aA UL.out.1;obtain ⟨b0,b1,b2,_,_,_⟩:=ay H7.out.1;clear lH;have hkk:h.k=1∨h.k=2∨h.k=3∨h.k=4∨h.k=5∨h.k=6∨h.k=7∨h.k=8∨h.k=9∨h.k=10:=by have:=Di.out.1;omega
 rcases hkk with hk | hk | hk | hk | hk | hk | hk | hk | hk | hk
 ·have t2:(h.k == 2)=false:=by rw [hk];rfl
  have t3:(h.k == 3)=false:=by rw [hk];rfl
  have t1:(h.k == 1)=true:=by rw [hk];rfl
  have HK:=hid hk;clear hk;obtain ⟨v,hv⟩:=CZ e h.nm (JC HK.out Ap.out);have HLV:=hid hv;obtain ⟨F,lb,hvF,heg,hrun⟩:=HE.out.look hv;subst hvF;have ac9:=hid hrun;obtain ⟨res,hres⟩:∃ res,mF E h.nm { mk with next:=mk.next+1 }=res:=⟨_,rfl⟩;obtain ⟨fin,hfin⟩:∃ fin,(dw most (tv mk.next) res.1 h.fr h.en res.2).2=fin:=⟨_,rfl⟩;have aQ:Hid (dF most h ps E mk=(tv mk.next,fin)):=by show _=_;rw [tC.out,Ud HK.out,hres,hfin]
  have sN:Hid (res.2.next<=Aa):=by
   show _<=_
   have k:=zX.out;rw [aQ.out,<-hfin] at k;simpa only [rO] using k
  have lT:=hid hres;have bH:=hid hfin;clear hres hfin hv hrun;have hpb:=HP2.out;have bK:Hid (∀ W,Later pb W2 W->(qP W B h o1 l1 c1 o2 l2 c2)/\(xw W C (.int .i64 1) (.int .i64 mk.next) (.slice oo 0 cc))):=fun W' hl=>by
   obtain ⟨k0,k1,k2,_⟩:=ay (H7.out.later hl).1;exact ⟨aA (UL.out.later hl).1,k0,k1,k2⟩
  have HLK:Hid (∀ W,Later pb W2 W->Calls Tryz.prog 67 #[.slice eo en ec,.string h.nm] W fun x w'=>x=.returned (.func (.func F) #[] lb)/\ah W w'):=fun W' hl=>(TY _ e h.nm _ eo en ec W' (Ep.out.later (HL2.out.trans hl)) (by omega) HLV.out).mono (by rintro x w' ⟨rfl,rfl⟩;exact ⟨rfl,ah.refl _⟩)
  have Zx:Hid (∀ W,Later pb W2 W->dV X1 most pb W { mk with next:=mk.next+1 }->Calls Tryz.prog F (#[.pointer (some ⟨pb,0,none⟩),.agg #[.int .i64 h.fr,.int .i64 h.en]]++lb) W (Iz X1 most pb W res)):=fun W' hl hm=>by
   have k:=ac9.out W' X1 { mk with next:=mk.next+1 } h.fr h.en (HL2.out.trans hl) hm (Nat.le_succ _) (by rw [lT.out];exact sN.out);rw [lT.out] at k;exact k
  have xG:Hid (∀ (W:World) (n9:Nat) (o9:Option Addr) (c9:Nat),res.1=tv n9->dV X1 most pb W res.2->Calls Tryz.prog 66 #[.pointer (some ⟨pb,0,none⟩),.agg #[.int .i64 1,.int .i64 mk.next,.slice oo 0 cc],.agg #[.int .i64 1,.int .i64 n9,.slice o9 0 c9],.agg #[.int .i64 h.fr,.int .i64 h.en]] W (IB X1 most pb W fin)):=fun W n9 o9 c9 hr hmw=>by
   have k:=dO (o1:=oo) (l1:=0) (c1:=cc) (o2:=o9) (l2:=0) (c2:=c9) hmw wR.out (tv mk.next) (tv n9) h.fr h.en (aB.nil _ _ _) (aB.nil _ _ _) (Nat.le_of_ble_eq_true rfl) (Nat.le_of_ble_eq_true rfl);rw [<-hr,bH.out] at k;rw [hr] at k;exact k
  have hmk:=EO.out;have hlc:=Later.refl hpb;go_upto_region 10 with fail
  go_region_held3 (fun W=>(W.cell? ⟨B,0,none⟩=some (.int .i64 h.k)/\W.cell? ⟨B,1,none⟩=some (.string h.nm)/\W.cell? ⟨B,2,none⟩=some (.int .i64 h.n)/\W.cell? ⟨B,3,none⟩=some (.int .i64 h.tk)/\W.cell? ⟨B,4,none⟩=some (.int .i64 h.tn)/\W.cell? ⟨B,5,none⟩=some (.slice o1 l1 c1)/\W.cell? ⟨B,6,none⟩=some (.slice o2 l2 c2)/\W.cell? ⟨B,7,none⟩=some (.int .i64 h.fr)/\W.cell? ⟨B,8,none⟩=some (.int .i64 h.en))/\(W.cell? ⟨C,0,none⟩=some (.int .i64 1)/\W.cell? ⟨C,1,none⟩=some (.int .i64 mk.next)/\W.cell? ⟨C,2,none⟩=some (.slice oo 0 cc)))
   (((refine bK.out _ ?_);(repeat with_reducible first | exact hlc | exact Later.refl hpb | refine jm hpb ?_ | refine jo hpb ?_)))
   (first
    | (go_at_call 67;(with_reducible refine Calls.mono (HLK.out _ ?hq) ?_);(case hq=>(repeat with_reducible first | exact hlc | exact Later.refl hpb | refine jm hpb ?_ | refine jo hpb ?_));rintro e wx ⟨rfl,gB⟩;(refine lS (pb:=pb) (X:=X1) (most:=most) (k:={ mk with next:=mk.next+1 }) (w0:=W2) ?hl2 ?hm2 gB ?_);(case hl2=>(repeat with_reducible first | exact hlc | exact Later.refl hpb | refine jm hpb ?_ | refine jo hpb ?_));(case hm2=>(repeat with_reducible first | exact hmk | refine ja ?_ | refine jb ?_));intro hlc hmk)
    | ((with_reducible refine Calls.mono (Zx.out _ ?hq ?hm) ?_);(case hq=>(repeat with_reducible first | exact hlc | exact Later.refl hpb | refine jm hpb ?_ | refine jo hpb ?_));(case hm=>(repeat with_reducible first | exact hmk | refine ja ?_ | refine jb ?_));rintro e wx ⟨n9,o9,c9,qK,rfl,hmk,hlx⟩;unfold dZ;(refine jc (pb:=pb) (w0:=W2) ?hl2 hlx ?_);(case hl2=>(repeat with_reducible first | exact hlc | exact Later.refl hpb | refine jm hpb ?_ | refine jo hpb ?_));intro hlc)
    | ((go_at_call 66;(with_reducible refine Calls.mono (xG.out _ n9 _ _ qK ?hm) ?_));(case hm=>(repeat with_reducible first | exact hmk | refine ja ?_ | refine jb ?_));rintro e wx ⟨rfl,hmk,hlx⟩;(refine jc (pb:=pb) (w0:=W2) ?hl2 hlx ?_);(case hl2=>(repeat with_reducible first | exact hlc | exact Later.refl hpb | refine jm hpb ?_ | refine jo hpb ?_));intro hlc)
    | fail)
  all_goals
   have Qj:=hid hmk;have Ik:=hid hlc;clear hmk hlc;obtain ⟨g0,g1,g2,_,_,_⟩:=ay (H7.out.later Ik.out).1;have hb6:=(Rj.out.later Ik.out).1;have vT:=hid hb6;obtain ⟨d0,d1,d2,y0,y1,y2⟩:=ay hb6;clear hb6;go_wp2_with fail;clear d0 d1 d2 y0 y1 y2;have hf:=bg wx (B+1) (.int .i64 1) (.int .i64 mk.next) (.slice oo 0 cc);obtain ⟨f0,f1,f2⟩:=aW (a:=.int .i64 1) (b:=.int .i64 mk.next) (c:=.slice oo 0 cc) vT.out;change bodyPost _ _ _ _ _ (bC wx (B+1) (.int .i64 1) (.int .i64 mk.next) (.slice oo 0 cc));generalize bC wx (B+1) (.int .i64 1) (.int .i64 mk.next) (.slice oo 0 cc)=wf at *;refine bodyPost_ret (by simp [results,Tryz.results42,go_sem,f0,f1,f2];rfl) rfl ?_;have hp:pb < W.heap.size:=by rw [dW];exact HP.out
   refine ⟨mk.next,oo,cc,by rw [aQ.out],rfl,?_,(HL2.out.trans Ik.out).put hf hp (fun i hi=>by omega)⟩;rw [aQ.out];exact (Qj.out.put (hf.mono (fun i _ e=>by rw [jO.out];exact Or.inr (by omega)))).less (fun i hi=>by rw [jO.out];exact Or.inl hi)
 ·have t2:(h.k == 2)=true:=by rw [hk];rfl
  have HK:=hid hk;clear hk;obtain ⟨fin,hfin⟩:∃ fin,(dw most (tv mk.next) (2,0,.nil) h.fr h.en { mk with next:=mk.next+1 }).2=fin:=⟨_,rfl⟩;have aQ:Hid (dF most h ps E mk=(tv mk.next,fin)):=by show _=_;rw [tC.out,Uc HK.out,hfin]
  have bH:=hid hfin;clear hfin;have xG:Hid (Calls Tryz.prog 66 #[.pointer (some ⟨pb,0,none⟩),.agg #[.int .i64 1,.int .i64 mk.next,.slice oo 0 cc],.agg #[.int .i64 2,.int .i64 0,.slice none 0 0],.agg #[.int .i64 h.fr,.int .i64 h.en]] W2 (IB X1 most pb W2 fin)):=by
   have k:=dO (o1:=oo) (l1:=0) (c1:=cc) (o2:=none) (l2:=0) (c2:=0) EO.out wR.out (tv mk.next) (2,0,.nil) h.fr h.en (aB.nil _ _ _) (aB.nil _ _ _) (by show Fo.nil.size<=_;decide) (by show Fo.nil.size<=_;decide);rw [bH.out] at k;exact k
  go_wp2_with fail;refine xG.out.mono ?_;rintro x w3 ⟨rfl,nR,hl3⟩;have AY:=hid nR;have tY:=hid hl3;clear nR hl3;clear a0 a1 a2 a3 a4 a5 a6 a7 a8 b0 b1 b2 q3;obtain ⟨g0,g1,g2,_,_,_⟩:=ay (H7.out.later tY.out).1;have hb6:=(Rj.out.later tY.out).1;have vT:=hid hb6;obtain ⟨d0,d1,d2,y0,y1,y2⟩:=ay hb6;clear hb6;go_wp2_with fail;clear d0 d1 d2 y0 y1 y2;have hf:=bg w3 (B+1) (.int .i64 1) (.int .i64 mk.next) (.slice oo 0 cc);obtain ⟨f0,f1,f2⟩:=aW (a:=.int .i64 1) (b:=.int .i64 mk.next) (c:=.slice oo 0 cc) vT.out;change bodyPost _ _ _ _ _ (bC w3 (B+1) (.int .i64 1) (.int .i64 mk.next) (.slice oo 0 cc));generalize bC w3 (B+1) (.int .i64 1) (.int .i64 mk.next) (.slice oo 0 cc)=wf at *;refine bodyPost_ret (by simp [results,Tryz.results42,go_sem,f0,f1,f2];rfl) rfl ?_;have hp:pb < W.heap.size:=by rw [dW];exact HP.out
  refine ⟨mk.next,oo,cc,by rw [aQ.out],rfl,?_,(HL2.out.trans tY.out).put hf hp (fun i hi=>by omega)⟩;rw [aQ.out];exact (AY.out.put (hf.mono (fun i _ e=>by rw [jO.out];exact Or.inr (by omega)))).less (fun i hi=>by rw [jO.out];exact Or.inl hi)
 ·have t2:(h.k == 2)=false:=by rw [hk];rfl
  have t3:(h.k == 3)=true:=by rw [hk];rfl
  have HK:=hid hk;clear hk;obtain ⟨fin,hfin⟩:∃ fin,(dw most (tv mk.next) (3,0,.nil) h.fr h.en { mk with next:=mk.next+1 }).2=fin:=⟨_,rfl⟩;have aQ:Hid (dF most h ps E mk=(tv mk.next,fin)):=by show _=_;rw [tC.out,Qm HK.out,hfin]
  have bH:=hid hfin;clear hfin;have xG:Hid (Calls Tryz.prog 66 #[.pointer (some ⟨pb,0,none⟩),.agg #[.int .i64 1,.int .i64 mk.next,.slice oo 0 cc],.agg #[.int .i64 3,.int .i64 0,.slice none 0 0],.agg #[.int .i64 h.fr,.int .i64 h.en]] W2 (IB X1 most pb W2 fin)):=by
   have k:=dO (o1:=oo) (l1:=0) (c1:=cc) (o2:=none) (l2:=0) (c2:=0) EO.out wR.out (tv mk.next) (3,0,.nil) h.fr h.en (aB.nil _ _ _) (aB.nil _ _ _) (by show Fo.nil.size<=_;decide) (by show Fo.nil.size<=_;decide);rw [bH.out] at k;exact k
  go_wp2_with fail;refine xG.out.mono ?_;rintro x w3 ⟨rfl,nR,hl3⟩;have AY:=hid nR;have tY:=hid hl3;clear nR hl3;clear a0 a1 a2 a3 a4 a5 a6 a7 a8 b0 b1 b2 q3;obtain ⟨g0,g1,g2,_,_,_⟩:=ay (H7.out.later tY.out).1;have hb6:=(Rj.out.later tY.out).1;have vT:=hid hb6;obtain ⟨d0,d1,d2,y0,y1,y2⟩:=ay hb6;clear hb6;go_wp2_with fail;clear d0 d1 d2 y0 y1 y2;have hf:=bg w3 (B+1) (.int .i64 1) (.int .i64 mk.next) (.slice oo 0 cc);obtain ⟨f0,f1,f2⟩:=aW (a:=.int .i64 1) (b:=.int .i64 mk.next) (c:=.slice oo 0 cc) vT.out;change bodyPost _ _ _ _ _ (bC w3 (B+1) (.int .i64 1) (.int .i64 mk.next) (.slice oo 0 cc));generalize bC w3 (B+1) (.int .i64 1) (.int .i64 mk.next) (.slice oo 0 cc)=wf at *;refine bodyPost_ret (by simp [results,Tryz.results42,go_sem,f0,f1,f2];rfl) rfl ?_;have hp:pb < W.heap.size:=by rw [dW];exact HP.out
  refine ⟨mk.next,oo,cc,by rw [aQ.out],rfl,?_,(HL2.out.trans tY.out).put hf hp (fun i hi=>by omega)⟩;rw [aQ.out];exact (AY.out.put (hf.mono (fun i _ e=>by rw [jO.out];exact Or.inr (by omega)))).less (fun i hi=>by rw [jO.out];exact Or.inl hi)
 ·have t2:(h.k == 2)=false:=by rw [hk];rfl
  have t3:(h.k == 3)=false:=by rw [hk];rfl
  have t1:(h.k == 1)=false:=by rw [hk];rfl
  have t4:(h.k == 4)=true:=by rw [hk];rfl
  have HK:=hid hk;clear hk;have hl1:1<=l2:=by rw [HS2.out.1];exact Di.out.2.1 HK.out
  have hi0:(0:Int) < l2:=by omega
  have hj0:0 < l2:=by omega
  obtain ⟨b9,aK,u,qu,lq,lu,d1u,lC,lD,lF,e9,_,gu,ru,cu,su,tu⟩:=HS2.out.nth (i:=0) (by omega);subst e9;have ig:=HR.out b9 ru;have Ku:=hid gu;have Aw:=hid su;have Az:=hid tu;have XE:=hid (To.dK ps 0 u qu gu);have Ob:=hid (gJ ps 0 u qu qV.out gu);have XF:Hid (Sc.bP (h.nm::names e) u qu=[]):=by
   show _=_
   have k:=oK Ap.out (by rw [HK.out];decide) gu
   rwa [rM _ _ (by rw [HK.out];rfl)] at k
  obtain ⟨res,hres⟩:∃ res,dF most u qu ((h.nm,pu (tv (mk.next+1)))::E) { mk with next:=mk.next+1+1 }=res:=⟨_,rfl⟩;obtain ⟨fin,hfin⟩:∃ fin,(dw most (tv mk.next) (iY (tv (mk.next+1)) res.1) h.fr h.en res.2).2=fin:=⟨_,rfl⟩;have aQ:Hid (dF most h ps E mk=(tv mk.next,fin)):=by show _=_;rw [tC.out,Ue HK.out,yw Ku.out,<-hfin,<-hres]
  have sN:Hid (res.2.next<=Aa):=by
   show _<=_
   have k:=zX.out;rw [aQ.out,<-hfin] at k;simpa only [rO] using k
  have nZ:Hid (mk.next+1+1<=Aa):=by
   show _<=_
   have k:=(lQ most u qu ((h.nm,pu (tv (mk.next+1)))::E) (HE.out.ne.cons (NM.pure _)) { mk with next:=mk.next+1+1 }).1;rw [hres] at k;exact Nat.le_trans k sN.out
  have lT:=hid hres;have bH:=hid hfin;clear hres hfin gu su tu;generalize adS:mk.next+1=nb at *
  have qX:=hid (take_any EO.out (by show nb<=1000000000;have:nb+1<=500000000:=nZ.out;omega));go_wp2_with fail;refine qX.out.mono ?_;rintro x w3 ⟨n1,o3,c3,hn1,rfl,nR,hl3⟩;obtain rfl:nb=n1:=Hl hn1;replace nR:dV X1 most pb w3 { mk with next:=nb+1 }:=nR;obtain ⟨W4,yN⟩:∃ W4,W4=w3.alloc (.cells #[.int .i64 1,.int .i64 nb,.slice o3 0 c3] 24):=⟨_,rfl⟩;have hq4:ah w3 W4:=by rw [yN];exact ah.alloc _ _
  have h8:Bx pb W4 w3.heap.size #[.int .i64 1,.int .i64 nb,.slice o3 0 c3] 24:=Bx.new nR hq4 (Nat.le_refl _) (by rw [yN];exact heap_alloc_new w3 _);have H8:=hid h8;have Kw:=hid (nR.stay hq4);have zY:=hid (hl3.quiet hq4 HP2.out);have hpb:=Kw.out.lt;clear nR hl3 h8 hq4 qX hn1 a0 a1 a2 a3 a4 a5 a6 a7 a8 b0 b1 b2 q3;unfold dZ;go_upto_region 13 with fail
  change Code.wp _ _ _ _ (w3.alloc (.cells #[.int .i64 1,.int .i64 nb,.slice o3 0 c3] 24));rw [<-yN];clear yN;generalize hD:w3.heap.size=D at *;have bK:Hid (∀ W,Later pb W4 W->(qP W B h o1 l1 c1 (some ⟨b9,aK,none⟩) l2 c2)/\(xw W C (.int .i64 1) (.int .i64 mk.next) (.slice oo 0 cc))/\(xw W D (.int .i64 1) (.int .i64 nb) (.slice o3 0 c3))/\(EC W b9 aK u lq lu d1u lC lD lF)):=fun W' hl=>by
   have hl':=zY.out.trans hl;obtain ⟨k0,k1,k2,_⟩:=ay (H7.out.later hl').1;obtain ⟨k3,k4,k5,_⟩:=ay (H8.out.later hl).1;exact ⟨aA (UL.out.later hl').1,⟨k0,k1,k2⟩,⟨k3,k4,k5⟩,fA cu ig HM.out (HL2.out.trans hl')⟩
  have V7:Hid (∀ W,Later pb W4 W->dV X1 most pb W { mk with next:=nb+1 }->Calls Tryz.prog 69 #[.agg #[.int .i64 1,.int .i64 nb,.slice o3 0 c3]] W (SgQ most pb (nb+1) W (pu (tv nb)))):=fun W hl hm=>C9 hm
  have XG:Hid (∀ W bs ls,Later pb W4 W->dV X1 most pb W { mk with next:=nb+1 }->jW most pb (nb+1) W (.func bs #[] ls) (pu (tv nb))->Calls Tryz.prog 68 #[.slice eo en ec,.string h.nm,.func bs #[] ls] W (WtQ most pb (nb+1) W (en+1) ((h.nm,.func bs #[] ls)::e) ((h.nm,pu (tv nb))::E))):=fun W bs ls hl hm hf=>by
   have hl':=HL2.out.trans (zY.out.trans hl);exact uT h.nm hm (Ep.out.later hl') (HE.out.later hl' (by omega)) vX (by omega) hf (NM.pure _)
  have nY:Hid (∀ W o c bs ls,Later pb W4 W->dV X1 most pb W { mk with next:=nb+1 }->en+1<=c->Ij most pb (nb+1) W o (en+1) ((h.nm,.func bs #[] ls)::e) ((h.nm,pu (tv nb))::E)->Calls Tryz.prog 42 #[.pointer (some ⟨pb,0,none⟩),bI u lq lu d1u lC lD lF,.slice o (en+1) c] W (Iz X1 most pb W res)):=fun W o c bs ls hl hm hc hpk=>by
   have hl':=HL2.out.trans (zY.out.trans hl);have k:=IH.out 0 u qu Ku.out W R X1 most pb { mk with next:=nb+1 } lq lu d1u lC lD lF o (en+1) c _ _ (jI Aw.out HR.out HM.out hl') (fO Az.out HR.out HM.out hl') HR.out hm wR.out hpk.1 hc (by have:=XE.out;omega) hpk.2 Ob.out.1 Ob.out.2 XF.out (by rw [lT.out];exact sN.out);rw [lT.out] at k;exact k
  have Jf:Hid (∀ (W:World) (g n9:Nat) (o9:Option Addr) (c9:Nat),W.heap[g]?=some (.cells #[.int .i64 1,.int .i64 nb,.slice o3 0 c3,.int .i64 1,.int .i64 n9,.slice o9 0 c9] 24 (0,0))->Calls Tryz.prog 40 #[.slice (some ⟨g,0,none⟩) 2 2] W (ArQ W nb n9)):=fun W g n9 o9 c9 hg=>Dh hg
  have xG:Hid (∀ (W:World) (n9:Nat) (o4:Option Addr) (c4:Nat),res.1=tv n9->dV X1 most pb W res.2->aB (TF X1 pb W) W o4 2 (iY (tv nb) (tv n9)).2.2->Calls Tryz.prog 66 #[.pointer (some ⟨pb,0,none⟩),.agg #[.int .i64 1,.int .i64 mk.next,.slice oo 0 cc],.agg #[.int .i64 4,.int .i64 0,.slice o4 2 c4],.agg #[.int .i64 h.fr,.int .i64 h.en]] W (IB X1 most pb W fin)):=fun W n9 o4 c4 hr hmw hs=>by
   have k:=dO (o1:=oo) (l1:=0) (c1:=cc) (c2:=c4) hmw wR.out (tv mk.next) (iY (tv nb) (tv n9)) h.fr h.en (aB.nil _ _ _) hs (Nat.le_of_ble_eq_true rfl) (Nat.le_of_ble_eq_true rfl);rw [<-hr,bH.out] at k;exact k
  have hmk:=Kw.out;have hlc:=Later.refl hpb;obtain ⟨⟨a0,a1,a2,a3,a4,a5,a6,a7,a8⟩,⟨b0,b1,b2⟩,⟨f0,f1,f2⟩,⟨v0,v1,v2,v3,v4,v5,v6,v7,v8⟩⟩:=bK.out W4 (Later.refl hpb);unfold bI at nY;clear cu ig ru;go_region_held3 (fun W=>(W.cell? ⟨B,0,none⟩=some (.int .i64 h.k)/\W.cell? ⟨B,1,none⟩=some (.string h.nm)/\W.cell? ⟨B,2,none⟩=some (.int .i64 h.n)/\W.cell? ⟨B,3,none⟩=some (.int .i64 h.tk)/\W.cell? ⟨B,4,none⟩=some (.int .i64 h.tn)/\W.cell? ⟨B,5,none⟩=some (.slice o1 l1 c1)/\W.cell? ⟨B,6,none⟩=some (.slice (some ⟨b9,aK,none⟩) l2 c2)/\W.cell? ⟨B,7,none⟩=some (.int .i64 h.fr)/\W.cell? ⟨B,8,none⟩=some (.int .i64 h.en))/\(W.cell? ⟨C,0,none⟩=some (.int .i64 1)/\W.cell? ⟨C,1,none⟩=some (.int .i64 mk.next)/\W.cell? ⟨C,2,none⟩=some (.slice oo 0 cc))/\(W.cell? ⟨D,0,none⟩=some (.int .i64 1)/\W.cell? ⟨D,1,none⟩=some (.int .i64 nb)/\W.cell? ⟨D,2,none⟩=some (.slice o3 0 c3))/\(W.cell? ⟨b9,aK,none⟩=some (.int .i64 u.k)/\W.cell? ⟨b9,aK+1,none⟩=some (.string u.nm)/\W.cell? ⟨b9,aK+2,none⟩=some (.int .i64 u.n)/\W.cell? ⟨b9,aK+3,none⟩=some (.int .i64 u.tk)/\W.cell? ⟨b9,aK+4,none⟩=some (.int .i64 u.tn)/\W.cell? ⟨b9,aK+5,none⟩=some (.slice lq lu d1u)/\W.cell? ⟨b9,aK+6,none⟩=some (.slice lC lD lF)/\W.cell? ⟨b9,aK+7,none⟩=some (.int .i64 u.fr)/\W.cell? ⟨b9,aK+8,none⟩=some (.int .i64 u.en)))
   (((refine bK.out _ ?_);(repeat with_reducible first | exact hlc | exact Later.refl hpb | refine jm hpb ?_ | refine jo hpb ?_)))
   (first
    | (go_at_call 69;(with_reducible refine Calls.mono (V7.out _ ?hq ?hm) ?_);(case hq=>(repeat with_reducible first | exact hlc | exact Later.refl hpb | refine jm hpb ?_ | refine jo hpb ?_));(case hm=>(repeat with_reducible first | exact hmk | refine ja ?_ | refine jb ?_));rintro e wx ⟨bs,ls,rfl,hme,gB⟩;(refine lS (pb:=pb) (X:=X1) (most:=most) (k:={ mk with next:=nb+1 }) (w0:=W4) ?hl2 ?hm2 gB ?_);(case hl2=>(repeat with_reducible first | exact hlc | exact Later.refl hpb | refine jm hpb ?_ | refine jo hpb ?_));(case hm2=>(repeat with_reducible first | exact hmk | refine ja ?_ | refine jb ?_));intro hlc hmk)
    | (go_at_call 68;(with_reducible refine Calls.mono (XG.out _ bs ls ?hq ?hm ?hmz) ?_);(case hq=>(repeat with_reducible first | exact hlc | exact Later.refl hpb | refine jm hpb ?_ | refine jo hpb ?_));(case hm=>(repeat with_reducible first | exact hmk | refine ja ?_ | refine jb ?_));(case hmz=>(repeat (first | with_reducible exact hme | ((with_reducible refine jW.st (X:=X1) (k:={ mk with next:=nb+1 }) ?hmT (ah.alloc _ _) ?_);(case hmT=>(repeat with_reducible first | exact hmk | refine ja ?_ | refine jb ?_))) | ((with_reducible refine jW.st (X:=X1) (k:={ mk with next:=nb+1 }) ?hmT (ah.drew _) ?_);(case hmT=>(repeat with_reducible first | exact hmk | refine ja ?_ | refine jb ?_))) | fail)));rintro e wx ⟨wo,wc,rfl,hwc,hpk,gB⟩;(refine lS (pb:=pb) (X:=X1) (most:=most) (k:={ mk with next:=nb+1 }) (w0:=W4) ?hl2 ?hm2 gB ?_);(case hl2=>(repeat with_reducible first | exact hlc | exact Later.refl hpb | refine jm hpb ?_ | refine jo hpb ?_));(case hm2=>(repeat with_reducible first | exact hmk | refine ja ?_ | refine jb ?_));intro hlc hmk)
    | ((go_at_call 42;(with_reducible refine Calls.mono (nY.out _ _ _ bs ls ?hq ?hm hwc ?hpz) ?_));(case hq=>(repeat with_reducible first | exact hlc | exact Later.refl hpb | refine jm hpb ?_ | refine jo hpb ?_));(case hm=>(repeat with_reducible first | exact hmk | refine ja ?_ | refine jb ?_));(case hpz=>(repeat (first | with_reducible exact hpk | ((with_reducible refine Ij.st (X:=X1) (k:={ mk with next:=nb+1 }) ?UM (ah.alloc _ _) ?_);(case UM=>(repeat with_reducible first | exact hmk | refine ja ?_ | refine jb ?_))) | ((with_reducible refine Ij.st (X:=X1) (k:={ mk with next:=nb+1 }) ?UM (ah.drew _) ?_);(case UM=>(repeat with_reducible first | exact hmk | refine ja ?_ | refine jb ?_))) | fail)));rintro e wx ⟨n9,o9,c9,qK,rfl,hmk,hlx⟩;unfold dZ;(refine jc (pb:=pb) (w0:=W4) ?hl2 hlx ?_);(case hl2=>(repeat with_reducible first | exact hlc | exact Later.refl hpb | refine jm hpb ?_ | refine jo hpb ?_));intro hlc)
    | (go_at_call 40;(with_reducible refine Calls.mono (Jf.out _ _ n9 o9 c9 ?hblk) ?_);(case hblk=>(repeat (first | ((with_reducible refine iE _ _ _ _ ?hbe);(case hbe=>(simp;done))) | with_reducible refine au (ah.alloc _ _) ?_ | with_reducible refine eu ?_ | fail)));rintro e wx ⟨o4,c4,rfl,hs4,gB⟩;(refine qU (pb:=pb) (X:=X1) (most:=most) (k:=res.2) ?D8 gB hs4 ?_;(case D8=>(repeat with_reducible first | exact hmk | refine ja ?_ | refine jb ?_));intro hs4);(refine lS (pb:=pb) (X:=X1) (most:=most) (k:=res.2) (w0:=W4) ?hl2 ?hm2 gB ?_);(case hl2=>(repeat with_reducible first | exact hlc | exact Later.refl hpb | refine jm hpb ?_ | refine jo hpb ?_));(case hm2=>(repeat with_reducible first | exact hmk | refine ja ?_ | refine jb ?_));intro hlc hmk)
    | ((go_at_call 66;(with_reducible refine Calls.mono (xG.out _ n9 _ _ qK ?hm ?hs1) ?_));(case hm=>(repeat with_reducible first | exact hmk | refine ja ?_ | refine jb ?_));(case hs1=>(repeat (first | with_reducible exact hs4 | ((with_reducible refine jH (pb:=pb) (X:=X1) (most:=most) (k:=res.2) ?wQ (ah.alloc _ _) ?_);(case wQ=>(repeat with_reducible first | exact hmk | refine ja ?_ | refine jb ?_))) | ((with_reducible refine jH (pb:=pb) (X:=X1) (most:=most) (k:=res.2) ?wQ (ah.drew _) ?_);(case wQ=>(repeat with_reducible first | exact hmk | refine ja ?_ | refine jb ?_))) | fail)));rintro e wx ⟨rfl,hmk,hlx⟩;(refine jc (pb:=pb) (w0:=W4) ?hl2 hlx ?_);(case hl2=>(repeat with_reducible first | exact hlc | exact Later.refl hpb | refine jm hpb ?_ | refine jo hpb ?_));intro hlc)
    | fail)
  all_goals
   have Qj:=hid hmk;have Ik:=hid (zY.out.trans hlc);clear hmk hlc;obtain ⟨g0,g1,g2,_,_,_⟩:=ay (H7.out.later Ik.out).1;have hb6:=(Rj.out.later Ik.out).1;have vT:=hid hb6;obtain ⟨d0,d1,d2,y0,y1,y2⟩:=ay hb6;clear hb6;go_wp2_with fail;clear d0 d1 d2 y0 y1 y2;have hf:=bg wx (B+1) (.int .i64 1) (.int .i64 mk.next) (.slice oo 0 cc);obtain ⟨f0,f1,f2⟩:=aW (a:=.int .i64 1) (b:=.int .i64 mk.next) (c:=.slice oo 0 cc) vT.out;change bodyPost _ _ _ _ _ (bC wx (B+1) (.int .i64 1) (.int .i64 mk.next) (.slice oo 0 cc));generalize bC wx (B+1) (.int .i64 1) (.int .i64 mk.next) (.slice oo 0 cc)=wf at *;refine bodyPost_ret (by simp [results,Tryz.results42,go_sem,f0,f1,f2];rfl) rfl ?_;have hp:pb < W.heap.size:=by rw [dW];exact HP.out
   refine ⟨mk.next,oo,cc,by rw [aQ.out],rfl,?_,(HL2.out.trans Ik.out).put hf hp (fun i hi=>by omega)⟩;rw [aQ.out];exact (Qj.out.put (hf.mono (fun i _ e=>by rw [jO.out];exact Or.inr (by omega)))).less (fun i hi=>by rw [jO.out];exact Or.inl hi)
 ·have t2:(h.k == 2)=false:=by rw [hk];rfl
  have t3:(h.k == 3)=false:=by rw [hk];rfl
  have t1:(h.k == 1)=false:=by rw [hk];rfl
  have t4:(h.k == 4)=false:=by rw [hk];rfl
  have t6:(h.k == 6)=false:=by rw [hk];rfl
  have t7:(h.k == 7)=false:=by rw [hk];rfl
  have t5:(h.k == 5)=true:=by rw [hk];rfl
  have HK:=hid hk;clear hk;have V9:Hid (∀ j g qs,ps.get j=some (g,qs)->Sc.bP (names e) g qs=[]):=fun j g qs hg=>by
   have k:=oK Ap.out (by rw [HK.out];decide) hg
   rwa [pO _ _ (by rw [HK.out];exact uU (by decide) (by decide) (by decide) j)] at k
  obtain ⟨res,hres⟩:∃ res,jE E (bT most ps) { mk with next:=mk.next+1 }=res:=⟨_,rfl⟩;obtain ⟨fin,hfin⟩:∃ fin,(dw most (qQ res.1 0) (iY (qQ res.1 1) (tv mk.next)) h.fr h.en res.2).2=fin:=⟨_,rfl⟩;have aQ:Hid (dF most h ps E mk=(tv mk.next,fin)):=by show _=_;rw [tC.out,Uf HK.out,hres,hfin]
  have Ei:Hid (res.1.length=l2):=by show _=_;rw [<-hres,lg,jS,HS2.out.1]
  have sN:Hid (res.2.next<=Aa):=by
   show _<=_
   have k:=zX.out;rw [aQ.out] at k;rw [<-hfin] at k;simpa only [rO] using k
  have lT:=hid hres;have bH:=hid hfin;have hl2:2<=l2:=by rw [HS2.out.1];exact Di.out.2.2.1 HK.out
  have hi0:(0:Int) < l2:=by omega
  have hj0:0 < l2:=by omega
  have hj1:2<=l2->1 < l2:=by omega
  have hj2:3<=l2->2 < l2:=by omega
  have hi1:2<=l2->(1:Int) < l2:=by omega
  have hi2:3<=l2->(2:Int) < l2:=by omega
  have hlz:l2<=100000:=by have:=To.length_le ps;have:=HS2.out.1;omega
  clear hres hfin;have Ea:Hid (∀ W,Later pb W2 W->dV X1 most pb W { mk with next:=mk.next+1 }->Calls Tryz.prog 71 #[.pointer (some ⟨pb,0,none⟩),bI h o1 l1 c1 o2 l2 c2,.slice eo en ec] W (PtQ X1 most pb W res)):=fun W' hl hmw=>by
   have hl':=HL2.out.trans hl;have k:=uS h ps IH.out W' R X1 most pb { mk with next:=mk.next+1 } o1 l1 c1 o2 l2 c2 eo en ec e E (fO HS2.out HR.out HM.out hl') HR.out hmw wR.out (Ep.out.later hl') vX hz (HE.out.later hl' (Nat.le_succ _)) qV.out V9.out (by rw [lT.out];exact sN.out);rw [lT.out] at k;exact k
  unfold bI at Ea;go_wp2_with fail;refine (Ea.out _ (Later.refl HP2.out) EO.out).mono ?_;rintro x w3 ⟨o,c,rfl,hcl,hpt,nR,hl3⟩;clear a0 a1 a2 a3 a4 a5 a6 a7 a8 b0 b1 b2 q3;obtain ⟨gp,n0,wS,n0c,rfl,Il,Dj,n01,n02⟩:=hpt.get (i:=0) (by rw [Ei.out];omega);obtain ⟨ZU,n1,Qq,n1c,e1,UN,n10,n11,n12⟩:=hpt.get (i:=1) (by rw [Ei.out];omega);obtain rfl:gp=ZU:=by cases e1;rfl
  have hgt:=hpt.tf rfl (by rw [Ei.out];omega);rw [Ei.out];have AY:=hid nR;have tY:=hid hl3;have hpb:=nR.lt;have bK:Hid (∀ W,Later pb w3 W->(qP W B h o1 l1 c1 o2 l2 c2)/\(xw W C (.int .i64 1) (.int .i64 mk.next) (.slice oo 0 cc))/\(xw W gp (.int .i64 1) (.int .i64 n0) (.slice wS 0 n0c))/\(W.cell? ⟨gp,3,none⟩=some (.int .i64 1)/\W.cell? ⟨gp,4,none⟩=some (.int .i64 n1)/\W.cell? ⟨gp,5,none⟩=some (.slice Qq 0 n1c))):=fun W hl=>by
   have hl':=tY.out.trans hl;refine ⟨aA (UL.out.later hl').1,?_,⟨cell_later hgt hl Dj,cell_later hgt hl n01,cell_later hgt hl n02⟩,⟨cell_later hgt hl n10,cell_later hgt hl n11,cell_later hgt hl n12⟩⟩;obtain ⟨k0,k1,k2,_⟩:=ay (H7.out.later hl').1;exact ⟨k0,k1,k2⟩
  have Jf:Hid (∀ (W:World) (g:Nat),W.heap[g]?=some (.cells #[.int .i64 1,.int .i64 n1,.slice Qq 0 n1c,.int .i64 1,.int .i64 mk.next,.slice oo 0 cc] 24 (0,0))->Calls Tryz.prog 40 #[.slice (some ⟨g,0,none⟩) 2 2] W (ArQ W n1 mk.next)):=fun W g hg=>Dh hg
  have xG:Hid (∀ (W:World) (o4:Option Addr) (c4:Nat),dV X1 most pb W res.2->aB (TF X1 pb W) W o4 2 (iY (tv n1) (tv mk.next)).2.2->Calls Tryz.prog 66 #[.pointer (some ⟨pb,0,none⟩),.agg #[.int .i64 1,.int .i64 n0,.slice wS 0 n0c],.agg #[.int .i64 4,.int .i64 0,.slice o4 2 c4],.agg #[.int .i64 h.fr,.int .i64 h.en]] W (IB X1 most pb W fin)):=fun W o4 c4 hmw hs=>by
   have k:=dO (o1:=wS) (l1:=0) (c1:=n0c) (c2:=c4) hmw wR.out (tv n0) (iY (tv n1) (tv mk.next)) h.fr h.en (aB.nil _ _ _) hs (by show Fo.nil.size<=_;decide) (Nat.le_of_ble_eq_true rfl);have e:=bH.out;rw [Il,UN] at e;rw [e] at k;exact k
  replace hi1:=hi1 hl2;replace hj1:=hj1 hl2;clear hpt nR hl3 hgt Il UN hi2 hj2;obtain ⟨⟨a0,a1,a2,a3,a4,a5,a6,a7,a8⟩,⟨b0,b1,b2⟩,⟨p0,p1,p2⟩,⟨p3,p4,p5⟩⟩:=bK.out w3 (Later.refl hpb);have hmk:=AY.out;have hlc:=Later.refl hpb;clear Dj n01 n02 n10 n11 n12;go_upto_region 20 with fail
  go_region_held3 (fun W=>(W.cell? ⟨B,0,none⟩=some (.int .i64 h.k)/\W.cell? ⟨B,1,none⟩=some (.string h.nm)/\W.cell? ⟨B,2,none⟩=some (.int .i64 h.n)/\W.cell? ⟨B,3,none⟩=some (.int .i64 h.tk)/\W.cell? ⟨B,4,none⟩=some (.int .i64 h.tn)/\W.cell? ⟨B,5,none⟩=some (.slice o1 l1 c1)/\W.cell? ⟨B,6,none⟩=some (.slice o2 l2 c2)/\W.cell? ⟨B,7,none⟩=some (.int .i64 h.fr)/\W.cell? ⟨B,8,none⟩=some (.int .i64 h.en))/\(W.cell? ⟨C,0,none⟩=some (.int .i64 1)/\W.cell? ⟨C,1,none⟩=some (.int .i64 mk.next)/\W.cell? ⟨C,2,none⟩=some (.slice oo 0 cc))/\(W.cell? ⟨gp,0,none⟩=some (.int .i64 1)/\W.cell? ⟨gp,1,none⟩=some (.int .i64 n0)/\W.cell? ⟨gp,2,none⟩=some (.slice wS 0 n0c))/\(W.cell? ⟨gp,3,none⟩=some (.int .i64 1)/\W.cell? ⟨gp,4,none⟩=some (.int .i64 n1)/\W.cell? ⟨gp,5,none⟩=some (.slice Qq 0 n1c)))
   (((refine bK.out _ ?_);(repeat with_reducible first | exact hlc | exact Later.refl hpb | refine jm hpb ?_ | refine jo hpb ?_)))
   (first
    | (go_at_call 40;(with_reducible refine Calls.mono (Jf.out _ _ ?hblk) ?_);(case hblk=>(repeat (first | ((with_reducible refine iE _ _ _ _ ?hbe);(case hbe=>(simp;done))) | with_reducible refine au (ah.alloc _ _) ?_ | with_reducible refine eu ?_ | fail)));rintro e wx ⟨o4,c4,rfl,hs4,gB⟩;(refine qU (pb:=pb) (X:=X1) (most:=most) (k:=res.2) ?D8 gB hs4 ?_;(case D8=>(repeat with_reducible first | exact hmk | refine ja ?_ | refine jb ?_));intro hs4);(refine lS (pb:=pb) (X:=X1) (most:=most) (k:=res.2) (w0:=w3) ?hl2 ?hm2 gB ?_);(case hl2=>(repeat with_reducible first | exact hlc | exact Later.refl hpb | refine jm hpb ?_ | refine jo hpb ?_));(case hm2=>(repeat with_reducible first | exact hmk | refine ja ?_ | refine jb ?_));intro hlc hmk)
    | ((go_at_call 66;(with_reducible refine Calls.mono (xG.out _ _ _ ?hm ?hs1) ?_));(case hm=>(repeat with_reducible first | exact hmk | refine ja ?_ | refine jb ?_));(case hs1=>(repeat (first | with_reducible exact hs4 | ((with_reducible refine jH (pb:=pb) (X:=X1) (most:=most) (k:=res.2) ?wQ (ah.alloc _ _) ?_);(case wQ=>(repeat with_reducible first | exact hmk | refine ja ?_ | refine jb ?_))) | ((with_reducible refine jH (pb:=pb) (X:=X1) (most:=most) (k:=res.2) ?wQ (ah.drew _) ?_);(case wQ=>(repeat with_reducible first | exact hmk | refine ja ?_ | refine jb ?_))) | fail)));rintro e wx ⟨rfl,hmk,hlx⟩;(refine jc (pb:=pb) (w0:=w3) ?hl2 hlx ?_);(case hl2=>(repeat with_reducible first | exact hlc | exact Later.refl hpb | refine jm hpb ?_ | refine jo hpb ?_));intro hlc)
    | fail)
  all_goals
   have Kw:=hid hmk;have zY:=hid (tY.out.trans hlc);clear hmk hlc;obtain ⟨g0,g1,g2,_,_,_⟩:=ay (H7.out.later zY.out).1;have hb6:=(Rj.out.later zY.out).1;have vT:=hid hb6;obtain ⟨d0,d1,d2,y0,y1,y2⟩:=ay hb6;clear hb6;go_wp2_with fail;clear d0 d1 d2 y0 y1 y2;have hf:=bg wx (B+1) (.int .i64 1) (.int .i64 mk.next) (.slice oo 0 cc);obtain ⟨f0,f1,f2⟩:=aW (a:=.int .i64 1) (b:=.int .i64 mk.next) (c:=.slice oo 0 cc) vT.out;change bodyPost _ _ _ _ _ (bC wx (B+1) (.int .i64 1) (.int .i64 mk.next) (.slice oo 0 cc));generalize bC wx (B+1) (.int .i64 1) (.int .i64 mk.next) (.slice oo 0 cc)=wf at *;refine bodyPost_ret (by simp [results,Tryz.results42,go_sem,f0,f1,f2];rfl) rfl ?_;have hp:pb < W.heap.size:=by rw [dW];exact HP.out
   refine ⟨mk.next,oo,cc,by rw [aQ.out],rfl,?_,(HL2.out.trans zY.out).put hf hp (fun i hi=>by omega)⟩;rw [aQ.out];exact (Kw.out.put (hf.mono (fun i _ e=>by rw [jO.out];exact Or.inr (by omega)))).less (fun i hi=>by rw [jO.out];exact Or.inl hi)
 ·have t2:(h.k == 2)=false:=by rw [hk];rfl
  have t3:(h.k == 3)=false:=by rw [hk];rfl
  have t1:(h.k == 1)=false:=by rw [hk];rfl
  have t4:(h.k == 4)=false:=by rw [hk];rfl
  have t6:(h.k == 6)=true:=by rw [hk];rfl
  have HK:=hid hk;clear hk;have ada:=hid Di.out;have adb:=hid Ap.out;have hl2:2<=l2:=by rw [HS2.out.1];exact Di.out.2.2.2.1 HK.out
  have hi1:(1:Int) < l2:=by omega
  have hj1:1 < l2:=by omega
  obtain ⟨b9,aK,u,qu,lq,lu,d1u,lC,lD,lF,e9,_,gu,ru,cu,su,tu⟩:=HS2.out.nth (i:=1) (by omega);subst e9;have ig:=HR.out b9 ru;have Ku:=hid gu;have Aw:=hid su;have Az:=hid tu;have XE:=hid (To.dK ps 1 u qu gu);have Ob:=hid (gJ ps 1 u qu qV.out gu);have XF:Hid (Sc.bP (h.nm::names e) u qu=[]):=by
   show _=_
   have k:=oK Ap.out (by rw [HK.out];decide) gu
   rwa [rM _ _ (by rw [HK.out];rfl)] at k
  obtain ⟨fm,hfm⟩:∃ fm,firstM most h (bT most ps) E { mk with next:=mk.next+1 }=fm:=⟨_,rfl⟩;obtain ⟨km,hkm⟩:∃ km,ug most h (bT most ps) E { mk with next:=mk.next+1 }=km:=⟨_,rfl⟩;obtain ⟨res,hres⟩:∃ res,dF most u qu ((h.nm,km)::E) fm.2=res:=⟨_,rfl⟩;obtain ⟨fin,hfin⟩:∃ fin,(dw most (tv mk.next) res.1 h.fr h.en res.2).2=fin:=⟨_,rfl⟩;have aQ:Hid (dF most h ps E mk=(tv mk.next,fin)):=by show _=_;rw [tC.out,JB (by rw [HK.out];decide),yw Ku.out,hkm,hfm,hres,hfin]
  have ZV:Hid (NM km):=by show NM km;rw [<-hkm];exact zo _ _ _ _ _
  have sN:Hid (res.2.next<=Aa):=by
   show _<=_
   have k:=zX.out;rw [aQ.out,<-hfin] at k;simpa only [rO] using k
  have HFN:Hid (fm.2.next<=Aa):=by
   show _<=_
   have k:=(lQ most u qu ((h.nm,km)::E) (HE.out.ne.cons ZV.out) fm.2).1;rw [hres] at k;exact Nat.le_trans k sN.out
  have Xm:Hid (mk.next<=fm.2.next):=by
   show _<=_
   have k:=(FH most h ps HE.out.ne { mk with next:=mk.next+1 }).1;rw [hfm] at k;exact Nat.le_trans (Nat.le_succ _) k
  have tV:=hid hfm;have ZM:=hid hkm;have lT:=hid hres;have bH:=hid hfin;clear hres hfin hfm hkm gu su tu;have HBD:Hid (Calls Tryz.prog 70 #[.pointer (some ⟨pb,0,none⟩),bI h o1 l1 c1 (some ⟨b9,aK,none⟩) l2 c2,.slice eo en ec] W2 (Oa X1 most pb W2 fm km)):=by
   have k:=Uh h ps IH.out HK.out W2 R X1 most pb { mk with next:=mk.next+1 } o1 l1 c1 (some ⟨b9,aK,none⟩) l2 c2 eo en ec e E (fO HS2.out HR.out HM.out HL2.out) HR.out EO.out wR.out (Ep.out.later HL2.out) vX hz (HE.out.later HL2.out (Nat.le_succ _)) Di.out qV.out Ap.out (by rw [tV.out];exact HFN.out);rw [tV.out,ZM.out] at k;exact k
  unfold bI at HBD;go_wp2_with fail;refine HBD.out.mono ?_;rintro x w3 ⟨bs,ls,rfl,hme,nR,hl3⟩;have AY:=hid nR;have tY:=hid hl3;have HME:=hid hme;have hpb:=nR.lt;clear nR hl3 hme a0 a1 a2 a3 a4 a5 a6 a7 a8 b0 b1 b2 q3;have bK:Hid (∀ W,Later pb w3 W->(qP W B h o1 l1 c1 (some ⟨b9,aK,none⟩) l2 c2)/\(xw W C (.int .i64 1) (.int .i64 mk.next) (.slice oo 0 cc))/\(EC W b9 (aK+9) u lq lu d1u lC lD lF)):=fun W' hl=>by
   have hl':=tY.out.trans hl;obtain ⟨k0,k1,k2,_⟩:=ay (H7.out.later hl').1;exact ⟨aA (UL.out.later hl').1,⟨k0,k1,k2⟩,fA cu ig HM.out (HL2.out.trans hl')⟩
  have XG:Hid (∀ W,Later pb w3 W->dV X1 most pb W fm.2->Calls Tryz.prog 68 #[.slice eo en ec,.string h.nm,.func bs #[] ls] W (WtQ most pb fm.2.next W (en+1) ((h.nm,.func bs #[] ls)::e) ((h.nm,km)::E))):=fun W hl hm=>by
   have hl':=HL2.out.trans (tY.out.trans hl);exact uT h.nm hm (Ep.out.later hl') (HE.out.later hl' Xm.out) vX (by omega) (HME.out.later hl (Nat.le_refl _)) ZV.out
  have nY:Hid (∀ W o c,Later pb w3 W->dV X1 most pb W fm.2->en+1<=c->Ij most pb fm.2.next W o (en+1) ((h.nm,.func bs #[] ls)::e) ((h.nm,km)::E)->Calls Tryz.prog 42 #[.pointer (some ⟨pb,0,none⟩),bI u lq lu d1u lC lD lF,.slice o (en+1) c] W (Iz X1 most pb W res)):=fun W o c hl hm hc hpk=>by
   have hl':=HL2.out.trans (tY.out.trans hl);have k:=IH.out 1 u qu Ku.out W R X1 most pb fm.2 lq lu d1u lC lD lF o (en+1) c _ _ (jI Aw.out HR.out HM.out hl') (fO Az.out HR.out HM.out hl') HR.out hm wR.out hpk.1 hc (by have:=XE.out;omega) hpk.2 Ob.out.1 Ob.out.2 XF.out (by rw [lT.out];exact sN.out);rw [lT.out] at k;exact k
  have xG:Hid (∀ (W:World) (n9:Nat) (o9:Option Addr) (c9:Nat),res.1=tv n9->dV X1 most pb W res.2->Calls Tryz.prog 66 #[.pointer (some ⟨pb,0,none⟩),.agg #[.int .i64 1,.int .i64 mk.next,.slice oo 0 cc],.agg #[.int .i64 1,.int .i64 n9,.slice o9 0 c9],.agg #[.int .i64 h.fr,.int .i64 h.en]] W (IB X1 most pb W fin)):=fun W n9 o9 c9 hr hmw=>by
   have k:=dO (o1:=oo) (l1:=0) (c1:=cc) (o2:=o9) (l2:=0) (c2:=c9) hmw wR.out (tv mk.next) (tv n9) h.fr h.en (aB.nil _ _ _) (aB.nil _ _ _) (Nat.le_of_ble_eq_true rfl) (Nat.le_of_ble_eq_true rfl);rw [<-hr,bH.out] at k;rw [hr] at k;exact k
  have hmk:=AY.out;have hlc:=Later.refl hpb;obtain ⟨⟨a0,a1,a2,a3,a4,a5,a6,a7,a8⟩,⟨b0,b1,b2⟩,⟨v0,v1,v2,v3,v4,v5,v6,v7,v8⟩⟩:=bK.out w3 (Later.refl hpb);unfold bI at nY;clear cu ig ru;go_upto_region 17 with fail
  go_region_held3 (fun W=>(W.cell? ⟨B,0,none⟩=some (.int .i64 h.k)/\W.cell? ⟨B,1,none⟩=some (.string h.nm)/\W.cell? ⟨B,2,none⟩=some (.int .i64 h.n)/\W.cell? ⟨B,3,none⟩=some (.int .i64 h.tk)/\W.cell? ⟨B,4,none⟩=some (.int .i64 h.tn)/\W.cell? ⟨B,5,none⟩=some (.slice o1 l1 c1)/\W.cell? ⟨B,6,none⟩=some (.slice (some ⟨b9,aK,none⟩) l2 c2)/\W.cell? ⟨B,7,none⟩=some (.int .i64 h.fr)/\W.cell? ⟨B,8,none⟩=some (.int .i64 h.en))/\(W.cell? ⟨C,0,none⟩=some (.int .i64 1)/\W.cell? ⟨C,1,none⟩=some (.int .i64 mk.next)/\W.cell? ⟨C,2,none⟩=some (.slice oo 0 cc))/\(W.cell? ⟨b9,aK+9,none⟩=some (.int .i64 u.k)/\W.cell? ⟨b9,aK+9+1,none⟩=some (.string u.nm)/\W.cell? ⟨b9,aK+9+2,none⟩=some (.int .i64 u.n)/\W.cell? ⟨b9,aK+9+3,none⟩=some (.int .i64 u.tk)/\W.cell? ⟨b9,aK+9+4,none⟩=some (.int .i64 u.tn)/\W.cell? ⟨b9,aK+9+5,none⟩=some (.slice lq lu d1u)/\W.cell? ⟨b9,aK+9+6,none⟩=some (.slice lC lD lF)/\W.cell? ⟨b9,aK+9+7,none⟩=some (.int .i64 u.fr)/\W.cell? ⟨b9,aK+9+8,none⟩=some (.int .i64 u.en)))
   (((refine bK.out _ ?_);(repeat with_reducible first | exact hlc | exact Later.refl hpb | refine jm hpb ?_ | refine jo hpb ?_)))
   (first
    | (go_at_call 68;(with_reducible refine Calls.mono (XG.out _ ?hq ?hm) ?_);(case hq=>(repeat with_reducible first | exact hlc | exact Later.refl hpb | refine jm hpb ?_ | refine jo hpb ?_));(case hm=>(repeat with_reducible first | exact hmk | refine ja ?_ | refine jb ?_));rintro e wx ⟨wo,wc,rfl,hwc,hpk,gB⟩;(refine lS (pb:=pb) (X:=X1) (most:=most) (k:=fm.2) (w0:=w3) ?hl2 ?hm2 gB ?_);(case hl2=>(repeat with_reducible first | exact hlc | exact Later.refl hpb | refine jm hpb ?_ | refine jo hpb ?_));(case hm2=>(repeat with_reducible first | exact hmk | refine ja ?_ | refine jb ?_));intro hlc hmk)
    | ((go_at_call 42;(with_reducible refine Calls.mono (nY.out _ _ _ ?hq ?hm hwc ?hpz) ?_));(case hq=>(repeat with_reducible first | exact hlc | exact Later.refl hpb | refine jm hpb ?_ | refine jo hpb ?_));(case hm=>(repeat with_reducible first | exact hmk | refine ja ?_ | refine jb ?_));(case hpz=>(repeat (first | with_reducible exact hpk | ((with_reducible refine Ij.st (X:=X1) (k:=fm.2) ?UM (ah.alloc _ _) ?_);(case UM=>(repeat with_reducible first | exact hmk | refine ja ?_ | refine jb ?_))) | ((with_reducible refine Ij.st (X:=X1) (k:=fm.2) ?UM (ah.drew _) ?_);(case UM=>(repeat with_reducible first | exact hmk | refine ja ?_ | refine jb ?_))) | fail)));rintro e wx ⟨n9,o9,c9,qK,rfl,hmk,hlx⟩;unfold dZ;(refine jc (pb:=pb) (w0:=w3) ?hl2 hlx ?_);(case hl2=>(repeat with_reducible first | exact hlc | exact Later.refl hpb | refine jm hpb ?_ | refine jo hpb ?_));intro hlc)
    | ((go_at_call 66;(with_reducible refine Calls.mono (xG.out _ n9 _ _ qK ?hm) ?_));(case hm=>(repeat with_reducible first | exact hmk | refine ja ?_ | refine jb ?_));rintro e wx ⟨rfl,hmk,hlx⟩;(refine jc (pb:=pb) (w0:=w3) ?hl2 hlx ?_);(case hl2=>(repeat with_reducible first | exact hlc | exact Later.refl hpb | refine jm hpb ?_ | refine jo hpb ?_));intro hlc)
    | fail)
  all_goals
   have Qj:=hid hmk;have Ik:=hid (tY.out.trans hlc);clear hmk hlc;obtain ⟨g0,g1,g2,_,_,_⟩:=ay (H7.out.later Ik.out).1;have hb6:=(Rj.out.later Ik.out).1;have vT:=hid hb6;obtain ⟨d0,d1,d2,y0,y1,y2⟩:=ay hb6;clear hb6;go_wp2_with fail;clear d0 d1 d2 y0 y1 y2;have hf:=bg wx (B+1) (.int .i64 1) (.int .i64 mk.next) (.slice oo 0 cc);obtain ⟨f0,f1,f2⟩:=aW (a:=.int .i64 1) (b:=.int .i64 mk.next) (c:=.slice oo 0 cc) vT.out;change bodyPost _ _ _ _ _ (bC wx (B+1) (.int .i64 1) (.int .i64 mk.next) (.slice oo 0 cc));generalize bC wx (B+1) (.int .i64 1) (.int .i64 mk.next) (.slice oo 0 cc)=wf at *;refine bodyPost_ret (by simp [results,Tryz.results42,go_sem,f0,f1,f2];rfl) rfl ?_;have hp:pb < W.heap.size:=by rw [dW];exact HP.out
   refine ⟨mk.next,oo,cc,by rw [aQ.out],rfl,?_,(HL2.out.trans Ik.out).put hf hp (fun i hi=>by omega)⟩;rw [aQ.out];exact (Qj.out.put (hf.mono (fun i _ e=>by rw [jO.out];exact Or.inr (by omega)))).less (fun i hi=>by rw [jO.out];exact Or.inl hi)
 ·have t2:(h.k == 2)=false:=by rw [hk];rfl
  have t3:(h.k == 3)=false:=by rw [hk];rfl
  have t1:(h.k == 1)=false:=by rw [hk];rfl
  have t4:(h.k == 4)=false:=by rw [hk];rfl
  have t6:(h.k == 6)=false:=by rw [hk];rfl
  have t7:(h.k == 7)=true:=by rw [hk];rfl
  have HK:=hid hk;clear hk;have ada:=hid Di.out;have adb:=hid Ap.out;have hl2:2<=l2:=by rw [HS2.out.1];exact Di.out.2.2.2.2.1 HK.out
  have hi1:(1:Int) < l2:=by omega
  have hj1:1 < l2:=by omega
  obtain ⟨b9,aK,u,qu,lq,lu,d1u,lC,lD,lF,e9,_,gu,ru,cu,su,tu⟩:=HS2.out.nth (i:=1) (by omega);subst e9;have ig:=HR.out b9 ru;have Ku:=hid gu;have Aw:=hid su;have Az:=hid tu;have XE:=hid (To.dK ps 1 u qu gu);have Ob:=hid (gJ ps 1 u qu qV.out gu);have XF:Hid (Sc.bP (h.nm::names e) u qu=[]):=by
   show _=_
   have k:=oK Ap.out (by rw [HK.out];decide) gu
   rwa [rM _ _ (by rw [HK.out];rfl)] at k
  obtain ⟨fm,hfm⟩:∃ fm,firstM most h (bT most ps) E { mk with next:=mk.next+1 }=fm:=⟨_,rfl⟩;obtain ⟨km,hkm⟩:∃ km,ug most h (bT most ps) E { mk with next:=mk.next+1 }=km:=⟨_,rfl⟩;obtain ⟨res,hres⟩:∃ res,dF most u qu ((h.nm,km)::E) fm.2=res:=⟨_,rfl⟩;obtain ⟨fin,hfin⟩:∃ fin,(dw most (tv mk.next) res.1 h.fr h.en res.2).2=fin:=⟨_,rfl⟩;have aQ:Hid (dF most h ps E mk=(tv mk.next,fin)):=by show _=_;rw [tC.out,JB (by rw [HK.out];decide),yw Ku.out,hkm,hfm,hres,hfin]
  have ZV:Hid (NM km):=by show NM km;rw [<-hkm];exact zo _ _ _ _ _
  have sN:Hid (res.2.next<=Aa):=by
   show _<=_
   have k:=zX.out;rw [aQ.out,<-hfin] at k;simpa only [rO] using k
  have HFN:Hid (fm.2.next<=Aa):=by
   show _<=_
   have k:=(lQ most u qu ((h.nm,km)::E) (HE.out.ne.cons ZV.out) fm.2).1;rw [hres] at k;exact Nat.le_trans k sN.out
  have Xm:Hid (mk.next<=fm.2.next):=by
   show _<=_
   have k:=(FH most h ps HE.out.ne { mk with next:=mk.next+1 }).1;rw [hfm] at k;exact Nat.le_trans (Nat.le_succ _) k
  have tV:=hid hfm;have ZM:=hid hkm;have lT:=hid hres;have bH:=hid hfin;clear hres hfin hfm hkm gu su tu;have HBD:Hid (Calls Tryz.prog 70 #[.pointer (some ⟨pb,0,none⟩),bI h o1 l1 c1 (some ⟨b9,aK,none⟩) l2 c2,.slice eo en ec] W2 (Oa X1 most pb W2 fm km)):=by
   have k:=Um h ps IH.out HK.out W2 R X1 most pb { mk with next:=mk.next+1 } o1 l1 c1 (some ⟨b9,aK,none⟩) l2 c2 eo en ec e E (fO HS2.out HR.out HM.out HL2.out) HR.out EO.out wR.out (Ep.out.later HL2.out) vX hz (HE.out.later HL2.out (Nat.le_succ _)) Di.out qV.out Ap.out (by rw [tV.out];exact HFN.out);rw [tV.out,ZM.out] at k;exact k
  unfold bI at HBD;go_wp2_with fail;refine HBD.out.mono ?_;rintro x w3 ⟨bs,ls,rfl,hme,nR,hl3⟩;have AY:=hid nR;have tY:=hid hl3;have HME:=hid hme;have hpb:=nR.lt;clear nR hl3 hme a0 a1 a2 a3 a4 a5 a6 a7 a8 b0 b1 b2 q3;have bK:Hid (∀ W,Later pb w3 W->(qP W B h o1 l1 c1 (some ⟨b9,aK,none⟩) l2 c2)/\(xw W C (.int .i64 1) (.int .i64 mk.next) (.slice oo 0 cc))/\(EC W b9 (aK+9) u lq lu d1u lC lD lF)):=fun W' hl=>by
   have hl':=tY.out.trans hl;obtain ⟨k0,k1,k2,_⟩:=ay (H7.out.later hl').1;exact ⟨aA (UL.out.later hl').1,⟨k0,k1,k2⟩,fA cu ig HM.out (HL2.out.trans hl')⟩
  have XG:Hid (∀ W,Later pb w3 W->dV X1 most pb W fm.2->Calls Tryz.prog 68 #[.slice eo en ec,.string h.nm,.func bs #[] ls] W (WtQ most pb fm.2.next W (en+1) ((h.nm,.func bs #[] ls)::e) ((h.nm,km)::E))):=fun W hl hm=>by
   have hl':=HL2.out.trans (tY.out.trans hl);exact uT h.nm hm (Ep.out.later hl') (HE.out.later hl' Xm.out) vX (by omega) (HME.out.later hl (Nat.le_refl _)) ZV.out
  have nY:Hid (∀ W o c,Later pb w3 W->dV X1 most pb W fm.2->en+1<=c->Ij most pb fm.2.next W o (en+1) ((h.nm,.func bs #[] ls)::e) ((h.nm,km)::E)->Calls Tryz.prog 42 #[.pointer (some ⟨pb,0,none⟩),bI u lq lu d1u lC lD lF,.slice o (en+1) c] W (Iz X1 most pb W res)):=fun W o c hl hm hc hpk=>by
   have hl':=HL2.out.trans (tY.out.trans hl);have k:=IH.out 1 u qu Ku.out W R X1 most pb fm.2 lq lu d1u lC lD lF o (en+1) c _ _ (jI Aw.out HR.out HM.out hl') (fO Az.out HR.out HM.out hl') HR.out hm wR.out hpk.1 hc (by have:=XE.out;omega) hpk.2 Ob.out.1 Ob.out.2 XF.out (by rw [lT.out];exact sN.out);rw [lT.out] at k;exact k
  have xG:Hid (∀ (W:World) (n9:Nat) (o9:Option Addr) (c9:Nat),res.1=tv n9->dV X1 most pb W res.2->Calls Tryz.prog 66 #[.pointer (some ⟨pb,0,none⟩),.agg #[.int .i64 1,.int .i64 mk.next,.slice oo 0 cc],.agg #[.int .i64 1,.int .i64 n9,.slice o9 0 c9],.agg #[.int .i64 h.fr,.int .i64 h.en]] W (IB X1 most pb W fin)):=fun W n9 o9 c9 hr hmw=>by
   have k:=dO (o1:=oo) (l1:=0) (c1:=cc) (o2:=o9) (l2:=0) (c2:=c9) hmw wR.out (tv mk.next) (tv n9) h.fr h.en (aB.nil _ _ _) (aB.nil _ _ _) (Nat.le_of_ble_eq_true rfl) (Nat.le_of_ble_eq_true rfl);rw [<-hr,bH.out] at k;rw [hr] at k;exact k
  have hmk:=AY.out;have hlc:=Later.refl hpb;obtain ⟨⟨a0,a1,a2,a3,a4,a5,a6,a7,a8⟩,⟨b0,b1,b2⟩,⟨v0,v1,v2,v3,v4,v5,v6,v7,v8⟩⟩:=bK.out w3 (Later.refl hpb);unfold bI at nY;clear cu ig ru;go_upto_region 17 with fail
  go_region_held3 (fun W=>(W.cell? ⟨B,0,none⟩=some (.int .i64 h.k)/\W.cell? ⟨B,1,none⟩=some (.string h.nm)/\W.cell? ⟨B,2,none⟩=some (.int .i64 h.n)/\W.cell? ⟨B,3,none⟩=some (.int .i64 h.tk)/\W.cell? ⟨B,4,none⟩=some (.int .i64 h.tn)/\W.cell? ⟨B,5,none⟩=some (.slice o1 l1 c1)/\W.cell? ⟨B,6,none⟩=some (.slice (some ⟨b9,aK,none⟩) l2 c2)/\W.cell? ⟨B,7,none⟩=some (.int .i64 h.fr)/\W.cell? ⟨B,8,none⟩=some (.int .i64 h.en))/\(W.cell? ⟨C,0,none⟩=some (.int .i64 1)/\W.cell? ⟨C,1,none⟩=some (.int .i64 mk.next)/\W.cell? ⟨C,2,none⟩=some (.slice oo 0 cc))/\(W.cell? ⟨b9,aK+9,none⟩=some (.int .i64 u.k)/\W.cell? ⟨b9,aK+9+1,none⟩=some (.string u.nm)/\W.cell? ⟨b9,aK+9+2,none⟩=some (.int .i64 u.n)/\W.cell? ⟨b9,aK+9+3,none⟩=some (.int .i64 u.tk)/\W.cell? ⟨b9,aK+9+4,none⟩=some (.int .i64 u.tn)/\W.cell? ⟨b9,aK+9+5,none⟩=some (.slice lq lu d1u)/\W.cell? ⟨b9,aK+9+6,none⟩=some (.slice lC lD lF)/\W.cell? ⟨b9,aK+9+7,none⟩=some (.int .i64 u.fr)/\W.cell? ⟨b9,aK+9+8,none⟩=some (.int .i64 u.en)))
   (((refine bK.out _ ?_);(repeat with_reducible first | exact hlc | exact Later.refl hpb | refine jm hpb ?_ | refine jo hpb ?_)))
   (first
    | (go_at_call 68;(with_reducible refine Calls.mono (XG.out _ ?hq ?hm) ?_);(case hq=>(repeat with_reducible first | exact hlc | exact Later.refl hpb | refine jm hpb ?_ | refine jo hpb ?_));(case hm=>(repeat with_reducible first | exact hmk | refine ja ?_ | refine jb ?_));rintro e wx ⟨wo,wc,rfl,hwc,hpk,gB⟩;(refine lS (pb:=pb) (X:=X1) (most:=most) (k:=fm.2) (w0:=w3) ?hl2 ?hm2 gB ?_);(case hl2=>(repeat with_reducible first | exact hlc | exact Later.refl hpb | refine jm hpb ?_ | refine jo hpb ?_));(case hm2=>(repeat with_reducible first | exact hmk | refine ja ?_ | refine jb ?_));intro hlc hmk)
    | ((go_at_call 42;(with_reducible refine Calls.mono (nY.out _ _ _ ?hq ?hm hwc ?hpz) ?_));(case hq=>(repeat with_reducible first | exact hlc | exact Later.refl hpb | refine jm hpb ?_ | refine jo hpb ?_));(case hm=>(repeat with_reducible first | exact hmk | refine ja ?_ | refine jb ?_));(case hpz=>(repeat (first | with_reducible exact hpk | ((with_reducible refine Ij.st (X:=X1) (k:=fm.2) ?UM (ah.alloc _ _) ?_);(case UM=>(repeat with_reducible first | exact hmk | refine ja ?_ | refine jb ?_))) | ((with_reducible refine Ij.st (X:=X1) (k:=fm.2) ?UM (ah.drew _) ?_);(case UM=>(repeat with_reducible first | exact hmk | refine ja ?_ | refine jb ?_))) | fail)));rintro e wx ⟨n9,o9,c9,qK,rfl,hmk,hlx⟩;unfold dZ;(refine jc (pb:=pb) (w0:=w3) ?hl2 hlx ?_);(case hl2=>(repeat with_reducible first | exact hlc | exact Later.refl hpb | refine jm hpb ?_ | refine jo hpb ?_));intro hlc)
    | ((go_at_call 66;(with_reducible refine Calls.mono (xG.out _ n9 _ _ qK ?hm) ?_));(case hm=>(repeat with_reducible first | exact hmk | refine ja ?_ | refine jb ?_));rintro e wx ⟨rfl,hmk,hlx⟩;(refine jc (pb:=pb) (w0:=w3) ?hl2 hlx ?_);(case hl2=>(repeat with_reducible first | exact hlc | exact Later.refl hpb | refine jm hpb ?_ | refine jo hpb ?_));intro hlc)
    | fail)
  all_goals
   have Qj:=hid hmk;have Ik:=hid (tY.out.trans hlc);clear hmk hlc;obtain ⟨g0,g1,g2,_,_,_⟩:=ay (H7.out.later Ik.out).1;have hb6:=(Rj.out.later Ik.out).1;have vT:=hid hb6;obtain ⟨d0,d1,d2,y0,y1,y2⟩:=ay hb6;clear hb6;go_wp2_with fail;clear d0 d1 d2 y0 y1 y2;have hf:=bg wx (B+1) (.int .i64 1) (.int .i64 mk.next) (.slice oo 0 cc);obtain ⟨f0,f1,f2⟩:=aW (a:=.int .i64 1) (b:=.int .i64 mk.next) (c:=.slice oo 0 cc) vT.out;change bodyPost _ _ _ _ _ (bC wx (B+1) (.int .i64 1) (.int .i64 mk.next) (.slice oo 0 cc));generalize bC wx (B+1) (.int .i64 1) (.int .i64 mk.next) (.slice oo 0 cc)=wf at *;refine bodyPost_ret (by simp [results,Tryz.results42,go_sem,f0,f1,f2];rfl) rfl ?_;have hp:pb < W.heap.size:=by rw [dW];exact HP.out
   refine ⟨mk.next,oo,cc,by rw [aQ.out],rfl,?_,(HL2.out.trans Ik.out).put hf hp (fun i hi=>by omega)⟩;rw [aQ.out];exact (Qj.out.put (hf.mono (fun i _ e=>by rw [jO.out];exact Or.inr (by omega)))).less (fun i hi=>by rw [jO.out];exact Or.inl hi)
 ·have t2:(h.k == 2)=false:=by rw [hk];rfl
  have t3:(h.k == 3)=false:=by rw [hk];rfl
  have t1:(h.k == 1)=false:=by rw [hk];rfl
  have t4:(h.k == 4)=false:=by rw [hk];rfl
  have t6:(h.k == 6)=false:=by rw [hk];rfl
  have t7:(h.k == 7)=false:=by rw [hk];rfl
  have t5:(h.k == 5)=false:=by rw [hk];rfl
  have t8:(h.k == 8)=true:=by rw [hk];rfl
  have HK:=hid hk;clear hk;have V9:Hid (∀ j g qs,ps.get j=some (g,qs)->Sc.bP (names e) g qs=[]):=fun j g qs hg=>by
   have k:=oK Ap.out (by rw [HK.out];decide) hg
   rwa [pO _ _ (by rw [HK.out];exact uU (by decide) (by decide) (by decide) j)] at k
  obtain ⟨res,hres⟩:∃ res,jE E (bT most ps) { mk with next:=mk.next+1 }=res:=⟨_,rfl⟩;obtain ⟨fin,hfin⟩:∃ fin,(dw most (tv mk.next) (qQ res.1 2) (aH ps 2).1 (aH ps 2).2 (dw most (tv mk.next) (qQ res.1 1) (aH ps 1).1 (aH ps 1).2 (dw most (qQ res.1 0) (3,0,.nil) (aH ps 0).1 (aH ps 0).2 res.2).2).2).2=fin:=⟨_,rfl⟩;have aQ:Hid (dF most h ps E mk=(tv mk.next,fin)):=by show _=_;rw [tC.out,XB HK.out,hres,hfin]
  have Ei:Hid (res.1.length=l2):=by show _=_;rw [<-hres,lg,jS,HS2.out.1]
  have sN:Hid (res.2.next<=Aa):=by
   show _<=_
   have k:=zX.out;rw [aQ.out] at k;rw [<-hfin] at k;simpa only [rO] using k
  have lT:=hid hres;have bH:=hid hfin;have hl2:3<=l2:=by rw [HS2.out.1];exact Di.out.2.2.2.2.2.1 HK.out
  have hi0:(0:Int) < l2:=by omega
  have hj0:0 < l2:=by omega
  have hj1:2<=l2->1 < l2:=by omega
  have hj2:3<=l2->2 < l2:=by omega
  have hi1:2<=l2->(1:Int) < l2:=by omega
  have hi2:3<=l2->(2:Int) < l2:=by omega
  have hlz:l2<=100000:=by have:=To.length_le ps;have:=HS2.out.1;omega
  clear hres hfin;have Ea:Hid (∀ W,Later pb W2 W->dV X1 most pb W { mk with next:=mk.next+1 }->Calls Tryz.prog 71 #[.pointer (some ⟨pb,0,none⟩),bI h o1 l1 c1 o2 l2 c2,.slice eo en ec] W (PtQ X1 most pb W res)):=fun W' hl hmw=>by
   have hl':=HL2.out.trans hl;have k:=uS h ps IH.out W' R X1 most pb { mk with next:=mk.next+1 } o1 l1 c1 o2 l2 c2 eo en ec e E (fO HS2.out HR.out HM.out hl') HR.out hmw wR.out (Ep.out.later hl') vX hz (HE.out.later hl' (Nat.le_succ _)) qV.out V9.out (by rw [lT.out];exact sN.out);rw [lT.out] at k;exact k
  unfold bI at Ea;obtain ⟨b9,aK,u,qu,lq,lu,d1u,lC,lD,lF,e9,_,gu,ru,cu,_,tu⟩:=HS2.out.nth (i:=0) (by omega);subst e9;have ig:=HR.out b9 ru;have hsp:aH ps 0=(u.fr,u.en):=by unfold aH;rw [gu]
  obtain ⟨b9',JG,u1,qu1,adT,adU,adV,adW,adX,adY,e9,_,gu1,_,cu1,_,_⟩:=HS2.out.nth (i:=1) (by omega);obtain ⟨rfl,rfl⟩:b9=b9'/\aK=JG:=by cases e9;exact ⟨rfl,rfl⟩
  obtain ⟨b9',JG,u2,qu2,adZ,ad1,ad2,ad3,ad4,ad5,e9',_,gu2,_,cu2,_,_⟩:=HS2.out.nth (i:=2) (by omega);obtain ⟨rfl,rfl⟩:b9=b9'/\aK=JG:=by cases e9';exact ⟨rfl,rfl⟩
  have hsp1:aH ps 1=(u1.fr,u1.en):=by unfold aH;rw [gu1]
  have hsp2:aH ps 2=(u2.fr,u2.en):=by unfold aH;rw [gu2]
  go_wp2_with fail;refine (Ea.out _ (Later.refl HP2.out) EO.out).mono ?_;rintro x w3 ⟨o,c,rfl,hcl,hpt,nR,hl3⟩;clear a0 a1 a2 a3 a4 a5 a6 a7 a8 b0 b1 b2 q3;obtain ⟨gp,n0,wS,n0c,rfl,Il,Dj,n01,n02⟩:=hpt.get (i:=0) (by rw [Ei.out];omega);obtain ⟨ZU,n1,Qq,n1c,e1,UN,n10,n11,n12⟩:=hpt.get (i:=1) (by rw [Ei.out];omega);obtain rfl:gp=ZU:=by cases e1;rfl
  obtain ⟨gp2,n2,ZW,ZX,e2,n2t,n20,n21,n22⟩:=hpt.get (i:=2) (by rw [Ei.out];omega);obtain rfl:gp=gp2:=by cases e2;rfl
  have hgt:=hpt.tf rfl (by rw [Ei.out];omega);rw [Ei.out];have AY:=hid nR;have tY:=hid hl3;obtain ⟨Ky,lH⟩:∃ Ky,(dw most (tv n0) (3,0,.nil) u.fr u.en res.2).2=Ky:=⟨_,rfl⟩;obtain ⟨mkb,ZY⟩:∃ mkb,(dw most (tv mk.next) (tv n1) u1.fr u1.en Ky).2=mkb:=⟨_,rfl⟩;have UO:Hid ((dw most (tv mk.next) (tv n2) u2.fr u2.en mkb).2=fin):=by show _=_;rw [<-ZY,<-lH,<-bH.out,hsp,hsp1,hsp2,Il,UN,n2t]
  have HA:=hid lH;have HB:=hid ZY;have bK:Hid (∀ W,Later pb w3 W->(qP W B h o1 l1 c1 (some ⟨b9,aK,none⟩) l2 c2)/\(xw W C (.int .i64 1) (.int .i64 mk.next) (.slice oo 0 cc))/\(xw W gp (.int .i64 1) (.int .i64 n0) (.slice wS 0 n0c))/\(W.cell? ⟨gp,3,none⟩=some (.int .i64 1)/\W.cell? ⟨gp,4,none⟩=some (.int .i64 n1)/\W.cell? ⟨gp,5,none⟩=some (.slice Qq 0 n1c))/\(W.cell? ⟨gp,6,none⟩=some (.int .i64 1)/\W.cell? ⟨gp,7,none⟩=some (.int .i64 n2)/\W.cell? ⟨gp,8,none⟩=some (.slice ZW 0 ZX))/\(W.cell? ⟨b9,aK+7,none⟩=some (.int .i64 u.fr)/\W.cell? ⟨b9,aK+8,none⟩=some (.int .i64 u.en))/\(W.cell? ⟨b9,aK+16,none⟩=some (.int .i64 u1.fr)/\W.cell? ⟨b9,aK+17,none⟩=some (.int .i64 u1.en))/\(W.cell? ⟨b9,aK+25,none⟩=some (.int .i64 u2.fr)/\W.cell? ⟨b9,aK+26,none⟩=some (.int .i64 u2.en))):=fun W' hl=>by
   have hl':=tY.out.trans hl;obtain ⟨k0,k1,k2,_⟩:=ay (H7.out.later hl').1;obtain ⟨_,_,_,_,_,_,_,f7,f8⟩:=fA cu ig HM.out (HL2.out.trans hl');obtain ⟨_,_,_,_,_,_,_,f7',f8'⟩:=fA cu1 ig HM.out (HL2.out.trans hl');obtain ⟨_,_,_,_,_,_,_,ade,adf⟩:=fA cu2 ig HM.out (HL2.out.trans hl');exact ⟨aA (UL.out.later hl').1,⟨k0,k1,k2⟩,⟨cell_later hgt hl Dj,cell_later hgt hl n01,cell_later hgt hl n02⟩,⟨cell_later hgt hl n10,cell_later hgt hl n11,cell_later hgt hl n12⟩,⟨cell_later hgt hl n20,cell_later hgt hl n21,cell_later hgt hl n22⟩,⟨f7,f8⟩,⟨f7',f8'⟩,⟨ade,adf⟩⟩
  have XI:Hid (∀ W,dV X1 most pb W res.2->Calls Tryz.prog 66 #[.pointer (some ⟨pb,0,none⟩),.agg #[.int .i64 1,.int .i64 n0,.slice wS 0 n0c],.agg #[.int .i64 3,.int .i64 0,.slice none 0 0],.agg #[.int .i64 u.fr,.int .i64 u.en]] W (IB X1 most pb W Ky)):=fun W hmw=>by
   have k:=dO (o1:=wS) (l1:=0) (c1:=n0c) (o2:=none) (l2:=0) (c2:=0) hmw wR.out (tv n0) (3,0,.nil) u.fr u.en (aB.nil _ _ _) (aB.nil _ _ _) (Nat.le_of_ble_eq_true rfl) (Nat.le_of_ble_eq_true rfl);rw [HA.out] at k;exact k
  have Z4:Hid (∀ W,dV X1 most pb W Ky->Calls Tryz.prog 66 #[.pointer (some ⟨pb,0,none⟩),.agg #[.int .i64 1,.int .i64 mk.next,.slice oo 0 cc],.agg #[.int .i64 1,.int .i64 n1,.slice Qq 0 n1c],.agg #[.int .i64 u1.fr,.int .i64 u1.en]] W (IB X1 most pb W mkb)):=fun W hmw=>by
   have k:=dO (o1:=oo) (l1:=0) (c1:=cc) (o2:=Qq) (l2:=0) (c2:=n1c) hmw wR.out (tv mk.next) (tv n1) u1.fr u1.en (aB.nil _ _ _) (aB.nil _ _ _) (Nat.le_of_ble_eq_true rfl) (Nat.le_of_ble_eq_true rfl);rw [HB.out] at k;exact k
  have adg:Hid (∀ W,dV X1 most pb W mkb->Calls Tryz.prog 66 #[.pointer (some ⟨pb,0,none⟩),.agg #[.int .i64 1,.int .i64 mk.next,.slice oo 0 cc],.agg #[.int .i64 1,.int .i64 n2,.slice ZW 0 ZX],.agg #[.int .i64 u2.fr,.int .i64 u2.en]] W (IB X1 most pb W fin)):=fun W hmw=>by
   have k:=dO (o1:=oo) (l1:=0) (c1:=cc) (o2:=ZW) (l2:=0) (c2:=ZX) hmw wR.out (tv mk.next) (tv n2) u2.fr u2.en (aB.nil _ _ _) (aB.nil _ _ _) (Nat.le_of_ble_eq_true rfl) (Nat.le_of_ble_eq_true rfl);rw [UO.out] at k;exact k
  replace hi1:=hi1 (by omega);replace hi2:=hi2 hl2;replace hj1:=hj1 (by omega);replace hj2:=hj2 hl2;have hpb:=nR.lt;obtain ⟨⟨a0,a1,a2,a3,a4,a5,a6,a7,a8⟩,⟨b0,b1,b2⟩,⟨p0,p1,p2⟩,⟨p3,p4,p5⟩,⟨p6,p7,p8⟩,⟨f0,f1⟩,⟨f2,f3⟩,⟨f4,f5⟩⟩:=bK.out w3 (Later.refl hpb);clear hpt nR hl3 hgt Il UN n2t lH ZY hsp hsp1 hsp2 ig cu cu1 cu2 tu gu gu1 gu2 ru Dj n01 n02 n10 n11 n12 n20 n21 n22;go_upto_region 23 with fail
  refine wp_region_still_tail 10 (by kernel_rfl) (by kernel_rfl) ?_;simp only [List.take_succ_cons,List.take_zero,List.drop_succ_cons,List.drop_zero];change wpStill _ _ (World.drew w3) _ _ _
  repeat still_step
  refine wpStill_nil ?_;change wpList _ _ _ _ _ (World.drew w3);go_wp2_with fail;refine (XI.out _ (AY.out.stay (ah.drew _))).mono ?_;rintro x w4 ⟨rfl,hm4,hl4⟩;have Kw:=hid hm4;have zY:=hid ((Later.aT (ah.drew w3) hpb).trans hl4);clear hm4 hl4;clear a0 a1 a2 a3 a4 a5 a6 a7 a8 b0 b1 b2 p0 p1 p2 p3 p4 p5 p6 p7 p8 f0 f1 f2 f3 f4 f5;obtain ⟨⟨a0,a1,a2,a3,a4,a5,a6,a7,a8⟩,⟨b0,b1,b2⟩,⟨p0,p1,p2⟩,⟨p3,p4,p5⟩,⟨p6,p7,p8⟩,⟨f0,f1⟩,⟨f2,f3⟩,⟨f4,f5⟩⟩:=bK.out w4 zY.out;go_upto_region 24 with fail
  refine wp_region_still_tail 10 (by kernel_rfl) (by kernel_rfl) ?_;simp only [List.take_succ_cons,List.take_zero,List.drop_succ_cons,List.drop_zero];change wpStill _ _ (World.drew w4) _ _ _
  repeat still_step
  refine wpStill_nil ?_;change wpList _ _ _ _ _ (World.drew w4);go_wp2_with fail;refine (Z4.out _ (Kw.out.stay (ah.drew _))).mono ?_;rintro x w5 ⟨rfl,D8,hl5⟩;have Kv:=hid D8;have Wj:=hid (zY.out.trans ((Later.aT (ah.drew w4) Kw.out.lt).trans hl5));clear D8 hl5;clear a0 a1 a2 a3 a4 a5 a6 a7 a8 b0 b1 b2 p0 p1 p2 p3 p4 p5 p6 p7 p8 f0 f1 f2 f3 f4 f5;obtain ⟨⟨a0,a1,a2,a3,a4,a5,a6,a7,a8⟩,⟨b0,b1,b2⟩,⟨p0,p1,p2⟩,⟨p3,p4,p5⟩,⟨p6,p7,p8⟩,⟨f0,f1⟩,⟨f2,f3⟩,⟨f4,f5⟩⟩:=bK.out w5 Wj.out;go_upto_region 25 with fail
  refine wp_region_still_tail 10 (by kernel_rfl) (by kernel_rfl) ?_;simp only [List.take_succ_cons,List.take_zero,List.drop_succ_cons,List.drop_zero];change wpStill _ _ (World.drew w5) _ _ _
  repeat still_step
  refine wpStill_nil ?_;change wpList _ _ _ _ _ (World.drew w5);go_wp2_with fail;refine (adg.out _ (Kv.out.stay (ah.drew _))).mono ?_;rintro x w6 ⟨rfl,hm6,Yw⟩;have HM6:=hid hm6;have HL6:=hid (tY.out.trans (Wj.out.trans ((Later.aT (ah.drew w5) Kv.out.lt).trans Yw)));clear hm6 Yw a0 a1 a2 a3 a4 a5 a6 a7 a8 b0 b1 b2 p0 p1 p2 p3 p4 p5 p6 p7 p8 f0 f1 f2 f3 f4 f5;obtain ⟨g0,g1,g2,_,_,_⟩:=ay (H7.out.later HL6.out).1;have hb6:=(Rj.out.later HL6.out).1;have vT:=hid hb6;obtain ⟨d0,d1,d2,y0,y1,y2⟩:=ay hb6;clear hb6;go_wp2_with fail;clear d0 d1 d2 y0 y1 y2;have hf:=bg w6 (B+1) (.int .i64 1) (.int .i64 mk.next) (.slice oo 0 cc);obtain ⟨f0,f1,f2⟩:=aW (a:=.int .i64 1) (b:=.int .i64 mk.next) (c:=.slice oo 0 cc) vT.out;change bodyPost _ _ _ _ _ (bC w6 (B+1) (.int .i64 1) (.int .i64 mk.next) (.slice oo 0 cc));generalize bC w6 (B+1) (.int .i64 1) (.int .i64 mk.next) (.slice oo 0 cc)=wf at *;refine bodyPost_ret (by simp [results,Tryz.results42,go_sem,f0,f1,f2];rfl) rfl ?_;have hp:pb < W.heap.size:=by rw [dW];exact HP.out
  refine ⟨mk.next,oo,cc,by rw [aQ.out],rfl,?_,(HL2.out.trans HL6.out).put hf hp (fun i hi=>by omega)⟩;rw [aQ.out];exact (HM6.out.put (hf.mono (fun i _ e=>by rw [jO.out];exact Or.inr (by omega)))).less (fun i hi=>by rw [jO.out];exact Or.inl hi)
 ·have t2:(h.k == 2)=false:=by rw [hk];rfl
  have t3:(h.k == 3)=false:=by rw [hk];rfl
  have t1:(h.k == 1)=false:=by rw [hk];rfl
  have t4:(h.k == 4)=false:=by rw [hk];rfl
  have t6:(h.k == 6)=false:=by rw [hk];rfl
  have t7:(h.k == 7)=false:=by rw [hk];rfl
  have t5:(h.k == 5)=false:=by rw [hk];rfl
  have t8:(h.k == 8)=false:=by rw [hk];rfl
  have t9:(h.k == 9)=true:=by rw [hk];rfl
  have HK:=hid hk;clear hk;have V9:Hid (∀ j g qs,ps.get j=some (g,qs)->Sc.bP (names e) g qs=[]):=fun j g qs hg=>by
   have k:=oK Ap.out (by rw [HK.out];decide) hg
   rwa [pO _ _ (by rw [HK.out];exact uU (by decide) (by decide) (by decide) j)] at k
  obtain ⟨res,hres⟩:∃ res,jE E (bT most ps) { mk with next:=mk.next+1 }=res:=⟨_,rfl⟩;obtain ⟨fin,hfin⟩:∃ fin,(dw most (tv mk.next) (5,0,jF res.1) h.fr h.en res.2).2=fin:=⟨_,rfl⟩;have aQ:Hid (dF most h ps E mk=(tv mk.next,fin)):=by show _=_;rw [tC.out,Me HK.out,hres,hfin]
  have Ei:Hid (res.1.length=l2):=by show _=_;rw [<-hres,lg,jS,HS2.out.1]
  have sN:Hid (res.2.next<=Aa):=by
   show _<=_
   have k:=zX.out;rw [aQ.out] at k;rw [<-hfin] at k;simpa only [rO] using k
  have lT:=hid hres;have bH:=hid hfin;have hlz:l2<=100000:=by have:=To.length_le ps;have:=HS2.out.1;omega
  clear hres hfin;have Ea:Hid (∀ W,Later pb W2 W->dV X1 most pb W { mk with next:=mk.next+1 }->Calls Tryz.prog 71 #[.pointer (some ⟨pb,0,none⟩),bI h o1 l1 c1 o2 l2 c2,.slice eo en ec] W (PtQ X1 most pb W res)):=fun W' hl hmw=>by
   have hl':=HL2.out.trans hl;have k:=uS h ps IH.out W' R X1 most pb { mk with next:=mk.next+1 } o1 l1 c1 o2 l2 c2 eo en ec e E (fO HS2.out HR.out HM.out hl') HR.out hmw wR.out (Ep.out.later hl') vX hz (HE.out.later hl' (Nat.le_succ _)) qV.out V9.out (by rw [lT.out];exact sN.out);rw [lT.out] at k;exact k
  have HPU:Hid (∀ W,Later pb W2 W->dV X1 most pb W { mk with next:=mk.next+1 }->Calls Tryz.prog 71 #[.pointer (some ⟨pb,0,none⟩),bI h o1 l1 c1 o2 l2 c2,.slice eo en ec] W (TpQ X1 most pb W l2 res)):=fun W hl hmw=>(Ea.out W hl hmw).mono (by
   rintro x w' ⟨o,c,rfl,hcl,hpt,nR,hl3⟩;have hs:=hpt.slc;rw [Ei.out] at hs ⊢;exact ⟨o,c,rfl,hs,by rw [hpt.size,Ei.out];exact hlz,nR,hl3⟩)
  unfold bI at HPU;have xG:Hid (∀ (W:World) (o4:Option Addr) (c4:Nat),dV X1 most pb W res.2->aB (TF X1 pb W) W o4 l2 (jF res.1)->(jF res.1).size<=100000->Calls Tryz.prog 66 #[.pointer (some ⟨pb,0,none⟩),.agg #[.int .i64 1,.int .i64 mk.next,.slice oo 0 cc],.agg #[.int .i64 5,.int .i64 0,.slice o4 l2 c4],.agg #[.int .i64 h.fr,.int .i64 h.en]] W (IB X1 most pb W fin)):=fun W o4 c4 hmw hs hz5=>by
   have k:=dO (o1:=oo) (l1:=0) (c1:=cc) (c2:=c4) hmw wR.out (tv mk.next) (5,0,jF res.1) h.fr h.en (aB.nil _ _ _) hs (Nat.le_of_ble_eq_true rfl) hz5;rw [bH.out] at k;exact k
  have bK:Hid (∀ W,Later pb W2 W->(qP W B h o1 l1 c1 o2 l2 c2)/\(xw W C (.int .i64 1) (.int .i64 mk.next) (.slice oo 0 cc))):=fun W hl=>by
   obtain ⟨k0,k1,k2,_⟩:=ay (H7.out.later hl).1;exact ⟨aA (UL.out.later hl).1,⟨k0,k1,k2⟩⟩
  have hpb:=HP2.out;have hmk:=EO.out;have hlc:=Later.refl hpb;go_upto_region 27 with fail
  go_region_held3 (fun W=>(W.cell? ⟨B,0,none⟩=some (.int .i64 h.k)/\W.cell? ⟨B,1,none⟩=some (.string h.nm)/\W.cell? ⟨B,2,none⟩=some (.int .i64 h.n)/\W.cell? ⟨B,3,none⟩=some (.int .i64 h.tk)/\W.cell? ⟨B,4,none⟩=some (.int .i64 h.tn)/\W.cell? ⟨B,5,none⟩=some (.slice o1 l1 c1)/\W.cell? ⟨B,6,none⟩=some (.slice o2 l2 c2)/\W.cell? ⟨B,7,none⟩=some (.int .i64 h.fr)/\W.cell? ⟨B,8,none⟩=some (.int .i64 h.en))/\(W.cell? ⟨C,0,none⟩=some (.int .i64 1)/\W.cell? ⟨C,1,none⟩=some (.int .i64 mk.next)/\W.cell? ⟨C,2,none⟩=some (.slice oo 0 cc)))
   (((refine bK.out _ ?_);(repeat with_reducible first | exact hlc | exact Later.refl hpb | refine jm hpb ?_ | refine jo hpb ?_)))
   (first
    | ((go_at_call 71;(with_reducible refine Calls.mono (HPU.out _ ?hq ?hm) ?_));(case hq=>(repeat with_reducible first | exact hlc | exact Later.refl hpb | refine jm hpb ?_ | refine jo hpb ?_));(case hm=>(repeat with_reducible first | exact hmk | refine ja ?_ | refine jb ?_));rintro e wx ⟨o4,c4,rfl,hs4,KH,hmk,hlx⟩;(refine jc (pb:=pb) (w0:=W2) ?hl2 hlx ?_);(case hl2=>(repeat with_reducible first | exact hlc | exact Later.refl hpb | refine jm hpb ?_ | refine jo hpb ?_));intro hlc)
    | ((go_at_call 66;(with_reducible refine Calls.mono (xG.out _ _ _ ?hm ?hs1 KH) ?_));(case hm=>(repeat with_reducible first | exact hmk | refine ja ?_ | refine jb ?_));(case hs1=>(repeat (first | with_reducible exact hs4 | ((with_reducible refine jH (pb:=pb) (X:=X1) (most:=most) (k:=res.2) ?wQ (ah.alloc _ _) ?_);(case wQ=>(repeat with_reducible first | exact hmk | refine ja ?_ | refine jb ?_))) | ((with_reducible refine jH (pb:=pb) (X:=X1) (most:=most) (k:=res.2) ?wQ (ah.drew _) ?_);(case wQ=>(repeat with_reducible first | exact hmk | refine ja ?_ | refine jb ?_))) | fail)));rintro e wx ⟨rfl,hmk,hlx⟩;(refine jc (pb:=pb) (w0:=W2) ?hl2 hlx ?_);(case hl2=>(repeat with_reducible first | exact hlc | exact Later.refl hpb | refine jm hpb ?_ | refine jo hpb ?_));intro hlc)
    | fail)
  all_goals
   have Kw:=hid hmk;have zY:=hid hlc;clear hmk hlc;obtain ⟨g0,g1,g2,_,_,_⟩:=ay (H7.out.later zY.out).1;have hb6:=(Rj.out.later zY.out).1;have vT:=hid hb6;obtain ⟨d0,d1,d2,y0,y1,y2⟩:=ay hb6;clear hb6;go_wp2_with fail;clear d0 d1 d2 y0 y1 y2;have hf:=bg wx (B+1) (.int .i64 1) (.int .i64 mk.next) (.slice oo 0 cc);obtain ⟨f0,f1,f2⟩:=aW (a:=.int .i64 1) (b:=.int .i64 mk.next) (c:=.slice oo 0 cc) vT.out;change bodyPost _ _ _ _ _ (bC wx (B+1) (.int .i64 1) (.int .i64 mk.next) (.slice oo 0 cc));generalize bC wx (B+1) (.int .i64 1) (.int .i64 mk.next) (.slice oo 0 cc)=wf at *;refine bodyPost_ret (by simp [results,Tryz.results42,go_sem,f0,f1,f2];rfl) rfl ?_;have hp:pb < W.heap.size:=by rw [dW];exact HP.out
   refine ⟨mk.next,oo,cc,by rw [aQ.out],rfl,?_,(HL2.out.trans zY.out).put hf hp (fun i hi=>by omega)⟩;rw [aQ.out];exact (Kw.out.put (hf.mono (fun i _ e=>by rw [jO.out];exact Or.inr (by omega)))).less (fun i hi=>by rw [jO.out];exact Or.inl hi)
 ·have t2:(h.k == 2)=false:=by rw [hk];rfl
  have t3:(h.k == 3)=false:=by rw [hk];rfl
  have t1:(h.k == 1)=false:=by rw [hk];rfl
  have t4:(h.k == 4)=false:=by rw [hk];rfl
  have t6:(h.k == 6)=false:=by rw [hk];rfl
  have t7:(h.k == 7)=false:=by rw [hk];rfl
  have t5:(h.k == 5)=false:=by rw [hk];rfl
  have t8:(h.k == 8)=false:=by rw [hk];rfl
  have t9:(h.k == 9)=false:=by rw [hk];rfl
  have t10:(h.k == 10)=true:=by rw [hk];rfl
  have HK:=hid hk;clear hk;have V9:Hid (∀ j g qs,ps.get j=some (g,qs)->Sc.bP (names e) g qs=[]):=fun j g qs hg=>by
   have k:=oK Ap.out (by rw [HK.out];decide) hg
   rwa [pO _ _ (by rw [HK.out];exact uU (by decide) (by decide) (by decide) j)] at k
  obtain ⟨res,hres⟩:∃ res,jE E (bT most ps) { mk with next:=mk.next+1 }=res:=⟨_,rfl⟩;obtain ⟨fin,hfin⟩:∃ fin,(dw most (tv mk.next) (h.tk,h.tn,h.tp) h.fr h.en (dw most (qQ res.1 0) (h.tk,h.tn,h.tp) (aH ps 0).1 (aH ps 0).2 res.2).2).2=fin:=⟨_,rfl⟩;have aQ:Hid (dF most h ps E mk=(tv mk.next,fin)):=by show _=_;rw [tC.out,Ug HK.out,hres,hfin]
  have Ei:Hid (res.1.length=l2):=by show _=_;rw [<-hres,lg,jS,HS2.out.1]
  have sN:Hid (res.2.next<=Aa):=by
   show _<=_
   have k:=zX.out;rw [aQ.out] at k;rw [<-hfin] at k;simpa only [rO] using k
  have lT:=hid hres;have bH:=hid hfin;have hl2:1<=l2:=by rw [HS2.out.1];exact Di.out.2.2.2.2.2.2.1 HK.out
  have hi0:(0:Int) < l2:=by omega
  have hj0:0 < l2:=by omega
  have hlz:l2<=100000:=by have:=To.length_le ps;have:=HS2.out.1;omega
  clear hres hfin;have Ea:Hid (∀ W,Later pb W2 W->dV X1 most pb W { mk with next:=mk.next+1 }->Calls Tryz.prog 71 #[.pointer (some ⟨pb,0,none⟩),bI h o1 l1 c1 o2 l2 c2,.slice eo en ec] W (AnQ X1 most pb W l2 res)):=fun W' hl hmw=>by
   have hl':=HL2.out.trans hl;have k:=uS h ps IH.out W' R X1 most pb { mk with next:=mk.next+1 } o1 l1 c1 o2 l2 c2 eo en ec e E (fO HS2.out HR.out HM.out hl') HR.out hmw wR.out (Ep.out.later hl') vX hz (HE.out.later hl' (Nat.le_succ _)) qV.out V9.out (by rw [lT.out];exact sN.out);rw [lT.out] at k;refine k.mono ?_;rintro x w' ⟨o,c,rfl,hcl,hpt,nR,hl3⟩;have hgt:=hpt.get (i:=0) (by rw [Ei.out];omega);obtain ⟨gp,n0,wS,n0c,rfl,Il,Dj,n01,n02⟩:=hgt;rw [Ei.out];exact ⟨gp,c,n0,wS,n0c,rfl,Il,hpt.tf rfl (by rw [Ei.out];omega),Dj,n01,n02,nR,hl3⟩
  unfold bI at Ea;obtain ⟨b9,aK,u,qu,lq,lu,d1u,lC,lD,lF,e9,_,gu,ru,cu,_,tu⟩:=HS2.out.nth (i:=0) (by omega);subst e9;have ig:=HR.out b9 ru;have hsp:aH ps 0=(u.fr,u.en):=by unfold aH;rw [gu]
  obtain ⟨Ky,lH⟩:∃ Ky,(dw most (qQ res.1 0) (h.tk,h.tn,h.tp) u.fr u.en res.2).2=Ky:=⟨_,rfl⟩;have adh:=hid lH;have UO:Hid ((dw most (tv mk.next) (h.tk,h.tn,h.tp) h.fr h.en Ky).2=fin):=by show _=_;rw [<-lH,<-bH.out,hsp]
  have htz:h.tp.size<=100000:=Di.out.2.2.2.2.2.2.2;have Qo:Hid (∀ W,Later pb W2 W->Calls Tryz.prog 62 #[.agg #[.int .i64 h.tk,.int .i64 h.tn,.slice o1 l1 c1]] W (CoQ W h.tk h.tn l1 h.tp)):=fun W' hl=>xW h.tk h.tn h.tp W' o1 l1 c1 (jI ny.out HR.out HM.out (HL2.out.trans hl)).slc (by omega)
  have XI:Hid (∀ (W:World) (n0:Nat) (wS:Option Addr) (n0c:Nat) (o4:Option Addr) (c4:Nat),qQ res.1 0=tv n0->dV X1 most pb W res.2->aB (TF X1 pb W) W o4 l1 h.tp->Calls Tryz.prog 66 #[.pointer (some ⟨pb,0,none⟩),.agg #[.int .i64 1,.int .i64 n0,.slice wS 0 n0c],.agg #[.int .i64 h.tk,.int .i64 h.tn,.slice o4 l1 c4],.agg #[.int .i64 u.fr,.int .i64 u.en]] W (IB X1 most pb W Ky)):=fun W n0 wS n0c o4 c4 ht hmw hs=>by
   have k:=dO (o1:=wS) (l1:=0) (c1:=n0c) (c2:=c4) hmw wR.out (tv n0) (h.tk,h.tn,h.tp) u.fr u.en (aB.nil _ _ _) hs (Nat.le_of_ble_eq_true rfl) htz;rw [<-ht,adh.out] at k;rw [ht] at k;exact k
  have Z4:Hid (∀ (W:World) (o4:Option Addr) (c4:Nat),dV X1 most pb W Ky->aB (TF X1 pb W) W o4 l1 h.tp->Calls Tryz.prog 66 #[.pointer (some ⟨pb,0,none⟩),.agg #[.int .i64 1,.int .i64 mk.next,.slice oo 0 cc],.agg #[.int .i64 h.tk,.int .i64 h.tn,.slice o4 l1 c4],.agg #[.int .i64 h.fr,.int .i64 h.en]] W (IB X1 most pb W fin)):=fun W o4 c4 hmw hs=>by
   have k:=dO (o1:=oo) (l1:=0) (c1:=cc) (c2:=c4) hmw wR.out (tv mk.next) (h.tk,h.tn,h.tp) h.fr h.en (aB.nil _ _ _) hs (Nat.le_of_ble_eq_true rfl) htz;rw [UO.out] at k;exact k
  have bK:Hid (∀ W,Later pb W2 W->(qP W B h o1 l1 c1 (some ⟨b9,aK,none⟩) l2 c2)/\(xw W C (.int .i64 1) (.int .i64 mk.next) (.slice oo 0 cc))/\(W.cell? ⟨b9,aK+7,none⟩=some (.int .i64 u.fr)/\W.cell? ⟨b9,aK+8,none⟩=some (.int .i64 u.en))):=fun W' hl=>by
   obtain ⟨k0,k1,k2,_⟩:=ay (H7.out.later hl).1;obtain ⟨_,_,_,_,_,_,_,f7,f8⟩:=fA cu ig HM.out (HL2.out.trans hl);exact ⟨aA (UL.out.later hl).1,⟨k0,k1,k2⟩,f7,f8⟩
  have hpb:=HP2.out;obtain ⟨_,_,f7,f8⟩:=bK.out W2 (Later.refl hpb);have hmk:=EO.out;have hlc:=Later.refl hpb;clear lH hsp ig cu tu gu ru;go_upto_region 29 with fail
  go_cut [] (fun wx=>dV X1 most pb wx Ky/\Later pb W2 wx)
  case first =>
   refine wp_region_held_drew (S:=(fun (W:World)=>(qP W B h o1 l1 c1 (some ⟨b9,aK,none⟩) l2 c2)/\(xw W C (.int .i64 1) (.int .i64 mk.next) (.slice oo 0 cc))/\(W.cell? ⟨b9,aK+7,none⟩=some (.int .i64 u.fr)/\W.cell? ⟨b9,aK+8,none⟩=some (.int .i64 u.en)))) (by kernel_rfl) ?JD (fun hHeld=>?_)
   case JD=>exact bK.out _ (Later.aT (ah.drew W2) HP2.out)
   (try dsimp only at hHeld)
   refine Hd.tk 0 rfl ?_;go_frame;refine Hd.tk 1 rfl ?_;go_frame;refine Hd.tk 2 rfl ?_;go_frame;refine Hd.tk 3 rfl ?_;go_frame;refine Hd.tk 7 rfl ?_;go_frame;refine Hd.tk 8 rfl ?_;go_frame;refine Hd.tk 10 rfl ?_;go_frame;refine Hd.tk 11 rfl ?_;go_frame;refine Hd.tk 12 rfl ?_;go_frame;refine Hd.tk 13 rfl ?_;go_frame;refine Hd.tk 14 rfl ?_;go_frame;refine wpAnyH_ready (rs:=[4]) (by kernel_rfl) (by simp) ?_;refine Hd.cn 4 rfl (fun K hK=>?_) ?_
   ·go_simp;go_at_call 71
    (with_reducible refine Calls.mono (Ea.out _ ?abv ?abw) ?_);(case abv=>(repeat with_reducible first | exact hlc | exact Later.refl hpb | refine jm hpb ?_ | refine jo hpb ?_));(case abw=>(repeat with_reducible first | exact hmk | refine ja ?_ | refine jb ?_))
    rintro e wx ⟨gp,c3,n0,wS,n0c,rfl,Il,gtf,Dj,n01,n02,hmk,hlx⟩
    (try (replace hs4:=jk hs4 hlx))
    (refine jc (pb:=pb) (w0:=W2) ?Z5 hlx ?_);(case Z5=>(repeat with_reducible first | exact hlc | exact Later.refl hpb | refine jm hpb ?_ | refine jo hpb ?_))
    intro hlc;refine hK.out _ _ ?UA (fun hHeld=>?_)
    case UA=>exact bK.out _ hlc
    clear hK K
    (try go_frame)
    refine Hd.more (S':=(fun (W:World)=>((qP W B h o1 l1 c1 (some ⟨b9,aK,none⟩) l2 c2)/\(xw W C (.int .i64 1) (.int .i64 mk.next) (.slice oo 0 cc))/\(W.cell? ⟨b9,aK+7,none⟩=some (.int .i64 u.fr)/\W.cell? ⟨b9,aK+8,none⟩=some (.int .i64 u.en)))/\(xw W gp (.int .i64 1) (.int .i64 n0) (.slice wS 0 n0c)))) (fun _ h=>h.1) _ _ _ _ ?_;replace hHeld:(fun (W:World)=>((qP W B h o1 l1 c1 (some ⟨b9,aK,none⟩) l2 c2)/\(xw W C (.int .i64 1) (.int .i64 mk.next) (.slice oo 0 cc))/\(W.cell? ⟨b9,aK+7,none⟩=some (.int .i64 u.fr)/\W.cell? ⟨b9,aK+8,none⟩=some (.int .i64 u.en)))/\(xw W gp (.int .i64 1) (.int .i64 n0) (.slice wS 0 n0c))) _:=⟨bK.out _ hlc,Dj,n01,n02⟩
    (try dsimp only at hHeld)
    refine Hd.tk 5 rfl ?_;go_frame;refine Hd.tk 6 rfl ?_;go_frame;refine wpAnyH_ready (rs:=[9]) (by kernel_rfl) (by simp) ?_;refine Hd.cn 9 rfl (fun K hK=>?_) ?_
    ·go_simp;go_at_call 62
     (with_reducible refine Calls.mono (Qo.out _ ?abx) ?_);(case abx=>(repeat with_reducible first | exact hlc | exact Later.refl hpb | refine jm hpb ?_ | refine jo hpb ?_))
     rintro e wx ⟨o4,c4,rfl,hs4,gB⟩
     (refine qU (pb:=pb) (X:=X1) (most:=most) (k:=res.2) ?Z7 gB hs4 ?_);(case Z7=>(repeat with_reducible first | exact hmk | refine ja ?_ | refine jb ?_))
     intro hs4
     (refine XD (X:=X1) (most:=most) (pb:=pb) (k:=res.2) ?Z8 gB Dj gtf ?_);(case Z8=>(repeat with_reducible first | exact hmk | refine ja ?_ | refine jb ?_))
     intro gtf;replace Dj:=gB.at Dj;replace n01:=gB.at n01;replace n02:=gB.at n02
     (refine lS (pb:=pb) (X:=X1) (most:=most) (k:=res.2) (w0:=W2) ?Z9 ?aac gB ?_);(case aac=>(repeat with_reducible first | exact hmk | refine ja ?_ | refine jb ?_));(case Z9=>(repeat with_reducible first | exact hlc | exact Later.refl hpb | refine jm hpb ?_ | refine jo hpb ?_))
     intro hlc hmk;refine hK.out _ _ ?aby (fun hHeld=>?_)
     case aby=>exact ⟨bK.out _ hlc,Dj,n01,n02⟩
     clear hK K
     (try go_frame)
     refine wpAnyH_ready (rs:=[15]) (by kernel_rfl) (by simp) ?_;refine Hd.cn 15 rfl (fun K hK=>?_) ?_
     ·go_simp;go_at_call 66
      (with_reducible refine Calls.mono (XI.out _ _ _ _ _ _ Il ?abz ?aad) ?_);(case abz=>(repeat with_reducible first | exact hmk | refine ja ?_ | refine jb ?_));(case aad=>(repeat (first | with_reducible exact hs4 | ((with_reducible refine jH (pb:=pb) (X:=X1) (most:=most) (k:=res.2) ?wQ (ah.alloc _ _) ?_);(case wQ=>(repeat with_reducible first | exact hmk | refine ja ?_ | refine jb ?_))) | ((with_reducible refine jH (pb:=pb) (X:=X1) (most:=most) (k:=res.2) ?wQ (ah.drew _) ?_);(case wQ=>(repeat with_reducible first | exact hmk | refine ja ?_ | refine jb ?_))) | fail)))
      rintro e wx ⟨rfl,hmk,hlx⟩
      (refine jc (pb:=pb) (w0:=W2) ?aae hlx ?_);(case aae=>(repeat with_reducible first | exact hlc | exact Later.refl hpb | refine jm hpb ?_ | refine jo hpb ?_))
      intro hlc;refine hK.out _ _ ?UQ (fun hHeld=>?_)
      case UQ=>exact ⟨bK.out _ hlc,cell_later gtf hlx Dj,cell_later gtf hlx n01,cell_later gtf hlx n02⟩
      clear hK K
      (try go_frame)
      refine wpAnyH_done (by kernel_rfl) ?_ _;go_wp2_with fail;go_meet;exact ⟨hmk,hlc⟩
     ·exact AllReadyH.nil
    ·exact AllReadyH.nil
   exact AllReadyH.nil
  case rest =>
   rename World=>w3
   obtain ⟨nR,hl3⟩:=hcut;have AY:=hid nR;have tY:=hid hl3;have hpb:=nR.lt;clear nR hl3 f7 f8 a0 a1 a2 a3 a4 a5 a6 a7 a8 b0 b1 b2 q3;clear hmk hlc;have abA:Hid (∀ W,Later pb w3 W->(qP W B h o1 l1 c1 (some ⟨b9,aK,none⟩) l2 c2)/\(xw W C (.int .i64 1) (.int .i64 mk.next) (.slice oo 0 cc))):=fun W' hl=>by
    have k:=bK.out W' (tY.out.trans hl);exact ⟨k.1,k.2.1⟩
   have adi:Hid (∀ W,Later pb w3 W->Calls Tryz.prog 62 #[.agg #[.int .i64 h.tk,.int .i64 h.tn,.slice o1 l1 c1]] W (CoQ W h.tk h.tn l1 h.tp)):=fun W' hl=>Qo.out W' (tY.out.trans hl)
   obtain ⟨⟨a0,a1,a2,a3,a4,a5,a6,a7,a8⟩,⟨b0,b1,b2⟩⟩:=abA.out w3 (Later.refl hpb);have hmk:=AY.out;have hlc:=Later.refl hpb;clear bK Qo Ea XI;go_upto_region 30 with fail
   go_region_held3 (fun W=>(W.cell? ⟨B,0,none⟩=some (.int .i64 h.k)/\W.cell? ⟨B,1,none⟩=some (.string h.nm)/\W.cell? ⟨B,2,none⟩=some (.int .i64 h.n)/\W.cell? ⟨B,3,none⟩=some (.int .i64 h.tk)/\W.cell? ⟨B,4,none⟩=some (.int .i64 h.tn)/\W.cell? ⟨B,5,none⟩=some (.slice o1 l1 c1)/\W.cell? ⟨B,6,none⟩=some (.slice (some ⟨b9,aK,none⟩) l2 c2)/\W.cell? ⟨B,7,none⟩=some (.int .i64 h.fr)/\W.cell? ⟨B,8,none⟩=some (.int .i64 h.en))/\(W.cell? ⟨C,0,none⟩=some (.int .i64 1)/\W.cell? ⟨C,1,none⟩=some (.int .i64 mk.next)/\W.cell? ⟨C,2,none⟩=some (.slice oo 0 cc)))
    (((refine abA.out _ ?_);(repeat with_reducible first | exact hlc | exact Later.refl hpb | refine jm hpb ?_ | refine jo hpb ?_)))
    (first
     | (go_at_call 62;(with_reducible refine Calls.mono (adi.out _ ?hq) ?_);(case hq=>(repeat with_reducible first | exact hlc | exact Later.refl hpb | refine jm hpb ?_ | refine jo hpb ?_));rintro e wx ⟨o4,c4,rfl,hs4,gB⟩;(refine qU (pb:=pb) (X:=X1) (most:=most) (k:=Ky) ?D8 gB hs4 ?_;(case D8=>(repeat with_reducible first | exact hmk | refine ja ?_ | refine jb ?_));intro hs4);(refine lS (pb:=pb) (X:=X1) (most:=most) (k:=Ky) (w0:=w3) ?hl2 ?hm2 gB ?_);(case hl2=>(repeat with_reducible first | exact hlc | exact Later.refl hpb | refine jm hpb ?_ | refine jo hpb ?_));(case hm2=>(repeat with_reducible first | exact hmk | refine ja ?_ | refine jb ?_));intro hlc hmk)
     | ((go_at_call 66;(with_reducible refine Calls.mono (Z4.out _ _ _ ?hm ?hs1) ?_));(case hm=>(repeat with_reducible first | exact hmk | refine ja ?_ | refine jb ?_));(case hs1=>(repeat (first | with_reducible exact hs4 | ((with_reducible refine jH (pb:=pb) (X:=X1) (most:=most) (k:=Ky) ?wQ (ah.alloc _ _) ?_);(case wQ=>(repeat with_reducible first | exact hmk | refine ja ?_ | refine jb ?_))) | ((with_reducible refine jH (pb:=pb) (X:=X1) (most:=most) (k:=Ky) ?wQ (ah.drew _) ?_);(case wQ=>(repeat with_reducible first | exact hmk | refine ja ?_ | refine jb ?_))) | fail)));rintro e wx ⟨rfl,hmk,hlx⟩;(refine jc (pb:=pb) (w0:=w3) ?hl2 hlx ?_);(case hl2=>(repeat with_reducible first | exact hlc | exact Later.refl hpb | refine jm hpb ?_ | refine jo hpb ?_));intro hlc)
     | fail)
   all_goals
    have Kw:=hid hmk;have zY:=hid (tY.out.trans hlc);clear hmk hlc;obtain ⟨g0,g1,g2,_,_,_⟩:=ay (H7.out.later zY.out).1;have hb6:=(Rj.out.later zY.out).1;have vT:=hid hb6;obtain ⟨d0,d1,d2,y0,y1,y2⟩:=ay hb6;clear hb6;go_wp2_with fail;clear d0 d1 d2 y0 y1 y2;have hf:=bg wx (B+1) (.int .i64 1) (.int .i64 mk.next) (.slice oo 0 cc);obtain ⟨f0,f1,f2⟩:=aW (a:=.int .i64 1) (b:=.int .i64 mk.next) (c:=.slice oo 0 cc) vT.out;change bodyPost _ _ _ _ _ (bC wx (B+1) (.int .i64 1) (.int .i64 mk.next) (.slice oo 0 cc));generalize bC wx (B+1) (.int .i64 1) (.int .i64 mk.next) (.slice oo 0 cc)=wf at *;refine bodyPost_ret (by simp [results,Tryz.results42,go_sem,f0,f1,f2];rfl) rfl ?_;have hp:pb < W.heap.size:=by rw [dW];exact HP.out
    refine ⟨mk.next,oo,cc,by rw [aQ.out],rfl,?_,(HL2.out.trans zY.out).put hf hp (fun i hi=>by omega)⟩;rw [aQ.out];exact (Kw.out.put (hf.mono (fun i _ e=>by rw [jO.out];exact Or.inr (by omega)))).less (fun i hi=>by rw [jO.out];exact Or.inl hi)
end Em
end
end Go.Proofs.YtcninopmelmajaaGreatDoor
