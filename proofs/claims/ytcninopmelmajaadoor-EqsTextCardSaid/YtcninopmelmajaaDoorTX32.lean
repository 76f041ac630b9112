/-
  Texts laid together (EqOne): laws and walks, with their conditions.
-/
import Derived.Test.YtcninopmelmajaaDoorTX31
set_option maxHeartbeats 8000000
set_option maxRecDepth 1000000
namespace Go.Proofs.YtcninopmelmajaaDoor
open Go.Lib (hid)
section
open Go.RowKit
namespace Em
theorem U3 (h:Nd) (ps:To) (ih:∀ i g qs,ps.get i=some (g,qs)->TmT g qs):TmN h ps:=by
 intro W R X most pb mk o1 l1 c1 o2 l2 c2 eo en ec e E hs1 hs2 hR hm oZ hb vW hz hE hok kF hfr hN qP;have IH:=hid ih;clear ih;obtain ⟨W0,hW0⟩:∃ W0,W0=(W.alloc (.cells (cells9 h o1 l1 c1 o2 l2 c2) 30)).alloc (.cells #[.int .i64 0,.int .i64 0,.slice none 0 0] 25):=⟨_,rfl⟩;have hq0:ah W W0:=by rw [hW0];exact (ah.alloc _ _).trans (ah.alloc _ _)
 have hz0:W0.heap.size=W.heap.size+2:=by rw [hW0];simp
 have h4:Bx pb W0 W.heap.size (cells9 h o1 l1 c1 o2 l2 c2) 30:=Bx.new hm hq0 (Nat.le_refl _) (by rw [hW0];exact au (ah.alloc _ _) (heap_alloc_new W _));have h6:Bx pb W0 (W.heap.size+1) #[.int .i64 0,.int .i64 0,.slice none 0 0] 25:=Bx.new hm hq0 (by omega) (by
  rw [hW0];have:=heap_alloc_new (W.alloc (.cells (cells9 h o1 l1 c1 o2 l2 c2) 30)) (.cells #[.int .i64 0,.int .i64 0,.slice none 0 0] 25);simpa using this)
 have hm0:=hm.more hq0 (fun i=>i=W.heap.size+1) (fun i hi=>by subst hi;omega);have hp:=hm.lt;have hl0:=Later.aS hq0 hp;have hnx:=(lQ most h ps E hE.ne mk).1;have hnb:mk.next<=500000000:=Nat.le_trans hnx hN
 have P8:=hid (take_any hm0 (by omega));have HM:=hid hm;have yS:=hid hl0;have H4:=hid h4;have H6:=hid h6;have HP:=hid hp;have nH:=hid hs1;have HS2:=hid hs2;have HR:=hid hR;have EL:=hid hb;have HE:=hid hE;have xA:=hid hok;have qO:=hid kF;have AO:=hid hfr;have yM:Hid ((dw most h ps E mk).2.next<=Aj):=hN;have wS:=hid oZ;have xK:=hid (XP most h ps E mk qP);have aae:=hid hm0.lt;obtain ⟨X1,hX1⟩:∃ X1,X1=(fun i=>X i∨i=W.heap.size+1):=⟨_,rfl⟩;have jR:Hid (∀ i,X1 i=(X i∨i=W.heap.size+1)):=fun i=>by rw [hX1]
 rw [<-hX1] at P8;clear hs1 hs2 hR hm hb hE hok kF hfr hN hm0 hl0 hq0 h4 h6 hX1 hnx hp hz0 oZ;unfold I8;unfold bP;go_enter Tryd.func22,Tryd.ntmps22;generalize dV:W.heap.size=B at *;go_upto_region 1 with fail
 rw [<-hW0];clear hW0;go_wp2_with fail;refine P8.out.mono ?_;rintro x w1 ⟨n0,oo,cc,hn0,rfl,hm1,hl1⟩;obtain rfl:mk.next=n0:=Il hn0
 obtain ⟨W2,hW2⟩:∃ W2,W2=w1.alloc (.cells #[.int .i64 1,.int .i64 mk.next,.slice oo 0 cc] 25):=⟨_,rfl⟩;have hq2:ah w1 W2:=by rw [hW2];exact ah.alloc _ _
 have h7:Bx pb W2 w1.heap.size #[.int .i64 1,.int .i64 mk.next,.slice oo 0 cc] 25:=Bx.new hm1 hq2 (Nat.le_refl _) (by rw [hW2];exact heap_alloc_new w1 _);have H7:=hid h7;have hm2:=hm1.stay hq2;replace hm2:dQ X1 most pb W2 { mk with next:=mk.next+1 }:=hm2;have hl2:=hl1.quiet hq2 aae.out;have Fe:=hid hm2;have HL2:=hid (yS.out.trans hl2);have U4:=hid (H4.out.later hl2);have RF:=hid (H6.out.later hl2);have HP2:=hid hm2.lt;clear hm1 hl1 hq2 h7 hm2 hl2 hn0 H4 H6 yS P8;unfold fG;go_upto_region 2 with fail
 change Code.wp _ _ _ _ (w1.alloc (.cells #[.int .i64 1,.int .i64 mk.next,.slice oo 0 cc] 25));rw [<-hW2];clear hW2;generalize hC:w1.heap.size=C at *;obtain ⟨ko,kc,kxs,lg⟩:=Fe.out;obtain ⟨_,_,_,q3⟩:=bT lg.box;replace q3:W2.cell? ⟨pb,3,none⟩=some (.bool false):=by rw [<-qP];exact q3
 obtain ⟨a0,a1,a2,a3,a4,a5,a6,a7,a8⟩:=aA U4.out.1;obtain ⟨b0,b1,b2,_,_,_⟩:=ay H7.out.1;clear lg;have hkk:h.k=1∨h.k=2∨h.k=3∨h.k=4∨h.k=5∨h.k=6∨h.k=7∨h.k=8∨h.k=9∨h.k=10:=by have:=xA.out.1;omega
 rcases hkk with hk | hk | hk | hk | hk | hk | hk | hk | hk | hk
 ·have t2:(h.k == 2)=false:=by rw [hk];rfl
  have t3:(h.k == 3)=false:=by rw [hk];rfl
  have t1:(h.k == 1)=true:=by rw [hk];rfl
  have HK:=hid hk;clear hk;obtain ⟨v,hv⟩:=Du e h.nm (JY HK.out AO.out);have HLV:=hid hv;obtain ⟨F,lb,hvF,heg,hrun⟩:=HE.out.look hv;subst hvF;have adg:=hid hrun;obtain ⟨res,hres⟩:∃ res,mD E h.nm { mk with next:=mk.next+1 }=res:=⟨_,rfl⟩;obtain ⟨fin,hfin⟩:∃ fin,(dh most (tv mk.next) res.1 h.fr h.en res.2).2=fin:=⟨_,rfl⟩;have aQ:Hid (dw most h ps E mk=(tv mk.next,fin)):=by show _=_;rw [xK.out,Us HK.out,hres,hfin]
  have uh:Hid (res.2.next<=Aj):=by
   show _<=_
   have k:=yM.out;rw [aQ.out,<-hfin] at k;simpa only [rQ] using k
  have lT:=hid hres;have bF:=hid hfin;clear hres hfin hv hrun;have hpb:=HP2.out;have bK:Hid (∀ W,Later pb W2 W->(qV W B h o1 l1 c1 o2 l2 c2)/\(yB W C (.int .i64 1) (.int .i64 mk.next) (.slice oo 0 cc))):=fun W' hl=>by
   obtain ⟨k0,k1,k2,_⟩:=ay (H7.out.later hl).1;exact ⟨aA (U4.out.later hl).1,k0,k1,k2⟩
  have HLK:Hid (∀ W,Later pb W2 W->Calls Tryd.prog 40 #[.slice eo en ec,.string h.nm] W fun x w'=>x=.returned (.func (.func F) #[] lb)/\ah W w'):=fun W' hl=>(Um _ e h.nm _ eo en ec W' (EL.out.later (HL2.out.trans hl)) (by omega) HLV.out).mono (by rintro x w' ⟨rfl,rfl⟩;exact ⟨rfl,ah.refl _⟩)
  have HMN:Hid (∀ W,Later pb W2 W->dQ X1 most pb W { mk with next:=mk.next+1 }->Calls Tryd.prog F (#[.pointer (some ⟨pb,0,none⟩),.agg #[.int .i64 h.fr,.int .i64 h.en]]++lb) W (I8 X1 most pb W res)):=fun W' hl hm=>by
   have k:=adg.out W' X1 { mk with next:=mk.next+1 } h.fr h.en (HL2.out.trans hl) hm (Nat.le_succ _) (by rw [lT.out];exact uh.out);rw [lT.out] at k;exact k
  have xE:Hid (∀ (W:World) (n9:Nat) (o9:Option Addr) (c9:Nat),res.1=tv n9->dQ X1 most pb W res.2->Calls Tryd.prog 39 #[.pointer (some ⟨pb,0,none⟩),.agg #[.int .i64 1,.int .i64 mk.next,.slice oo 0 cc],.agg #[.int .i64 1,.int .i64 n9,.slice o9 0 c9],.agg #[.int .i64 h.fr,.int .i64 h.en]] W (I9 X1 most pb W fin)):=fun W n9 o9 c9 hr hmw=>by
   have k:=dM (o1:=oo) (l1:=0) (c1:=cc) (o2:=o9) (l2:=0) (c2:=c9) hmw wS.out (tv mk.next) (tv n9) h.fr h.en (aB.nil _ _ _) (aB.nil _ _ _) (Nat.le_of_ble_eq_true rfl) (Nat.le_of_ble_eq_true rfl);rw [<-hr,bF.out] at k;rw [hr] at k;exact k
  have hmk:=Fe.out;have hlc:=Later.refl hpb;go_upto_region 10 with fail
  go_region_held3 (fun W=>(W.cell? ⟨B,0,none⟩=some (.int .i64 h.k)/\W.cell? ⟨B,1,none⟩=some (.string h.nm)/\W.cell? ⟨B,2,none⟩=some (.int .i64 h.n)/\W.cell? ⟨B,3,none⟩=some (.int .i64 h.tk)/\W.cell? ⟨B,4,none⟩=some (.int .i64 h.tn)/\W.cell? ⟨B,5,none⟩=some (.slice o1 l1 c1)/\W.cell? ⟨B,6,none⟩=some (.slice o2 l2 c2)/\W.cell? ⟨B,7,none⟩=some (.int .i64 h.fr)/\W.cell? ⟨B,8,none⟩=some (.int .i64 h.en))/\(W.cell? ⟨C,0,none⟩=some (.int .i64 1)/\W.cell? ⟨C,1,none⟩=some (.int .i64 mk.next)/\W.cell? ⟨C,2,none⟩=some (.slice oo 0 cc)))
   (((refine bK.out _ ?_);(repeat with_reducible first | exact hlc | exact Later.refl hpb | refine jm hpb ?_ | refine jo hpb ?_)))
   (first
    | (go_at_call 40;(with_reducible refine Calls.mono (HLK.out _ ?hq) ?_);(case hq=>(repeat with_reducible first | exact hlc | exact Later.refl hpb | refine jm hpb ?_ | refine jo hpb ?_));rintro e wx ⟨rfl,fJ⟩;(refine lS (pb:=pb) (X:=X1) (most:=most) (k:={ mk with next:=mk.next+1 }) (w0:=W2) ?hl2 ?hm2 fJ ?_);(case hl2=>(repeat with_reducible first | exact hlc | exact Later.refl hpb | refine jm hpb ?_ | refine jo hpb ?_));(case hm2=>(repeat with_reducible first | exact hmk | refine ja ?_ | refine jb ?_));intro hlc hmk)
    | ((with_reducible refine Calls.mono (HMN.out _ ?hq ?hm) ?_);(case hq=>(repeat with_reducible first | exact hlc | exact Later.refl hpb | refine jm hpb ?_ | refine jo hpb ?_));(case hm=>(repeat with_reducible first | exact hmk | refine ja ?_ | refine jb ?_));rintro e wx ⟨n9,o9,c9,qF,rfl,hmk,hlx⟩;unfold fG;(refine iQ (pb:=pb) (w0:=W2) ?hl2 hlx ?_);(case hl2=>(repeat with_reducible first | exact hlc | exact Later.refl hpb | refine jm hpb ?_ | refine jo hpb ?_));intro hlc)
    | ((go_at_call 39;(with_reducible refine Calls.mono (xE.out _ n9 _ _ qF ?hm) ?_));(case hm=>(repeat with_reducible first | exact hmk | refine ja ?_ | refine jb ?_));rintro e wx ⟨rfl,hmk,hlx⟩;(refine iQ (pb:=pb) (w0:=W2) ?hl2 hlx ?_);(case hl2=>(repeat with_reducible first | exact hlc | exact Later.refl hpb | refine jm hpb ?_ | refine jo hpb ?_));intro hlc)
    | fail)
  all_goals
   have Qw:=hid hmk;have IV:=hid hlc;clear hmk hlc;obtain ⟨g0,g1,g2,_,_,_⟩:=ay (H7.out.later IV.out).1;have hb6:=(RF.out.later IV.out).1;have vS:=hid hb6;obtain ⟨d0,d1,d2,y0,y1,y2⟩:=ay hb6;clear hb6;go_wp2_with fail;clear d0 d1 d2 y0 y1 y2;have hf:=aZ wx (B+1) (.int .i64 1) (.int .i64 mk.next) (.slice oo 0 cc);obtain ⟨f0,f1,f2⟩:=aV (a:=.int .i64 1) (b:=.int .i64 mk.next) (c:=.slice oo 0 cc) vS.out;change bodyPost _ _ _ _ _ (bf wx (B+1) (.int .i64 1) (.int .i64 mk.next) (.slice oo 0 cc));generalize bf wx (B+1) (.int .i64 1) (.int .i64 mk.next) (.slice oo 0 cc)=wf at *;refine bodyPost_ret (by simp [results,Tryd.results22,go_sem,f0,f1,f2];rfl) rfl ?_;have hp:pb < W.heap.size:=by rw [dV];exact HP.out
   refine ⟨mk.next,oo,cc,by rw [aQ.out],rfl,?_,(HL2.out.trans IV.out).put hf hp (fun i hi=>by omega)⟩;rw [aQ.out];exact (Qw.out.put (hf.mono (fun i _ e=>by rw [jR.out];exact Or.inr (by omega)))).less (fun i hi=>by rw [jR.out];exact Or.inl hi)
 ·have t2:(h.k == 2)=true:=by rw [hk];rfl
  have HK:=hid hk;clear hk;obtain ⟨fin,hfin⟩:∃ fin,(dh most (tv mk.next) (2,0,.nil) h.fr h.en { mk with next:=mk.next+1 }).2=fin:=⟨_,rfl⟩;have aQ:Hid (dw most h ps E mk=(tv mk.next,fin)):=by show _=_;rw [xK.out,Ur HK.out,hfin]
  have bF:=hid hfin;clear hfin;have xE:Hid (Calls Tryd.prog 39 #[.pointer (some ⟨pb,0,none⟩),.agg #[.int .i64 1,.int .i64 mk.next,.slice oo 0 cc],.agg #[.int .i64 2,.int .i64 0,.slice none 0 0],.agg #[.int .i64 h.fr,.int .i64 h.en]] W2 (I9 X1 most pb W2 fin)):=by
   have k:=dM (o1:=oo) (l1:=0) (c1:=cc) (o2:=none) (l2:=0) (c2:=0) Fe.out wS.out (tv mk.next) (2,0,.nil) h.fr h.en (aB.nil _ _ _) (aB.nil _ _ _) (by show Fo.nil.size<=_;decide) (by show Fo.nil.size<=_;decide);rw [bF.out] at k;exact k
  go_wp2_with fail;refine xE.out.mono ?_;rintro x w3 ⟨rfl,nZ,hl3⟩;have Bh:=hid nZ;have rF:=hid hl3;clear nZ hl3;clear a0 a1 a2 a3 a4 a5 a6 a7 a8 b0 b1 b2 q3;obtain ⟨g0,g1,g2,_,_,_⟩:=ay (H7.out.later rF.out).1;have hb6:=(RF.out.later rF.out).1;have vS:=hid hb6;obtain ⟨d0,d1,d2,y0,y1,y2⟩:=ay hb6;clear hb6;go_wp2_with fail;clear d0 d1 d2 y0 y1 y2;have hf:=aZ w3 (B+1) (.int .i64 1) (.int .i64 mk.next) (.slice oo 0 cc);obtain ⟨f0,f1,f2⟩:=aV (a:=.int .i64 1) (b:=.int .i64 mk.next) (c:=.slice oo 0 cc) vS.out;change bodyPost _ _ _ _ _ (bf w3 (B+1) (.int .i64 1) (.int .i64 mk.next) (.slice oo 0 cc));generalize bf w3 (B+1) (.int .i64 1) (.int .i64 mk.next) (.slice oo 0 cc)=wf at *;refine bodyPost_ret (by simp [results,Tryd.results22,go_sem,f0,f1,f2];rfl) rfl ?_;have hp:pb < W.heap.size:=by rw [dV];exact HP.out
  refine ⟨mk.next,oo,cc,by rw [aQ.out],rfl,?_,(HL2.out.trans rF.out).put hf hp (fun i hi=>by omega)⟩;rw [aQ.out];exact (Bh.out.put (hf.mono (fun i _ e=>by rw [jR.out];exact Or.inr (by omega)))).less (fun i hi=>by rw [jR.out];exact Or.inl hi)
 ·have t2:(h.k == 2)=false:=by rw [hk];rfl
  have t3:(h.k == 3)=true:=by rw [hk];rfl
  have HK:=hid hk;clear hk;obtain ⟨fin,hfin⟩:∃ fin,(dh most (tv mk.next) (3,0,.nil) h.fr h.en { mk with next:=mk.next+1 }).2=fin:=⟨_,rfl⟩;have aQ:Hid (dw most h ps E mk=(tv mk.next,fin)):=by show _=_;rw [xK.out,Qz HK.out,hfin]
  have bF:=hid hfin;clear hfin;have xE:Hid (Calls Tryd.prog 39 #[.pointer (some ⟨pb,0,none⟩),.agg #[.int .i64 1,.int .i64 mk.next,.slice oo 0 cc],.agg #[.int .i64 3,.int .i64 0,.slice none 0 0],.agg #[.int .i64 h.fr,.int .i64 h.en]] W2 (I9 X1 most pb W2 fin)):=by
   have k:=dM (o1:=oo) (l1:=0) (c1:=cc) (o2:=none) (l2:=0) (c2:=0) Fe.out wS.out (tv mk.next) (3,0,.nil) h.fr h.en (aB.nil _ _ _) (aB.nil _ _ _) (by show Fo.nil.size<=_;decide) (by show Fo.nil.size<=_;decide);rw [bF.out] at k;exact k
  go_wp2_with fail;refine xE.out.mono ?_;rintro x w3 ⟨rfl,nZ,hl3⟩;have Bh:=hid nZ;have rF:=hid hl3;clear nZ hl3;clear a0 a1 a2 a3 a4 a5 a6 a7 a8 b0 b1 b2 q3;obtain ⟨g0,g1,g2,_,_,_⟩:=ay (H7.out.later rF.out).1;have hb6:=(RF.out.later rF.out).1;have vS:=hid hb6;obtain ⟨d0,d1,d2,y0,y1,y2⟩:=ay hb6;clear hb6;go_wp2_with fail;clear d0 d1 d2 y0 y1 y2;have hf:=aZ w3 (B+1) (.int .i64 1) (.int .i64 mk.next) (.slice oo 0 cc);obtain ⟨f0,f1,f2⟩:=aV (a:=.int .i64 1) (b:=.int .i64 mk.next) (c:=.slice oo 0 cc) vS.out;change bodyPost _ _ _ _ _ (bf w3 (B+1) (.int .i64 1) (.int .i64 mk.next) (.slice oo 0 cc));generalize bf w3 (B+1) (.int .i64 1) (.int .i64 mk.next) (.slice oo 0 cc)=wf at *;refine bodyPost_ret (by simp [results,Tryd.results22,go_sem,f0,f1,f2];rfl) rfl ?_;have hp:pb < W.heap.size:=by rw [dV];exact HP.out
  refine ⟨mk.next,oo,cc,by rw [aQ.out],rfl,?_,(HL2.out.trans rF.out).put hf hp (fun i hi=>by omega)⟩;rw [aQ.out];exact (Bh.out.put (hf.mono (fun i _ e=>by rw [jR.out];exact Or.inr (by omega)))).less (fun i hi=>by rw [jR.out];exact Or.inl hi)
 ·have t2:(h.k == 2)=false:=by rw [hk];rfl
  have t3:(h.k == 3)=false:=by rw [hk];rfl
  have t1:(h.k == 1)=false:=by rw [hk];rfl
  have t4:(h.k == 4)=true:=by rw [hk];rfl
  have HK:=hid hk;clear hk;have hl1:1<=l2:=by rw [HS2.out.1];exact xA.out.2.1 HK.out
  have hi0:(0:Int) < l2:=by omega
  have hj0:0 < l2:=by omega
  obtain ⟨b9,aJ,u,qu,kS,kT,d1u,kU,kV,kW,e9,_,gu,ru,cu,su,tu⟩:=HS2.out.nth (i:=0) (by omega);subst e9;have gB:=HR.out b9 ru;have KW:=hid gu;have AV:=hid su;have AX:=hid tu;have XV:=hid (To.dG ps 0 u qu gu);have Om:=hid (fO ps 0 u qu qO.out gu);have XW:Hid (Sc.bM (h.nm::names e) u qu=[]):=by
   show _=_
   have k:=oC AO.out (by rw [HK.out];decide) gu
   rwa [rP _ _ (by rw [HK.out];rfl)] at k
  obtain ⟨res,hres⟩:∃ res,dw most u qu ((h.nm,pu (tv (mk.next+1)))::E) { mk with next:=mk.next+1+1 }=res:=⟨_,rfl⟩;obtain ⟨fin,hfin⟩:∃ fin,(dh most (tv mk.next) (iO (tv (mk.next+1)) res.1) h.fr h.en res.2).2=fin:=⟨_,rfl⟩;have aQ:Hid (dw most h ps E mk=(tv mk.next,fin)):=by show _=_;rw [xK.out,Ut HK.out,yw KW.out,<-hfin,<-hres]
  have uh:Hid (res.2.next<=Aj):=by
   show _<=_
   have k:=yM.out;rw [aQ.out,<-hfin] at k;simpa only [rQ] using k
  have nU:Hid (mk.next+1+1<=Aj):=by
   show _<=_
   have k:=(lQ most u qu ((h.nm,pu (tv (mk.next+1)))::E) (HE.out.ne.cons (NM.pure _)) { mk with next:=mk.next+1+1 }).1;rw [hres] at k;exact Nat.le_trans k uh.out
  have lT:=hid hres;have bF:=hid hfin;clear hres hfin gu su tu;generalize adY:mk.next+1=nb at *
  have qQ:=hid (take_any Fe.out (by show nb<=1000000000;have:nb+1<=500000000:=nU.out;omega));go_wp2_with fail;refine qQ.out.mono ?_;rintro x w3 ⟨n1,o3,c3,hn1,rfl,nZ,hl3⟩;obtain rfl:nb=n1:=Il hn1;replace nZ:dQ X1 most pb w3 { mk with next:=nb+1 }:=nZ;obtain ⟨W4,yP⟩:∃ W4,W4=w3.alloc (.cells #[.int .i64 1,.int .i64 nb,.slice o3 0 c3] 25):=⟨_,rfl⟩;have hq4:ah w3 W4:=by rw [yP];exact ah.alloc _ _
  have h8:Bx pb W4 w3.heap.size #[.int .i64 1,.int .i64 nb,.slice o3 0 c3] 25:=Bx.new nZ hq4 (Nat.le_refl _) (by rw [yP];exact heap_alloc_new w3 _);have H8:=hid h8;have KY:=hid (nZ.stay hq4);have Ag:=hid (hl3.quiet hq4 HP2.out);have hpb:=KY.out.lt;clear nZ hl3 h8 hq4 qQ hn1 a0 a1 a2 a3 a4 a5 a6 a7 a8 b0 b1 b2 q3;unfold fG;go_upto_region 13 with fail
  change Code.wp _ _ _ _ (w3.alloc (.cells #[.int .i64 1,.int .i64 nb,.slice o3 0 c3] 25));rw [<-yP];clear yP;generalize hD:w3.heap.size=D at *;have bK:Hid (∀ W,Later pb W4 W->(qV W B h o1 l1 c1 (some ⟨b9,aJ,none⟩) l2 c2)/\(yB W C (.int .i64 1) (.int .i64 mk.next) (.slice oo 0 cc))/\(yB W D (.int .i64 1) (.int .i64 nb) (.slice o3 0 c3))/\(ES W b9 aJ u kS kT d1u kU kV kW)):=fun W' hl=>by
   have hl':=Ag.out.trans hl;obtain ⟨k0,k1,k2,_⟩:=ay (H7.out.later hl').1;obtain ⟨k3,k4,k5,_⟩:=ay (H8.out.later hl).1;exact ⟨aA (U4.out.later hl').1,⟨k0,k1,k2⟩,⟨k3,k4,k5⟩,eu cu gB HM.out (HL2.out.trans hl')⟩
  have WE:Hid (∀ W,Later pb W4 W->dQ X1 most pb W { mk with next:=nb+1 }->Calls Tryd.prog 42 #[.agg #[.int .i64 1,.int .i64 nb,.slice o3 0 c3]] W (SgQ most pb (nb+1) W (pu (tv nb)))):=fun W hl hm=>Dv hm
  have XY:Hid (∀ W bs ls,Later pb W4 W->dQ X1 most pb W { mk with next:=nb+1 }->jO most pb (nb+1) W (.func bs #[] ls) (pu (tv nb))->Calls Tryd.prog 41 #[.slice eo en ec,.string h.nm,.func bs #[] ls] W (WtQ most pb (nb+1) W (en+1) ((h.nm,.func bs #[] ls)::e) ((h.nm,pu (tv nb))::E))):=fun W bs ls hl hm hf=>by
   have hl':=HL2.out.trans (Ag.out.trans hl);exact uU h.nm hm (EL.out.later hl') (HE.out.later hl' (by omega)) vW (by omega) hf (NM.pure _)
  have nT:Hid (∀ W o c bs ls,Later pb W4 W->dQ X1 most pb W { mk with next:=nb+1 }->en+1<=c->IU most pb (nb+1) W o (en+1) ((h.nm,.func bs #[] ls)::e) ((h.nm,pu (tv nb))::E)->Calls Tryd.prog 22 #[.pointer (some ⟨pb,0,none⟩),bP u kS kT d1u kU kV kW,.slice o (en+1) c] W (I8 X1 most pb W res)):=fun W o c bs ls hl hm hc hpk=>by
   have hl':=HL2.out.trans (Ag.out.trans hl);have k:=IH.out 0 u qu KW.out W R X1 most pb { mk with next:=nb+1 } kS kT d1u kU kV kW o (en+1) c _ _ (jD AV.out HR.out HM.out hl') (eY AX.out HR.out HM.out hl') HR.out hm wS.out hpk.1 hc (by have:=XV.out;omega) hpk.2 Om.out.1 Om.out.2 XW.out (by rw [lT.out];exact uh.out);rw [lT.out] at k;exact k
  have Jz:Hid (∀ (W:World) (g n9:Nat) (o9:Option Addr) (c9:Nat),W.heap[g]?=some (.cells #[.int .i64 1,.int .i64 nb,.slice o3 0 c3,.int .i64 1,.int .i64 n9,.slice o9 0 c9] 25 (0,0))->Calls Tryd.prog 14 #[.slice (some ⟨g,0,none⟩) 2 2] W (ArQ W nb n9)):=fun W g n9 o9 c9 hg=>DI hg
  have xE:Hid (∀ (W:World) (n9:Nat) (o4:Option Addr) (c4:Nat),res.1=tv n9->dQ X1 most pb W res.2->aB (TF X1 pb W) W o4 2 (iO (tv nb) (tv n9)).2.2->Calls Tryd.prog 39 #[.pointer (some ⟨pb,0,none⟩),.agg #[.int .i64 1,.int .i64 mk.next,.slice oo 0 cc],.agg #[.int .i64 4,.int .i64 0,.slice o4 2 c4],.agg #[.int .i64 h.fr,.int .i64 h.en]] W (I9 X1 most pb W fin)):=fun W n9 o4 c4 hr hmw hs=>by
   have k:=dM (o1:=oo) (l1:=0) (c1:=cc) (c2:=c4) hmw wS.out (tv mk.next) (iO (tv nb) (tv n9)) h.fr h.en (aB.nil _ _ _) hs (Nat.le_of_ble_eq_true rfl) (Nat.le_of_ble_eq_true rfl);rw [<-hr,bF.out] at k;exact k
  have hmk:=KY.out;have hlc:=Later.refl hpb;obtain ⟨⟨a0,a1,a2,a3,a4,a5,a6,a7,a8⟩,⟨b0,b1,b2⟩,⟨f0,f1,f2⟩,⟨v0,v1,v2,v3,v4,v5,v6,v7,v8⟩⟩:=bK.out W4 (Later.refl hpb);unfold bP at nT;clear cu gB ru;go_region_held3 (fun W=>(W.cell? ⟨B,0,none⟩=some (.int .i64 h.k)/\W.cell? ⟨B,1,none⟩=some (.string h.nm)/\W.cell? ⟨B,2,none⟩=some (.int .i64 h.n)/\W.cell? ⟨B,3,none⟩=some (.int .i64 h.tk)/\W.cell? ⟨B,4,none⟩=some (.int .i64 h.tn)/\W.cell? ⟨B,5,none⟩=some (.slice o1 l1 c1)/\W.cell? ⟨B,6,none⟩=some (.slice (some ⟨b9,aJ,none⟩) l2 c2)/\W.cell? ⟨B,7,none⟩=some (.int .i64 h.fr)/\W.cell? ⟨B,8,none⟩=some (.int .i64 h.en))/\(W.cell? ⟨C,0,none⟩=some (.int .i64 1)/\W.cell? ⟨C,1,none⟩=some (.int .i64 mk.next)/\W.cell? ⟨C,2,none⟩=some (.slice oo 0 cc))/\(W.cell? ⟨D,0,none⟩=some (.int .i64 1)/\W.cell? ⟨D,1,none⟩=some (.int .i64 nb)/\W.cell? ⟨D,2,none⟩=some (.slice o3 0 c3))/\(W.cell? ⟨b9,aJ,none⟩=some (.int .i64 u.k)/\W.cell? ⟨b9,aJ+1,none⟩=some (.string u.nm)/\W.cell? ⟨b9,aJ+2,none⟩=some (.int .i64 u.n)/\W.cell? ⟨b9,aJ+3,none⟩=some (.int .i64 u.tk)/\W.cell? ⟨b9,aJ+4,none⟩=some (.int .i64 u.tn)/\W.cell? ⟨b9,aJ+5,none⟩=some (.slice kS kT d1u)/\W.cell? ⟨b9,aJ+6,none⟩=some (.slice kU kV kW)/\W.cell? ⟨b9,aJ+7,none⟩=some (.int .i64 u.fr)/\W.cell? ⟨b9,aJ+8,none⟩=some (.int .i64 u.en)))
   (((refine bK.out _ ?_);(repeat with_reducible first | exact hlc | exact Later.refl hpb | refine jm hpb ?_ | refine jo hpb ?_)))
   (first
    | (go_at_call 42;(with_reducible refine Calls.mono (WE.out _ ?hq ?hm) ?_);(case hq=>(repeat with_reducible first | exact hlc | exact Later.refl hpb | refine jm hpb ?_ | refine jo hpb ?_));(case hm=>(repeat with_reducible first | exact hmk | refine ja ?_ | refine jb ?_));rintro e wx ⟨bs,ls,rfl,hme,fJ⟩;(refine lS (pb:=pb) (X:=X1) (most:=most) (k:={ mk with next:=nb+1 }) (w0:=W4) ?hl2 ?hm2 fJ ?_);(case hl2=>(repeat with_reducible first | exact hlc | exact Later.refl hpb | refine jm hpb ?_ | refine jo hpb ?_));(case hm2=>(repeat with_reducible first | exact hmk | refine ja ?_ | refine jb ?_));intro hlc hmk)
    | (go_at_call 41;(with_reducible refine Calls.mono (XY.out _ bs ls ?hq ?hm ?hmz) ?_);(case hq=>(repeat with_reducible first | exact hlc | exact Later.refl hpb | refine jm hpb ?_ | refine jo hpb ?_));(case hm=>(repeat with_reducible first | exact hmk | refine ja ?_ | refine jb ?_));(case hmz=>(repeat (first | with_reducible exact hme | ((with_reducible refine jO.st (X:=X1) (k:={ mk with next:=nb+1 }) ?hmT (ah.alloc _ _) ?_);(case hmT=>(repeat with_reducible first | exact hmk | refine ja ?_ | refine jb ?_))) | ((with_reducible refine jO.st (X:=X1) (k:={ mk with next:=nb+1 }) ?hmT (ah.drew _) ?_);(case hmT=>(repeat with_reducible first | exact hmk | refine ja ?_ | refine jb ?_))) | fail)));rintro e wx ⟨wo,wc,rfl,hwc,hpk,fJ⟩;(refine lS (pb:=pb) (X:=X1) (most:=most) (k:={ mk with next:=nb+1 }) (w0:=W4) ?hl2 ?hm2 fJ ?_);(case hl2=>(repeat with_reducible first | exact hlc | exact Later.refl hpb | refine jm hpb ?_ | refine jo hpb ?_));(case hm2=>(repeat with_reducible first | exact hmk | refine ja ?_ | refine jb ?_));intro hlc hmk)
    | ((go_at_call 22;(with_reducible refine Calls.mono (nT.out _ _ _ bs ls ?hq ?hm hwc ?hpz) ?_));(case hq=>(repeat with_reducible first | exact hlc | exact Later.refl hpb | refine jm hpb ?_ | refine jo hpb ?_));(case hm=>(repeat with_reducible first | exact hmk | refine ja ?_ | refine jb ?_));(case hpz=>(repeat (first | with_reducible exact hpk | ((with_reducible refine IU.st (X:=X1) (k:={ mk with next:=nb+1 }) ?U5 (ah.alloc _ _) ?_);(case U5=>(repeat with_reducible first | exact hmk | refine ja ?_ | refine jb ?_))) | ((with_reducible refine IU.st (X:=X1) (k:={ mk with next:=nb+1 }) ?U5 (ah.drew _) ?_);(case U5=>(repeat with_reducible first | exact hmk | refine ja ?_ | refine jb ?_))) | fail)));rintro e wx ⟨n9,o9,c9,qF,rfl,hmk,hlx⟩;unfold fG;(refine iQ (pb:=pb) (w0:=W4) ?hl2 hlx ?_);(case hl2=>(repeat with_reducible first | exact hlc | exact Later.refl hpb | refine jm hpb ?_ | refine jo hpb ?_));intro hlc)
    | (go_at_call 14;(with_reducible refine Calls.mono (Jz.out _ _ n9 o9 c9 ?hblk) ?_);(case hblk=>(repeat (first | ((with_reducible refine lD _ _ _ _ ?hbe);(case hbe=>(simp;done))) | with_reducible refine au (ah.alloc _ _) ?_ | with_reducible refine ig ?_ | fail)));rintro e wx ⟨o4,c4,rfl,hs4,fJ⟩;(refine qN (pb:=pb) (X:=X1) (most:=most) (k:=res.2) ?Eu fJ hs4 ?_;(case Eu=>(repeat with_reducible first | exact hmk | refine ja ?_ | refine jb ?_));intro hs4);(refine lS (pb:=pb) (X:=X1) (most:=most) (k:=res.2) (w0:=W4) ?hl2 ?hm2 fJ ?_);(case hl2=>(repeat with_reducible first | exact hlc | exact Later.refl hpb | refine jm hpb ?_ | refine jo hpb ?_));(case hm2=>(repeat with_reducible first | exact hmk | refine ja ?_ | refine jb ?_));intro hlc hmk)
    | ((go_at_call 39;(with_reducible refine Calls.mono (xE.out _ n9 _ _ qF ?hm ?hs1) ?_));(case hm=>(repeat with_reducible first | exact hmk | refine ja ?_ | refine jb ?_));(case hs1=>(repeat (first | with_reducible exact hs4 | ((with_reducible refine jC (pb:=pb) (X:=X1) (most:=most) (k:=res.2) ?wR (ah.alloc _ _) ?_);(case wR=>(repeat with_reducible first | exact hmk | refine ja ?_ | refine jb ?_))) | ((with_reducible refine jC (pb:=pb) (X:=X1) (most:=most) (k:=res.2) ?wR (ah.drew _) ?_);(case wR=>(repeat with_reducible first | exact hmk | refine ja ?_ | refine jb ?_))) | fail)));rintro e wx ⟨rfl,hmk,hlx⟩;(refine iQ (pb:=pb) (w0:=W4) ?hl2 hlx ?_);(case hl2=>(repeat with_reducible first | exact hlc | exact Later.refl hpb | refine jm hpb ?_ | refine jo hpb ?_));intro hlc)
    | fail)
  all_goals
   have Qw:=hid hmk;have IV:=hid (Ag.out.trans hlc);clear hmk hlc;obtain ⟨g0,g1,g2,_,_,_⟩:=ay (H7.out.later IV.out).1;have hb6:=(RF.out.later IV.out).1;have vS:=hid hb6;obtain ⟨d0,d1,d2,y0,y1,y2⟩:=ay hb6;clear hb6;go_wp2_with fail;clear d0 d1 d2 y0 y1 y2;have hf:=aZ wx (B+1) (.int .i64 1) (.int .i64 mk.next) (.slice oo 0 cc);obtain ⟨f0,f1,f2⟩:=aV (a:=.int .i64 1) (b:=.int .i64 mk.next) (c:=.slice oo 0 cc) vS.out;change bodyPost _ _ _ _ _ (bf wx (B+1) (.int .i64 1) (.int .i64 mk.next) (.slice oo 0 cc));generalize bf wx (B+1) (.int .i64 1) (.int .i64 mk.next) (.slice oo 0 cc)=wf at *;refine bodyPost_ret (by simp [results,Tryd.results22,go_sem,f0,f1,f2];rfl) rfl ?_;have hp:pb < W.heap.size:=by rw [dV];exact HP.out
   refine ⟨mk.next,oo,cc,by rw [aQ.out],rfl,?_,(HL2.out.trans IV.out).put hf hp (fun i hi=>by omega)⟩;rw [aQ.out];exact (Qw.out.put (hf.mono (fun i _ e=>by rw [jR.out];exact Or.inr (by omega)))).less (fun i hi=>by rw [jR.out];exact Or.inl hi)
 ·have t2:(h.k == 2)=false:=by rw [hk];rfl
  have t3:(h.k == 3)=false:=by rw [hk];rfl
  have t1:(h.k == 1)=false:=by rw [hk];rfl
  have t4:(h.k == 4)=false:=by rw [hk];rfl
  have t6:(h.k == 6)=false:=by rw [hk];rfl
  have t7:(h.k == 7)=false:=by rw [hk];rfl
  have t5:(h.k == 5)=true:=by rw [hk];rfl
  have HK:=hid hk;clear hk;have WI:Hid (∀ j g qs,ps.get j=some (g,qs)->Sc.bM (names e) g qs=[]):=fun j g qs hg=>by
   have k:=oC AO.out (by rw [HK.out];decide) hg
   rwa [o7 _ _ (by rw [HK.out];exact uV (by decide) (by decide) (by decide) j)] at k
  obtain ⟨res,hres⟩:∃ res,jw E (bQ most ps) { mk with next:=mk.next+1 }=res:=⟨_,rfl⟩;obtain ⟨fin,hfin⟩:∃ fin,(dh most (qL res.1 0) (iO (qL res.1 1) (tv mk.next)) h.fr h.en res.2).2=fin:=⟨_,rfl⟩;have aQ:Hid (dw most h ps E mk=(tv mk.next,fin)):=by show _=_;rw [xK.out,Uu HK.out,hres,hfin]
  have EH:Hid (res.1.length=l2):=by show _=_;rw [<-hres,kR,jK,HS2.out.1]
  have uh:Hid (res.2.next<=Aj):=by
   show _<=_
   have k:=yM.out;rw [aQ.out] at k;rw [<-hfin] at k;simpa only [rQ] using k
  have lT:=hid hres;have bF:=hid hfin;have hl2:2<=l2:=by rw [HS2.out.1];exact xA.out.2.2.1 HK.out
  have hi0:(0:Int) < l2:=by omega
  have hj0:0 < l2:=by omega
  have hj1:2<=l2->1 < l2:=by omega
  have hj2:3<=l2->2 < l2:=by omega
  have hi1:2<=l2->(1:Int) < l2:=by omega
  have hi2:3<=l2->(2:Int) < l2:=by omega
  have hlz:l2<=100000:=by have:=To.length_le ps;have:=HS2.out.1;omega
  clear hres hfin;have Ey:Hid (∀ W,Later pb W2 W->dQ X1 most pb W { mk with next:=mk.next+1 }->Calls Tryd.prog 44 #[.pointer (some ⟨pb,0,none⟩),bP h o1 l1 c1 o2 l2 c2,.slice eo en ec] W (PtQ X1 most pb W res)):=fun W' hl hmw=>by
   have hl':=HL2.out.trans hl;have k:=uT h ps IH.out W' R X1 most pb { mk with next:=mk.next+1 } o1 l1 c1 o2 l2 c2 eo en ec e E (eY HS2.out HR.out HM.out hl') HR.out hmw wS.out (EL.out.later hl') vW hz (HE.out.later hl' (Nat.le_succ _)) qO.out WI.out (by rw [lT.out];exact uh.out);rw [lT.out] at k;exact k
  unfold bP at Ey;go_wp2_with fail;refine (Ey.out _ (Later.refl HP2.out) Fe.out).mono ?_;rintro x w3 ⟨o,c,rfl,hcl,hpt,nZ,hl3⟩;clear a0 a1 a2 a3 a4 a5 a6 a7 a8 b0 b1 b2 q3;obtain ⟨gp,n0,wU,n0c,rfl,IW,DJ,n01,n02⟩:=hpt.get (i:=0) (by rw [EH.out];omega);obtain ⟨gp1,n1,QE,n1c,e1,U6,n10,n11,n12⟩:=hpt.get (i:=1) (by rw [EH.out];omega);obtain rfl:gp=gp1:=by cases e1;rfl
  have hgt:=hpt.tf rfl (by rw [EH.out];omega);rw [EH.out];have Bh:=hid nZ;have rF:=hid hl3;have hpb:=nZ.lt;have bK:Hid (∀ W,Later pb w3 W->(qV W B h o1 l1 c1 o2 l2 c2)/\(yB W C (.int .i64 1) (.int .i64 mk.next) (.slice oo 0 cc))/\(yB W gp (.int .i64 1) (.int .i64 n0) (.slice wU 0 n0c))/\(W.cell? ⟨gp,3,none⟩=some (.int .i64 1)/\W.cell? ⟨gp,4,none⟩=some (.int .i64 n1)/\W.cell? ⟨gp,5,none⟩=some (.slice QE 0 n1c))):=fun W hl=>by
   have hl':=rF.out.trans hl;refine ⟨aA (U4.out.later hl').1,?_,⟨cell_later hgt hl DJ,cell_later hgt hl n01,cell_later hgt hl n02⟩,⟨cell_later hgt hl n10,cell_later hgt hl n11,cell_later hgt hl n12⟩⟩;obtain ⟨k0,k1,k2,_⟩:=ay (H7.out.later hl').1;exact ⟨k0,k1,k2⟩
  have Jz:Hid (∀ (W:World) (g:Nat),W.heap[g]?=some (.cells #[.int .i64 1,.int .i64 n1,.slice QE 0 n1c,.int .i64 1,.int .i64 mk.next,.slice oo 0 cc] 25 (0,0))->Calls Tryd.prog 14 #[.slice (some ⟨g,0,none⟩) 2 2] W (ArQ W n1 mk.next)):=fun W g hg=>DI hg
  have xE:Hid (∀ (W:World) (o4:Option Addr) (c4:Nat),dQ X1 most pb W res.2->aB (TF X1 pb W) W o4 2 (iO (tv n1) (tv mk.next)).2.2->Calls Tryd.prog 39 #[.pointer (some ⟨pb,0,none⟩),.agg #[.int .i64 1,.int .i64 n0,.slice wU 0 n0c],.agg #[.int .i64 4,.int .i64 0,.slice o4 2 c4],.agg #[.int .i64 h.fr,.int .i64 h.en]] W (I9 X1 most pb W fin)):=fun W o4 c4 hmw hs=>by
   have k:=dM (o1:=wU) (l1:=0) (c1:=n0c) (c2:=c4) hmw wS.out (tv n0) (iO (tv n1) (tv mk.next)) h.fr h.en (aB.nil _ _ _) hs (by show Fo.nil.size<=_;decide) (Nat.le_of_ble_eq_true rfl);have e:=bF.out;rw [IW,U6] at e;rw [e] at k;exact k
  replace hi1:=hi1 hl2;replace hj1:=hj1 hl2;clear hpt nZ hl3 hgt IW U6 hi2 hj2;obtain ⟨⟨a0,a1,a2,a3,a4,a5,a6,a7,a8⟩,⟨b0,b1,b2⟩,⟨p0,p1,p2⟩,⟨p3,p4,p5⟩⟩:=bK.out w3 (Later.refl hpb);have hmk:=Bh.out;have hlc:=Later.refl hpb;clear DJ n01 n02 n10 n11 n12;go_upto_region 20 with fail
  go_region_held3 (fun W=>(W.cell? ⟨B,0,none⟩=some (.int .i64 h.k)/\W.cell? ⟨B,1,none⟩=some (.string h.nm)/\W.cell? ⟨B,2,none⟩=some (.int .i64 h.n)/\W.cell? ⟨B,3,none⟩=some (.int .i64 h.tk)/\W.cell? ⟨B,4,none⟩=some (.int .i64 h.tn)/\W.cell? ⟨B,5,none⟩=some (.slice o1 l1 c1)/\W.cell? ⟨B,6,none⟩=some (.slice o2 l2 c2)/\W.cell? ⟨B,7,none⟩=some (.int .i64 h.fr)/\W.cell? ⟨B,8,none⟩=some (.int .i64 h.en))/\(W.cell? ⟨C,0,none⟩=some (.int .i64 1)/\W.cell? ⟨C,1,none⟩=some (.int .i64 mk.next)/\W.cell? ⟨C,2,none⟩=some (.slice oo 0 cc))/\(W.cell? ⟨gp,0,none⟩=some (.int .i64 1)/\W.cell? ⟨gp,1,none⟩=some (.int .i64 n0)/\W.cell? ⟨gp,2,none⟩=some (.slice wU 0 n0c))/\(W.cell? ⟨gp,3,none⟩=some (.int .i64 1)/\W.cell? ⟨gp,4,none⟩=some (.int .i64 n1)/\W.cell? ⟨gp,5,none⟩=some (.slice QE 0 n1c)))
   (((refine bK.out _ ?_);(repeat with_reducible first | exact hlc | exact Later.refl hpb | refine jm hpb ?_ | refine jo hpb ?_)))
   (first
    | (go_at_call 14;(with_reducible refine Calls.mono (Jz.out _ _ ?hblk) ?_);(case hblk=>(repeat (first | ((with_reducible refine lD _ _ _ _ ?hbe);(case hbe=>(simp;done))) | with_reducible refine au (ah.alloc _ _) ?_ | with_reducible refine ig ?_ | fail)));rintro e wx ⟨o4,c4,rfl,hs4,fJ⟩;(refine qN (pb:=pb) (X:=X1) (most:=most) (k:=res.2) ?Eu fJ hs4 ?_;(case Eu=>(repeat with_reducible first | exact hmk | refine ja ?_ | refine jb ?_));intro hs4);(refine lS (pb:=pb) (X:=X1) (most:=most) (k:=res.2) (w0:=w3) ?hl2 ?hm2 fJ ?_);(case hl2=>(repeat with_reducible first | exact hlc | exact Later.refl hpb | refine jm hpb ?_ | refine jo hpb ?_));(case hm2=>(repeat with_reducible first | exact hmk | refine ja ?_ | refine jb ?_));intro hlc hmk)
    | ((go_at_call 39;(with_reducible refine Calls.mono (xE.out _ _ _ ?hm ?hs1) ?_));(case hm=>(repeat with_reducible first | exact hmk | refine ja ?_ | refine jb ?_));(case hs1=>(repeat (first | with_reducible exact hs4 | ((with_reducible refine jC (pb:=pb) (X:=X1) (most:=most) (k:=res.2) ?wR (ah.alloc _ _) ?_);(case wR=>(repeat with_reducible first | exact hmk | refine ja ?_ | refine jb ?_))) | ((with_reducible refine jC (pb:=pb) (X:=X1) (most:=most) (k:=res.2) ?wR (ah.drew _) ?_);(case wR=>(repeat with_reducible first | exact hmk | refine ja ?_ | refine jb ?_))) | fail)));rintro e wx ⟨rfl,hmk,hlx⟩;(refine iQ (pb:=pb) (w0:=w3) ?hl2 hlx ?_);(case hl2=>(repeat with_reducible first | exact hlc | exact Later.refl hpb | refine jm hpb ?_ | refine jo hpb ?_));intro hlc)
    | fail)
  all_goals
   have KY:=hid hmk;have Ag:=hid (rF.out.trans hlc);clear hmk hlc;obtain ⟨g0,g1,g2,_,_,_⟩:=ay (H7.out.later Ag.out).1;have hb6:=(RF.out.later Ag.out).1;have vS:=hid hb6;obtain ⟨d0,d1,d2,y0,y1,y2⟩:=ay hb6;clear hb6;go_wp2_with fail;clear d0 d1 d2 y0 y1 y2;have hf:=aZ wx (B+1) (.int .i64 1) (.int .i64 mk.next) (.slice oo 0 cc);obtain ⟨f0,f1,f2⟩:=aV (a:=.int .i64 1) (b:=.int .i64 mk.next) (c:=.slice oo 0 cc) vS.out;change bodyPost _ _ _ _ _ (bf wx (B+1) (.int .i64 1) (.int .i64 mk.next) (.slice oo 0 cc));generalize bf wx (B+1) (.int .i64 1) (.int .i64 mk.next) (.slice oo 0 cc)=wf at *;refine bodyPost_ret (by simp [results,Tryd.results22,go_sem,f0,f1,f2];rfl) rfl ?_;have hp:pb < W.heap.size:=by rw [dV];exact HP.out
   refine ⟨mk.next,oo,cc,by rw [aQ.out],rfl,?_,(HL2.out.trans Ag.out).put hf hp (fun i hi=>by omega)⟩;rw [aQ.out];exact (KY.out.put (hf.mono (fun i _ e=>by rw [jR.out];exact Or.inr (by omega)))).less (fun i hi=>by rw [jR.out];exact Or.inl hi)
 ·have t2:(h.k == 2)=false:=by rw [hk];rfl
  have t3:(h.k == 3)=false:=by rw [hk];rfl
  have t1:(h.k == 1)=false:=by rw [hk];rfl
  have t4:(h.k == 4)=false:=by rw [hk];rfl
  have t6:(h.k == 6)=true:=by rw [hk];rfl
  have HK:=hid hk;clear hk;have adh:=hid xA.out;have adi:=hid AO.out;have hl2:2<=l2:=by rw [HS2.out.1];exact xA.out.2.2.2.1 HK.out
  have hi1:(1:Int) < l2:=by omega
  have hj1:1 < l2:=by omega
  obtain ⟨b9,aJ,u,qu,kS,kT,d1u,kU,kV,kW,e9,_,gu,ru,cu,su,tu⟩:=HS2.out.nth (i:=1) (by omega);subst e9;have gB:=HR.out b9 ru;have KW:=hid gu;have AV:=hid su;have AX:=hid tu;have XV:=hid (To.dG ps 1 u qu gu);have Om:=hid (fO ps 1 u qu qO.out gu);have XW:Hid (Sc.bM (h.nm::names e) u qu=[]):=by
   show _=_
   have k:=oC AO.out (by rw [HK.out];decide) gu
   rwa [rP _ _ (by rw [HK.out];rfl)] at k
  obtain ⟨fm,hfm⟩:∃ fm,firstM most h (bQ most ps) E { mk with next:=mk.next+1 }=fm:=⟨_,rfl⟩;obtain ⟨km,hkm⟩:∃ km,uf most h (bQ most ps) E { mk with next:=mk.next+1 }=km:=⟨_,rfl⟩;obtain ⟨res,hres⟩:∃ res,dw most u qu ((h.nm,km)::E) fm.2=res:=⟨_,rfl⟩;obtain ⟨fin,hfin⟩:∃ fin,(dh most (tv mk.next) res.1 h.fr h.en res.2).2=fin:=⟨_,rfl⟩;have aQ:Hid (dw most h ps E mk=(tv mk.next,fin)):=by show _=_;rw [xK.out,JW (by rw [HK.out];decide),yw KW.out,hkm,hfm,hres,hfin]
  have HKN:Hid (NM km):=by show NM km;rw [<-hkm];exact zx _ _ _ _ _
  have uh:Hid (res.2.next<=Aj):=by
   show _<=_
   have k:=yM.out;rw [aQ.out,<-hfin] at k;simpa only [rQ] using k
  have HFN:Hid (fm.2.next<=Aj):=by
   show _<=_
   have k:=(lQ most u qu ((h.nm,km)::E) (HE.out.ne.cons HKN.out) fm.2).1;rw [hres] at k;exact Nat.le_trans k uh.out
  have XC:Hid (mk.next<=fm.2.next):=by
   show _<=_
   have k:=(F9 most h ps HE.out.ne { mk with next:=mk.next+1 }).1;rw [hfm] at k;exact Nat.le_trans (Nat.le_succ _) k
  have tV:=hid hfm;have Z9:=hid hkm;have lT:=hid hres;have bF:=hid hfin;clear hres hfin hfm hkm gu su tu;have HBD:Hid (Calls Tryd.prog 43 #[.pointer (some ⟨pb,0,none⟩),bP h o1 l1 c1 (some ⟨b9,aJ,none⟩) l2 c2,.slice eo en ec] W2 (Ol X1 most pb W2 fm km)):=by
   have k:=Uy h ps IH.out HK.out W2 R X1 most pb { mk with next:=mk.next+1 } o1 l1 c1 (some ⟨b9,aJ,none⟩) l2 c2 eo en ec e E (eY HS2.out HR.out HM.out HL2.out) HR.out Fe.out wS.out (EL.out.later HL2.out) vW hz (HE.out.later HL2.out (Nat.le_succ _)) xA.out qO.out AO.out (by rw [tV.out];exact HFN.out);rw [tV.out,Z9.out] at k;exact k
  unfold bP at HBD;go_wp2_with fail;refine HBD.out.mono ?_;rintro x w3 ⟨bs,ls,rfl,hme,nZ,hl3⟩;have Bh:=hid nZ;have rF:=hid hl3;have HME:=hid hme;have hpb:=nZ.lt;clear nZ hl3 hme a0 a1 a2 a3 a4 a5 a6 a7 a8 b0 b1 b2 q3;have bK:Hid (∀ W,Later pb w3 W->(qV W B h o1 l1 c1 (some ⟨b9,aJ,none⟩) l2 c2)/\(yB W C (.int .i64 1) (.int .i64 mk.next) (.slice oo 0 cc))/\(ES W b9 (aJ+9) u kS kT d1u kU kV kW)):=fun W' hl=>by
   have hl':=rF.out.trans hl;obtain ⟨k0,k1,k2,_⟩:=ay (H7.out.later hl').1;exact ⟨aA (U4.out.later hl').1,⟨k0,k1,k2⟩,eu cu gB HM.out (HL2.out.trans hl')⟩
  have XY:Hid (∀ W,Later pb w3 W->dQ X1 most pb W fm.2->Calls Tryd.prog 41 #[.slice eo en ec,.string h.nm,.func bs #[] ls] W (WtQ most pb fm.2.next W (en+1) ((h.nm,.func bs #[] ls)::e) ((h.nm,km)::E))):=fun W hl hm=>by
   have hl':=HL2.out.trans (rF.out.trans hl);exact uU h.nm hm (EL.out.later hl') (HE.out.later hl' XC.out) vW (by omega) (HME.out.later hl (Nat.le_refl _)) HKN.out
  have nT:Hid (∀ W o c,Later pb w3 W->dQ X1 most pb W fm.2->en+1<=c->IU most pb fm.2.next W o (en+1) ((h.nm,.func bs #[] ls)::e) ((h.nm,km)::E)->Calls Tryd.prog 22 #[.pointer (some ⟨pb,0,none⟩),bP u kS kT d1u kU kV kW,.slice o (en+1) c] W (I8 X1 most pb W res)):=fun W o c hl hm hc hpk=>by
   have hl':=HL2.out.trans (rF.out.trans hl);have k:=IH.out 1 u qu KW.out W R X1 most pb fm.2 kS kT d1u kU kV kW o (en+1) c _ _ (jD AV.out HR.out HM.out hl') (eY AX.out HR.out HM.out hl') HR.out hm wS.out hpk.1 hc (by have:=XV.out;omega) hpk.2 Om.out.1 Om.out.2 XW.out (by rw [lT.out];exact uh.out);rw [lT.out] at k;exact k
  have xE:Hid (∀ (W:World) (n9:Nat) (o9:Option Addr) (c9:Nat),res.1=tv n9->dQ X1 most pb W res.2->Calls Tryd.prog 39 #[.pointer (some ⟨pb,0,none⟩),.agg #[.int .i64 1,.int .i64 mk.next,.slice oo 0 cc],.agg #[.int .i64 1,.int .i64 n9,.slice o9 0 c9],.agg #[.int .i64 h.fr,.int .i64 h.en]] W (I9 X1 most pb W fin)):=fun W n9 o9 c9 hr hmw=>by
   have k:=dM (o1:=oo) (l1:=0) (c1:=cc) (o2:=o9) (l2:=0) (c2:=c9) hmw wS.out (tv mk.next) (tv n9) h.fr h.en (aB.nil _ _ _) (aB.nil _ _ _) (Nat.le_of_ble_eq_true rfl) (Nat.le_of_ble_eq_true rfl);rw [<-hr,bF.out] at k;rw [hr] at k;exact k
  have hmk:=Bh.out;have hlc:=Later.refl hpb;obtain ⟨⟨a0,a1,a2,a3,a4,a5,a6,a7,a8⟩,⟨b0,b1,b2⟩,⟨v0,v1,v2,v3,v4,v5,v6,v7,v8⟩⟩:=bK.out w3 (Later.refl hpb);unfold bP at nT;clear cu gB ru;go_upto_region 17 with fail
  go_region_held3 (fun W=>(W.cell? ⟨B,0,none⟩=some (.int .i64 h.k)/\W.cell? ⟨B,1,none⟩=some (.string h.nm)/\W.cell? ⟨B,2,none⟩=some (.int .i64 h.n)/\W.cell? ⟨B,3,none⟩=some (.int .i64 h.tk)/\W.cell? ⟨B,4,none⟩=some (.int .i64 h.tn)/\W.cell? ⟨B,5,none⟩=some (.slice o1 l1 c1)/\W.cell? ⟨B,6,none⟩=some (.slice (some ⟨b9,aJ,none⟩) l2 c2)/\W.cell? ⟨B,7,none⟩=some (.int .i64 h.fr)/\W.cell? ⟨B,8,none⟩=some (.int .i64 h.en))/\(W.cell? ⟨C,0,none⟩=some (.int .i64 1)/\W.cell? ⟨C,1,none⟩=some (.int .i64 mk.next)/\W.cell? ⟨C,2,none⟩=some (.slice oo 0 cc))/\(W.cell? ⟨b9,aJ+9,none⟩=some (.int .i64 u.k)/\W.cell? ⟨b9,aJ+9+1,none⟩=some (.string u.nm)/\W.cell? ⟨b9,aJ+9+2,none⟩=some (.int .i64 u.n)/\W.cell? ⟨b9,aJ+9+3,none⟩=some (.int .i64 u.tk)/\W.cell? ⟨b9,aJ+9+4,none⟩=some (.int .i64 u.tn)/\W.cell? ⟨b9,aJ+9+5,none⟩=some (.slice kS kT d1u)/\W.cell? ⟨b9,aJ+9+6,none⟩=some (.slice kU kV kW)/\W.cell? ⟨b9,aJ+9+7,none⟩=some (.int .i64 u.fr)/\W.cell? ⟨b9,aJ+9+8,none⟩=some (.int .i64 u.en)))
   (((refine bK.out _ ?_);(repeat with_reducible first | exact hlc | exact Later.refl hpb | refine jm hpb ?_ | refine jo hpb ?_)))
   (first
    | (go_at_call 41;(with_reducible refine Calls.mono (XY.out _ ?hq ?hm) ?_);(case hq=>(repeat with_reducible first | exact hlc | exact Later.refl hpb | refine jm hpb ?_ | refine jo hpb ?_));(case hm=>(repeat with_reducible first | exact hmk | refine ja ?_ | refine jb ?_));rintro e wx ⟨wo,wc,rfl,hwc,hpk,fJ⟩;(refine lS (pb:=pb) (X:=X1) (most:=most) (k:=fm.2) (w0:=w3) ?hl2 ?hm2 fJ ?_);(case hl2=>(repeat with_reducible first | exact hlc | exact Later.refl hpb | refine jm hpb ?_ | refine jo hpb ?_));(case hm2=>(repeat with_reducible first | exact hmk | refine ja ?_ | refine jb ?_));intro hlc hmk)
    | ((go_at_call 22;(with_reducible refine Calls.mono (nT.out _ _ _ ?hq ?hm hwc ?hpz) ?_));(case hq=>(repeat with_reducible first | exact hlc | exact Later.refl hpb | refine jm hpb ?_ | refine jo hpb ?_));(case hm=>(repeat with_reducible first | exact hmk | refine ja ?_ | refine jb ?_));(case hpz=>(repeat (first | with_reducible exact hpk | ((with_reducible refine IU.st (X:=X1) (k:=fm.2) ?U5 (ah.alloc _ _) ?_);(case U5=>(repeat with_reducible first | exact hmk | refine ja ?_ | refine jb ?_))) | ((with_reducible refine IU.st (X:=X1) (k:=fm.2) ?U5 (ah.drew _) ?_);(case U5=>(repeat with_reducible first | exact hmk | refine ja ?_ | refine jb ?_))) | fail)));rintro e wx ⟨n9,o9,c9,qF,rfl,hmk,hlx⟩;unfold fG;(refine iQ (pb:=pb) (w0:=w3) ?hl2 hlx ?_);(case hl2=>(repeat with_reducible first | exact hlc | exact Later.refl hpb | refine jm hpb ?_ | refine jo hpb ?_));intro hlc)
    | ((go_at_call 39;(with_reducible refine Calls.mono (xE.out _ n9 _ _ qF ?hm) ?_));(case hm=>(repeat with_reducible first | exact hmk | refine ja ?_ | refine jb ?_));rintro e wx ⟨rfl,hmk,hlx⟩;(refine iQ (pb:=pb) (w0:=w3) ?hl2 hlx ?_);(case hl2=>(repeat with_reducible first | exact hlc | exact Later.refl hpb | refine jm hpb ?_ | refine jo hpb ?_));intro hlc)
    | fail)
  all_goals
   have Qw:=hid hmk;have IV:=hid (rF.out.trans hlc);clear hmk hlc;obtain ⟨g0,g1,g2,_,_,_⟩:=ay (H7.out.later IV.out).1;have hb6:=(RF.out.later IV.out).1;have vS:=hid hb6;obtain ⟨d0,d1,d2,y0,y1,y2⟩:=ay hb6;clear hb6;go_wp2_with fail;clear d0 d1 d2 y0 y1 y2;have hf:=aZ wx (B+1) (.int .i64 1) (.int .i64 mk.next) (.slice oo 0 cc);obtain ⟨f0,f1,f2⟩:=aV (a:=.int .i64 1) (b:=.int .i64 mk.next) (c:=.slice oo 0 cc) vS.out;change bodyPost _ _ _ _ _ (bf wx (B+1) (.int .i64 1) (.int .i64 mk.next) (.slice oo 0 cc));generalize bf wx (B+1) (.int .i64 1) (.int .i64 mk.next) (.slice oo 0 cc)=wf at *;refine bodyPost_ret (by simp [results,Tryd.results22,go_sem,f0,f1,f2];rfl) rfl ?_;have hp:pb < W.heap.size:=by rw [dV];exact HP.out
   refine ⟨mk.next,oo,cc,by rw [aQ.out],rfl,?_,(HL2.out.trans IV.out).put hf hp (fun i hi=>by omega)⟩;rw [aQ.out];exact (Qw.out.put (hf.mono (fun i _ e=>by rw [jR.out];exact Or.inr (by omega)))).less (fun i hi=>by rw [jR.out];exact Or.inl hi)
 ·have t2:(h.k == 2)=false:=by rw [hk];rfl
  have t3:(h.k == 3)=false:=by rw [hk];rfl
  have t1:(h.k == 1)=false:=by rw [hk];rfl
  have t4:(h.k == 4)=false:=by rw [hk];rfl
  have t6:(h.k == 6)=false:=by rw [hk];rfl
  have t7:(h.k == 7)=true:=by rw [hk];rfl
  have HK:=hid hk;clear hk;have adh:=hid xA.out;have adi:=hid AO.out;have hl2:2<=l2:=by rw [HS2.out.1];exact xA.out.2.2.2.2.1 HK.out
  have hi1:(1:Int) < l2:=by omega
  have hj1:1 < l2:=by omega
  obtain ⟨b9,aJ,u,qu,kS,kT,d1u,kU,kV,kW,e9,_,gu,ru,cu,su,tu⟩:=HS2.out.nth (i:=1) (by omega);subst e9;have gB:=HR.out b9 ru;have KW:=hid gu;have AV:=hid su;have AX:=hid tu;have XV:=hid (To.dG ps 1 u qu gu);have Om:=hid (fO ps 1 u qu qO.out gu);have XW:Hid (Sc.bM (h.nm::names e) u qu=[]):=by
   show _=_
   have k:=oC AO.out (by rw [HK.out];decide) gu
   rwa [rP _ _ (by rw [HK.out];rfl)] at k
  obtain ⟨fm,hfm⟩:∃ fm,firstM most h (bQ most ps) E { mk with next:=mk.next+1 }=fm:=⟨_,rfl⟩;obtain ⟨km,hkm⟩:∃ km,uf most h (bQ most ps) E { mk with next:=mk.next+1 }=km:=⟨_,rfl⟩;obtain ⟨res,hres⟩:∃ res,dw most u qu ((h.nm,km)::E) fm.2=res:=⟨_,rfl⟩;obtain ⟨fin,hfin⟩:∃ fin,(dh most (tv mk.next) res.1 h.fr h.en res.2).2=fin:=⟨_,rfl⟩;have aQ:Hid (dw most h ps E mk=(tv mk.next,fin)):=by show _=_;rw [xK.out,JW (by rw [HK.out];decide),yw KW.out,hkm,hfm,hres,hfin]
  have HKN:Hid (NM km):=by show NM km;rw [<-hkm];exact zx _ _ _ _ _
  have uh:Hid (res.2.next<=Aj):=by
   show _<=_
   have k:=yM.out;rw [aQ.out,<-hfin] at k;simpa only [rQ] using k
  have HFN:Hid (fm.2.next<=Aj):=by
   show _<=_
   have k:=(lQ most u qu ((h.nm,km)::E) (HE.out.ne.cons HKN.out) fm.2).1;rw [hres] at k;exact Nat.le_trans k uh.out
  have XC:Hid (mk.next<=fm.2.next):=by
   show _<=_
   have k:=(F9 most h ps HE.out.ne { mk with next:=mk.next+1 }).1;rw [hfm] at k;exact Nat.le_trans (Nat.le_succ _) k
  have tV:=hid hfm;have Z9:=hid hkm;have lT:=hid hres;have bF:=hid hfin;clear hres hfin hfm hkm gu su tu;have HBD:Hid (Calls Tryd.prog 43 #[.pointer (some ⟨pb,0,none⟩),bP h o1 l1 c1 (some ⟨b9,aJ,none⟩) l2 c2,.slice eo en ec] W2 (Ol X1 most pb W2 fm km)):=by
   have k:=UE h ps IH.out HK.out W2 R X1 most pb { mk with next:=mk.next+1 } o1 l1 c1 (some ⟨b9,aJ,none⟩) l2 c2 eo en ec e E (eY HS2.out HR.out HM.out HL2.out) HR.out Fe.out wS.out (EL.out.later HL2.out) vW hz (HE.out.later HL2.out (Nat.le_succ _)) xA.out qO.out AO.out (by rw [tV.out];exact HFN.out);rw [tV.out,Z9.out] at k;exact k
  unfold bP at HBD;go_wp2_with fail;refine HBD.out.mono ?_;rintro x w3 ⟨bs,ls,rfl,hme,nZ,hl3⟩;have Bh:=hid nZ;have rF:=hid hl3;have HME:=hid hme;have hpb:=nZ.lt;clear nZ hl3 hme a0 a1 a2 a3 a4 a5 a6 a7 a8 b0 b1 b2 q3;have bK:Hid (∀ W,Later pb w3 W->(qV W B h o1 l1 c1 (some ⟨b9,aJ,none⟩) l2 c2)/\(yB W C (.int .i64 1) (.int .i64 mk.next) (.slice oo 0 cc))/\(ES W b9 (aJ+9) u kS kT d1u kU kV kW)):=fun W' hl=>by
   have hl':=rF.out.trans hl;obtain ⟨k0,k1,k2,_⟩:=ay (H7.out.later hl').1;exact ⟨aA (U4.out.later hl').1,⟨k0,k1,k2⟩,eu cu gB HM.out (HL2.out.trans hl')⟩
  have XY:Hid (∀ W,Later pb w3 W->dQ X1 most pb W fm.2->Calls Tryd.prog 41 #[.slice eo en ec,.string h.nm,.func bs #[] ls] W (WtQ most pb fm.2.next W (en+1) ((h.nm,.func bs #[] ls)::e) ((h.nm,km)::E))):=fun W hl hm=>by
   have hl':=HL2.out.trans (rF.out.trans hl);exact uU h.nm hm (EL.out.later hl') (HE.out.later hl' XC.out) vW (by omega) (HME.out.later hl (Nat.le_refl _)) HKN.out
  have nT:Hid (∀ W o c,Later pb w3 W->dQ X1 most pb W fm.2->en+1<=c->IU most pb fm.2.next W o (en+1) ((h.nm,.func bs #[] ls)::e) ((h.nm,km)::E)->Calls Tryd.prog 22 #[.pointer (some ⟨pb,0,none⟩),bP u kS kT d1u kU kV kW,.slice o (en+1) c] W (I8 X1 most pb W res)):=fun W o c hl hm hc hpk=>by
   have hl':=HL2.out.trans (rF.out.trans hl);have k:=IH.out 1 u qu KW.out W R X1 most pb fm.2 kS kT d1u kU kV kW o (en+1) c _ _ (jD AV.out HR.out HM.out hl') (eY AX.out HR.out HM.out hl') HR.out hm wS.out hpk.1 hc (by have:=XV.out;omega) hpk.2 Om.out.1 Om.out.2 XW.out (by rw [lT.out];exact uh.out);rw [lT.out] at k;exact k
  have xE:Hid (∀ (W:World) (n9:Nat) (o9:Option Addr) (c9:Nat),res.1=tv n9->dQ X1 most pb W res.2->Calls Tryd.prog 39 #[.pointer (some ⟨pb,0,none⟩),.agg #[.int .i64 1,.int .i64 mk.next,.slice oo 0 cc],.agg #[.int .i64 1,.int .i64 n9,.slice o9 0 c9],.agg #[.int .i64 h.fr,.int .i64 h.en]] W (I9 X1 most pb W fin)):=fun W n9 o9 c9 hr hmw=>by
   have k:=dM (o1:=oo) (l1:=0) (c1:=cc) (o2:=o9) (l2:=0) (c2:=c9) hmw wS.out (tv mk.next) (tv n9) h.fr h.en (aB.nil _ _ _) (aB.nil _ _ _) (Nat.le_of_ble_eq_true rfl) (Nat.le_of_ble_eq_true rfl);rw [<-hr,bF.out] at k;rw [hr] at k;exact k
  have hmk:=Bh.out;have hlc:=Later.refl hpb;obtain ⟨⟨a0,a1,a2,a3,a4,a5,a6,a7,a8⟩,⟨b0,b1,b2⟩,⟨v0,v1,v2,v3,v4,v5,v6,v7,v8⟩⟩:=bK.out w3 (Later.refl hpb);unfold bP at nT;clear cu gB ru;go_upto_region 17 with fail
  go_region_held3 (fun W=>(W.cell? ⟨B,0,none⟩=some (.int .i64 h.k)/\W.cell? ⟨B,1,none⟩=some (.string h.nm)/\W.cell? ⟨B,2,none⟩=some (.int .i64 h.n)/\W.cell? ⟨B,3,none⟩=some (.int .i64 h.tk)/\W.cell? ⟨B,4,none⟩=some (.int .i64 h.tn)/\W.cell? ⟨B,5,none⟩=some (.slice o1 l1 c1)/\W.cell? ⟨B,6,none⟩=some (.slice (some ⟨b9,aJ,none⟩) l2 c2)/\W.cell? ⟨B,7,none⟩=some (.int .i64 h.fr)/\W.cell? ⟨B,8,none⟩=some (.int .i64 h.en))/\(W.cell? ⟨C,0,none⟩=some (.int .i64 1)/\W.cell? ⟨C,1,none⟩=some (.int .i64 mk.next)/\W.cell? ⟨C,2,none⟩=some (.slice oo 0 cc))/\(W.cell? ⟨b9,aJ+9,none⟩=some (.int .i64 u.k)/\W.cell? ⟨b9,aJ+9+1,none⟩=some (.string u.nm)/\W.cell? ⟨b9,aJ+9+2,none⟩=some (.int .i64 u.n)/\W.cell? ⟨b9,aJ+9+3,none⟩=some (.int .i64 u.tk)/\W.cell? ⟨b9,aJ+9+4,none⟩=some (.int .i64 u.tn)/\W.cell? ⟨b9,aJ+9+5,none⟩=some (.slice kS kT d1u)/\W.cell? ⟨b9,aJ+9+6,none⟩=some (.slice kU kV kW)/\W.cell? ⟨b9,aJ+9+7,none⟩=some (.int .i64 u.fr)/\W.cell? ⟨b9,aJ+9+8,none⟩=some (.int .i64 u.en)))
   (((refine bK.out _ ?_);(repeat with_reducible first | exact hlc | exact Later.refl hpb | refine jm hpb ?_ | refine jo hpb ?_)))
   (first
    | (go_at_call 41;(with_reducible refine Calls.mono (XY.out _ ?hq ?hm) ?_);(case hq=>(repeat with_reducible first | exact hlc | exact Later.refl hpb | refine jm hpb ?_ | refine jo hpb ?_));(case hm=>(repeat with_reducible first | exact hmk | refine ja ?_ | refine jb ?_));rintro e wx ⟨wo,wc,rfl,hwc,hpk,fJ⟩;(refine lS (pb:=pb) (X:=X1) (most:=most) (k:=fm.2) (w0:=w3) ?hl2 ?hm2 fJ ?_);(case hl2=>(repeat with_reducible first | exact hlc | exact Later.refl hpb | refine jm hpb ?_ | refine jo hpb ?_));(case hm2=>(repeat with_reducible first | exact hmk | refine ja ?_ | refine jb ?_));intro hlc hmk)
    | ((go_at_call 22;(with_reducible refine Calls.mono (nT.out _ _ _ ?hq ?hm hwc ?hpz) ?_));(case hq=>(repeat with_reducible first | exact hlc | exact Later.refl hpb | refine jm hpb ?_ | refine jo hpb ?_));(case hm=>(repeat with_reducible first | exact hmk | refine ja ?_ | refine jb ?_));(case hpz=>(repeat (first | with_reducible exact hpk | ((with_reducible refine IU.st (X:=X1) (k:=fm.2) ?U5 (ah.alloc _ _) ?_);(case U5=>(repeat with_reducible first | exact hmk | refine ja ?_ | refine jb ?_))) | ((with_reducible refine IU.st (X:=X1) (k:=fm.2) ?U5 (ah.drew _) ?_);(case U5=>(repeat with_reducible first | exact hmk | refine ja ?_ | refine jb ?_))) | fail)));rintro e wx ⟨n9,o9,c9,qF,rfl,hmk,hlx⟩;unfold fG;(refine iQ (pb:=pb) (w0:=w3) ?hl2 hlx ?_);(case hl2=>(repeat with_reducible first | exact hlc | exact Later.refl hpb | refine jm hpb ?_ | refine jo hpb ?_));intro hlc)
    | ((go_at_call 39;(with_reducible refine Calls.mono (xE.out _ n9 _ _ qF ?hm) ?_));(case hm=>(repeat with_reducible first | exact hmk | refine ja ?_ | refine jb ?_));rintro e wx ⟨rfl,hmk,hlx⟩;(refine iQ (pb:=pb) (w0:=w3) ?hl2 hlx ?_);(case hl2=>(repeat with_reducible first | exact hlc | exact Later.refl hpb | refine jm hpb ?_ | refine jo hpb ?_));intro hlc)
    | fail)
  all_goals
   have Qw:=hid hmk;have IV:=hid (rF.out.trans hlc);clear hmk hlc;obtain ⟨g0,g1,g2,_,_,_⟩:=ay (H7.out.later IV.out).1;have hb6:=(RF.out.later IV.out).1;have vS:=hid hb6;obtain ⟨d0,d1,d2,y0,y1,y2⟩:=ay hb6;clear hb6;go_wp2_with fail;clear d0 d1 d2 y0 y1 y2;have hf:=aZ wx (B+1) (.int .i64 1) (.int .i64 mk.next) (.slice oo 0 cc);obtain ⟨f0,f1,f2⟩:=aV (a:=.int .i64 1) (b:=.int .i64 mk.next) (c:=.slice oo 0 cc) vS.out;change bodyPost _ _ _ _ _ (bf wx (B+1) (.int .i64 1) (.int .i64 mk.next) (.slice oo 0 cc));generalize bf wx (B+1) (.int .i64 1) (.int .i64 mk.next) (.slice oo 0 cc)=wf at *;refine bodyPost_ret (by simp [results,Tryd.results22,go_sem,f0,f1,f2];rfl) rfl ?_;have hp:pb < W.heap.size:=by rw [dV];exact HP.out
   refine ⟨mk.next,oo,cc,by rw [aQ.out],rfl,?_,(HL2.out.trans IV.out).put hf hp (fun i hi=>by omega)⟩;rw [aQ.out];exact (Qw.out.put (hf.mono (fun i _ e=>by rw [jR.out];exact Or.inr (by omega)))).less (fun i hi=>by rw [jR.out];exact Or.inl hi)
 ·have t2:(h.k == 2)=false:=by rw [hk];rfl
  have t3:(h.k == 3)=false:=by rw [hk];rfl
  have t1:(h.k == 1)=false:=by rw [hk];rfl
  have t4:(h.k == 4)=false:=by rw [hk];rfl
  have t6:(h.k == 6)=false:=by rw [hk];rfl
  have t7:(h.k == 7)=false:=by rw [hk];rfl
  have t5:(h.k == 5)=false:=by rw [hk];rfl
  have t8:(h.k == 8)=true:=by rw [hk];rfl
  have HK:=hid hk;clear hk;have WI:Hid (∀ j g qs,ps.get j=some (g,qs)->Sc.bM (names e) g qs=[]):=fun j g qs hg=>by
   have k:=oC AO.out (by rw [HK.out];decide) hg
   rwa [o7 _ _ (by rw [HK.out];exact uV (by decide) (by decide) (by decide) j)] at k
  obtain ⟨res,hres⟩:∃ res,jw E (bQ most ps) { mk with next:=mk.next+1 }=res:=⟨_,rfl⟩;obtain ⟨fin,hfin⟩:∃ fin,(dh most (tv mk.next) (qL res.1 2) (aH ps 2).1 (aH ps 2).2 (dh most (tv mk.next) (qL res.1 1) (aH ps 1).1 (aH ps 1).2 (dh most (qL res.1 0) (3,0,.nil) (aH ps 0).1 (aH ps 0).2 res.2).2).2).2=fin:=⟨_,rfl⟩;have aQ:Hid (dw most h ps E mk=(tv mk.next,fin)):=by show _=_;rw [xK.out,XQ HK.out,hres,hfin]
  have EH:Hid (res.1.length=l2):=by show _=_;rw [<-hres,kR,jK,HS2.out.1]
  have uh:Hid (res.2.next<=Aj):=by
   show _<=_
   have k:=yM.out;rw [aQ.out] at k;rw [<-hfin] at k;simpa only [rQ] using k
  have lT:=hid hres;have bF:=hid hfin;have hl2:3<=l2:=by rw [HS2.out.1];exact xA.out.2.2.2.2.2.1 HK.out
  have hi0:(0:Int) < l2:=by omega
  have hj0:0 < l2:=by omega
  have hj1:2<=l2->1 < l2:=by omega
  have hj2:3<=l2->2 < l2:=by omega
  have hi1:2<=l2->(1:Int) < l2:=by omega
  have hi2:3<=l2->(2:Int) < l2:=by omega
  have hlz:l2<=100000:=by have:=To.length_le ps;have:=HS2.out.1;omega
  clear hres hfin;have Ey:Hid (∀ W,Later pb W2 W->dQ X1 most pb W { mk with next:=mk.next+1 }->Calls Tryd.prog 44 #[.pointer (some ⟨pb,0,none⟩),bP h o1 l1 c1 o2 l2 c2,.slice eo en ec] W (PtQ X1 most pb W res)):=fun W' hl hmw=>by
   have hl':=HL2.out.trans hl;have k:=uT h ps IH.out W' R X1 most pb { mk with next:=mk.next+1 } o1 l1 c1 o2 l2 c2 eo en ec e E (eY HS2.out HR.out HM.out hl') HR.out hmw wS.out (EL.out.later hl') vW hz (HE.out.later hl' (Nat.le_succ _)) qO.out WI.out (by rw [lT.out];exact uh.out);rw [lT.out] at k;exact k
  unfold bP at Ey;obtain ⟨b9,aJ,u,qu,kS,kT,d1u,kU,kV,kW,e9,_,gu,ru,cu,_,tu⟩:=HS2.out.nth (i:=0) (by omega);subst e9;have gB:=HR.out b9 ru;have hsp:aH ps 0=(u.fr,u.en):=by unfold aH;rw [gu]
  obtain ⟨b9',J5,u1,qu1,adZ,ad1,ad2,ad3,ad4,ad5,e9,_,gu1,_,cu1,_,_⟩:=HS2.out.nth (i:=1) (by omega);obtain ⟨rfl,rfl⟩:b9=b9'/\aJ=J5:=by cases e9;exact ⟨rfl,rfl⟩
  obtain ⟨b9',J5,u2,qu2,ad6,ad7,ad8,ad9,aea,aeb,e9',_,gu2,_,cu2,_,_⟩:=HS2.out.nth (i:=2) (by omega);obtain ⟨rfl,rfl⟩:b9=b9'/\aJ=J5:=by cases e9';exact ⟨rfl,rfl⟩
  have hsp1:aH ps 1=(u1.fr,u1.en):=by unfold aH;rw [gu1]
  have hsp2:aH ps 2=(u2.fr,u2.en):=by unfold aH;rw [gu2]
  go_wp2_with fail;refine (Ey.out _ (Later.refl HP2.out) Fe.out).mono ?_;rintro x w3 ⟨o,c,rfl,hcl,hpt,nZ,hl3⟩;clear a0 a1 a2 a3 a4 a5 a6 a7 a8 b0 b1 b2 q3;obtain ⟨gp,n0,wU,n0c,rfl,IW,DJ,n01,n02⟩:=hpt.get (i:=0) (by rw [EH.out];omega);obtain ⟨gp1,n1,QE,n1c,e1,U6,n10,n11,n12⟩:=hpt.get (i:=1) (by rw [EH.out];omega);obtain rfl:gp=gp1:=by cases e1;rfl
  obtain ⟨gp2,n2,n2o,n2c,e2,n2t,n20,n21,n22⟩:=hpt.get (i:=2) (by rw [EH.out];omega);obtain rfl:gp=gp2:=by cases e2;rfl
  have hgt:=hpt.tf rfl (by rw [EH.out];omega);rw [EH.out];have Bh:=hid nZ;have rF:=hid hl3;obtain ⟨KZ,lg⟩:∃ KZ,(dh most (tv n0) (3,0,.nil) u.fr u.en res.2).2=KZ:=⟨_,rfl⟩;obtain ⟨mkb,aaf⟩:∃ mkb,(dh most (tv mk.next) (tv n1) u1.fr u1.en KZ).2=mkb:=⟨_,rfl⟩;have U7:Hid ((dh most (tv mk.next) (tv n2) u2.fr u2.en mkb).2=fin):=by show _=_;rw [<-aaf,<-lg,<-bF.out,hsp,hsp1,hsp2,IW,U6,n2t]
  have HA:=hid lg;have HB:=hid aaf;have bK:Hid (∀ W,Later pb w3 W->(qV W B h o1 l1 c1 (some ⟨b9,aJ,none⟩) l2 c2)/\(yB W C (.int .i64 1) (.int .i64 mk.next) (.slice oo 0 cc))/\(yB W gp (.int .i64 1) (.int .i64 n0) (.slice wU 0 n0c))/\(W.cell? ⟨gp,3,none⟩=some (.int .i64 1)/\W.cell? ⟨gp,4,none⟩=some (.int .i64 n1)/\W.cell? ⟨gp,5,none⟩=some (.slice QE 0 n1c))/\(W.cell? ⟨gp,6,none⟩=some (.int .i64 1)/\W.cell? ⟨gp,7,none⟩=some (.int .i64 n2)/\W.cell? ⟨gp,8,none⟩=some (.slice n2o 0 n2c))/\(W.cell? ⟨b9,aJ+7,none⟩=some (.int .i64 u.fr)/\W.cell? ⟨b9,aJ+8,none⟩=some (.int .i64 u.en))/\(W.cell? ⟨b9,aJ+16,none⟩=some (.int .i64 u1.fr)/\W.cell? ⟨b9,aJ+17,none⟩=some (.int .i64 u1.en))/\(W.cell? ⟨b9,aJ+25,none⟩=some (.int .i64 u2.fr)/\W.cell? ⟨b9,aJ+26,none⟩=some (.int .i64 u2.en))):=fun W' hl=>by
   have hl':=rF.out.trans hl;obtain ⟨k0,k1,k2,_⟩:=ay (H7.out.later hl').1;obtain ⟨_,_,_,_,_,_,_,f7,f8⟩:=eu cu gB HM.out (HL2.out.trans hl');obtain ⟨_,_,_,_,_,_,_,f7',f8'⟩:=eu cu1 gB HM.out (HL2.out.trans hl');obtain ⟨_,_,_,_,_,_,_,adk,adl⟩:=eu cu2 gB HM.out (HL2.out.trans hl');exact ⟨aA (U4.out.later hl').1,⟨k0,k1,k2⟩,⟨cell_later hgt hl DJ,cell_later hgt hl n01,cell_later hgt hl n02⟩,⟨cell_later hgt hl n10,cell_later hgt hl n11,cell_later hgt hl n12⟩,⟨cell_later hgt hl n20,cell_later hgt hl n21,cell_later hgt hl n22⟩,⟨f7,f8⟩,⟨f7',f8'⟩,⟨adk,adl⟩⟩
  have X0:Hid (∀ W,dQ X1 most pb W res.2->Calls Tryd.prog 39 #[.pointer (some ⟨pb,0,none⟩),.agg #[.int .i64 1,.int .i64 n0,.slice wU 0 n0c],.agg #[.int .i64 3,.int .i64 0,.slice none 0 0],.agg #[.int .i64 u.fr,.int .i64 u.en]] W (I9 X1 most pb W KZ)):=fun W hmw=>by
   have k:=dM (o1:=wU) (l1:=0) (c1:=n0c) (o2:=none) (l2:=0) (c2:=0) hmw wS.out (tv n0) (3,0,.nil) u.fr u.en (aB.nil _ _ _) (aB.nil _ _ _) (Nat.le_of_ble_eq_true rfl) (Nat.le_of_ble_eq_true rfl);rw [HA.out] at k;exact k
  have aag:Hid (∀ W,dQ X1 most pb W KZ->Calls Tryd.prog 39 #[.pointer (some ⟨pb,0,none⟩),.agg #[.int .i64 1,.int .i64 mk.next,.slice oo 0 cc],.agg #[.int .i64 1,.int .i64 n1,.slice QE 0 n1c],.agg #[.int .i64 u1.fr,.int .i64 u1.en]] W (I9 X1 most pb W mkb)):=fun W hmw=>by
   have k:=dM (o1:=oo) (l1:=0) (c1:=cc) (o2:=QE) (l2:=0) (c2:=n1c) hmw wS.out (tv mk.next) (tv n1) u1.fr u1.en (aB.nil _ _ _) (aB.nil _ _ _) (Nat.le_of_ble_eq_true rfl) (Nat.le_of_ble_eq_true rfl);rw [HB.out] at k;exact k
  have adn:Hid (∀ W,dQ X1 most pb W mkb->Calls Tryd.prog 39 #[.pointer (some ⟨pb,0,none⟩),.agg #[.int .i64 1,.int .i64 mk.next,.slice oo 0 cc],.agg #[.int .i64 1,.int .i64 n2,.slice n2o 0 n2c],.agg #[.int .i64 u2.fr,.int .i64 u2.en]] W (I9 X1 most pb W fin)):=fun W hmw=>by
   have k:=dM (o1:=oo) (l1:=0) (c1:=cc) (o2:=n2o) (l2:=0) (c2:=n2c) hmw wS.out (tv mk.next) (tv n2) u2.fr u2.en (aB.nil _ _ _) (aB.nil _ _ _) (Nat.le_of_ble_eq_true rfl) (Nat.le_of_ble_eq_true rfl);rw [U7.out] at k;exact k
  replace hi1:=hi1 (by omega);replace hi2:=hi2 hl2;replace hj1:=hj1 (by omega);replace hj2:=hj2 hl2;have hpb:=nZ.lt;obtain ⟨⟨a0,a1,a2,a3,a4,a5,a6,a7,a8⟩,⟨b0,b1,b2⟩,⟨p0,p1,p2⟩,⟨p3,p4,p5⟩,⟨p6,p7,p8⟩,⟨f0,f1⟩,⟨f2,f3⟩,⟨f4,f5⟩⟩:=bK.out w3 (Later.refl hpb);clear hpt nZ hl3 hgt IW U6 n2t lg aaf hsp hsp1 hsp2 gB cu cu1 cu2 tu gu gu1 gu2 ru DJ n01 n02 n10 n11 n12 n20 n21 n22;go_upto_region 23 with fail
  refine wp_region_still_tail 10 (by kernel_rfl) (by kernel_rfl) ?_;simp only [List.take_succ_cons,List.take_zero,List.drop_succ_cons,List.drop_zero];change wpStill _ _ (World.drew w3) _ _ _
  repeat still_step
  refine wpStill_nil ?_;change wpList _ _ _ _ _ (World.drew w3);go_wp2_with fail;refine (X0.out _ (Bh.out.stay (ah.drew _))).mono ?_;rintro x w4 ⟨rfl,hm4,hl4⟩;have KY:=hid hm4;have Ag:=hid ((Later.aS (ah.drew w3) hpb).trans hl4);clear hm4 hl4;clear a0 a1 a2 a3 a4 a5 a6 a7 a8 b0 b1 b2 p0 p1 p2 p3 p4 p5 p6 p7 p8 f0 f1 f2 f3 f4 f5;obtain ⟨⟨a0,a1,a2,a3,a4,a5,a6,a7,a8⟩,⟨b0,b1,b2⟩,⟨p0,p1,p2⟩,⟨p3,p4,p5⟩,⟨p6,p7,p8⟩,⟨f0,f1⟩,⟨f2,f3⟩,⟨f4,f5⟩⟩:=bK.out w4 Ag.out;go_upto_region 24 with fail
  refine wp_region_still_tail 10 (by kernel_rfl) (by kernel_rfl) ?_;simp only [List.take_succ_cons,List.take_zero,List.drop_succ_cons,List.drop_zero];change wpStill _ _ (World.drew w4) _ _ _
  repeat still_step
  refine wpStill_nil ?_;change wpList _ _ _ _ _ (World.drew w4);go_wp2_with fail;refine (aag.out _ (KY.out.stay (ah.drew _))).mono ?_;rintro x w5 ⟨rfl,Eu,hl5⟩;have KX:=hid Eu;have WO:=hid (Ag.out.trans ((Later.aS (ah.drew w4) KY.out.lt).trans hl5));clear Eu hl5;clear a0 a1 a2 a3 a4 a5 a6 a7 a8 b0 b1 b2 p0 p1 p2 p3 p4 p5 p6 p7 p8 f0 f1 f2 f3 f4 f5;obtain ⟨⟨a0,a1,a2,a3,a4,a5,a6,a7,a8⟩,⟨b0,b1,b2⟩,⟨p0,p1,p2⟩,⟨p3,p4,p5⟩,⟨p6,p7,p8⟩,⟨f0,f1⟩,⟨f2,f3⟩,⟨f4,f5⟩⟩:=bK.out w5 WO.out;go_upto_region 25 with fail
  refine wp_region_still_tail 10 (by kernel_rfl) (by kernel_rfl) ?_;simp only [List.take_succ_cons,List.take_zero,List.drop_succ_cons,List.drop_zero];change wpStill _ _ (World.drew w5) _ _ _
  repeat still_step
  refine wpStill_nil ?_;change wpList _ _ _ _ _ (World.drew w5);go_wp2_with fail;refine (adn.out _ (KX.out.stay (ah.drew _))).mono ?_;rintro x w6 ⟨rfl,hm6,YO⟩;have HM6:=hid hm6;have HL6:=hid (rF.out.trans (WO.out.trans ((Later.aS (ah.drew w5) KX.out.lt).trans YO)));clear hm6 YO a0 a1 a2 a3 a4 a5 a6 a7 a8 b0 b1 b2 p0 p1 p2 p3 p4 p5 p6 p7 p8 f0 f1 f2 f3 f4 f5;obtain ⟨g0,g1,g2,_,_,_⟩:=ay (H7.out.later HL6.out).1;have hb6:=(RF.out.later HL6.out).1;have vS:=hid hb6;obtain ⟨d0,d1,d2,y0,y1,y2⟩:=ay hb6;clear hb6;go_wp2_with fail;clear d0 d1 d2 y0 y1 y2;have hf:=aZ w6 (B+1) (.int .i64 1) (.int .i64 mk.next) (.slice oo 0 cc);obtain ⟨f0,f1,f2⟩:=aV (a:=.int .i64 1) (b:=.int .i64 mk.next) (c:=.slice oo 0 cc) vS.out;change bodyPost _ _ _ _ _ (bf w6 (B+1) (.int .i64 1) (.int .i64 mk.next) (.slice oo 0 cc));generalize bf w6 (B+1) (.int .i64 1) (.int .i64 mk.next) (.slice oo 0 cc)=wf at *;refine bodyPost_ret (by simp [results,Tryd.results22,go_sem,f0,f1,f2];rfl) rfl ?_;have hp:pb < W.heap.size:=by rw [dV];exact HP.out
  refine ⟨mk.next,oo,cc,by rw [aQ.out],rfl,?_,(HL2.out.trans HL6.out).put hf hp (fun i hi=>by omega)⟩;rw [aQ.out];exact (HM6.out.put (hf.mono (fun i _ e=>by rw [jR.out];exact Or.inr (by omega)))).less (fun i hi=>by rw [jR.out];exact Or.inl hi)
 ·have t2:(h.k == 2)=false:=by rw [hk];rfl
  have t3:(h.k == 3)=false:=by rw [hk];rfl
  have t1:(h.k == 1)=false:=by rw [hk];rfl
  have t4:(h.k == 4)=false:=by rw [hk];rfl
  have t6:(h.k == 6)=false:=by rw [hk];rfl
  have t7:(h.k == 7)=false:=by rw [hk];rfl
  have t5:(h.k == 5)=false:=by rw [hk];rfl
  have t8:(h.k == 8)=false:=by rw [hk];rfl
  have t9:(h.k == 9)=true:=by rw [hk];rfl
  have HK:=hid hk;clear hk;have WI:Hid (∀ j g qs,ps.get j=some (g,qs)->Sc.bM (names e) g qs=[]):=fun j g qs hg=>by
   have k:=oC AO.out (by rw [HK.out];decide) hg
   rwa [o7 _ _ (by rw [HK.out];exact uV (by decide) (by decide) (by decide) j)] at k
  obtain ⟨res,hres⟩:∃ res,jw E (bQ most ps) { mk with next:=mk.next+1 }=res:=⟨_,rfl⟩;obtain ⟨fin,hfin⟩:∃ fin,(dh most (tv mk.next) (5,0,jy res.1) h.fr h.en res.2).2=fin:=⟨_,rfl⟩;have aQ:Hid (dw most h ps E mk=(tv mk.next,fin)):=by show _=_;rw [xK.out,MK HK.out,hres,hfin]
  have EH:Hid (res.1.length=l2):=by show _=_;rw [<-hres,kR,jK,HS2.out.1]
  have uh:Hid (res.2.next<=Aj):=by
   show _<=_
   have k:=yM.out;rw [aQ.out] at k;rw [<-hfin] at k;simpa only [rQ] using k
  have lT:=hid hres;have bF:=hid hfin;have hlz:l2<=100000:=by have:=To.length_le ps;have:=HS2.out.1;omega
  clear hres hfin;have Ey:Hid (∀ W,Later pb W2 W->dQ X1 most pb W { mk with next:=mk.next+1 }->Calls Tryd.prog 44 #[.pointer (some ⟨pb,0,none⟩),bP h o1 l1 c1 o2 l2 c2,.slice eo en ec] W (PtQ X1 most pb W res)):=fun W' hl hmw=>by
   have hl':=HL2.out.trans hl;have k:=uT h ps IH.out W' R X1 most pb { mk with next:=mk.next+1 } o1 l1 c1 o2 l2 c2 eo en ec e E (eY HS2.out HR.out HM.out hl') HR.out hmw wS.out (EL.out.later hl') vW hz (HE.out.later hl' (Nat.le_succ _)) qO.out WI.out (by rw [lT.out];exact uh.out);rw [lT.out] at k;exact k
  have HPU:Hid (∀ W,Later pb W2 W->dQ X1 most pb W { mk with next:=mk.next+1 }->Calls Tryd.prog 44 #[.pointer (some ⟨pb,0,none⟩),bP h o1 l1 c1 o2 l2 c2,.slice eo en ec] W (TpQ X1 most pb W l2 res)):=fun W hl hmw=>(Ey.out W hl hmw).mono (by
   rintro x w' ⟨o,c,rfl,hcl,hpt,nZ,hl3⟩;have hs:=hpt.slc;rw [EH.out] at hs ⊢;exact ⟨o,c,rfl,hs,by rw [hpt.size,EH.out];exact hlz,nZ,hl3⟩)
  unfold bP at HPU;have xE:Hid (∀ (W:World) (o4:Option Addr) (c4:Nat),dQ X1 most pb W res.2->aB (TF X1 pb W) W o4 l2 (jy res.1)->(jy res.1).size<=100000->Calls Tryd.prog 39 #[.pointer (some ⟨pb,0,none⟩),.agg #[.int .i64 1,.int .i64 mk.next,.slice oo 0 cc],.agg #[.int .i64 5,.int .i64 0,.slice o4 l2 c4],.agg #[.int .i64 h.fr,.int .i64 h.en]] W (I9 X1 most pb W fin)):=fun W o4 c4 hmw hs hz5=>by
   have k:=dM (o1:=oo) (l1:=0) (c1:=cc) (c2:=c4) hmw wS.out (tv mk.next) (5,0,jy res.1) h.fr h.en (aB.nil _ _ _) hs (Nat.le_of_ble_eq_true rfl) hz5;rw [bF.out] at k;exact k
  have bK:Hid (∀ W,Later pb W2 W->(qV W B h o1 l1 c1 o2 l2 c2)/\(yB W C (.int .i64 1) (.int .i64 mk.next) (.slice oo 0 cc))):=fun W hl=>by
   obtain ⟨k0,k1,k2,_⟩:=ay (H7.out.later hl).1;exact ⟨aA (U4.out.later hl).1,⟨k0,k1,k2⟩⟩
  have hpb:=HP2.out;have hmk:=Fe.out;have hlc:=Later.refl hpb;go_upto_region 27 with fail
  go_region_held3 (fun W=>(W.cell? ⟨B,0,none⟩=some (.int .i64 h.k)/\W.cell? ⟨B,1,none⟩=some (.string h.nm)/\W.cell? ⟨B,2,none⟩=some (.int .i64 h.n)/\W.cell? ⟨B,3,none⟩=some (.int .i64 h.tk)/\W.cell? ⟨B,4,none⟩=some (.int .i64 h.tn)/\W.cell? ⟨B,5,none⟩=some (.slice o1 l1 c1)/\W.cell? ⟨B,6,none⟩=some (.slice o2 l2 c2)/\W.cell? ⟨B,7,none⟩=some (.int .i64 h.fr)/\W.cell? ⟨B,8,none⟩=some (.int .i64 h.en))/\(W.cell? ⟨C,0,none⟩=some (.int .i64 1)/\W.cell? ⟨C,1,none⟩=some (.int .i64 mk.next)/\W.cell? ⟨C,2,none⟩=some (.slice oo 0 cc)))
   (((refine bK.out _ ?_);(repeat with_reducible first | exact hlc | exact Later.refl hpb | refine jm hpb ?_ | refine jo hpb ?_)))
   (first
    | ((go_at_call 44;(with_reducible refine Calls.mono (HPU.out _ ?hq ?hm) ?_));(case hq=>(repeat with_reducible first | exact hlc | exact Later.refl hpb | refine jm hpb ?_ | refine jo hpb ?_));(case hm=>(repeat with_reducible first | exact hmk | refine ja ?_ | refine jb ?_));rintro e wx ⟨o4,c4,rfl,hs4,Rx,hmk,hlx⟩;(refine iQ (pb:=pb) (w0:=W2) ?hl2 hlx ?_);(case hl2=>(repeat with_reducible first | exact hlc | exact Later.refl hpb | refine jm hpb ?_ | refine jo hpb ?_));intro hlc)
    | ((go_at_call 39;(with_reducible refine Calls.mono (xE.out _ _ _ ?hm ?hs1 Rx) ?_));(case hm=>(repeat with_reducible first | exact hmk | refine ja ?_ | refine jb ?_));(case hs1=>(repeat (first | with_reducible exact hs4 | ((with_reducible refine jC (pb:=pb) (X:=X1) (most:=most) (k:=res.2) ?wR (ah.alloc _ _) ?_);(case wR=>(repeat with_reducible first | exact hmk | refine ja ?_ | refine jb ?_))) | ((with_reducible refine jC (pb:=pb) (X:=X1) (most:=most) (k:=res.2) ?wR (ah.drew _) ?_);(case wR=>(repeat with_reducible first | exact hmk | refine ja ?_ | refine jb ?_))) | fail)));rintro e wx ⟨rfl,hmk,hlx⟩;(refine iQ (pb:=pb) (w0:=W2) ?hl2 hlx ?_);(case hl2=>(repeat with_reducible first | exact hlc | exact Later.refl hpb | refine jm hpb ?_ | refine jo hpb ?_));intro hlc)
    | fail)
  all_goals
   have KY:=hid hmk;have Ag:=hid hlc;clear hmk hlc;obtain ⟨g0,g1,g2,_,_,_⟩:=ay (H7.out.later Ag.out).1;have hb6:=(RF.out.later Ag.out).1;have vS:=hid hb6;obtain ⟨d0,d1,d2,y0,y1,y2⟩:=ay hb6;clear hb6;go_wp2_with fail;clear d0 d1 d2 y0 y1 y2;have hf:=aZ wx (B+1) (.int .i64 1) (.int .i64 mk.next) (.slice oo 0 cc);obtain ⟨f0,f1,f2⟩:=aV (a:=.int .i64 1) (b:=.int .i64 mk.next) (c:=.slice oo 0 cc) vS.out;change bodyPost _ _ _ _ _ (bf wx (B+1) (.int .i64 1) (.int .i64 mk.next) (.slice oo 0 cc));generalize bf wx (B+1) (.int .i64 1) (.int .i64 mk.next) (.slice oo 0 cc)=wf at *;refine bodyPost_ret (by simp [results,Tryd.results22,go_sem,f0,f1,f2];rfl) rfl ?_;have hp:pb < W.heap.size:=by rw [dV];exact HP.out
   refine ⟨mk.next,oo,cc,by rw [aQ.out],rfl,?_,(HL2.out.trans Ag.out).put hf hp (fun i hi=>by omega)⟩;rw [aQ.out];exact (KY.out.put (hf.mono (fun i _ e=>by rw [jR.out];exact Or.inr (by omega)))).less (fun i hi=>by rw [jR.out];exact Or.inl hi)
 ·have t2:(h.k == 2)=false:=by rw [hk];rfl
  have t3:(h.k == 3)=false:=by rw [hk];rfl
  have t1:(h.k == 1)=false:=by rw [hk];rfl
  have t4:(h.k == 4)=false:=by rw [hk];rfl
  have t6:(h.k == 6)=false:=by rw [hk];rfl
  have t7:(h.k == 7)=false:=by rw [hk];rfl
  have t5:(h.k == 5)=false:=by rw [hk];rfl
  have t8:(h.k == 8)=false:=by rw [hk];rfl
  have t9:(h.k == 9)=false:=by rw [hk];rfl
  have t10:(h.k == 10)=true:=by rw [hk];rfl
  have HK:=hid hk;clear hk;have WI:Hid (∀ j g qs,ps.get j=some (g,qs)->Sc.bM (names e) g qs=[]):=fun j g qs hg=>by
   have k:=oC AO.out (by rw [HK.out];decide) hg
   rwa [o7 _ _ (by rw [HK.out];exact uV (by decide) (by decide) (by decide) j)] at k
  obtain ⟨res,hres⟩:∃ res,jw E (bQ most ps) { mk with next:=mk.next+1 }=res:=⟨_,rfl⟩;obtain ⟨fin,hfin⟩:∃ fin,(dh most (tv mk.next) (h.tk,h.tn,h.tp) h.fr h.en (dh most (qL res.1 0) (h.tk,h.tn,h.tp) (aH ps 0).1 (aH ps 0).2 res.2).2).2=fin:=⟨_,rfl⟩;have aQ:Hid (dw most h ps E mk=(tv mk.next,fin)):=by show _=_;rw [xK.out,Uw HK.out,hres,hfin]
  have EH:Hid (res.1.length=l2):=by show _=_;rw [<-hres,kR,jK,HS2.out.1]
  have uh:Hid (res.2.next<=Aj):=by
   show _<=_
   have k:=yM.out;rw [aQ.out] at k;rw [<-hfin] at k;simpa only [rQ] using k
  have lT:=hid hres;have bF:=hid hfin;have hl2:1<=l2:=by rw [HS2.out.1];exact xA.out.2.2.2.2.2.2.1 HK.out
  have hi0:(0:Int) < l2:=by omega
  have hj0:0 < l2:=by omega
  have hlz:l2<=100000:=by have:=To.length_le ps;have:=HS2.out.1;omega
  clear hres hfin;have Ey:Hid (∀ W,Later pb W2 W->dQ X1 most pb W { mk with next:=mk.next+1 }->Calls Tryd.prog 44 #[.pointer (some ⟨pb,0,none⟩),bP h o1 l1 c1 o2 l2 c2,.slice eo en ec] W (AnQ X1 most pb W l2 res)):=fun W' hl hmw=>by
   have hl':=HL2.out.trans hl;have k:=uT h ps IH.out W' R X1 most pb { mk with next:=mk.next+1 } o1 l1 c1 o2 l2 c2 eo en ec e E (eY HS2.out HR.out HM.out hl') HR.out hmw wS.out (EL.out.later hl') vW hz (HE.out.later hl' (Nat.le_succ _)) qO.out WI.out (by rw [lT.out];exact uh.out);rw [lT.out] at k;refine k.mono ?_;rintro x w' ⟨o,c,rfl,hcl,hpt,nZ,hl3⟩;have hgt:=hpt.get (i:=0) (by rw [EH.out];omega);obtain ⟨gp,n0,wU,n0c,rfl,IW,DJ,n01,n02⟩:=hgt;rw [EH.out];exact ⟨gp,c,n0,wU,n0c,rfl,IW,hpt.tf rfl (by rw [EH.out];omega),DJ,n01,n02,nZ,hl3⟩
  unfold bP at Ey;obtain ⟨b9,aJ,u,qu,kS,kT,d1u,kU,kV,kW,e9,_,gu,ru,cu,_,tu⟩:=HS2.out.nth (i:=0) (by omega);subst e9;have gB:=HR.out b9 ru;have hsp:aH ps 0=(u.fr,u.en):=by unfold aH;rw [gu]
  obtain ⟨KZ,lg⟩:∃ KZ,(dh most (qL res.1 0) (h.tk,h.tn,h.tp) u.fr u.en res.2).2=KZ:=⟨_,rfl⟩;have ado:=hid lg;have U7:Hid ((dh most (tv mk.next) (h.tk,h.tn,h.tp) h.fr h.en KZ).2=fin):=by show _=_;rw [<-lg,<-bF.out,hsp]
  have htz:h.tp.size<=100000:=xA.out.2.2.2.2.2.2.2;have QC:Hid (∀ W,Later pb W2 W->Calls Tryd.prog 23 #[.agg #[.int .i64 h.tk,.int .i64 h.tn,.slice o1 l1 c1]] W (CoQ W h.tk h.tn l1 h.tp)):=fun W' hl=>xO h.tk h.tn h.tp W' o1 l1 c1 (jD nH.out HR.out HM.out (HL2.out.trans hl)).slc (by omega)
  have X0:Hid (∀ (W:World) (n0:Nat) (wU:Option Addr) (n0c:Nat) (o4:Option Addr) (c4:Nat),qL res.1 0=tv n0->dQ X1 most pb W res.2->aB (TF X1 pb W) W o4 l1 h.tp->Calls Tryd.prog 39 #[.pointer (some ⟨pb,0,none⟩),.agg #[.int .i64 1,.int .i64 n0,.slice wU 0 n0c],.agg #[.int .i64 h.tk,.int .i64 h.tn,.slice o4 l1 c4],.agg #[.int .i64 u.fr,.int .i64 u.en]] W (I9 X1 most pb W KZ)):=fun W n0 wU n0c o4 c4 ht hmw hs=>by
   have k:=dM (o1:=wU) (l1:=0) (c1:=n0c) (c2:=c4) hmw wS.out (tv n0) (h.tk,h.tn,h.tp) u.fr u.en (aB.nil _ _ _) hs (Nat.le_of_ble_eq_true rfl) htz;rw [<-ht,ado.out] at k;rw [ht] at k;exact k
  have aag:Hid (∀ (W:World) (o4:Option Addr) (c4:Nat),dQ X1 most pb W KZ->aB (TF X1 pb W) W o4 l1 h.tp->Calls Tryd.prog 39 #[.pointer (some ⟨pb,0,none⟩),.agg #[.int .i64 1,.int .i64 mk.next,.slice oo 0 cc],.agg #[.int .i64 h.tk,.int .i64 h.tn,.slice o4 l1 c4],.agg #[.int .i64 h.fr,.int .i64 h.en]] W (I9 X1 most pb W fin)):=fun W o4 c4 hmw hs=>by
   have k:=dM (o1:=oo) (l1:=0) (c1:=cc) (c2:=c4) hmw wS.out (tv mk.next) (h.tk,h.tn,h.tp) h.fr h.en (aB.nil _ _ _) hs (Nat.le_of_ble_eq_true rfl) htz;rw [U7.out] at k;exact k
  have bK:Hid (∀ W,Later pb W2 W->(qV W B h o1 l1 c1 (some ⟨b9,aJ,none⟩) l2 c2)/\(yB W C (.int .i64 1) (.int .i64 mk.next) (.slice oo 0 cc))/\(W.cell? ⟨b9,aJ+7,none⟩=some (.int .i64 u.fr)/\W.cell? ⟨b9,aJ+8,none⟩=some (.int .i64 u.en))):=fun W' hl=>by
   obtain ⟨k0,k1,k2,_⟩:=ay (H7.out.later hl).1;obtain ⟨_,_,_,_,_,_,_,f7,f8⟩:=eu cu gB HM.out (HL2.out.trans hl);exact ⟨aA (U4.out.later hl).1,⟨k0,k1,k2⟩,f7,f8⟩
  have hpb:=HP2.out;obtain ⟨_,_,f7,f8⟩:=bK.out W2 (Later.refl hpb);have hmk:=Fe.out;have hlc:=Later.refl hpb;clear lg hsp gB cu tu gu ru;go_upto_region 29 with fail
  go_cut [] (fun wx=>dQ X1 most pb wx KZ/\Later pb W2 wx)
  case first =>
   refine wp_region_held_drew (S:=(fun (W:World)=>(qV W B h o1 l1 c1 (some ⟨b9,aJ,none⟩) l2 c2)/\(yB W C (.int .i64 1) (.int .i64 mk.next) (.slice oo 0 cc))/\(W.cell? ⟨b9,aJ+7,none⟩=some (.int .i64 u.fr)/\W.cell? ⟨b9,aJ+8,none⟩=some (.int .i64 u.en)))) (by kernel_rfl) ?JZ (fun hHeld=>?_)
   case JZ=>exact bK.out _ (Later.aS (ah.drew W2) HP2.out)
   (try dsimp only at hHeld)
   refine Hd.tk 0 rfl ?_;go_frame;refine Hd.tk 1 rfl ?_;go_frame;refine Hd.tk 2 rfl ?_;go_frame;refine Hd.tk 3 rfl ?_;go_frame;refine Hd.tk 7 rfl ?_;go_frame;refine Hd.tk 8 rfl ?_;go_frame;refine Hd.tk 10 rfl ?_;go_frame;refine Hd.tk 11 rfl ?_;go_frame;refine Hd.tk 12 rfl ?_;go_frame;refine Hd.tk 13 rfl ?_;go_frame;refine Hd.tk 14 rfl ?_;go_frame;refine wpAnyH_ready (rs:=[4]) (by kernel_rfl) (by simp) ?_;refine Hd.cn 4 rfl (fun K hK=>?_) ?_
   ·go_simp;go_at_call 44
    (with_reducible refine Calls.mono (Ey.out _ ?abx ?aby) ?_);(case abx=>(repeat with_reducible first | exact hlc | exact Later.refl hpb | refine jm hpb ?_ | refine jo hpb ?_));(case aby=>(repeat with_reducible first | exact hmk | refine ja ?_ | refine jb ?_))
    rintro e wx ⟨gp,c3,n0,wU,n0c,rfl,IW,gtf,DJ,n01,n02,hmk,hlx⟩
    (try (replace hs4:=jc hs4 hlx))
    (refine iQ (pb:=pb) (w0:=W2) ?aah hlx ?_);(case aah=>(repeat with_reducible first | exact hlc | exact Later.refl hpb | refine jm hpb ?_ | refine jo hpb ?_))
    intro hlc;refine hK.out _ _ ?UU (fun hHeld=>?_)
    case UU=>exact bK.out _ hlc
    clear hK K
    (try go_frame)
    refine Hd.more (S':=(fun (W:World)=>((qV W B h o1 l1 c1 (some ⟨b9,aJ,none⟩) l2 c2)/\(yB W C (.int .i64 1) (.int .i64 mk.next) (.slice oo 0 cc))/\(W.cell? ⟨b9,aJ+7,none⟩=some (.int .i64 u.fr)/\W.cell? ⟨b9,aJ+8,none⟩=some (.int .i64 u.en)))/\(yB W gp (.int .i64 1) (.int .i64 n0) (.slice wU 0 n0c)))) (fun _ h=>h.1) _ _ _ _ ?_;replace hHeld:(fun (W:World)=>((qV W B h o1 l1 c1 (some ⟨b9,aJ,none⟩) l2 c2)/\(yB W C (.int .i64 1) (.int .i64 mk.next) (.slice oo 0 cc))/\(W.cell? ⟨b9,aJ+7,none⟩=some (.int .i64 u.fr)/\W.cell? ⟨b9,aJ+8,none⟩=some (.int .i64 u.en)))/\(yB W gp (.int .i64 1) (.int .i64 n0) (.slice wU 0 n0c))) _:=⟨bK.out _ hlc,DJ,n01,n02⟩
    (try dsimp only at hHeld)
    refine Hd.tk 5 rfl ?_;go_frame;refine Hd.tk 6 rfl ?_;go_frame;refine wpAnyH_ready (rs:=[9]) (by kernel_rfl) (by simp) ?_;refine Hd.cn 9 rfl (fun K hK=>?_) ?_
    ·go_simp;go_at_call 23
     (with_reducible refine Calls.mono (QC.out _ ?abz) ?_);(case abz=>(repeat with_reducible first | exact hlc | exact Later.refl hpb | refine jm hpb ?_ | refine jo hpb ?_))
     rintro e wx ⟨o4,c4,rfl,hs4,fJ⟩
     (refine qN (pb:=pb) (X:=X1) (most:=most) (k:=res.2) ?aai fJ hs4 ?_);(case aai=>(repeat with_reducible first | exact hmk | refine ja ?_ | refine jb ?_))
     intro hs4
     (refine XU (X:=X1) (most:=most) (pb:=pb) (k:=res.2) ?aaj fJ DJ gtf ?_);(case aaj=>(repeat with_reducible first | exact hmk | refine ja ?_ | refine jb ?_))
     intro gtf;replace DJ:=fJ.at DJ;replace n01:=fJ.at n01;replace n02:=fJ.at n02
     (refine lS (pb:=pb) (X:=X1) (most:=most) (k:=res.2) (w0:=W2) ?aak ?aal fJ ?_);(case aal=>(repeat with_reducible first | exact hmk | refine ja ?_ | refine jb ?_));(case aak=>(repeat with_reducible first | exact hlc | exact Later.refl hpb | refine jm hpb ?_ | refine jo hpb ?_))
     intro hlc hmk;refine hK.out _ _ ?abA (fun hHeld=>?_)
     case abA=>exact ⟨bK.out _ hlc,DJ,n01,n02⟩
     clear hK K
     (try go_frame)
     refine wpAnyH_ready (rs:=[15]) (by kernel_rfl) (by simp) ?_;refine Hd.cn 15 rfl (fun K hK=>?_) ?_
     ·go_simp;go_at_call 39
      (with_reducible refine Calls.mono (X0.out _ _ _ _ _ _ IW ?abB ?aam) ?_);(case abB=>(repeat with_reducible first | exact hmk | refine ja ?_ | refine jb ?_));(case aam=>(repeat (first | with_reducible exact hs4 | ((with_reducible refine jC (pb:=pb) (X:=X1) (most:=most) (k:=res.2) ?wR (ah.alloc _ _) ?_);(case wR=>(repeat with_reducible first | exact hmk | refine ja ?_ | refine jb ?_))) | ((with_reducible refine jC (pb:=pb) (X:=X1) (most:=most) (k:=res.2) ?wR (ah.drew _) ?_);(case wR=>(repeat with_reducible first | exact hmk | refine ja ?_ | refine jb ?_))) | fail)))
      rintro e wx ⟨rfl,hmk,hlx⟩
      (refine iQ (pb:=pb) (w0:=W2) ?aan hlx ?_);(case aan=>(repeat with_reducible first | exact hlc | exact Later.refl hpb | refine jm hpb ?_ | refine jo hpb ?_))
      intro hlc;refine hK.out _ _ ?U8 (fun hHeld=>?_)
      case U8=>exact ⟨bK.out _ hlc,cell_later gtf hlx DJ,cell_later gtf hlx n01,cell_later gtf hlx n02⟩
      clear hK K
      (try go_frame)
      refine wpAnyH_done (by kernel_rfl) ?_ _;go_wp2_with fail;go_meet;exact ⟨hmk,hlc⟩
     ·exact AllReadyH.nil
    ·exact AllReadyH.nil
   exact AllReadyH.nil
  case rest =>
   rename World=>w3
   obtain ⟨nZ,hl3⟩:=hcut;have Bh:=hid nZ;have rF:=hid hl3;have hpb:=nZ.lt;clear nZ hl3 f7 f8 a0 a1 a2 a3 a4 a5 a6 a7 a8 b0 b1 b2 q3;clear hmk hlc;have abC:Hid (∀ W,Later pb w3 W->(qV W B h o1 l1 c1 (some ⟨b9,aJ,none⟩) l2 c2)/\(yB W C (.int .i64 1) (.int .i64 mk.next) (.slice oo 0 cc))):=fun W' hl=>by
    have k:=bK.out W' (rF.out.trans hl);exact ⟨k.1,k.2.1⟩
   have adp:Hid (∀ W,Later pb w3 W->Calls Tryd.prog 23 #[.agg #[.int .i64 h.tk,.int .i64 h.tn,.slice o1 l1 c1]] W (CoQ W h.tk h.tn l1 h.tp)):=fun W' hl=>QC.out W' (rF.out.trans hl)
   obtain ⟨⟨a0,a1,a2,a3,a4,a5,a6,a7,a8⟩,⟨b0,b1,b2⟩⟩:=abC.out w3 (Later.refl hpb);have hmk:=Bh.out;have hlc:=Later.refl hpb;clear bK QC Ey X0;go_upto_region 30 with fail
   go_region_held3 (fun W=>(W.cell? ⟨B,0,none⟩=some (.int .i64 h.k)/\W.cell? ⟨B,1,none⟩=some (.string h.nm)/\W.cell? ⟨B,2,none⟩=some (.int .i64 h.n)/\W.cell? ⟨B,3,none⟩=some (.int .i64 h.tk)/\W.cell? ⟨B,4,none⟩=some (.int .i64 h.tn)/\W.cell? ⟨B,5,none⟩=some (.slice o1 l1 c1)/\W.cell? ⟨B,6,none⟩=some (.slice (some ⟨b9,aJ,none⟩) l2 c2)/\W.cell? ⟨B,7,none⟩=some (.int .i64 h.fr)/\W.cell? ⟨B,8,none⟩=some (.int .i64 h.en))/\(W.cell? ⟨C,0,none⟩=some (.int .i64 1)/\W.cell? ⟨C,1,none⟩=some (.int .i64 mk.next)/\W.cell? ⟨C,2,none⟩=some (.slice oo 0 cc)))
    (((refine abC.out _ ?_);(repeat with_reducible first | exact hlc | exact Later.refl hpb | refine jm hpb ?_ | refine jo hpb ?_)))
    (first
     | (go_at_call 23;(with_reducible refine Calls.mono (adp.out _ ?hq) ?_);(case hq=>(repeat with_reducible first | exact hlc | exact Later.refl hpb | refine jm hpb ?_ | refine jo hpb ?_));rintro e wx ⟨o4,c4,rfl,hs4,fJ⟩;(refine qN (pb:=pb) (X:=X1) (most:=most) (k:=KZ) ?Eu fJ hs4 ?_;(case Eu=>(repeat with_reducible first | exact hmk | refine ja ?_ | refine jb ?_));intro hs4);(refine lS (pb:=pb) (X:=X1) (most:=most) (k:=KZ) (w0:=w3) ?hl2 ?hm2 fJ ?_);(case hl2=>(repeat with_reducible first | exact hlc | exact Later.refl hpb | refine jm hpb ?_ | refine jo hpb ?_));(case hm2=>(repeat with_reducible first | exact hmk | refine ja ?_ | refine jb ?_));intro hlc hmk)
     | ((go_at_call 39;(with_reducible refine Calls.mono (aag.out _ _ _ ?hm ?hs1) ?_));(case hm=>(repeat with_reducible first | exact hmk | refine ja ?_ | refine jb ?_));(case hs1=>(repeat (first | with_reducible exact hs4 | ((with_reducible refine jC (pb:=pb) (X:=X1) (most:=most) (k:=KZ) ?wR (ah.alloc _ _) ?_);(case wR=>(repeat with_reducible first | exact hmk | refine ja ?_ | refine jb ?_))) | ((with_reducible refine jC (pb:=pb) (X:=X1) (most:=most) (k:=KZ) ?wR (ah.drew _) ?_);(case wR=>(repeat with_reducible first | exact hmk | refine ja ?_ | refine jb ?_))) | fail)));rintro e wx ⟨rfl,hmk,hlx⟩;(refine iQ (pb:=pb) (w0:=w3) ?hl2 hlx ?_);(case hl2=>(repeat with_reducible first | exact hlc | exact Later.refl hpb | refine jm hpb ?_ | refine jo hpb ?_));intro hlc)
     | fail)
   all_goals
    have KY:=hid hmk;have Ag:=hid (rF.out.trans hlc);clear hmk hlc;obtain ⟨g0,g1,g2,_,_,_⟩:=ay (H7.out.later Ag.out).1;have hb6:=(RF.out.later Ag.out).1;have vS:=hid hb6;obtain ⟨d0,d1,d2,y0,y1,y2⟩:=ay hb6;clear hb6;go_wp2_with fail;clear d0 d1 d2 y0 y1 y2;have hf:=aZ wx (B+1) (.int .i64 1) (.int .i64 mk.next) (.slice oo 0 cc);obtain ⟨f0,f1,f2⟩:=aV (a:=.int .i64 1) (b:=.int .i64 mk.next) (c:=.slice oo 0 cc) vS.out;change bodyPost _ _ _ _ _ (bf wx (B+1) (.int .i64 1) (.int .i64 mk.next) (.slice oo 0 cc));generalize bf wx (B+1) (.int .i64 1) (.int .i64 mk.next) (.slice oo 0 cc)=wf at *;refine bodyPost_ret (by simp [results,Tryd.results22,go_sem,f0,f1,f2];rfl) rfl ?_;have hp:pb < W.heap.size:=by rw [dV];exact HP.out
    refine ⟨mk.next,oo,cc,by rw [aQ.out],rfl,?_,(HL2.out.trans Ag.out).put hf hp (fun i hi=>by omega)⟩;rw [aQ.out];exact (KY.out.put (hf.mono (fun i _ e=>by rw [jR.out];exact Or.inr (by omega)))).less (fun i hi=>by rw [jR.out];exact Or.inl hi)
end Em
end
end Go.Proofs.YtcninopmelmajaaDoor
