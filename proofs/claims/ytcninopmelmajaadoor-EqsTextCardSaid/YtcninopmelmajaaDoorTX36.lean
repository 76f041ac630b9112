/-
  Texts laid together (RqKp7, RqPt): laws and walks, with their conditions.
-/
import Derived.Test.YtcninopmelmajaaDoorTX35
set_option maxHeartbeats 8000000
set_option maxRecDepth 1000000
namespace Go.Proofs.YtcninopmelmajaaDoor
open Go.Lib (hid)
section
open Go.RowKit
namespace Em
theorem Vy {most:Nat} (hm:most<=4000) (h:Nd) (ps:To) (ih:∀ i g qs,ps.get i=some (g,qs)->iU most g qs) (hk:h.k=7) (ar:Ev) (hz:ar.length+ps.size<=100000) (hgd:Good most ar) (hok:KU h ps.length) (kF:rH ps):KpA most h ps ar:=by
 intro R W d inn lo ln lc oo on oc o1 l1 c1 o2 l2 c2 eo en ec hrk hs1 hs2 hev vW hnb;have hl2:2<=l2:=by rw [hs2.1];exact hok.2.2.2.2.1 hk
 obtain ⟨b9,aJ,u,qu,kS,kT,d1u,kU,kV,kW,e9,_,gu,ru,cu,su,tu⟩:=hs2.nth (i:=0) (by omega);subst e9;simp only [Nat.zero_mul,Nat.add_zero] at cu;have IH:=hid (ih 0 u qu gu);have hzu:=To.dG ps 0 u qu gu;have hou:=fO ps 0 u qu kF gu;have Hw:=hid hev.1;have hel:=hev.1;obtain ⟨W0,hW0⟩:∃ W0,W0=(((W.alloc (.cells (r5 lo ln lc d.next most oo on oc inn) 61)).alloc (.cells (cells9 h o1 l1 c1 (some ⟨b9,aJ,none⟩) l2 c2) 30)).alloc (.cells (#[.slice none 0 0,.int .i64 0,.int .i64 0,.slice none 0 0,.int .i64 0]) 61)):=⟨_,rfl⟩;have vG:ah W W0:=by rw [hW0];exact ((ah.alloc _ _).trans (ah.alloc _ _)).trans (ah.alloc _ _)
 have yC:(W.alloc (.cells (r5 lo ln lc d.next most oo on oc inn) 61)).heap.size=W.heap.size+1:=by simp
 have yD:((W.alloc (.cells (r5 lo ln lc d.next most oo on oc inn) 61)).alloc (.cells (cells9 h o1 l1 c1 (some ⟨b9,aJ,none⟩) l2 c2) 30)).heap.size=W.heap.size+1+1:=by simp
 have yE:W0.heap[W.heap.size]?=some (.cells (r5 lo ln lc d.next most oo on oc inn) 61 (0,0)):=by
  rw [hW0];have k:=heap_alloc_new W (.cells (r5 lo ln lc d.next most oo on oc inn) 61);exact au ((ah.alloc _ _).trans (ah.alloc _ _)) k
 have yF:W0.heap[W.heap.size+1]?=some (.cells (cells9 h o1 l1 c1 (some ⟨b9,aJ,none⟩) l2 c2) 30 (0,0)):=by
  rw [hW0];have k:=heap_alloc_new (W.alloc (.cells (r5 lo ln lc d.next most oo on oc inn) 61)) (.cells (cells9 h o1 l1 c1 (some ⟨b9,aJ,none⟩) l2 c2) 30);rw [yC] at k;exact au (ah.alloc _ _) k
 have um:W0.heap[W.heap.size+1+1]?=some (.cells (#[.slice none 0 0,.int .i64 0,.int .i64 0,.slice none 0 0,.int .i64 0]) 61 (0,0)):=by
  rw [hW0];have k:=heap_alloc_new ((W.alloc (.cells (r5 lo ln lc d.next most oo on oc inn) 61)).alloc (.cells (cells9 h o1 l1 c1 (some ⟨b9,aJ,none⟩) l2 c2) 30)) (.cells (#[.slice none 0 0,.int .i64 0,.int .i64 0,.slice none 0 0,.int .i64 0]) 61);rw [yD] at k;exact k
 clear yC yD;have hz0:W.heap.size+1+1 < W0.heap.size:=lt_of_block um;have Vx:fH (RB R W.heap.size) W0 most d lo ln lc oo on oc:=hrk.fr vG (jG rfl);have bD:=hid vG;have HB0:=hid yE;have Ry:=hid yF;have HB2:=hid um;have HK0:=hid Vx;have La:=hid hev;have QL:=hid hgd;have Bj:=hid cu;have AV:=hid su;have AX:=hid tu;have t6:(h.k == 6)=false:=by rw [hk];rfl
 have hi0:(0:Int) < l2:=by omega
 have hj0:0 < l2:=by omega
 have hlz:en+1+qu.size<=100000:=by omega
 clear hel;obtain ⟨res,hres⟩:∃ res,jf most h (dJ most ps) (lq most ar) d=res:=⟨_,rfl⟩;obtain ⟨d2,hd2⟩:∃ d2:Dk,d2={ d with next:=d.next+1 }:=⟨_,rfl⟩;have hdn:d2.next=d.next+1:=by rw [hd2]
 obtain ⟨rt,hrt⟩:∃ rt,dZ most u qu (lq most (ar.snoc h.nm d.next false nd0 .nil .nil)) d2=rt:=⟨_,rfl⟩;have hre:res=(d.next,(dP most (tv d.next) (tv d2.next) h.fr h.en rt.2).2):=by
  have e1:rt.1=d2.next:=by rw [<-hrt];exact kX _ _ _ _ _
  rw [<-hres,<-e1,<-hrt,OA,hd2];unfold jf;rw [if_neg (by rw [hk];decide)];unfold fF jU jg;dsimp only;rw [Bl gu]
  all_goals rfl
 have HR1:Hid (res.1=d.next):=by show _=_;rw [hre]
 have HR2:Hid ((dP most (tv d.next) (tv d2.next) h.fr h.en rt.2).2=res.2):=by show _=_;rw [hre]
 have hnt:rt.2.next<=1000000:=by rw [hres,hre] at hnb;simpa only [jJ] using hnb
 have hnx:d2.next+1<=rt.2.next:=by rw [<-hrt];exact yG most u qu (mY most _) d2
 have hn1:d.next+1<=1000000:=by omega
 have hnw:IntKind.i64.wrap ((d.next:Int)+1)=((d.next+1:Nat):Int):=by rw [IntWalk.i64_in _ (by omega)];omega
 have yN:=hid hrt;have QM:=hid hnt;have HD2:=hid hd2;have HDN:=hid hdn;clear hre hnb hrt hnt hnx hd2 hdn;rw [hres];clear ih gu ru cu su tu hrk Vx hs1 hs2 hev hgd vG yE yF um hk hres hzu hok kF;unfold bP gK;go_enter Tryd.func33,Tryd.ntmps33;generalize dV:W.heap.size=B at *;go_upto_region 1 with fail
 rw [<-hW0];clear hW0;obtain ⟨⟨p0,p1,p2,p3,p4⟩,y0,y1,y2,y3,y4⟩:=five HB0.out;obtain ⟨a0,a1,a2,a3,a4,a5,a6,a7,a8⟩:=aA Ry.out;go_upto_region 7 with fail
 rw [show ((d.next:Int)+1)=(d2.next:Int) from by have:=HDN.out;omega];clear p0 p1 p2 p3 p4 y0 y1 y2 y3 y4 a0 a1 a2 a3 a4 a5 a6 a7 a8;obtain ⟨wp,hwp⟩:∃ wp,wp=W0.setCell ⟨B,1,none⟩ (.int .i64 d2.next):=⟨_,rfl⟩;rw [<-hwp];obtain ⟨hb0,gB,hb2,hkp,QN⟩:=Oy HD2.out hwp HB0.out Ry.out HB2.out HK0.out bD.out dV;have Lc:=hid hb0;have vH:=hid gB;have zJ:=hid hb2;have HKp:=hid hkp;have sV:=hid QN;have hzp:B+1+1 < wp.heap.size:=lt_of_block hb2;clear hwp hb0 gB hb2 hkp QN hnw hn1;obtain ⟨xs,hrow,hxl,hxo,hxc⟩:=La.out.row;have MR:=hid hxc;have kZ:=hid hrow;clear hrow hxc;have nT:Hid (∀ W' o c,ah wp W'->EvS (RB R B) W' o (en+1) (ar.snoc h.nm d.next false nd0 .nil .nil)->en+1<=c->Calls Tryd.prog 20 #[gK lo ln lc d2.next most oo on oc inn,bP u kS kT d1u kU kV kW,.slice o (en+1) c] W' (sW (RB R B) W' most rt.2)):=fun W' o c hq he hc=>by
  have hq':=sV.out.trans hq;have k:=IH.out (RB R B) W' d2 inn lo ln lc oo on oc kS kT d1u kU kV kW o (en+1) c _ (HKp.out.stay hq) (AV.out.fr hq' (jG dV)) (AX.out.fr hq' (jG dV)) he hc hlz (Good.snoc (fun e=>by cases e) QL.out) hou.1 hou.2 (by rw [yN.out];exact QM.out);rw [yN.out] at k;exact k
 unfold bP gK at nT;have Y3:Hid (∀ W' W'',ah wp W'->Fr (fun k=>k=B+1+1) W' W''->(fun (W':World)=>(A8 W' B (.slice lo ln lc) (.int .i64 d2.next) (.int .i64 most) (.slice oo on oc) (.int .i64 inn))/\(qV W' (B+1) h o1 l1 c1 (some ⟨b9,aJ,none⟩) l2 c2)/\(ES W' b9 aJ u kS kT d1u kU kV kW)) W''):=fun W' W'' hq hf=>by
  obtain ⟨k,_⟩:=five (aC hf (by intro e;have e':B=B+1+1:=e;omega) (au hq Lc.out));exact ⟨k,aA (aC hf (by intro e;have e':B+1=B+1+1:=e;omega) (au hq vH.out)),(gG Bj.out (sV.out.trans hq)).fr hf (by intro e;have e':b9=B+1+1:=e;have:=Bj.out.lt;omega)⟩
 have bK:Hid (∀ W',ah wp W'->(fun (W':World)=>(A8 W' B (.slice lo ln lc) (.int .i64 d2.next) (.int .i64 most) (.slice oo on oc) (.int .i64 inn))/\(qV W' (B+1) h o1 l1 c1 (some ⟨b9,aJ,none⟩) l2 c2)/\(ES W' b9 aJ u kS kT d1u kU kV kW)) W'):=fun W' hq=>Y3.out W' W' hq (Fr.refl _ _)
 go_cut [] from 32 to 46 (fun wx=>TmC R W B rt.2 most h o1 l1 c1 (some ⟨b9,aJ,none⟩) l2 c2 wx)
 case first =>
  refine dH 15 bK.out (by kernel_rfl) (fun hHeld=>?_)
  (try dsimp only at hHeld)
  have gq:=ah.drew wp;generalize wp.drew=wd at gq hHeld ⊢;refine HT.tk 0 rfl ?_;go_frame;refine HT.tk 1 rfl ?_;go_frame;refine HT.tk 2 rfl ?_;go_frame;refine HT.tk 3 rfl ?_;go_frame;refine HT.tk 4 rfl ?_;go_frame;refine HT.tk 6 rfl ?_;go_frame;refine HT.tk 8 rfl ?_;go_frame;refine HT.tk 9 rfl ?_;go_frame;refine HT.tk 10 rfl ?_;go_frame;refine HT.tk 11 rfl ?_;go_frame;refine HT.branch (rs:=[5,12]) (by kernel_rfl) (by simp) ?_;refine HT.cn 5 rfl (fun K hK=>?_) ?_
  ·go_simp;obtain ⟨qB,kG⟩:∃ wa,wa=wd.alloc (.cells #[] 79):=⟨_,rfl⟩;have hqa:ah wd qB:=by rw [kG];exact ah.alloc _ _
   have hown:=iZ (size:=13) (show qB.heap[wd.heap.size]?=some (.cells #[] 79 (0,0)) by rw [kG];exact heap_alloc_new wd _);have hgl:wp.heap.size<=wd.heap.size:=(gq).size;have mQ:=(gq).trans hqa;rw [<-kG];clear kG;generalize wd.heap.size=ga at hown hgl ⊢;refine hK.out _ _ ?aax (fun hHeld=>?_)
   case aax=>exact bK.out _ mQ
   clear hK K
   (try go_frame)
   refine HT.branch (rs:=[7,12]) (by kernel_rfl) (by simp) ?_;refine HT.cn 7 rfl (fun K hK=>?_) ?_
   ·refine aI qB rfl (.tmp 37) (.tmp 38) 76 rfl 79 _ 13 168 jd (.slice (some ⟨ga,0,none⟩) 0 0) 0 [] rfl hown eo en ec xs rfl hxl ?abM hxo (by unfold maxLen;omega) (by omega) ?_
    case abM=>(intro j u hj;obtain ⟨b,off,e,hc⟩:=MR.out j u hj;subst e;exact ⟨_,rfl,by rw [Addr.add_lit];exact (sV.out.trans (mQ)).at hc⟩)
    intro o3 c3 jE ho3 hf3 iE hnil3;simp only [Nat.zero_add,List.nil_append] at ho3 iE hnil3 ⊢;have o8:ah wp jE:=Fr.trans' (mQ) hf3 (fun i hi e=>by simp [Value.ownBlock] at e;omega);have jF:∀ k,(Value.slice o3 en c3).ownBlock=some k->wp.heap.size<=k:=fun k hk=>by
     rcases iE with e | e
     ·rw [e] at hk;simp [Value.ownBlock] at hk;omega
     ·rw [e] at hk;cases hk;exact ((mQ)).size
    refine hK.out _ _ ?Vl (fun hHeld=>?_)
    case Vl=>exact bK.out _ o8
    clear hK K
    (try go_frame)
    refine HT.branch (rs:=[12]) (by kernel_rfl) (by simp) ?_;refine HT.cn 12 rfl (fun K hK=>?_) ?_
    ·go_simp;obtain ⟨lU,hwb⟩:∃ wb,wb=jE.alloc (.cells (eX h.nm d.next false nd0 none 0 0 none 0 0 none 0 0) 79):=⟨_,rfl⟩;have pX:ah jE lU:=by rw [hwb];exact ah.alloc _ _
     have hb8:lU.heap[jE.heap.size]?=some (.cells (eX h.nm d.next false nd0 none 0 0 none 0 0 none 0 0) 79 (0,0)):=by rw [hwb];exact heap_alloc_new jE _
     have Cm:wp.heap.size<=jE.heap.size:=(o8).size;have kH:=(o8).trans pX;have pq:=lt_of_block hb8;change K _ (jE.alloc (.cells (eX h.nm d.next false nd0 none 0 0 none 0 0 none 0 0) 79));rw [<-hwb];clear hwb;replace ho3:=aU ho3 pX (fun _ _ h=>h);generalize jE.heap.size=g8 at hb8 Cm pq ⊢;refine hK.out _ _ ?Vm (fun hHeld=>?_)
     case Vm=>exact bK.out _ kH
     clear hK K
     (try go_frame)
     refine HT.branch (rs:=[13]) (by kernel_rfl) (by simp) ?_;refine HT.cn 13 rfl (fun K hK=>?_) ?_
     ·have hc8:∀ j u,(eX h.nm d.next false nd0 none 0 0 none 0 0 none 0 0).toList[j]?=some u->∃ a,some (⟨g8,0,none⟩:Addr)=some a/\lU.cell? (a.add j)=some u:=fun j u hj=>⟨_,rfl,by rw [Addr.add_lit,Nat.zero_add,cell_of_row _ _ _ _ _ (0,0) hb8];simpa using hj⟩
      refine aI lU rfl (.tmp 39) (.tmp 44) 76 rfl 79 _ 13 168 jd (.slice o3 en c3) en xs rfl ho3 (some ⟨g8,0,none⟩) 1 1 (eX h.nm d.next false nd0 none 0 0 none 0 0 none 0 0).toList rfl rfl hc8 (by simp [Value.oneCell']) (by unfold maxLen;omega) (by omega) ?_;intro o4 c4 wV nM hf4 pz uo;have dW:ah wp wV:=Fr.trans' (kH) hf4 (fun i hi e=>by have:=jF i e;omega);have pF:∀ k,(Value.slice o4 (en+1) c4).ownBlock=some k->B+1+1 < k:=fun k hk=>by
       rcases pz with e | e
       ·rw [e] at hk;have:=jF k hk;omega
       ·rw [e] at hk;cases hk;have:=((kH)).size;omega
      refine hK.out _ _ ?Vo (fun hHeld=>?_)
      case Vo=>exact bK.out _ dW
      clear hK K
      (try go_frame)
      refine HT.branch (rs:=[14]) (by kernel_rfl) (by simp) ?_;refine HT.cn 14 rfl (fun K hK=>?_) ?_
      ·obtain ⟨uw,uy⟩:=lX (h:=nd0) (ps:=.nil) (ar:=.nil) (ag:=false) (o1:=none) (l1:=0) (c1:=0) (o2:=none) (l2:=0) (c2:=0) (ao:=none) (an:=0) (ac:=0) kZ.out Hw.out (sV.out.trans (dW)) dV (aB.nil _ _ _) (bC.nil _ _ _) (EvS.nil _ _ _) (Nat.le_refl _) nM (by omega) pF;go_simp;go_at_call 20
       with_reducible refine Calls.mono (nT.out _ _ _ (dW) uw uy) ?_
       rintro e w9 ⟨RG,RH,RI,RJ,RP,RQ,Bc,rfl,hk9,oU⟩;have mg:=iF hk9 (Nat.lt_of_lt_of_le hzp (dW).size);have eF:=(dW).trans oU;unfold gK;refine hK.out _ _ ?aay (fun hHeld=>?_)
       case aay=>exact bK.out _ eF
       clear hK K
       (try go_frame)
       refine HT.last rfl (by kernel_rfl) (fun K hK=>?_);have hbs:=au eF Lc.out;obtain ⟨⟨p0,p1,p2,p3,p4⟩,y0,y1,y2,y3,y4⟩:=five hbs;have hend:=jX Bc hbs (au eF vH.out) (au eF zJ.out) mg (sV.out.trans eF) dV;go_simp;refine hK.out _ _ ?_;clear hK K
       (try go_frame)
       refine HT.done (by kernel_rfl) ?_ _;go_wp2_with fail;go_meet;exact hend
      exact HT.bG.nil
     exact HT.bG.nil
    exact HT.bG.nil
   refine HT.cn 12 rfl (fun K hK=>?_) ?_
   ·go_simp;obtain ⟨wW,hwb⟩:∃ wb,wb=qB.alloc (.cells (eX h.nm d.next false nd0 none 0 0 none 0 0 none 0 0) 79):=⟨_,rfl⟩;have pX:ah qB wW:=by rw [hwb];exact ah.alloc _ _
    have hb8:wW.heap[qB.heap.size]?=some (.cells (eX h.nm d.next false nd0 none 0 0 none 0 0 none 0 0) 79 (0,0)):=by rw [hwb];exact heap_alloc_new qB _
    have Cm:wp.heap.size<=qB.heap.size:=(mQ).size;have lV:=(mQ).trans pX;have pq:=lt_of_block hb8;change K _ (qB.alloc (.cells (eX h.nm d.next false nd0 none 0 0 none 0 0 none 0 0) 79));rw [<-hwb];clear hwb;have QI:=(hown.lt ga rfl).2;replace hown:=aU hown pX (fun _ _ h=>h);generalize qB.heap.size=g8 at hb8 Cm pq QI ⊢;refine hK.out _ _ ?Vp (fun hHeld=>?_)
    case Vp=>exact bK.out _ lV
    clear hK K
    (try go_frame)
    refine HT.branch (rs:=[7]) (by kernel_rfl) (by simp) ?_;refine HT.cn 7 rfl (fun K hK=>?_) ?_
    ·refine aI wW rfl (.tmp 37) (.tmp 38) 76 rfl 79 _ 13 168 jd (.slice (some ⟨ga,0,none⟩) 0 0) 0 [] rfl hown eo en ec xs rfl hxl ?aaz hxo (by unfold maxLen;omega) (by omega) ?_
     case aaz=>(intro j u hj;obtain ⟨b,off,e,hc⟩:=MR.out j u hj;subst e;exact ⟨_,rfl,by rw [Addr.add_lit];exact (sV.out.trans (lV)).at hc⟩)
     intro o3 c3 pG ho3 hf3 iE hnil3;simp only [Nat.zero_add,List.nil_append] at ho3 iE hnil3 ⊢;have kJ:ah wp pG:=Fr.trans' (lV) hf3 (fun i hi e=>by simp [Value.ownBlock] at e;omega);have jF:∀ k,(Value.slice o3 en c3).ownBlock=some k->wp.heap.size<=k:=fun k hk=>by
      rcases iE with e | e
      ·rw [e] at hk;simp [Value.ownBlock] at hk;omega
      ·rw [e] at hk;cases hk;exact ((lV)).size
     refine hK.out _ _ ?Kr (fun hHeld=>?_)
     case Kr=>exact bK.out _ kJ
     clear hK K
     (try go_frame)
     replace hb8:=aC hf3 (fun e=>by simp [Value.ownBlock] at e;omega) hb8;refine HT.branch (rs:=[13]) (by kernel_rfl) (by simp) ?_;refine HT.cn 13 rfl (fun K hK=>?_) ?_
     ·have hc8:∀ j u,(eX h.nm d.next false nd0 none 0 0 none 0 0 none 0 0).toList[j]?=some u->∃ a,some (⟨g8,0,none⟩:Addr)=some a/\pG.cell? (a.add j)=some u:=fun j u hj=>⟨_,rfl,by rw [Addr.add_lit,Nat.zero_add,cell_of_row _ _ _ _ _ (0,0) hb8];simpa using hj⟩
      refine aI pG rfl (.tmp 39) (.tmp 44) 76 rfl 79 _ 13 168 jd (.slice o3 en c3) en xs rfl ho3 (some ⟨g8,0,none⟩) 1 1 (eX h.nm d.next false nd0 none 0 0 none 0 0 none 0 0).toList rfl rfl hc8 (by simp [Value.oneCell']) (by unfold maxLen;omega) (by omega) ?_;intro o4 c4 wX nM hf4 pz uo;have dX:ah wp wX:=Fr.trans' (kJ) hf4 (fun i hi e=>by have:=jF i e;omega);have pF:∀ k,(Value.slice o4 (en+1) c4).ownBlock=some k->B+1+1 < k:=fun k hk=>by
       rcases pz with e | e
       ·rw [e] at hk;have:=jF k hk;omega
       ·rw [e] at hk;cases hk;have:=((kJ)).size;omega
      refine hK.out _ _ ?Vr (fun hHeld=>?_)
      case Vr=>exact bK.out _ dX
      clear hK K
      (try go_frame)
      refine HT.branch (rs:=[14]) (by kernel_rfl) (by simp) ?_;refine HT.cn 14 rfl (fun K hK=>?_) ?_
      ·obtain ⟨uw,uy⟩:=lX (h:=nd0) (ps:=.nil) (ar:=.nil) (ag:=false) (o1:=none) (l1:=0) (c1:=0) (o2:=none) (l2:=0) (c2:=0) (ao:=none) (an:=0) (ac:=0) kZ.out Hw.out (sV.out.trans (dX)) dV (aB.nil _ _ _) (bC.nil _ _ _) (EvS.nil _ _ _) (Nat.le_refl _) nM (by omega) pF;go_simp;go_at_call 20
       with_reducible refine Calls.mono (nT.out _ _ _ (dX) uw uy) ?_
       rintro e w9 ⟨RG,RH,RI,RJ,RP,RQ,Bc,rfl,hk9,oU⟩;have mg:=iF hk9 (Nat.lt_of_lt_of_le hzp (dX).size);have eG:=(dX).trans oU;unfold gK;refine hK.out _ _ ?Vz (fun hHeld=>?_)
       case Vz=>exact bK.out _ eG
       clear hK K
       (try go_frame)
       refine HT.last rfl (by kernel_rfl) (fun K hK=>?_);have hbs:=au eG Lc.out;obtain ⟨⟨p0,p1,p2,p3,p4⟩,y0,y1,y2,y3,y4⟩:=five hbs;have hend:=jX Bc hbs (au eG vH.out) (au eG zJ.out) mg (sV.out.trans eG) dV;go_simp;refine hK.out _ _ ?_;clear hK K
       (try go_frame)
       refine HT.done (by kernel_rfl) ?_ _;go_wp2_with fail;go_meet;exact hend
      exact HT.bG.nil
     exact HT.bG.nil
    exact HT.bG.nil
   exact HT.bG.nil
  refine HT.cn 12 rfl (fun K hK=>?_) ?_
  ·go_simp;obtain ⟨uq,hwb⟩:∃ wb,wb=wd.alloc (.cells (eX h.nm d.next false nd0 none 0 0 none 0 0 none 0 0) 79):=⟨_,rfl⟩;have pX:ah wd uq:=by rw [hwb];exact ah.alloc _ _
   have hb8:uq.heap[wd.heap.size]?=some (.cells (eX h.nm d.next false nd0 none 0 0 none 0 0 none 0 0) 79 (0,0)):=by rw [hwb];exact heap_alloc_new wd _
   have Cm:wp.heap.size<=wd.heap.size:=(gq).size;have wY:=(gq).trans pX;have pq:=lt_of_block hb8;change K _ (wd.alloc (.cells (eX h.nm d.next false nd0 none 0 0 none 0 0 none 0 0) 79));rw [<-hwb];clear hwb;generalize wd.heap.size=g8 at hb8 Cm pq ⊢;refine hK.out _ _ ?Kt (fun hHeld=>?_)
   case Kt=>exact bK.out _ wY
   clear hK K
   (try go_frame)
   refine HT.branch (rs:=[5]) (by kernel_rfl) (by simp) ?_;refine HT.cn 5 rfl (fun K hK=>?_) ?_
   ·go_simp;obtain ⟨wZ,kG⟩:∃ wa,wa=uq.alloc (.cells #[] 79):=⟨_,rfl⟩;have hqa:ah uq wZ:=by rw [kG];exact ah.alloc _ _
    have hown:=iZ (size:=13) (show wZ.heap[uq.heap.size]?=some (.cells #[] 79 (0,0)) by rw [kG];exact heap_alloc_new uq _);have hgl:wp.heap.size<=uq.heap.size:=(wY).size;have lW:=(wY).trans hqa;rw [<-kG];clear kG;generalize uq.heap.size=ga at hown hgl pq ⊢;refine hK.out _ _ ?Ku (fun hHeld=>?_)
    case Ku=>exact bK.out _ lW
    clear hK K
    (try go_frame)
    replace hb8:=au hqa hb8;refine HT.branch (rs:=[7]) (by kernel_rfl) (by simp) ?_;refine HT.cn 7 rfl (fun K hK=>?_) ?_
    ·refine aI wZ rfl (.tmp 37) (.tmp 38) 76 rfl 79 _ 13 168 jd (.slice (some ⟨ga,0,none⟩) 0 0) 0 [] rfl hown eo en ec xs rfl hxl ?aaA hxo (by unfold maxLen;omega) (by omega) ?_
     case aaA=>(intro j u hj;obtain ⟨b,off,e,hc⟩:=MR.out j u hj;subst e;exact ⟨_,rfl,by rw [Addr.add_lit];exact (sV.out.trans (lW)).at hc⟩)
     intro o3 c3 pI ho3 hf3 iE hnil3;simp only [Nat.zero_add,List.nil_append] at ho3 iE hnil3 ⊢;have kK:ah wp pI:=Fr.trans' (lW) hf3 (fun i hi e=>by simp [Value.ownBlock] at e;omega);have jF:∀ k,(Value.slice o3 en c3).ownBlock=some k->wp.heap.size<=k:=fun k hk=>by
      rcases iE with e | e
      ·rw [e] at hk;simp [Value.ownBlock] at hk;omega
      ·rw [e] at hk;cases hk;exact ((lW)).size
     refine hK.out _ _ ?VA (fun hHeld=>?_)
     case VA=>exact bK.out _ kK
     clear hK K
     (try go_frame)
     replace hb8:=aC hf3 (fun e=>by simp [Value.ownBlock] at e;omega) hb8;refine HT.branch (rs:=[13]) (by kernel_rfl) (by simp) ?_;refine HT.cn 13 rfl (fun K hK=>?_) ?_
     ·have hc8:∀ j u,(eX h.nm d.next false nd0 none 0 0 none 0 0 none 0 0).toList[j]?=some u->∃ a,some (⟨g8,0,none⟩:Addr)=some a/\pI.cell? (a.add j)=some u:=fun j u hj=>⟨_,rfl,by rw [Addr.add_lit,Nat.zero_add,cell_of_row _ _ _ _ _ (0,0) hb8];simpa using hj⟩
      refine aI pI rfl (.tmp 39) (.tmp 44) 76 rfl 79 _ 13 168 jd (.slice o3 en c3) en xs rfl ho3 (some ⟨g8,0,none⟩) 1 1 (eX h.nm d.next false nd0 none 0 0 none 0 0 none 0 0).toList rfl rfl hc8 (by simp [Value.oneCell']) (by unfold maxLen;omega) (by omega) ?_;intro o4 c4 xg nM hf4 pz uo;have dY:ah wp xg:=Fr.trans' (kK) hf4 (fun i hi e=>by have:=jF i e;omega);have pF:∀ k,(Value.slice o4 (en+1) c4).ownBlock=some k->B+1+1 < k:=fun k hk=>by
       rcases pz with e | e
       ·rw [e] at hk;have:=jF k hk;omega
       ·rw [e] at hk;cases hk;have:=((kK)).size;omega
      refine hK.out _ _ ?abN (fun hHeld=>?_)
      case abN=>exact bK.out _ dY
      clear hK K
      (try go_frame)
      refine HT.branch (rs:=[14]) (by kernel_rfl) (by simp) ?_;refine HT.cn 14 rfl (fun K hK=>?_) ?_
      ·obtain ⟨uw,uy⟩:=lX (h:=nd0) (ps:=.nil) (ar:=.nil) (ag:=false) (o1:=none) (l1:=0) (c1:=0) (o2:=none) (l2:=0) (c2:=0) (ao:=none) (an:=0) (ac:=0) kZ.out Hw.out (sV.out.trans (dY)) dV (aB.nil _ _ _) (bC.nil _ _ _) (EvS.nil _ _ _) (Nat.le_refl _) nM (by omega) pF;go_simp;go_at_call 20
       with_reducible refine Calls.mono (nT.out _ _ _ (dY) uw uy) ?_
       rintro e w9 ⟨RG,RH,RI,RJ,RP,RQ,Bc,rfl,hk9,oU⟩;have mg:=iF hk9 (Nat.lt_of_lt_of_le hzp (dY).size);have eH:=(dY).trans oU;unfold gK;refine hK.out _ _ ?VB (fun hHeld=>?_)
       case VB=>exact bK.out _ eH
       clear hK K
       (try go_frame)
       refine HT.last rfl (by kernel_rfl) (fun K hK=>?_);have hbs:=au eH Lc.out;obtain ⟨⟨p0,p1,p2,p3,p4⟩,y0,y1,y2,y3,y4⟩:=five hbs;have hend:=jX Bc hbs (au eH vH.out) (au eH zJ.out) mg (sV.out.trans eH) dV;go_simp;refine hK.out _ _ ?_;clear hK K
       (try go_frame)
       refine HT.done (by kernel_rfl) ?_ _;go_wp2_with fail;go_meet;exact hend
      exact HT.bG.nil
     exact HT.bG.nil
    exact HT.bG.nil
   exact HT.bG.nil
  exact HT.bG.nil
 case rest =>
  rename World=>wq
  obtain ⟨rU,rV,rW,vI,vJ,vK,qW,hb0,gB,hb2,hk5,hq5⟩:=hcut;have pK:=hid hb0;have pO:=hid gB;have uz:=hid hb2;have Ky:=hid hk5;have qU:=hid hq5;have adq:B+1+1 < wq.heap.size:=lt_of_block hb2;clear hb0 gB hb2 hk5 hq5 Y3 bK hzp;have hzp:=adq;have Y3:Hid (∀ W' W'',ah wq W'->Fr (fun k=>k=B+1+1) W' W''->(fun (W':World)=>(A8 W' B (.slice rU rV rW) (.int .i64 rt.2.next) (.int .i64 most) (.slice vI vJ vK) (.int .i64 qW))/\(qV W' (B+1) h o1 l1 c1 (some ⟨b9,aJ,none⟩) l2 c2)/\(ES W' b9 aJ u kS kT d1u kU kV kW)) W''):=fun W' W'' hq hf=>by
   obtain ⟨k,_⟩:=five (aC hf (by intro e;have e':B=B+1+1:=e;omega) (au hq pK.out));exact ⟨k,aA (aC hf (by intro e;have e':B+1=B+1+1:=e;omega) (au hq pO.out)),(gG Bj.out (qU.out.trans hq)).fr hf (by intro e;have e':b9=B+1+1:=e;have:=Bj.out.lt;omega)⟩
  have bK:Hid (∀ W',ah wq W'->(fun (W':World)=>(A8 W' B (.slice rU rV rW) (.int .i64 rt.2.next) (.int .i64 most) (.slice vI vJ vK) (.int .i64 qW))/\(qV W' (B+1) h o1 l1 c1 (some ⟨b9,aJ,none⟩) l2 c2)/\(ES W' b9 aJ u kS kT d1u kU kV kW)) W'):=fun W' hq=>Y3.out W' W' hq (Fr.refl _ _)
  have gI:Hid (∀ W',ah wq W'->Calls Tryd.prog 31 #[gK rU rV rW rt.2.next most vI vJ vK qW,.agg #[.int .i64 1,.int .i64 d.next,.slice none 0 0],.agg #[.int .i64 1,.int .i64 d2.next,.slice none 0 0],.agg #[.int .i64 h.fr,.int .i64 h.en]] W' (sW (RB R B) W' most res.2)):=fun W' hq=>by
   have k:=add_any (o1:=none) (l1:=0) (c1:=0) (o2:=none) (l2:=0) (c2:=0) qW (Ky.out.stay hq) hm (tv d.next) (tv d2.next) h.fr h.en (aB.nil _ _ _) (aB.nil _ _ _) (by show Fo.nil.size<=_;decide) (by show Fo.nil.size<=_;decide);rw [HR2.out] at k;exact k
  unfold gK at gI;go_upto_region 8 with fail
  refine dH 10 bK.out (by kernel_rfl) (fun hHeld=>?_)
  (try dsimp only at hHeld)
  have gq:=ah.drew wq;generalize wq.drew=wd at gq hHeld ⊢;refine HT.tk 0 rfl ?_;go_frame;refine HT.tk 1 rfl ?_;go_frame;refine HT.tk 3 rfl ?_;go_frame;refine HT.tk 5 rfl ?_;go_frame;refine HT.tk 6 rfl ?_;go_frame;refine HT.tk 8 rfl ?_;go_frame;refine HT.branch (rs:=[2]) (by kernel_rfl) (by simp) ?_;refine HT.cn 2 rfl (fun K hK=>?_) ?_
  ·go_simp;go_at_call 32
   with_reducible refine Calls.mono (fZ _ _) ?_
   rintro e wv1 ⟨rfl,pR⟩;have fA:=gq.trans pR;refine hK.out _ _ ?VD (fun hHeld=>?_)
   case VD=>exact bK.out _ fA
   clear hK K
   (try go_frame)
   refine HT.branch (rs:=[4]) (by kernel_rfl) (by simp) ?_;refine HT.cn 4 rfl (fun K hK=>?_) ?_
   ·go_simp;go_at_call 32
    with_reducible refine Calls.mono (fZ _ _) ?_
    rintro e wv2 ⟨rfl,rX⟩;have fU:=fA.trans rX;refine hK.out _ _ ?VE (fun hHeld=>?_)
    case VE=>exact bK.out _ fU
    clear hK K
    (try go_frame)
    refine HT.branch (rs:=[7]) (by kernel_rfl) (by simp) ?_;refine HT.cn 7 rfl (fun K hK=>?_) ?_
    ·go_simp;go_at_call 31
     with_reducible refine Calls.mono (gI.out _ fU) ?_
     rintro e Ez ⟨lo3,iG,iH,iI,iJ,iK,gX,rfl,hk3,DV⟩;have mg:=iF hk3 (Nat.lt_of_lt_of_le hzp fU.size);have oD:=fU.trans DV;unfold gK;refine hK.out _ _ ?VF (fun hHeld=>?_)
     case VF=>exact bK.out _ oD
     clear hK K
     (try go_frame)
     refine HT.branch (rs:=[9]) (by kernel_rfl) (by simp) ?_;refine HT.cn 9 rfl (fun K hK=>?_) ?_
     ·have hbs:=au oD uz.out;obtain ⟨⟨d0,d1,d2,d3,d4⟩,y0,y1,y2,y3,y4⟩:=five hbs;go_simp;have hf:=eU Ez (B+1+1) (.slice lo3 iG iH) (.int .i64 res.2.next) (.int .i64 most) (.slice iI iJ iK) (.int .i64 gX);have hbf:=bV (a:=.slice lo3 iG iH) (b:=.int .i64 res.2.next) (c:=.int .i64 most) (d:=.slice iI iJ iK) (e:=.int .i64 gX) hbs;change K _ (iD Ez (B+1+1) (.slice lo3 iG iH) (.int .i64 res.2.next) (.int .i64 most) (.slice iI iJ iK) (.int .i64 gX));clear d0 d1 d2 d3 d4 y0 y1 y2 y3 y4;have hend:=mV mg (qU.out.trans oD) hf dV;have hsf:=Y3.out _ _ oD hf;generalize iD Ez (B+1+1) (.slice lo3 iG iH) (.int .i64 res.2.next) (.int .i64 most) (.slice iI iJ iK) (.int .i64 gX)=wf at *;refine hK.out _ _ ?VG (fun hHeld=>?_)
      case VG=>exact hsf
      clear hK K
      (try go_frame)
      refine HT.last rfl (by kernel_rfl) (fun K hK=>?_);go_simp;refine hK.out _ _ ?_;clear hK K
      (try go_frame)
      refine HT.done (by kernel_rfl) ?_ _;obtain ⟨⟨f0,f1,f2,f3,f4⟩,_⟩:=five hbf;generalize Ba:bodyPost Tryd.prog Tryd.f33 (KpQ R W most res)=BP;go_wp2_with fail;rw [<-Ba];refine bodyPost_ret (by simp [results,Tryd.results33,go_sem,f0,f1,f2,f3,f4]<;>rfl) rfl ?_;exact ⟨lo3,iG,iH,iI,iJ,iK,gX,by rw [HR1.out],hend.1,hend.2⟩
     exact HT.bG.nil
    exact HT.bG.nil
   exact HT.bG.nil
  exact HT.bG.nil
end Em
end
section
open Go.RowKit
namespace Em
structure PR (z:Nat) (W:World) (o:Option Addr) (i c:Nat) (ns:List Nat) (xs:List Value):Prop where
 len:ns.length=i
 own:W.ownsRow 0 25 3 (.slice o i c) i xs
 low:∀ k,(Value.slice o i c).ownBlock=some k->z<=k
 cells:nS xs (ns.map tv)
theorem PR.nil (z:Nat) (W:World):PR z W none 0 0 [] []:=⟨rfl,World.ownsRow_nil _ _ _ _,fun k hk=>(by cases hk),rfl⟩
theorem PR.fr {z:Nat} {S:Nat->Prop} {W W':World} {o:Option Addr} {i c:Nat} {ns:List Nat} {xs:List Value} (h:PR z W o i c ns xs) (hf:Fr S W W') (hs:∀ k,S k->k < z):PR z W' o i c ns xs :=
 ⟨h.len,aU h.own hf (fun k hk e=>by have:=hs k e;have:=h.low k hk;omega),h.low,h.cells⟩
theorem PR.stay {z:Nat} {W W':World} {o:Option Addr} {i c:Nat} {ns:List Nat} {xs:List Value} (h:PR z W o i c ns xs) (hq:ah W W'):PR z W' o i c ns xs:=h.fr hq (fun _ h=>h.elim)
theorem PR.lt {z:Nat} {W:World} {o:Option Addr} {i c:Nat} {ns:List Nat} {xs:List Value} (h:PR z W o i c ns xs):∀ k,(Value.slice o i c).ownBlock=some k->k < W.heap.size:=fun k hk=>(h.own.lt k hk).2
theorem PR.snoc {z:Nat} {W w':World} {o:Option Addr} {i c:Nat} {ns:List Nat} {xs:List Value} (h:PR z W o i c ns xs) (n:Nat) {o':Option Addr} {c1 g c':Nat} (ho:w'.ownsRow 0 25 3 (.slice (some ⟨g,0,none⟩) (i+1) c') (i+1) (xs++[.int .i64 1,.int .i64 n,.slice o' 0 c1])) (hz:z<=W.heap.size) (hg:(Value.slice o i c).ownBlock=some g∨W.heap.size<=g):PR z w' (some ⟨g,0,none⟩) (i+1) c' (ns++[n]) (xs++[.int .i64 1,.int .i64 n,.slice o' 0 c1]):=by
 refine ⟨by simp [h.len],ho,fun k hk=>?_,?_⟩
 ·have e:g=k:=by simpa [Value.ownBlock] using hk
  subst e;rcases hg with e | e
  ·exact h.low _ e
  ·omega
 ·have:=nS.snoc n o' c1 (ns.map tv) xs h.cells;simpa using this
def Iz (R:Nat->Prop) (B:Nat) (v:Value) (k:Nat):Prop:=RB R B k/\v.ownBlock≠some k
theorem Bo {R:Nat->Prop} {w:World} {B most:Nat} {d:Dk} {lo:Option Addr} {ln lc:Nat} {oo:Option Addr} {on oc:Nat} (hk:fH (RB R B) w most d lo ln lc oo on oc):fH (Iz R B (.slice none 0 0)) w most d lo ln lc oo on oc:=hk.mono (fun _ _ h=>⟨h,by simp [Value.ownBlock]⟩)
theorem Bq {R:Nat->Prop} {w:World} {B most:Nat} {v:Value} {d:Dk} {lo:Option Addr} {ln lc:Nat} {oo:Option Addr} {on oc:Nat} (hk:fH (Iz R B v) w most d lo ln lc oo on oc):fH (RB R B) w most d lo ln lc oo on oc:=hk.mono (fun _ _ h=>h.1)
theorem yH {R:Nat->Prop} {w w':World} {B most:Nat} {v:Value} {d:Dk} {lo:Option Addr} {ln lc:Nat} {oo:Option Addr} {on oc:Nat} (hk:fH (Iz R B v) w most d lo ln lc oo on oc) (hf:Fr (fun k=>v.ownBlock=some k) w w') {g n c:Nat} (hg:v.ownBlock=some g∨w.heap.size<=g):fH (Iz R B (.slice (some ⟨g,0,none⟩) n c)) w' most d lo ln lc oo on oc :=
 hk.fr hf (fun k hl h=>⟨⟨h.1,fun e=>by
  have e':g=k:=by simpa [Value.ownBlock] using e
  subst e';rcases hg with e | e
  ·exact h.2 e
  ·omega⟩,h.2⟩)
theorem yI {R:Nat->Prop} {w w':World} {B most:Nat} {v:Value} {fin:Dk} {lo:Option Addr} {ln lc:Nat} {oo:Option Addr} {on oc:Nat} (hk:fH (fun k=>Iz R B v k∨w.heap.size<=k) w' most fin lo ln lc oo on oc) (hz:B+1+1 < w.heap.size) (hv:∀ k,v.ownBlock=some k->k < w.heap.size):fH (Iz R B v) w' most fin lo ln lc oo on oc :=
 hk.mono (fun k _ h=>h.elim id (fun h=>⟨.inr (by omega),fun e=>by have:=hv k e;omega⟩))
theorem Yc {R:Nat->Prop} {wx w':World} {B most:Nat} {v:Value} {d:Dk} {lo:Option Addr} {ln lc:Nat} {oo:Option Addr} {on oc:Nat} (hk:fH (Iz R B v) wx most d lo ln lc oo on oc) (hf:Fr (fun k=>k=B) wx w'):fH (Iz R B v) w' most d lo ln lc oo on oc :=
 hk.fr hf (fun k _ h=>⟨h,fun e=>by have e':k=B:=e;rcases h.1 with h | h<;>omega⟩)
theorem nV {R:Nat->Prop} {W:World} {B z:Nat} {v:Value} (hB:W.heap.size=B) (hv:∀ k,v.ownBlock=some k->z<=k) (hz:B<=z):∀ k,k < W.heap.size->R k->Iz R B v k/\¬ False:=fun k hk hr=>⟨⟨.inl ⟨hr,by omega⟩,fun e=>by have:=hv k e;omega⟩,fun h=>h⟩
def PtS (R:Nat->Prop) (W:World) (B z:Nat) (most:Nat) (h:Nd) (o1:Option Addr) (l1 c1:Nat) (o2:Option Addr) (l2 c2:Nat) (e:aP) (vs:List (aP->Dm Nat)) (fin:List Nat × Dk) (i:Nat) (o:Option Addr) (c:Nat) (wx:World):Prop :=
 ∃ (di:Dk) (ns:List Nat) (xs:List Value) (lo:Option Addr) (ln lc:Nat) (oo:Option Addr) (on oc:Nat) (inn:Int),i<=vs.length/\ns++(dmap e (vs.drop i) di).1=fin.1/\(dmap e (vs.drop i) di).2=fin.2/\PR z wx o i c ns xs /\
  wx.heap[B]?=some (.cells (r5 lo ln lc di.next most oo on oc inn) 61 (0,0))/\wx.heap[B+1]?=some (.cells (cells9 h o1 l1 c1 o2 l2 c2) 30 (0,0))/\wx.heap[B+1+1]?=some (.cells #[.slice none 0 0,.int .i64 0,.int .i64 0,.slice none 0 0,.int .i64 0] 61 (0,0)) /\
  fH (Iz R B (.slice o i c)) wx most di lo ln lc oo on oc/\ah W wx/\z<=wx.heap.size
def Y4 (R:Nat->Prop) (W:World) (B z:Nat) (most:Nat) (h:Nd) (o1:Option Addr) (l1 c1:Nat) (o2:Option Addr) (l2 c2:Nat) (e:aP) (vs:List (aP->Dm Nat)) (fin:List Nat × Dk) (p t:Value) (wx:World):Prop :=
 ∃ (i:Nat) (o:Option Addr) (c:Nat),t=.int .i64 i/\p=.slice o i c/\PtS R W B z most h o1 l1 c1 o2 l2 c2 e vs fin i o c wx
theorem qR (e:aP):∀ (vs:List (aP->Dm Nat)) (i:Nat) (v:aP->Dm Nat) (d:Dk),vs[i]?=some v->dmap e (vs.drop i) d=((v e d).1::(dmap e (vs.drop (i+1)) (v e d).2).1,(dmap e (vs.drop (i+1)) (v e d).2).2)
 | [],i,v,m,h=>by simp at h
 | u::r,0,v,m,h=>by simp at h;subst h;rfl
 | u::r,i+1,v,m,h=>by simpa using qR e r i v m (by simpa using h)
theorem lY (most:Nat):∀ f:To,(dJ most f).length=f.length
 | .nil=>rfl
 | .cons _ _ r=>by simp only [dJ,List.length_cons,To.length];rw [lY most r]
theorem Bv {R : Nat -> Prop} {W w9 : World} {B z most : Nat} {h : Nd} {o1 : Option Addr} {l1 c1 : Nat} {o2 : Option Addr} {l2 c2 : Nat} {e : aP} {vs : List (aP -> Dm Nat)} {fin : List Nat × Dk} {i : Nat} {o : Option Addr} {c : Nat} {di : Dk} {ns : List Nat} {xs : List Value} {lo : Option Addr} {ln lc : Nat} {oo : Option Addr} {on oc : Nat} {a' b' c' d' e' : Value} (inn : Int) (hi : i <= vs.length) (h1 : ns ++ (dmap e (vs.drop i) di).1 = fin.1) (h2 : (dmap e (vs.drop i) di).2 = fin.2) (hp : PR z w9 o i c ns xs)
    (hb0:w9.heap[B]?=some (.cells #[a',b',c',d',e'] 61 (0,0))) (hb1:w9.heap[B+1]?=some (.cells (cells9 h o1 l1 c1 o2 l2 c2) 30 (0,0))) (hb2:w9.heap[B+1+1]?=some (.cells #[.slice none 0 0,.int .i64 0,.int .i64 0,.slice none 0 0,.int .i64 0] 61 (0,0)))
    (hk:fH (Iz R B (.slice o i c)) w9 most di lo ln lc oo on oc) (hq:ah W w9) (hB:W.heap.size=B) (hz:B+1+1 < z) (hs:z<=w9.heap.size):PtS R W B z most h o1 l1 c1 o2 l2 c2 e vs fin i o c (iD w9 B (.slice lo ln lc) (.int .i64 di.next) (.int .i64 most) (.slice oo on oc) (.int .i64 inn)):=by
 have hf:=eU w9 B (.slice lo ln lc) (.int .i64 di.next) (.int .i64 most) (.slice oo on oc) (.int .i64 inn);exact ⟨di,ns,xs,lo,ln,lc,oo,on,oc,inn,hi,h1,h2,hp.fr hf (fun k e=>by have e':k=B:=e;omega),bV hb0,aC hf (by intro h;have h':B+1=B:=h;omega) hb1,aC hf (by intro h;have h':B+1+1=B:=h;omega) hb2,Yc hk hf,Fr.trans' hq hf (fun i hi e=>by have e':i=B:=e;omega),Nat.le_trans hs hf.size⟩
theorem PR.at {R:Nat->Prop} {z B:Nat} {W:World} {o:Option Addr} {i c:Nat} {ns:List Nat} {xs:List Value} (h:PR z W o i c ns xs) (hz:B+1+1 < z) (hm:i<=maxLen):ug (RB R B) W o (ns.map tv)/\i<=c:=by
 rcases h.own.2 with ⟨h1,h2⟩ | ⟨g,cap,cur,h1,h2,h3,h4,h5,_⟩
 ·injection h1 with e1 e2 e3
  refine ⟨⟨by rw [List.length_map,h.len];exact hm,.inl ?_⟩,by omega⟩;have:=h.len;cases ns with
  | nil=>rfl
  | cons n r=>simp at this;omega
 ·injection h1 with e1 e2 e3
  subst e1;refine ⟨⟨by rw [List.length_map,h.len];exact hm,.inr ⟨g,rfl,.inr (by have:=h.low g rfl;omega),h.lt g rfl,xs,h.cells,fun j u hj=>?_⟩⟩,by omega⟩;have:=h.own.cells (g:=g) rfl j u hj;simpa [Addr.add_lit] using this
theorem ug.stay {T:Nat->Prop} {w w':World} {o:Option Addr} {l:List Ty} (h:ug T w o l) (hq:ah w w'):ug T w' o l:=by
 refine ⟨h.1,h.2.imp id ?_⟩;rintro ⟨g,h1,h2,h3,xs,h4,h5⟩;exact ⟨g,h1,h2,Nat.lt_of_lt_of_le h3 hq.size,xs,h4,fun j u hj=>hq.at (h5 j u hj)⟩
theorem Gl:∀ ns:List Nat,(jy (ns.map tv)).size=ns.length
 | []=>rfl
 | n::r=>by
  show (jy (tv n::r.map tv)).size=_
  simp only [jy,tv,Fo.size];rw [Gl r,List.length_cons];simp;omega
end Em
end
end Go.Proofs.YtcninopmelmajaaDoor
