/-
  Texts laid together (RqKp7, RqPt): laws and walks, with their conditions.
-/
import Derived.Test.YtcninopmelmajaaGreatDoorOF38
set_option maxHeartbeats 8000000
set_option maxRecDepth 1000000
namespace Go.Proofs.YtcninopmelmajaaGreatDoor
open Go.Lib (hid)
section
open Go.RowKit
namespace Em
theorem Vg {most:Nat} (hm:most<=4000) (h:Nd) (ps:To) (ih:∀ i g qs,ps.get i=some (g,qs)->jU most g qs) (hk:h.k=7) (ar:Ev) (hz:ar.length+ps.size<=100000) (hgd:Good most ar) (hok:Ri h ps.length) (mZ:vF ps):KpA most h ps ar:=by
 intro R W d inn lo ln lc oo on oc o1 l1 c1 o2 l2 c2 eo en ec hrk hs1 hs2 hev vX hnb;have hl2:2<=l2:=by rw [hs2.1];exact hok.2.2.2.2.1 hk
 obtain ⟨b9,aK,u,qu,lq,lu,d1u,lC,lD,lF,e9,_,gu,ru,cu,su,tu⟩:=hs2.nth (i:=0) (by omega);subst e9;simp only [Nat.zero_mul,Nat.add_zero] at cu;have IH:=hid (ih 0 u qu gu);have hzu:=To.dK ps 0 u qu gu;have hou:=gJ ps 0 u qu mZ gu;have Kt:=hid hev.1;have hel:=hev.1;obtain ⟨W0,hW0⟩:∃ W0,W0=(((W.alloc (.cells (r5 lo ln lc d.next most oo on oc inn) 70)).alloc (.cells (cells9 h o1 l1 c1 (some ⟨b9,aK,none⟩) l2 c2) 29)).alloc (.cells (#[.slice none 0 0,.int .i64 0,.int .i64 0,.slice none 0 0,.int .i64 0]) 70)):=⟨_,rfl⟩;have vG:ah W W0:=by rw [hW0];exact ((ah.alloc _ _).trans (ah.alloc _ _)).trans (ah.alloc _ _)
 have yB:(W.alloc (.cells (r5 lo ln lc d.next most oo on oc inn) 70)).heap.size=W.heap.size+1:=by simp
 have yC:((W.alloc (.cells (r5 lo ln lc d.next most oo on oc inn) 70)).alloc (.cells (cells9 h o1 l1 c1 (some ⟨b9,aK,none⟩) l2 c2) 29)).heap.size=W.heap.size+1+1:=by simp
 have yD:W0.heap[W.heap.size]?=some (.cells (r5 lo ln lc d.next most oo on oc inn) 70 (0,0)):=by
  rw [hW0];have k:=heap_alloc_new W (.cells (r5 lo ln lc d.next most oo on oc inn) 70);exact au ((ah.alloc _ _).trans (ah.alloc _ _)) k
 have yE:W0.heap[W.heap.size+1]?=some (.cells (cells9 h o1 l1 c1 (some ⟨b9,aK,none⟩) l2 c2) 29 (0,0)):=by
  rw [hW0];have k:=heap_alloc_new (W.alloc (.cells (r5 lo ln lc d.next most oo on oc inn) 70)) (.cells (cells9 h o1 l1 c1 (some ⟨b9,aK,none⟩) l2 c2) 29);rw [yB] at k;exact au (ah.alloc _ _) k
 have um:W0.heap[W.heap.size+1+1]?=some (.cells (#[.slice none 0 0,.int .i64 0,.int .i64 0,.slice none 0 0,.int .i64 0]) 70 (0,0)):=by
  rw [hW0];have k:=heap_alloc_new ((W.alloc (.cells (r5 lo ln lc d.next most oo on oc inn) 70)).alloc (.cells (cells9 h o1 l1 c1 (some ⟨b9,aK,none⟩) l2 c2) 29)) (.cells (#[.slice none 0 0,.int .i64 0,.int .i64 0,.slice none 0 0,.int .i64 0]) 70);rw [yC] at k;exact k
 clear yB yC;have hz0:W.heap.size+1+1 < W0.heap.size:=lt_of_block um;have Vf:gy (RB R W.heap.size) W0 most d lo ln lc oo on oc:=hrk.fr vG (jL rfl);have aP:=hid vG;have HB0:=hid yD;have Q9:=hid yE;have HB2:=hid um;have HK0:=hid Vf;have Kz:=hid hev;have Qx:=hid hgd;have AZ:=hid cu;have Aw:=hid su;have Az:=hid tu;have t6:(h.k == 6)=false:=by rw [hk];rfl
 have hi0:(0:Int) < l2:=by omega
 have hj0:0 < l2:=by omega
 have hlz:en+1+qu.size<=100000:=by omega
 clear hel;obtain ⟨res,hres⟩:∃ res,jV most h (dM most ps) (lI most ar) d=res:=⟨_,rfl⟩;obtain ⟨d2,hd2⟩:∃ d2:Dk,d2={ d with next:=d.next+1 }:=⟨_,rfl⟩;have hdn:d2.next=d.next+1:=by rw [hd2]
 obtain ⟨rt,hrt⟩:∃ rt,fH most u qu (lI most (ar.snoc h.nm d.next false nd0 .nil .nil)) d2=rt:=⟨_,rfl⟩;have hre:res=(d.next,(dS most (tv d.next) (tv d2.next) h.fr h.en rt.2).2):=by
  have e1:rt.1=d2.next:=by rw [<-hrt];exact lG _ _ _ _ _
  rw [<-hres,<-e1,<-hrt,Ol,hd2];unfold jV;rw [if_neg (by rw [hk];decide)];unfold gq kX jP;dsimp only;rw [A8 gu]
  all_goals rfl
 have HR1:Hid (res.1=d.next):=by show _=_;rw [hre]
 have HR2:Hid ((dS most (tv d.next) (tv d2.next) h.fr h.en rt.2).2=res.2):=by show _=_;rw [hre]
 have hnt:rt.2.next<=1000000:=by rw [hres,hre] at hnb;simpa only [jR] using hnb
 have hnx:d2.next+1<=rt.2.next:=by rw [<-hrt];exact yF most u qu (nG most _) d2
 have hn1:d.next+1<=1000000:=by omega
 have hnw:IntKind.i64.wrap ((d.next:Int)+1)=((d.next+1:Nat):Int):=by rw [IntWalk.i64_in _ (by omega)];omega
 have xB:=hid hrt;have Qy:=hid hnt;have HD2:=hid hd2;have HDN:=hid hdn;clear hre hnb hrt hnt hnx hd2 hdn;rw [hres];clear ih gu ru cu su tu hrk Vf hs1 hs2 hev hgd vG yD yE um hk hres hzu hok mZ;unfold bI iC;go_enter Tryz.func60,Tryz.ntmps60;generalize dW:W.heap.size=B at *;go_upto_region 1 with fail
 rw [<-hW0];clear hW0;obtain ⟨⟨p0,p1,p2,p3,p4⟩,y0,y1,y2,y3,y4⟩:=five HB0.out;obtain ⟨a0,a1,a2,a3,a4,a5,a6,a7,a8⟩:=aA Q9.out;go_upto_region 7 with fail
 rw [show ((d.next:Int)+1)=(d2.next:Int) from by have:=HDN.out;omega];clear p0 p1 p2 p3 p4 y0 y1 y2 y3 y4 a0 a1 a2 a3 a4 a5 a6 a7 a8;obtain ⟨wp,hwp⟩:∃ wp,wp=W0.setCell ⟨B,1,none⟩ (.int .i64 d2.next):=⟨_,rfl⟩;rw [<-hwp];obtain ⟨hb0,ig,hb2,hkp,Qz⟩:=Oi HD2.out hwp HB0.out Q9.out HB2.out HK0.out aP.out dW;have KA:=hid hb0;have vH:=hid ig;have zF:=hid hb2;have HKp:=hid hkp;have sO:=hid Qz;have hzp:B+1+1 < wp.heap.size:=lt_of_block hb2;clear hwp hb0 ig hb2 hkp Qz hnw hn1;obtain ⟨xs,hrow,hxl,hxo,hxc⟩:=Kz.out.row;have MH:=hid hxc;have l9:=hid hrow;clear hrow hxc;have nY:Hid (∀ W' o c,ah wp W'->EvS (RB R B) W' o (en+1) (ar.snoc h.nm d.next false nd0 .nil .nil)->en+1<=c->Calls Tryz.prog 37 #[iC lo ln lc d2.next most oo on oc inn,bI u lq lu d1u lC lD lF,.slice o (en+1) c] W' (sS (RB R B) W' most rt.2)):=fun W' o c hq he hc=>by
  have hq':=sO.out.trans hq;have k:=IH.out (RB R B) W' d2 inn lo ln lc oo on oc lq lu d1u lC lD lF o (en+1) c _ (HKp.out.stay hq) (Aw.out.fr hq' (jL dW)) (Az.out.fr hq' (jL dW)) he hc hlz (Good.snoc (fun e=>by cases e) Qx.out) hou.1 hou.2 (by rw [xB.out];exact Qy.out);rw [xB.out] at k;exact k
 unfold bI iC at nY;have YF:Hid (∀ W' W'',ah wp W'->Fr (fun k=>k=B+1+1) W' W''->(fun (W':World)=>(AO W' B (.slice lo ln lc) (.int .i64 d2.next) (.int .i64 most) (.slice oo on oc) (.int .i64 inn))/\(qP W' (B+1) h o1 l1 c1 (some ⟨b9,aK,none⟩) l2 c2)/\(EC W' b9 aK u lq lu d1u lC lD lF)) W''):=fun W' W'' hq hf=>by
  obtain ⟨k,_⟩:=five (aC hf (by intro e;have e':B=B+1+1:=e;omega) (au hq KA.out));exact ⟨k,aA (aC hf (by intro e;have e':B+1=B+1+1:=e;omega) (au hq vH.out)),(iq AZ.out (sO.out.trans hq)).fr hf (by intro e;have e':b9=B+1+1:=e;have:=AZ.out.lt;omega)⟩
 have bK:Hid (∀ W',ah wp W'->(fun (W':World)=>(AO W' B (.slice lo ln lc) (.int .i64 d2.next) (.int .i64 most) (.slice oo on oc) (.int .i64 inn))/\(qP W' (B+1) h o1 l1 c1 (some ⟨b9,aK,none⟩) l2 c2)/\(EC W' b9 aK u lq lu d1u lC lD lF)) W'):=fun W' hq=>YF.out W' W' hq (Fr.refl _ _)
 go_cut [] from 32 to 46 (fun wx=>TmC R W B rt.2 most h o1 l1 c1 (some ⟨b9,aK,none⟩) l2 c2 wx)
 case first =>
  refine dI 15 bK.out (by kernel_rfl) (fun hHeld=>?_)
  (try dsimp only at hHeld)
  have gZ:=ah.drew wp;generalize wp.drew=wd at gZ hHeld ⊢;refine HT.tk 0 rfl ?_;go_frame;refine HT.tk 1 rfl ?_;go_frame;refine HT.tk 2 rfl ?_;go_frame;refine HT.tk 3 rfl ?_;go_frame;refine HT.tk 4 rfl ?_;go_frame;refine HT.tk 6 rfl ?_;go_frame;refine HT.tk 8 rfl ?_;go_frame;refine HT.tk 9 rfl ?_;go_frame;refine HT.tk 10 rfl ?_;go_frame;refine HT.tk 11 rfl ?_;go_frame;refine HT.branch (rs:=[5,12]) (by kernel_rfl) (by simp) ?_;refine HT.cn 5 rfl (fun K hK=>?_) ?_
  ·go_simp;obtain ⟨qI,kN⟩:∃ wa,wa=wd.alloc (.cells #[] 108):=⟨_,rfl⟩;have hqa:ah wd qI:=by rw [kN];exact ah.alloc _ _
   have hown:=gY (size:=13) (show qI.heap[wd.heap.size]?=some (.cells #[] 108 (0,0)) by rw [kN];exact heap_alloc_new wd _);have hgl:wp.heap.size<=wd.heap.size:=(gZ).size;have ng:=(gZ).trans hqa;rw [<-kN];clear kN;generalize wd.heap.size=ga at hown hgl ⊢;refine hK.out _ _ ?aap (fun hHeld=>?_)
   case aap=>exact bK.out _ ng
   clear hK K
   (try go_frame)
   refine HT.branch (rs:=[7,12]) (by kernel_rfl) (by simp) ?_;refine HT.cn 7 rfl (fun K hK=>?_) ?_
   ·refine aJ qI rfl (.tmp 37) (.tmp 38) 105 rfl 108 _ 13 168 jv (.slice (some ⟨ga,0,none⟩) 0 0) 0 [] rfl hown eo en ec xs rfl hxl ?abK hxo (by unfold maxLen;omega) (by omega) ?_
    case abK=>(intro j u hj;obtain ⟨b,off,e,hc⟩:=MH.out j u hj;subst e;exact ⟨_,rfl,by rw [Addr.add_lit];exact (sO.out.trans (ng)).at hc⟩)
    intro o3 c3 jJ ho3 hf3 iL hnil3;simp only [Nat.zero_add,List.nil_append] at ho3 iL hnil3 ⊢;have pR:ah wp jJ:=Fr.trans' (ng) hf3 (fun i hi e=>by simp [Value.ownBlock] at e;omega);have jK:∀ k,(Value.slice o3 en c3).ownBlock=some k->wp.heap.size<=k:=fun k hk=>by
     rcases iL with e | e
     ·rw [e] at hk;simp [Value.ownBlock] at hk;omega
     ·rw [e] at hk;cases hk;exact ((ng)).size
    refine hK.out _ _ ?U4 (fun hHeld=>?_)
    case U4=>exact bK.out _ pR
    clear hK K
    (try go_frame)
    refine HT.branch (rs:=[12]) (by kernel_rfl) (by simp) ?_;refine HT.cn 12 rfl (fun K hK=>?_) ?_
    ·go_simp;obtain ⟨lU,hwb⟩:∃ wb,wb=jJ.alloc (.cells (fM h.nm d.next false nd0 none 0 0 none 0 0 none 0 0) 108):=⟨_,rfl⟩;have qp:ah jJ lU:=by rw [hwb];exact ah.alloc _ _
     have hb8:lU.heap[jJ.heap.size]?=some (.cells (fM h.nm d.next false nd0 none 0 0 none 0 0 none 0 0) 108 (0,0)):=by rw [hwb];exact heap_alloc_new jJ _
     have BQ:wp.heap.size<=jJ.heap.size:=(pR).size;have kP:=(pR).trans qp;have pU:=lt_of_block hb8;change K _ (jJ.alloc (.cells (fM h.nm d.next false nd0 none 0 0 none 0 0 none 0 0) 108));rw [<-hwb];clear hwb;replace ho3:=aV ho3 qp (fun _ _ h=>h);generalize jJ.heap.size=g8 at hb8 BQ pU ⊢;refine hK.out _ _ ?U5 (fun hHeld=>?_)
     case U5=>exact bK.out _ kP
     clear hK K
     (try go_frame)
     refine HT.branch (rs:=[13]) (by kernel_rfl) (by simp) ?_;refine HT.cn 13 rfl (fun K hK=>?_) ?_
     ·have hc8:∀ j u,(fM h.nm d.next false nd0 none 0 0 none 0 0 none 0 0).toList[j]?=some u->∃ a,some (⟨g8,0,none⟩:Addr)=some a/\lU.cell? (a.add j)=some u:=fun j u hj=>⟨_,rfl,by rw [Addr.add_lit,Nat.zero_add,cell_of_row _ _ _ _ _ (0,0) hb8];simpa using hj⟩
      refine aJ lU rfl (.tmp 39) (.tmp 44) 105 rfl 108 _ 13 168 jv (.slice o3 en c3) en xs rfl ho3 (some ⟨g8,0,none⟩) 1 1 (fM h.nm d.next false nd0 none 0 0 none 0 0 none 0 0).toList rfl rfl hc8 (by simp [Value.oneCell']) (by unfold maxLen;omega) (by omega) ?_;intro o4 c4 wU mM hf4 pV uo;have eG:ah wp wU:=Fr.trans' (kP) hf4 (fun i hi e=>by have:=jK i e;omega);have pW:∀ k,(Value.slice o4 (en+1) c4).ownBlock=some k->B+1+1 < k:=fun k hk=>by
       rcases pV with e | e
       ·rw [e] at hk;have:=jK k hk;omega
       ·rw [e] at hk;cases hk;have:=((kP)).size;omega
      refine hK.out _ _ ?U6 (fun hHeld=>?_)
      case U6=>exact bK.out _ eG
      clear hK K
      (try go_frame)
      refine HT.branch (rs:=[14]) (by kernel_rfl) (by simp) ?_;refine HT.cn 14 rfl (fun K hK=>?_) ?_
      ·obtain ⟨uw,uy⟩:=lX (h:=nd0) (ps:=.nil) (ar:=.nil) (ag:=false) (o1:=none) (l1:=0) (c1:=0) (o2:=none) (l2:=0) (c2:=0) (ao:=none) (an:=0) (ac:=0) l9.out Kt.out (sO.out.trans (eG)) dW (aB.nil _ _ _) (bD.nil _ _ _) (EvS.nil _ _ _) (Nat.le_refl _) mM (by omega) pW;go_simp;go_at_call 37
       with_reducible refine Calls.mono (nY.out _ _ _ (eG) uw uy) ?_
       rintro e w9 ⟨Rk,Rn,Ro,Rq,Rt,Ru,AQ,rfl,hk9,tH⟩;have mg:=iM hk9 (Nat.lt_of_lt_of_le hzp (eG).size);have fC:=(eG).trans tH;unfold iC;refine hK.out _ _ ?aaq (fun hHeld=>?_)
       case aaq=>exact bK.out _ fC
       clear hK K
       (try go_frame)
       refine HT.last rfl (by kernel_rfl) (fun K hK=>?_);have hbs:=au fC KA.out;obtain ⟨⟨p0,p1,p2,p3,p4⟩,y0,y1,y2,y3,y4⟩:=five hbs;have hend:=kG AQ hbs (au fC vH.out) (au fC zF.out) mg (sO.out.trans fC) dW;go_simp;refine hK.out _ _ ?_;clear hK K
       (try go_frame)
       refine HT.done (by kernel_rfl) ?_ _;go_wp2_with fail;go_meet;exact hend
      exact HT.bJ.nil
     exact HT.bJ.nil
    exact HT.bJ.nil
   refine HT.cn 12 rfl (fun K hK=>?_) ?_
   ·go_simp;obtain ⟨wV,hwb⟩:∃ wb,wb=qI.alloc (.cells (fM h.nm d.next false nd0 none 0 0 none 0 0 none 0 0) 108):=⟨_,rfl⟩;have qp:ah qI wV:=by rw [hwb];exact ah.alloc _ _
    have hb8:wV.heap[qI.heap.size]?=some (.cells (fM h.nm d.next false nd0 none 0 0 none 0 0 none 0 0) 108 (0,0)):=by rw [hwb];exact heap_alloc_new qI _
    have BQ:wp.heap.size<=qI.heap.size:=(ng).size;have lV:=(ng).trans qp;have pU:=lt_of_block hb8;change K _ (qI.alloc (.cells (fM h.nm d.next false nd0 none 0 0 none 0 0 none 0 0) 108));rw [<-hwb];clear hwb;have Qu:=(hown.lt ga rfl).2;replace hown:=aV hown qp (fun _ _ h=>h);generalize qI.heap.size=g8 at hb8 BQ pU Qu ⊢;refine hK.out _ _ ?U7 (fun hHeld=>?_)
    case U7=>exact bK.out _ lV
    clear hK K
    (try go_frame)
    refine HT.branch (rs:=[7]) (by kernel_rfl) (by simp) ?_;refine HT.cn 7 rfl (fun K hK=>?_) ?_
    ·refine aJ wV rfl (.tmp 37) (.tmp 38) 105 rfl 108 _ 13 168 jv (.slice (some ⟨ga,0,none⟩) 0 0) 0 [] rfl hown eo en ec xs rfl hxl ?aar hxo (by unfold maxLen;omega) (by omega) ?_
     case aar=>(intro j u hj;obtain ⟨b,off,e,hc⟩:=MH.out j u hj;subst e;exact ⟨_,rfl,by rw [Addr.add_lit];exact (sO.out.trans (lV)).at hc⟩)
     intro o3 c3 pX ho3 hf3 iL hnil3;simp only [Nat.zero_add,List.nil_append] at ho3 iL hnil3 ⊢;have kQ:ah wp pX:=Fr.trans' (lV) hf3 (fun i hi e=>by simp [Value.ownBlock] at e;omega);have jK:∀ k,(Value.slice o3 en c3).ownBlock=some k->wp.heap.size<=k:=fun k hk=>by
      rcases iL with e | e
      ·rw [e] at hk;simp [Value.ownBlock] at hk;omega
      ·rw [e] at hk;cases hk;exact ((lV)).size
     refine hK.out _ _ ?JK (fun hHeld=>?_)
     case JK=>exact bK.out _ kQ
     clear hK K
     (try go_frame)
     replace hb8:=aC hf3 (fun e=>by simp [Value.ownBlock] at e;omega) hb8;refine HT.branch (rs:=[13]) (by kernel_rfl) (by simp) ?_;refine HT.cn 13 rfl (fun K hK=>?_) ?_
     ·have hc8:∀ j u,(fM h.nm d.next false nd0 none 0 0 none 0 0 none 0 0).toList[j]?=some u->∃ a,some (⟨g8,0,none⟩:Addr)=some a/\pX.cell? (a.add j)=some u:=fun j u hj=>⟨_,rfl,by rw [Addr.add_lit,Nat.zero_add,cell_of_row _ _ _ _ _ (0,0) hb8];simpa using hj⟩
      refine aJ pX rfl (.tmp 39) (.tmp 44) 105 rfl 108 _ 13 168 jv (.slice o3 en c3) en xs rfl ho3 (some ⟨g8,0,none⟩) 1 1 (fM h.nm d.next false nd0 none 0 0 none 0 0 none 0 0).toList rfl rfl hc8 (by simp [Value.oneCell']) (by unfold maxLen;omega) (by omega) ?_;intro o4 c4 wW mM hf4 pV uo;have eH:ah wp wW:=Fr.trans' (kQ) hf4 (fun i hi e=>by have:=jK i e;omega);have pW:∀ k,(Value.slice o4 (en+1) c4).ownBlock=some k->B+1+1 < k:=fun k hk=>by
       rcases pV with e | e
       ·rw [e] at hk;have:=jK k hk;omega
       ·rw [e] at hk;cases hk;have:=((kQ)).size;omega
      refine hK.out _ _ ?U9 (fun hHeld=>?_)
      case U9=>exact bK.out _ eH
      clear hK K
      (try go_frame)
      refine HT.branch (rs:=[14]) (by kernel_rfl) (by simp) ?_;refine HT.cn 14 rfl (fun K hK=>?_) ?_
      ·obtain ⟨uw,uy⟩:=lX (h:=nd0) (ps:=.nil) (ar:=.nil) (ag:=false) (o1:=none) (l1:=0) (c1:=0) (o2:=none) (l2:=0) (c2:=0) (ao:=none) (an:=0) (ac:=0) l9.out Kt.out (sO.out.trans (eH)) dW (aB.nil _ _ _) (bD.nil _ _ _) (EvS.nil _ _ _) (Nat.le_refl _) mM (by omega) pW;go_simp;go_at_call 37
       with_reducible refine Calls.mono (nY.out _ _ _ (eH) uw uy) ?_
       rintro e w9 ⟨Rk,Rn,Ro,Rq,Rt,Ru,AQ,rfl,hk9,tH⟩;have mg:=iM hk9 (Nat.lt_of_lt_of_le hzp (eH).size);have fD:=(eH).trans tH;unfold iC;refine hK.out _ _ ?Vh (fun hHeld=>?_)
       case Vh=>exact bK.out _ fD
       clear hK K
       (try go_frame)
       refine HT.last rfl (by kernel_rfl) (fun K hK=>?_);have hbs:=au fD KA.out;obtain ⟨⟨p0,p1,p2,p3,p4⟩,y0,y1,y2,y3,y4⟩:=five hbs;have hend:=kG AQ hbs (au fD vH.out) (au fD zF.out) mg (sO.out.trans fD) dW;go_simp;refine hK.out _ _ ?_;clear hK K
       (try go_frame)
       refine HT.done (by kernel_rfl) ?_ _;go_wp2_with fail;go_meet;exact hend
      exact HT.bJ.nil
     exact HT.bJ.nil
    exact HT.bJ.nil
   exact HT.bJ.nil
  refine HT.cn 12 rfl (fun K hK=>?_) ?_
  ·go_simp;obtain ⟨uq,hwb⟩:∃ wb,wb=wd.alloc (.cells (fM h.nm d.next false nd0 none 0 0 none 0 0 none 0 0) 108):=⟨_,rfl⟩;have qp:ah wd uq:=by rw [hwb];exact ah.alloc _ _
   have hb8:uq.heap[wd.heap.size]?=some (.cells (fM h.nm d.next false nd0 none 0 0 none 0 0 none 0 0) 108 (0,0)):=by rw [hwb];exact heap_alloc_new wd _
   have BQ:wp.heap.size<=wd.heap.size:=(gZ).size;have wX:=(gZ).trans qp;have pU:=lt_of_block hb8;change K _ (wd.alloc (.cells (fM h.nm d.next false nd0 none 0 0 none 0 0 none 0 0) 108));rw [<-hwb];clear hwb;generalize wd.heap.size=g8 at hb8 BQ pU ⊢;refine hK.out _ _ ?JL (fun hHeld=>?_)
   case JL=>exact bK.out _ wX
   clear hK K
   (try go_frame)
   refine HT.branch (rs:=[5]) (by kernel_rfl) (by simp) ?_;refine HT.cn 5 rfl (fun K hK=>?_) ?_
   ·go_simp;obtain ⟨wY,kN⟩:∃ wa,wa=uq.alloc (.cells #[] 108):=⟨_,rfl⟩;have hqa:ah uq wY:=by rw [kN];exact ah.alloc _ _
    have hown:=gY (size:=13) (show wY.heap[uq.heap.size]?=some (.cells #[] 108 (0,0)) by rw [kN];exact heap_alloc_new uq _);have hgl:wp.heap.size<=uq.heap.size:=(wX).size;have lW:=(wX).trans hqa;rw [<-kN];clear kN;generalize uq.heap.size=ga at hown hgl pU ⊢;refine hK.out _ _ ?JM (fun hHeld=>?_)
    case JM=>exact bK.out _ lW
    clear hK K
    (try go_frame)
    replace hb8:=au hqa hb8;refine HT.branch (rs:=[7]) (by kernel_rfl) (by simp) ?_;refine HT.cn 7 rfl (fun K hK=>?_) ?_
    ·refine aJ wY rfl (.tmp 37) (.tmp 38) 105 rfl 108 _ 13 168 jv (.slice (some ⟨ga,0,none⟩) 0 0) 0 [] rfl hown eo en ec xs rfl hxl ?aas hxo (by unfold maxLen;omega) (by omega) ?_
     case aas=>(intro j u hj;obtain ⟨b,off,e,hc⟩:=MH.out j u hj;subst e;exact ⟨_,rfl,by rw [Addr.add_lit];exact (sO.out.trans (lW)).at hc⟩)
     intro o3 c3 pY ho3 hf3 iL hnil3;simp only [Nat.zero_add,List.nil_append] at ho3 iL hnil3 ⊢;have kR:ah wp pY:=Fr.trans' (lW) hf3 (fun i hi e=>by simp [Value.ownBlock] at e;omega);have jK:∀ k,(Value.slice o3 en c3).ownBlock=some k->wp.heap.size<=k:=fun k hk=>by
      rcases iL with e | e
      ·rw [e] at hk;simp [Value.ownBlock] at hk;omega
      ·rw [e] at hk;cases hk;exact ((lW)).size
     refine hK.out _ _ ?Vj (fun hHeld=>?_)
     case Vj=>exact bK.out _ kR
     clear hK K
     (try go_frame)
     replace hb8:=aC hf3 (fun e=>by simp [Value.ownBlock] at e;omega) hb8;refine HT.branch (rs:=[13]) (by kernel_rfl) (by simp) ?_;refine HT.cn 13 rfl (fun K hK=>?_) ?_
     ·have hc8:∀ j u,(fM h.nm d.next false nd0 none 0 0 none 0 0 none 0 0).toList[j]?=some u->∃ a,some (⟨g8,0,none⟩:Addr)=some a/\pY.cell? (a.add j)=some u:=fun j u hj=>⟨_,rfl,by rw [Addr.add_lit,Nat.zero_add,cell_of_row _ _ _ _ _ (0,0) hb8];simpa using hj⟩
      refine aJ pY rfl (.tmp 39) (.tmp 44) 105 rfl 108 _ 13 168 jv (.slice o3 en c3) en xs rfl ho3 (some ⟨g8,0,none⟩) 1 1 (fM h.nm d.next false nd0 none 0 0 none 0 0 none 0 0).toList rfl rfl hc8 (by simp [Value.oneCell']) (by unfold maxLen;omega) (by omega) ?_;intro o4 c4 wZ mM hf4 pV uo;have eU:ah wp wZ:=Fr.trans' (kR) hf4 (fun i hi e=>by have:=jK i e;omega);have pW:∀ k,(Value.slice o4 (en+1) c4).ownBlock=some k->B+1+1 < k:=fun k hk=>by
       rcases pV with e | e
       ·rw [e] at hk;have:=jK k hk;omega
       ·rw [e] at hk;cases hk;have:=((kR)).size;omega
      refine hK.out _ _ ?abL (fun hHeld=>?_)
      case abL=>exact bK.out _ eU
      clear hK K
      (try go_frame)
      refine HT.branch (rs:=[14]) (by kernel_rfl) (by simp) ?_;refine HT.cn 14 rfl (fun K hK=>?_) ?_
      ·obtain ⟨uw,uy⟩:=lX (h:=nd0) (ps:=.nil) (ar:=.nil) (ag:=false) (o1:=none) (l1:=0) (c1:=0) (o2:=none) (l2:=0) (c2:=0) (ao:=none) (an:=0) (ac:=0) l9.out Kt.out (sO.out.trans (eU)) dW (aB.nil _ _ _) (bD.nil _ _ _) (EvS.nil _ _ _) (Nat.le_refl _) mM (by omega) pW;go_simp;go_at_call 37
       with_reducible refine Calls.mono (nY.out _ _ _ (eU) uw uy) ?_
       rintro e w9 ⟨Rk,Rn,Ro,Rq,Rt,Ru,AQ,rfl,hk9,tH⟩;have mg:=iM hk9 (Nat.lt_of_lt_of_le hzp (eU).size);have fE:=(eU).trans tH;unfold iC;refine hK.out _ _ ?Vk (fun hHeld=>?_)
       case Vk=>exact bK.out _ fE
       clear hK K
       (try go_frame)
       refine HT.last rfl (by kernel_rfl) (fun K hK=>?_);have hbs:=au fE KA.out;obtain ⟨⟨p0,p1,p2,p3,p4⟩,y0,y1,y2,y3,y4⟩:=five hbs;have hend:=kG AQ hbs (au fE vH.out) (au fE zF.out) mg (sO.out.trans fE) dW;go_simp;refine hK.out _ _ ?_;clear hK K
       (try go_frame)
       refine HT.done (by kernel_rfl) ?_ _;go_wp2_with fail;go_meet;exact hend
      exact HT.bJ.nil
     exact HT.bJ.nil
    exact HT.bJ.nil
   exact HT.bJ.nil
  exact HT.bJ.nil
 case rest =>
  rename World=>wq
  obtain ⟨rP,rQ,rU,vI,vJ,vK,qZ,hb0,ig,hb2,hk5,hq5⟩:=hcut;have qg:=hid hb0;have qh:=hid ig;have uz:=hid hb2;have JR:=hid hk5;have nD:=hid hq5;have adl:B+1+1 < wq.heap.size:=lt_of_block hb2;clear hb0 ig hb2 hk5 hq5 YF bK hzp;have hzp:=adl;have YF:Hid (∀ W' W'',ah wq W'->Fr (fun k=>k=B+1+1) W' W''->(fun (W':World)=>(AO W' B (.slice rP rQ rU) (.int .i64 rt.2.next) (.int .i64 most) (.slice vI vJ vK) (.int .i64 qZ))/\(qP W' (B+1) h o1 l1 c1 (some ⟨b9,aK,none⟩) l2 c2)/\(EC W' b9 aK u lq lu d1u lC lD lF)) W''):=fun W' W'' hq hf=>by
   obtain ⟨k,_⟩:=five (aC hf (by intro e;have e':B=B+1+1:=e;omega) (au hq qg.out));exact ⟨k,aA (aC hf (by intro e;have e':B+1=B+1+1:=e;omega) (au hq qh.out)),(iq AZ.out (nD.out.trans hq)).fr hf (by intro e;have e':b9=B+1+1:=e;have:=AZ.out.lt;omega)⟩
  have bK:Hid (∀ W',ah wq W'->(fun (W':World)=>(AO W' B (.slice rP rQ rU) (.int .i64 rt.2.next) (.int .i64 most) (.slice vI vJ vK) (.int .i64 qZ))/\(qP W' (B+1) h o1 l1 c1 (some ⟨b9,aK,none⟩) l2 c2)/\(EC W' b9 aK u lq lu d1u lC lD lF)) W'):=fun W' hq=>YF.out W' W' hq (Fr.refl _ _)
  have iw:Hid (∀ W',ah wq W'->Calls Tryz.prog 58 #[iC rP rQ rU rt.2.next most vI vJ vK qZ,.agg #[.int .i64 1,.int .i64 d.next,.slice none 0 0],.agg #[.int .i64 1,.int .i64 d2.next,.slice none 0 0],.agg #[.int .i64 h.fr,.int .i64 h.en]] W' (sS (RB R B) W' most res.2)):=fun W' hq=>by
   have k:=add_any (o1:=none) (l1:=0) (c1:=0) (o2:=none) (l2:=0) (c2:=0) qZ (JR.out.stay hq) hm (tv d.next) (tv d2.next) h.fr h.en (aB.nil _ _ _) (aB.nil _ _ _) (by show Fo.nil.size<=_;decide) (by show Fo.nil.size<=_;decide);rw [HR2.out] at k;exact k
  unfold iC at iw;go_upto_region 8 with fail
  refine dI 10 bK.out (by kernel_rfl) (fun hHeld=>?_)
  (try dsimp only at hHeld)
  have gZ:=ah.drew wq;generalize wq.drew=wd at gZ hHeld ⊢;refine HT.tk 0 rfl ?_;go_frame;refine HT.tk 1 rfl ?_;go_frame;refine HT.tk 3 rfl ?_;go_frame;refine HT.tk 5 rfl ?_;go_frame;refine HT.tk 6 rfl ?_;go_frame;refine HT.tk 8 rfl ?_;go_frame;refine HT.branch (rs:=[2]) (by kernel_rfl) (by simp) ?_;refine HT.cn 2 rfl (fun K hK=>?_) ?_
  ·go_simp;go_at_call 59
   with_reducible refine Calls.mono (gX _ _) ?_
   rintro e wv1 ⟨rfl,qj⟩;have fP:=gZ.trans qj;refine hK.out _ _ ?Vl (fun hHeld=>?_)
   case Vl=>exact bK.out _ fP
   clear hK K
   (try go_frame)
   refine HT.branch (rs:=[4]) (by kernel_rfl) (by simp) ?_;refine HT.cn 4 rfl (fun K hK=>?_) ?_
   ·go_simp;go_at_call 59
    with_reducible refine Calls.mono (gX _ _) ?_
    rintro e wv2 ⟨rfl,rV⟩;have gV:=fP.trans rV;refine hK.out _ _ ?Vm (fun hHeld=>?_)
    case Vm=>exact bK.out _ gV
    clear hK K
    (try go_frame)
    refine HT.branch (rs:=[7]) (by kernel_rfl) (by simp) ?_;refine HT.cn 7 rfl (fun K hK=>?_) ?_
    ·go_simp;go_at_call 58
     with_reducible refine Calls.mono (iw.out _ gV) ?_
     rintro e Eb ⟨lo3,iO,iP,iQ,iR,iU,iD,rfl,hk3,Du⟩;have mg:=iM hk3 (Nat.lt_of_lt_of_le hzp gV.size);have oL:=gV.trans Du;unfold iC;refine hK.out _ _ ?Vo (fun hHeld=>?_)
     case Vo=>exact bK.out _ oL
     clear hK K
     (try go_frame)
     refine HT.branch (rs:=[9]) (by kernel_rfl) (by simp) ?_;refine HT.cn 9 rfl (fun K hK=>?_) ?_
     ·have hbs:=au oL uz.out;obtain ⟨⟨d0,d1,d2,d3,d4⟩,y0,y1,y2,y3,y4⟩:=five hbs;go_simp;have hf:=fJ Eb (B+1+1) (.slice lo3 iO iP) (.int .i64 res.2.next) (.int .i64 most) (.slice iQ iR iU) (.int .i64 iD);have hbf:=bY (a:=.slice lo3 iO iP) (b:=.int .i64 res.2.next) (c:=.int .i64 most) (d:=.slice iQ iR iU) (e:=.int .i64 iD) hbs;change K _ (iJ Eb (B+1+1) (.slice lo3 iO iP) (.int .i64 res.2.next) (.int .i64 most) (.slice iQ iR iU) (.int .i64 iD));clear d0 d1 d2 d3 d4 y0 y1 y2 y3 y4;have hend:=ni mg (nD.out.trans oL) hf dW;have hsf:=YF.out _ _ oL hf;generalize iJ Eb (B+1+1) (.slice lo3 iO iP) (.int .i64 res.2.next) (.int .i64 most) (.slice iQ iR iU) (.int .i64 iD)=wf at *;refine hK.out _ _ ?Vp (fun hHeld=>?_)
      case Vp=>exact hsf
      clear hK K
      (try go_frame)
      refine HT.last rfl (by kernel_rfl) (fun K hK=>?_);go_simp;refine hK.out _ _ ?_;clear hK K
      (try go_frame)
      refine HT.done (by kernel_rfl) ?_ _;obtain ⟨⟨f0,f1,f2,f3,f4⟩,_⟩:=five hbf;generalize AP:bodyPost Tryz.prog Tryz.f60 (KpQ R W most res)=BP;go_wp2_with fail;rw [<-AP];refine bodyPost_ret (by simp [results,Tryz.results60,go_sem,f0,f1,f2,f3,f4]<;>rfl) rfl ?_;exact ⟨lo3,iO,iP,iQ,iR,iU,iD,by rw [HR1.out],hend.1,hend.2⟩
     exact HT.bJ.nil
    exact HT.bJ.nil
   exact HT.bJ.nil
  exact HT.bJ.nil
end Em
end
section
open Go.RowKit
namespace Em
structure PR (z:Nat) (W:World) (o:Option Addr) (i c:Nat) (ns:List Nat) (xs:List Value):Prop where
 len:ns.length=i
 own:W.ownsRow 0 24 3 (.slice o i c) i xs
 low:∀ k,(Value.slice o i c).ownBlock=some k->z<=k
 cells:nX xs (ns.map tv)
theorem PR.nil (z:Nat) (W:World):PR z W none 0 0 [] []:=⟨rfl,World.ownsRow_nil _ _ _ _,fun k hk=>(by cases hk),rfl⟩
theorem PR.fr {z:Nat} {S:Nat->Prop} {W W':World} {o:Option Addr} {i c:Nat} {ns:List Nat} {xs:List Value} (h:PR z W o i c ns xs) (hf:Fr S W W') (hs:∀ k,S k->k < z):PR z W' o i c ns xs :=
 ⟨h.len,aV h.own hf (fun k hk e=>by have:=hs k e;have:=h.low k hk;omega),h.low,h.cells⟩
theorem PR.stay {z:Nat} {W W':World} {o:Option Addr} {i c:Nat} {ns:List Nat} {xs:List Value} (h:PR z W o i c ns xs) (hq:ah W W'):PR z W' o i c ns xs:=h.fr hq (fun _ h=>h.elim)
theorem PR.lt {z:Nat} {W:World} {o:Option Addr} {i c:Nat} {ns:List Nat} {xs:List Value} (h:PR z W o i c ns xs):∀ k,(Value.slice o i c).ownBlock=some k->k < W.heap.size:=fun k hk=>(h.own.lt k hk).2
theorem PR.snoc {z:Nat} {W w':World} {o:Option Addr} {i c:Nat} {ns:List Nat} {xs:List Value} (h:PR z W o i c ns xs) (n:Nat) {o':Option Addr} {c1 g c':Nat} (ho:w'.ownsRow 0 24 3 (.slice (some ⟨g,0,none⟩) (i+1) c') (i+1) (xs++[.int .i64 1,.int .i64 n,.slice o' 0 c1])) (hz:z<=W.heap.size) (hg:(Value.slice o i c).ownBlock=some g∨W.heap.size<=g):PR z w' (some ⟨g,0,none⟩) (i+1) c' (ns++[n]) (xs++[.int .i64 1,.int .i64 n,.slice o' 0 c1]):=by
 refine ⟨by simp [h.len],ho,fun k hk=>?_,?_⟩
 ·have e:g=k:=by simpa [Value.ownBlock] using hk
  subst e;rcases hg with e | e
  ·exact h.low _ e
  ·omega
 ·have:=nX.snoc n o' c1 (ns.map tv) xs h.cells;simpa using this
def Hz (R:Nat->Prop) (B:Nat) (v:Value) (k:Nat):Prop:=RB R B k/\v.ownBlock≠some k
theorem Ba {R:Nat->Prop} {w:World} {B most:Nat} {d:Dk} {lo:Option Addr} {ln lc:Nat} {oo:Option Addr} {on oc:Nat} (hk:gy (RB R B) w most d lo ln lc oo on oc):gy (Hz R B (.slice none 0 0)) w most d lo ln lc oo on oc:=hk.mono (fun _ _ h=>⟨h,by simp [Value.ownBlock]⟩)
theorem Bc {R:Nat->Prop} {w:World} {B most:Nat} {v:Value} {d:Dk} {lo:Option Addr} {ln lc:Nat} {oo:Option Addr} {on oc:Nat} (hk:gy (Hz R B v) w most d lo ln lc oo on oc):gy (RB R B) w most d lo ln lc oo on oc:=hk.mono (fun _ _ h=>h.1)
theorem yG {R:Nat->Prop} {w w':World} {B most:Nat} {v:Value} {d:Dk} {lo:Option Addr} {ln lc:Nat} {oo:Option Addr} {on oc:Nat} (hk:gy (Hz R B v) w most d lo ln lc oo on oc) (hf:Fr (fun k=>v.ownBlock=some k) w w') {g n c:Nat} (hg:v.ownBlock=some g∨w.heap.size<=g):gy (Hz R B (.slice (some ⟨g,0,none⟩) n c)) w' most d lo ln lc oo on oc :=
 hk.fr hf (fun k hl h=>⟨⟨h.1,fun e=>by
  have e':g=k:=by simpa [Value.ownBlock] using e
  subst e';rcases hg with e | e
  ·exact h.2 e
  ·omega⟩,h.2⟩)
theorem yH {R:Nat->Prop} {w w':World} {B most:Nat} {v:Value} {fin:Dk} {lo:Option Addr} {ln lc:Nat} {oo:Option Addr} {on oc:Nat} (hk:gy (fun k=>Hz R B v k∨w.heap.size<=k) w' most fin lo ln lc oo on oc) (hz:B+1+1 < w.heap.size) (hv:∀ k,v.ownBlock=some k->k < w.heap.size):gy (Hz R B v) w' most fin lo ln lc oo on oc :=
 hk.mono (fun k _ h=>h.elim id (fun h=>⟨.inr (by omega),fun e=>by have:=hv k e;omega⟩))
theorem XV {R:Nat->Prop} {wx w':World} {B most:Nat} {v:Value} {d:Dk} {lo:Option Addr} {ln lc:Nat} {oo:Option Addr} {on oc:Nat} (hk:gy (Hz R B v) wx most d lo ln lc oo on oc) (hf:Fr (fun k=>k=B) wx w'):gy (Hz R B v) w' most d lo ln lc oo on oc :=
 hk.fr hf (fun k _ h=>⟨h,fun e=>by have e':k=B:=e;rcases h.1 with h | h<;>omega⟩)
theorem og {R:Nat->Prop} {W:World} {B z:Nat} {v:Value} (hB:W.heap.size=B) (hv:∀ k,v.ownBlock=some k->z<=k) (hz:B<=z):∀ k,k < W.heap.size->R k->Hz R B v k/\¬ False:=fun k hk hr=>⟨⟨.inl ⟨hr,by omega⟩,fun e=>by have:=hv k e;omega⟩,fun h=>h⟩
def PtS (R:Nat->Prop) (W:World) (B z:Nat) (most:Nat) (h:Nd) (o1:Option Addr) (l1 c1:Nat) (o2:Option Addr) (l2 c2:Nat) (e:aU) (vs:List (aU->Dm Nat)) (fin:List Nat × Dk) (i:Nat) (o:Option Addr) (c:Nat) (wx:World):Prop :=
 ∃ (di:Dk) (ns:List Nat) (xs:List Value) (lo:Option Addr) (ln lc:Nat) (oo:Option Addr) (on oc:Nat) (inn:Int),i<=vs.length/\ns++(dmap e (vs.drop i) di).1=fin.1/\(dmap e (vs.drop i) di).2=fin.2/\PR z wx o i c ns xs /\
  wx.heap[B]?=some (.cells (r5 lo ln lc di.next most oo on oc inn) 70 (0,0))/\wx.heap[B+1]?=some (.cells (cells9 h o1 l1 c1 o2 l2 c2) 29 (0,0))/\wx.heap[B+1+1]?=some (.cells #[.slice none 0 0,.int .i64 0,.int .i64 0,.slice none 0 0,.int .i64 0] 70 (0,0)) /\
  gy (Hz R B (.slice o i c)) wx most di lo ln lc oo on oc/\ah W wx/\z<=wx.heap.size
def YG (R:Nat->Prop) (W:World) (B z:Nat) (most:Nat) (h:Nd) (o1:Option Addr) (l1 c1:Nat) (o2:Option Addr) (l2 c2:Nat) (e:aU) (vs:List (aU->Dm Nat)) (fin:List Nat × Dk) (p t:Value) (wx:World):Prop :=
 ∃ (i:Nat) (o:Option Addr) (c:Nat),t=.int .i64 i/\p=.slice o i c/\PtS R W B z most h o1 l1 c1 o2 l2 c2 e vs fin i o c wx
theorem qY (e:aU):∀ (vs:List (aU->Dm Nat)) (i:Nat) (v:aU->Dm Nat) (d:Dk),vs[i]?=some v->dmap e (vs.drop i) d=((v e d).1::(dmap e (vs.drop (i+1)) (v e d).2).1,(dmap e (vs.drop (i+1)) (v e d).2).2)
 | [],i,v,m,h=>by simp at h
 | u::r,0,v,m,h=>by simp at h;subst h;rfl
 | u::r,i+1,v,m,h=>by simpa using qY e r i v m (by simpa using h)
theorem lY (most:Nat):∀ f:To,(dM most f).length=f.length
 | .nil=>rfl
 | .cons _ _ r=>by simp only [dM,List.length_cons,To.length];rw [lY most r]
theorem Bd {R : Nat -> Prop} {W w9 : World} {B z most : Nat} {h : Nd} {o1 : Option Addr} {l1 c1 : Nat} {o2 : Option Addr} {l2 c2 : Nat} {e : aU} {vs : List (aU -> Dm Nat)} {fin : List Nat × Dk} {i : Nat} {o : Option Addr} {c : Nat} {di : Dk} {ns : List Nat} {xs : List Value} {lo : Option Addr} {ln lc : Nat} {oo : Option Addr} {on oc : Nat} {a' b' c' d' e' : Value} (inn : Int) (hi : i <= vs.length) (h1 : ns ++ (dmap e (vs.drop i) di).1 = fin.1) (h2 : (dmap e (vs.drop i) di).2 = fin.2) (hp : PR z w9 o i c ns xs)
    (hb0:w9.heap[B]?=some (.cells #[a',b',c',d',e'] 70 (0,0))) (hb1:w9.heap[B+1]?=some (.cells (cells9 h o1 l1 c1 o2 l2 c2) 29 (0,0))) (hb2:w9.heap[B+1+1]?=some (.cells #[.slice none 0 0,.int .i64 0,.int .i64 0,.slice none 0 0,.int .i64 0] 70 (0,0)))
    (hk:gy (Hz R B (.slice o i c)) w9 most di lo ln lc oo on oc) (hq:ah W w9) (hB:W.heap.size=B) (hz:B+1+1 < z) (hs:z<=w9.heap.size):PtS R W B z most h o1 l1 c1 o2 l2 c2 e vs fin i o c (iJ w9 B (.slice lo ln lc) (.int .i64 di.next) (.int .i64 most) (.slice oo on oc) (.int .i64 inn)):=by
 have hf:=fJ w9 B (.slice lo ln lc) (.int .i64 di.next) (.int .i64 most) (.slice oo on oc) (.int .i64 inn);exact ⟨di,ns,xs,lo,ln,lc,oo,on,oc,inn,hi,h1,h2,hp.fr hf (fun k e=>by have e':k=B:=e;omega),bY hb0,aC hf (by intro h;have h':B+1=B:=h;omega) hb1,aC hf (by intro h;have h':B+1+1=B:=h;omega) hb2,XV hk hf,Fr.trans' hq hf (fun i hi e=>by have e':i=B:=e;omega),Nat.le_trans hs hf.size⟩
theorem PR.at {R:Nat->Prop} {z B:Nat} {W:World} {o:Option Addr} {i c:Nat} {ns:List Nat} {xs:List Value} (h:PR z W o i c ns xs) (hz:B+1+1 < z) (hm:i<=maxLen):uh (RB R B) W o (ns.map tv)/\i<=c:=by
 rcases h.own.2 with ⟨h1,h2⟩ | ⟨g,cap,cur,h1,h2,h3,h4,h5,_⟩
 ·injection h1 with e1 e2 e3
  refine ⟨⟨by rw [List.length_map,h.len];exact hm,.inl ?_⟩,by omega⟩;have:=h.len;cases ns with
  | nil=>rfl
  | cons n r=>simp at this;omega
 ·injection h1 with e1 e2 e3
  subst e1;refine ⟨⟨by rw [List.length_map,h.len];exact hm,.inr ⟨g,rfl,.inr (by have:=h.low g rfl;omega),h.lt g rfl,xs,h.cells,fun j u hj=>?_⟩⟩,by omega⟩;have:=h.own.cells (g:=g) rfl j u hj;simpa [Addr.add_lit] using this
theorem uh.stay {T:Nat->Prop} {w w':World} {o:Option Addr} {l:List Ty} (h:uh T w o l) (hq:ah w w'):uh T w' o l:=by
 refine ⟨h.1,h.2.imp id ?_⟩;rintro ⟨g,h1,h2,h3,xs,h4,h5⟩;exact ⟨g,h1,h2,Nat.lt_of_lt_of_le h3 hq.size,xs,h4,fun j u hj=>hq.at (h5 j u hj)⟩
theorem FT:∀ ns:List Nat,(jF (ns.map tv)).size=ns.length
 | []=>rfl
 | n::r=>by
  show (jF (tv n::r.map tv)).size=_
  simp only [jF,tv,Fo.size];rw [FT r,List.length_cons];simp;omega
end Em
end
end Go.Proofs.YtcninopmelmajaaGreatDoor
