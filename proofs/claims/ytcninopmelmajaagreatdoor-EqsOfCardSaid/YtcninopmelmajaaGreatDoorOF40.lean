/-
  Texts laid together (RqOne): laws and walks, with their conditions.
-/
import Derived.Test.YtcninopmelmajaaGreatDoorOF39
set_option maxHeartbeats 32000000
set_option maxRecDepth 1000000
namespace Go.Proofs.YtcninopmelmajaaGreatDoor
open Go.Lib (hid)
section
open Go.RowKit
namespace Em
theorem Vx {most:Nat} (hm:most<=4000) (h:Nd) (ps:To) (ih:∀ i g qs,ps.get i=some (g,qs)->jU most g qs):jU most h ps:=by
 intro R W d inn lo ln lc oo on oc o1 l1 c1 o2 l2 c2 eo en ec ev hrk hs1 hs2 hev vX hez hgd hok mZ hnb;have IH:=hid ih;have X0:=hid hez;have Kt:=hid hev.1;have hlz:l2<=100000:=by have:=To.length_le ps;have:=hs2.1;omega
 clear ih;obtain ⟨W0,hW0⟩:∃ W0,W0=(((W.alloc (.cells (r5 lo ln lc d.next most oo on oc inn) 70)).alloc (.cells (cells9 h o1 l1 c1 o2 l2 c2) 29)).alloc (.cells (#[.slice none 0 0,.int .i64 0,.int .i64 0,.slice none 0 0,.int .i64 0]) 70)):=⟨_,rfl⟩;have vG:ah W W0:=by rw [hW0];exact ((ah.alloc _ _).trans (ah.alloc _ _)).trans (ah.alloc _ _)
 have yB:(W.alloc (.cells (r5 lo ln lc d.next most oo on oc inn) 70)).heap.size=W.heap.size+1:=by simp
 have yC:((W.alloc (.cells (r5 lo ln lc d.next most oo on oc inn) 70)).alloc (.cells (cells9 h o1 l1 c1 o2 l2 c2) 29)).heap.size=W.heap.size+1+1:=by simp
 have yD:W0.heap[W.heap.size]?=some (.cells (r5 lo ln lc d.next most oo on oc inn) 70 (0,0)):=by
  rw [hW0];have k:=heap_alloc_new W (.cells (r5 lo ln lc d.next most oo on oc inn) 70);exact au ((ah.alloc _ _).trans (ah.alloc _ _)) k
 have yE:W0.heap[W.heap.size+1]?=some (.cells (cells9 h o1 l1 c1 o2 l2 c2) 29 (0,0)):=by
  rw [hW0];have k:=heap_alloc_new (W.alloc (.cells (r5 lo ln lc d.next most oo on oc inn) 70)) (.cells (cells9 h o1 l1 c1 o2 l2 c2) 29);rw [yB] at k;exact au (ah.alloc _ _) k
 have um:W0.heap[W.heap.size+1+1]?=some (.cells (#[.slice none 0 0,.int .i64 0,.int .i64 0,.slice none 0 0,.int .i64 0]) 70 (0,0)):=by
  rw [hW0];have k:=heap_alloc_new ((W.alloc (.cells (r5 lo ln lc d.next most oo on oc inn) 70)).alloc (.cells (cells9 h o1 l1 c1 o2 l2 c2) 29)) (.cells (#[.slice none 0 0,.int .i64 0,.int .i64 0,.slice none 0 0,.int .i64 0]) 70);rw [yC] at k;exact k
 clear yB yC;have hz0:W.heap.size+1+1 < W0.heap.size:=lt_of_block um;have aP:=hid vG;have HB0:=hid yD;have HB1:=hid yE;have HB2:=hid um;have HRK:=hid hrk;have ny:=hid hs1;have HS2:=hid hs2;have Kz:=hid hev;have Qx:=hid hgd;have Di:=hid hok;have qV:=hid mZ;have zX:=hid hnb;have hnx:=yF most h ps (nG most ev) d;have hn1:d.next+1<=1000000:=Nat.le_trans hnx hnb
 have hn0:d.next<=1000000:=by omega
 have hnw:IntKind.i64.wrap ((d.next:Int)+1)=((d.next+1:Nat):Int):=by rw [IntWalk.i64_in _ (by omega)];omega
 have ad6:=hrk.onl;obtain ⟨fin,hfin⟩:∃ fin,(fH most h ps (lI most ev) d).2=fin:=⟨_,rfl⟩;have bH:=hid hfin;rw [hfin];clear hez hrk hs1 hs2 hev hgd hok mZ hnb vG yD yE um hnx hfin;unfold bI iC;go_enter Tryz.func37,Tryz.ntmps37;generalize dW:W.heap.size=B at *;go_upto_region 1 with fail
 rw [<-hW0];clear hW0;obtain ⟨⟨p0,p1,p2,p3,p4⟩,y0,y1,y2,y3,y4⟩:=five HB0.out;go_upto_region 3 with fail
 obtain ⟨d1,hd1⟩:∃ d1:Dk,d1={ d with next:=d.next+1 }:=⟨_,rfl⟩;have hdn:d1.next=d.next+1:=by rw [hd1]
 have hdL:d1.L=d.L:=by rw [hd1]
 rw [show ((d.next:Int)+1)=(d1.next:Int) from by omega];clear hnw;clear p0 p1 p2 p3 p4 y0 y1 y2 y3 y4;have hs:=Fr.setCell (fun i=>i=B) W0 ⟨B,1,none⟩ (.int .i64 d1.next) rfl;obtain ⟨w1,hw1⟩:∃ w1,w1=W0.setCell ⟨B,1,none⟩ (.int .i64 d1.next):=⟨_,rfl⟩;rw [<-hw1] at hs ⊢;have hb0:w1.heap[B]?=some (.cells (r5 lo ln lc d1.next most oo on oc inn) 70 (0,0)):=by rw [hw1];exact aF (i:=1) HB0.out
 have hb1:=aC hs (by intro h;have h':B+1=B:=h;omega) HB1.out;have hb2:=aC hs (by intro h;have h':B+1+1=B:=h;omega) HB2.out;have hq1:ah W w1:=Fr.trans' aP.out hs (fun i hi e=>by have e':i=B:=e;omega);have hR1:∀ k,k < W.heap.size->R k->RB R B k/\¬ False:=fun k hk hr=>⟨.inl ⟨hr,by omega⟩,fun h=>h⟩
 have hk1:=HRK.out.fr hq1 hR1;replace hk1:gy (RB R B) w1 most d1 lo ln lc oo on oc:=⟨by rw [hdL];exact hk1.len,hk1.cap,by rw [hdL];exact hk1.eqs,by rw [hdL];exact hk1.few,hk1.own,by rw [hdn];exact Nat.le_succ_of_le hk1.onl,hk1.onc⟩;have HD1:=hid hd1;have HDN:=hid hdn;have HDL:=hid hdL;clear hd1 hdn hdL;have Vy:=hid hb0;have abM:=hid hb1;have abN:=hid hb2;have bU:=hid hq1;have Ko:=hid hk1;have hz1:B+1+1 < w1.heap.size:=lt_of_block hb2;clear hs hw1 hb0 hb1 hb2 hq1 hR1 hk1 hz0;obtain ⟨⟨p0,p1,p2,p3,p4⟩,y0,y1,y2,y3,y4⟩:=five Vy.out;go_upto_if 24 with fail
 go_cut [] from 22 to 32 (fun wx=>TmS R W B d1 most h o1 l1 c1 o2 l2 c2 lo ln lc inn wx)
 case first =>
  by_cases hin:inn=0
  ·have hib:(inn == 0)=true:=by simp [hin]
   clear hin;obtain ⟨vl,hvl,hvc⟩:∃ vl:List Int,vl.length=on/\∀ (W':World),ah w1 W'->∀ (j:Nat) (u:Value),(vl.map (Value.int .i64))[j]?=some u->∃ a,oo=some a/\W'.cell? (a.add j)=some u:=by
    rcases Ko.out.own with e | ⟨b,off,e,hb,vl,h1,h2⟩
    ·exact ⟨[],e.symm,fun W' _ j u hj=>by simp at hj⟩
    ·refine ⟨vl,h1,fun W' hq j u hj=>?_⟩;rw [List.getElem?_map] at hj;obtain ⟨x,hx,rfl⟩:=Option.map_eq_some_iff.1 hj;exact ⟨_,e,by rw [Addr.add_lit];exact hq.at (h2 j x hx)⟩
   have V6:=hid hvc;clear hvc;clear p0 p1 p2 p3 p4 y0 y1 y2 y3 y4;obtain ⟨⟨p0,p1,p2,p3,p4⟩,y0,y1,y2,y3,y4⟩:=five (au (ah.alloc w1 (.cells #[] 3)) Vy.out);have HOE:=hid (gY (size:=1) (heap_alloc_new w1 (.cells #[] 3)));go_wp2_with (first
    | (at_builtin;(refine qE (w1.alloc (.cells #[] 3)) rfl (.tmp 25) (.tmp 27) 35 rfl 3 _ 1 8 rC (.slice (some ⟨w1.heap.size,0,none⟩) 0 0) 0 [] rfl HOE.out oo on oc (vl.map (Value.int .i64)) rfl (by simp [hvl]) (V6.out _ (ah.alloc _ _)) (by intro u hu;obtain ⟨z,_,rfl⟩:=List.mem_map.1 hu;rfl) (by unfold maxLen;omega) (by omega) ?_);intro o3 c3 w3 ho3 hf3 iL hnil3;simp only [Nat.zero_add,List.nil_append] at ho3 iL hnil3 ⊢;(have hq3:ah w1 w3:=Fr.trans' (ah.alloc w1 _) hf3 (fun i hi e=>by simp [Value.ownBlock] at e;omega)))
    | (at_builtin;(refine aY w3 rfl (.tmp 28) (.tmp 30) 35 rfl 3 _ 1 8 rC (.slice o3 on c3) on (vl.map (Value.int .i64)) rfl ho3 #[.int .i64 (d.next:Int)] rfl rfl (by simp [Value.oneCell']) (by unfold maxLen;omega) (by omega) ?_);intro g4 c4 w4 mM hf4 hg4;(obtain ⟨hq4,hgg⟩:=XP hz1 hq3 iL hf4 hg4);clear p0 p1 p2 p3 p4 y0 y1 y2 y3 y4;obtain ⟨⟨p0,p1,p2,p3,p4⟩,y0,y1,y2,y3,y4⟩:=five (au hq4 Vy.out)))
   go_meet;exact XQ (own:=d.next) Ko.out (by have k:=HDN.out;omega) bU.out hq4 dW Vy.out abM.out abN.out mM hvl hgg
  ·have hib:(inn == 0)=false:=by simp [hin]
   clear hin;go_wp2_with fail;go_meet;exact ⟨oo,on,oc,Vy.out,abM.out,abN.out,Ko.out,bU.out⟩
 case rest =>
  rename World=>wr
  clear p0 p1 p2 p3 p4 y0 y1 y2 y3 y4;obtain ⟨Ec,Ed,Ee,hr0,hr1,hr2,hrk,hqr⟩:=hcut;have HR0:=hid hr0;have HR2:=hid hr2;have Dy:=hid hrk;have Aj:=hid hqr;have Wi:B+1+1 < wr.heap.size:=lt_of_block hr2;have wE:=hid hrk.len;obtain ⟨⟨p0,p1,p2,p3,p4⟩,y0,y1,y2,y3,y4⟩:=five hr0;obtain ⟨a0,a1,a2,a3,a4,a5,a6,a7,a8⟩:=aA hr1;have O9:=hid hr1;clear hr0 hr1 hr2 hrk hqr
  by_cases hov:most < ln
  ·have aau:(most:Int) < ln:=by omega
   have HF2:Hid (fin=d1):=by show _=_;rw [<-bH.out,MI (by rw [<-HDL.out,<-wE.out];exact hov),HD1.out]
   obtain ⟨⟨d0,d1,d2,d3,d4⟩,e0,e1,e2,e3,e4⟩:=five HR2.out;generalize AP:bodyPost Tryz.prog Tryz.f37 (sS R W most fin)=BP at *;go_wp2_with fail;rw [<-AP];clear d0 d1 d2 d3 d4 e0 e1 e2 e3 e4;have hf:=fJ wr (B+1+1) (.slice lo ln lc) (.int .i64 d1.next) (.int .i64 most) (.slice Ec Ed Ee) (.int .i64 inn);obtain ⟨⟨f0,f1,f2,f3,f4⟩,_⟩:=five (bY (a:=(.slice lo ln lc)) (b:=(.int .i64 d1.next)) (c:=(.int .i64 most)) (d:=(.slice Ec Ed Ee)) (e:=(.int .i64 inn)) HR2.out);change bodyPost _ _ _ _ _ (iJ wr (B+1+1) (.slice lo ln lc) (.int .i64 d1.next) (.int .i64 most) (.slice Ec Ed Ee) (.int .i64 inn));have hend:=ni Dy.out Aj.out hf dW;generalize iJ wr (B+1+1) (.slice lo ln lc) (.int .i64 d1.next) (.int .i64 most) (.slice Ec Ed Ee) (.int .i64 inn)=wf at *;refine bodyPost_ret (by simp [results,Tryz.results37,go_sem,f0,f1,f2,f3,f4]<;>rfl) rfl ?_;exact ⟨lo,ln,lc,Ec,Ed,Ee,inn,by (first | rfl | (rw [HF2.out]<;>rfl)),by (first | exact hend.1 | (rw [HF2.out];exact hend.1)),hend.2⟩
  ·have aau:¬ (most:Int) < ln:=by omega
   have Q5:Hid (¬ most < d.L.length):=by show ¬ _;rw [<-HDL.out,<-wE.out];exact hov
   clear y0 y1 y2 y3 y4;have hkk:h.k=1∨h.k=2∨h.k=3∨h.k=4∨h.k=5∨(h.k=6∨h.k=7)∨h.k=8∨h.k=9∨h.k=10:=by have:=Di.out.1;omega
   rcases hkk with hk | hk | hk | hk | hk | YI | hk | hk | hk
   ·have t2:(h.k == 2)=false:=by rw [hk];rfl
    have t3:(h.k == 3)=false:=by rw [hk];rfl
    have t1:(h.k == 1)=true:=by rw [hk];rfl
    have HK:=hid hk;clear hk;have hez:=X0.out;have Kt:=hid Kz.out.1;have ad7:en<=100000:=by omega
    obtain ⟨aL,haL⟩:∃ a,qc ev h.nm en0=a:=⟨_,rfl⟩;obtain ⟨kd,hkd⟩:∃ kd,Oe most aL d1=kd:=⟨_,rfl⟩;have hre:(dS most (tv d.next) (tv kd.1) h.fr h.en kd.2).2=fin:=by
     rw [<-bH.out,jd Q5.out,<-HD1.out];unfold kY;rw [if_neg (by rw [HK.out];decide),if_neg (by rw [HK.out];decide),if_pos HK.out,MJ,haL];unfold gq jP;dsimp only;rw [hkd]
    have hkn:kd.2.next<=1000000:=by have k:=zX.out;rw [bH.out,<-hre,jR] at k;exact k
    have HKD:=hid hkd;have ZV:=hid hkn;have HAL:=hid haL;have HF3:=hid hre;have HF2:Hid (fin=fin):=rfl;clear hre hkd hkn haL;go_wp2_with fail;obtain ⟨wl,hwl⟩:∃ wl,wl=wr.alloc (.cells (XT en0 none 0 0 none 0 0 none 0 0) 108):=⟨_,rfl⟩;have hql:ah wr wl:=by rw [hwl];exact ah.alloc _ _
    have hbl:wl.heap[wr.heap.size]?=some (.cells (XT en0 none 0 0 none 0 0 none 0 0) 108 (0,0)):=by rw [hwl];exact heap_alloc_new wr _
    obtain ⟨Bm,hBm⟩:∃ Bm,wr.heap.size=Bm:=⟨_,rfl⟩;rw [hBm] at hbl;have HBM:=hid hBm;have HBL:=hid hbl;have HQL:=hid hql;have hzm:B+1+1 < Bm:=by rw [<-hBm];exact Wi
    clear p0 p1 p2 p3 p4 a0 a1 a2 a3 a4 a5 a6 a7 a8;change Code.wp _ _ _ _ (wr.alloc (.cells (XT en0 none 0 0 none 0 0 none 0 0) 108));rw [<-hwl];simp only [hBm];clear hwl hbl hql hBm;go_loopw [9] (fun t wx=>∃ i:Nat,t=.int .i64 i/\i<=en/\ah wr wx/\abJ R W most ev h.nm Bm i wx) (fun t _=>en-(intOf t).toNat)
    case atStart=>exact ⟨0,rfl,Nat.zero_le _,HQL.out,en0,none,0,0,none,0,0,none,0,0,HBL.out,by rw [Ev.drop_zero],Vb most,aan R W⟩
    case round =>
     rename World=>wx
     obtain ⟨i,rfl,hi,gB,hvl⟩:=hrel;have yL:=hid gB;obtain ⟨a,o1',l1',c1',o2',l2',c2',ao',an',ac',hbm,hla,hga,hin⟩:=hvl;have sH:=hid hbm;have Yy:=hid hla;have HGA:=hid hga;have oN:=hid hin;clear gB hbm hla hga hin;obtain ⟨⟨p0,p1,p2,p3,p4⟩,_⟩:=five (au yL.out HR0.out);obtain ⟨a0,a1,a2,a3,a4,a5,a6,a7,a8⟩:=aA (au yL.out O9.out)
     by_cases hlt:i < en
     ·have hlt':(i:Int) < en:=by omega
      obtain ⟨b,off,nm,v,ag,hh,pps,ar,o1x,l1x,c1x,o2x,l2x,c2x,aox,anx,acx,rfl,hdr,hce,hsx,htx,hex,hlx,hrb⟩:=Kz.out.nth hlt;have HDR:=hid hdr;have HSX:=hid hsx;have HTX:=hid htx;have HEX:=hid hex;have V8:=hid (hce.fr (Aj.out.trans yL.out) (fun h=>h));obtain ⟨u0,u1,u2,u3,u4,u5,u6,u7,u8,u9,u10,u11,u12⟩:=V8.out;clear hdr hsx htx hex hce;cases hx:(nm.toList == h.nm.toList)
      ·go_upto_region 17 with fail
       go_quiet (fail);have xu:=ah.drewN wx nq;have ZI:=hid (yL.out.trans xu);have HBY:=hid (au xu sH.out);clear xu p0 p1 p2 p3 p4 a0 a1 a2 a3 a4 a5 a6 a7 a8 u0 u1 u2 u3 u4 u5 u6 u7 u8 u9 u10 u11 u12;generalize wx.drewN nq=wy at *;go_wp2_with fail;go_roundw
       case rel=>exact ⟨i+1,by go_num,by omega,ZI.out,a,o1',l1',c1',o2',l2',c2',ao',an',ac',HBY.out,by
        have k:=Yy.out;rw [HDR.out] at k;rw [Af] at k;rw [if_neg (fun e=>by rw [Sc.str_eq.2 e] at hx;cases hx)] at k;exact k,HGA.out,oN.out⟩
       case measure=>simp [intOf];omega
      ·go_upto_region 17 with fail
       go_quiet (fail);have xu:=ah.drewN wx nq;have ZI:=hid (yL.out.trans xu);have HBY:=hid (au xu sH.out);have HCY:=hid (V8.out.fr xu (fun h=>h));clear xu p0 p1 p2 p3 p4 a0 a1 a2 a3 a4 a5 a6 a7 a8 u0 u1 u2 u3 u4 u5 u6 u7 u8 u9 u10 u11 u12;generalize wx.drewN nq=wy at *;obtain ⟨⟨k0,k1,k2,k3,k4,k5,k6,k7,k8,k9,k10,k11,k12⟩,z0,z1,z2,z3,z4,z5,z6,z7,z8,z9,z10,z11,z12⟩:=thirteen HBY.out;obtain ⟨u0,u1,u2,u3,u4,u5,u6,u7,u8,u9,u10,u11,u12⟩:=HCY.out;have hend:ah wr (aO wy Bm (.string nm) (.int .i64 v) (.bool ag) (.int .i64 hh.k) (.string hh.nm) (.int .i64 hh.n) (.int .i64 hh.tk) (.int .i64 hh.tn) (.slice o1x l1x c1x) (.slice o2x l2x c2x) (.int .i64 hh.fr) (.int .i64 hh.en) (.slice aox anx acx))/\abJ R W most ev h.nm Bm (i+1) (aO wy Bm (.string nm) (.int .i64 v) (.bool ag) (.int .i64 hh.k) (.string hh.nm) (.int .i64 hh.n) (.int .i64 hh.tk) (.int .i64 hh.tn) (.slice o1x l1x c1x) (.slice o2x l2x c2x) (.int .i64 hh.fr) (.int .i64 hh.en) (.slice aox anx acx)):=by
        have hf:=bF wy Bm (.string nm) (.int .i64 v) (.bool ag) (.int .i64 hh.k) (.string hh.nm) (.int .i64 hh.n) (.int .i64 hh.tk) (.int .i64 hh.tn) (.slice o1x l1x c1x) (.slice o2x l2x c2x) (.int .i64 hh.fr) (.int .i64 hh.en) (.slice aox anx acx);refine ⟨Fr.trans' ZI.out hf (fun i hi e=>by have e':i=Bm:=e;have:=HBM.out;omega),(nm,v,ag,hh,pps,ar),o1x,l1x,c1x,o2x,l2x,c2x,aox,anx,acx,aN HBY.out,?_,?_,HSX.out,HTX.out,HEX.out,hlx⟩
        ·have k:=Yy.out;rw [HDR.out] at k;rw [Af] at k;rw [if_pos (Sc.str_eq.1 hx)] at k;exact k
        ·have k:=Qx.out.drop i;rw [HDR.out] at k;exact k.1
       have zy:=hid hend;clear hend;go_wp2_with fail;clear k0 k1 k2 k3 k4 k5 k6 k7 k8 k9 k10 k11 k12 u0 u1 u2 u3 u4 u5 u6 u7 u8 u9 u10 u11 u12 z0 z1 z2 z3 z4 z5 z6 z7 z8 z9 z10 z11 z12;go_roundw
       case rel=>exact ⟨i+1,by go_num,by omega,zy.out⟩
       case measure=>simp [intOf];omega
     ·have hlt':¬ (i:Int) < en:=by omega
      have hal:a=aL:=by
       have k:=Yy.out;rw [show i=ev.length from by have:=Kt.out;omega,Ev.JQ,HAL.out] at k;exact k
      subst hal;clear Yy HAL;obtain ⟨nm',v',ag',h',ps',YB⟩:=a;have HIS:=hid oN.out.1;have HIT:=hid oN.out.2.1;have HIE:=hid oN.out.2.2.1;have hil:an'<=ac':=oN.out.2.2.2;have Vz:=au yL.out HR0.out;have X3:=au yL.out O9.out;have VA:=au yL.out HR2.out;obtain ⟨⟨k0,k1,k2,k3,k4,k5,k6,k7,k8,k9,k10,k11,k12⟩,_⟩:=thirteen sH.out;clear oN;dsimp only at HIS HIT HIE k0 k1 k2 k3 k4 k5 k6 k7 k8 k9 k10 k11 k12;cases ag'
      ·have hkd:kd=(v',d1):=by rw [<-HKD.out];rfl
       subst hkd;have adn:=hid Vz;have ado:=hid X3;have adp:=hid VA;have HKx:=hid (Dy.out.stay yL.out);have Gw:=hid (Aj.out.trans yL.out);have hzp:B+1+1 < wx.heap.size:=lt_of_block VA;clear Vz X3 VA;go_upto_region 24 with fail
       clear p0 p1 p2 p3 p4 a0 a1 a2 a3 a4 a5 a6 a7 a8 k0 k1 k2 k3 k4 k5 k6 k7 k8 k9 k10 k11 k12;have bK:Hid (∀ W',ah wx W'->(fun (W':World)=>(AO W' B (.slice lo ln lc) (.int .i64 d1.next) (.int .i64 most) (.slice Ec Ed Ee) (.int .i64 inn))/\(qP W' (B+1) h o1 l1 c1 o2 l2 c2)) W'):=fun W' hq=>by
        obtain ⟨k,_⟩:=five (au hq adn.out);exact ⟨k,aA (au hq ado.out)⟩
       have iw:Hid (∀ W',ah wx W'->Calls Tryz.prog 58 #[iC lo ln lc d1.next most Ec Ed Ee inn,.agg #[.int .i64 1,.int .i64 d.next,.slice none 0 0],.agg #[.int .i64 1,.int .i64 v',.slice none 0 0],.agg #[.int .i64 h.fr,.int .i64 h.en]] W' (sS (RB R B) W' most fin)):=fun W' hq=>by
        have k:=add_any (o1:=none) (l1:=0) (c1:=0) (o2:=none) (l2:=0) (c2:=0) inn (HKx.out.stay hq) hm (tv d.next) (tv v') h.fr h.en (aB.nil _ _ _) (aB.nil _ _ _) (by show Fo.nil.size<=_;decide) (by show Fo.nil.size<=_;decide);have e:=HF3.out;dsimp only at e;rw [e] at k;exact k
       unfold iC at iw;refine dI 8 bK.out (by kernel_rfl) (fun hHeld=>?_)
       (try dsimp only at hHeld)
       have gZ:=ah.drew wx;generalize wx.drew=wd at gZ hHeld ⊢;refine HT.tk 0 rfl ?_;go_frame;refine HT.tk 1 rfl ?_;go_frame;refine HT.tk 3 rfl ?_;go_frame;refine HT.tk 5 rfl ?_;go_frame;refine HT.tk 6 rfl ?_;go_frame;refine HT.branch (rs:=[2]) (by kernel_rfl) (by simp) ?_;refine HT.cn 2 rfl (fun K hK=>?_) ?_
       ·go_simp;go_at_call 59
        with_reducible refine Calls.mono (gX _ _) ?_
        rintro e wv1 ⟨rfl,qj⟩;have fP:=gZ.trans qj;refine hK.out _ _ ?aao (fun hHeld=>?_)
        case aao=>exact bK.out _ fP
        clear hK K
        (try go_frame)
        refine HT.branch (rs:=[4]) (by kernel_rfl) (by simp) ?_;refine HT.cn 4 rfl (fun K hK=>?_) ?_
        ·go_simp;go_at_call 59
         with_reducible refine Calls.mono (gX _ _) ?_
         rintro e wv2 ⟨rfl,rV⟩;have gV:=fP.trans rV;refine hK.out _ _ ?U3 (fun hHeld=>?_)
         case U3=>exact bK.out _ gV
         clear hK K
         (try go_frame)
         refine HT.branch (rs:=[7]) (by kernel_rfl) (by simp) ?_;refine HT.cn 7 rfl (fun K hK=>?_) ?_
         ·go_simp;go_at_call 58
          with_reducible refine Calls.mono (iw.out _ gV) ?_
          rintro e Eb ⟨lo3,iO,iP,iQ,iR,iU,iD,rfl,hk3,Du⟩;have mg:=iM hk3 (Nat.lt_of_lt_of_le hzp gV.size);have oL:=gV.trans Du;unfold iC;refine hK.out _ _ ?aap (fun hHeld=>?_)
          case aap=>exact bK.out _ oL
          clear hK K
          (try go_frame)
          refine HT.last rfl (by kernel_rfl) (fun K hK=>?_);have hbs:=au oL adp.out;obtain ⟨⟨z0,z1,z2,z3,z4⟩,y0,y1,y2,y3,y4⟩:=five hbs;have dY:=Gw.out.trans oL;go_simp;refine hK.out _ _ ?_;clear hK K
          (try go_frame)
          refine HT.done (by kernel_rfl) ?_ _;clear z0 z1 z2 z3 z4 y0 y1 y2 y3 y4;generalize AP:bodyPost Tryz.prog Tryz.f37 (sS R W most fin)=BP at *;go_wp2_with fail;rw [<-AP];have hf:=fJ Eb (B+1+1) (.slice lo3 iO iP) (.int .i64 fin.next) (.int .i64 most) (.slice iQ iR iU) (.int .i64 iD);obtain ⟨⟨f0,f1,f2,f3,f4⟩,_⟩:=five (bY (a:=(.slice lo3 iO iP)) (b:=(.int .i64 fin.next)) (c:=(.int .i64 most)) (d:=(.slice iQ iR iU)) (e:=(.int .i64 iD)) hbs);change bodyPost _ _ _ _ _ (iJ Eb (B+1+1) (.slice lo3 iO iP) (.int .i64 fin.next) (.int .i64 most) (.slice iQ iR iU) (.int .i64 iD));have hend:=ni mg dY hf dW;generalize iJ Eb (B+1+1) (.slice lo3 iO iP) (.int .i64 fin.next) (.int .i64 most) (.slice iQ iR iU) (.int .i64 iD)=wf at *;refine bodyPost_ret (by simp [results,Tryz.results37,go_sem,f0,f1,f2,f3,f4]<;>rfl) rfl ?_;exact ⟨lo3,iO,iP,iQ,iR,iU,iD,by (first | rfl | (rw [HF2.out]<;>rfl)),by (first | exact hend.1 | (rw [HF2.out];exact hend.1)),hend.2⟩
         exact HT.bJ.nil
        exact HT.bJ.nil
       exact HT.bJ.nil
      ·have hkd:jV most h' (dM most ps') (lI most YB) d1=kd:=by rw [<-HKD.out];rfl
       have abO:=hid hkd;obtain ⟨in2,hin2⟩:∃ x,IntKind.i64.wrap (inn+1)=x:=⟨_,rfl⟩;clear hkd p0 p1 p2 p3 p4;obtain ⟨⟨p0,p1,p2,p3,p4⟩,y0,y1,y2,y3,y4⟩:=five Vz;go_upto_region 22 with fail
       obtain ⟨w2,hw2⟩:∃ w2,w2=wx.setCell ⟨B,4,none⟩ (.int .i64 in2):=⟨_,rfl⟩;rw [<-hw2];obtain ⟨hb0,ig,hb2,hk2,hq2,hf2⟩:=Oj hw2 Vz X3 VA (Dy.out.stay yL.out) (Aj.out.trans yL.out) dW;have abP:=aC hf2 (by intro e;have e':Bm=B:=e;omega) sH.out;clear p0 p1 p2 p3 p4 y0 y1 y2 y3 y4 a0 a1 a2 a3 a4 a5 a6 a7 a8 k0 k1 k2 k3 k4 k5 k6 k7 k8 k9 k10 k11 k12 hw2 hf2 hin2 Vz X3 VA;have HKC:Hid (Calls Tryz.prog 60 #[iC lo ln lc d1.next most Ec Ed Ee in2,bI h' o1' l1' c1' o2' l2' c2',.slice ao' an' ac'] w2 (KpQ (RB R B) w2 most kd)):=by
        have k:=HGA.out rfl (RB R B) w2 d1 in2 lo ln lc Ec Ed Ee o1' l1' c1' o2' l2' c2' ao' an' ac' hk2 (HIS.out.fr hq2 (jL dW)) (HIT.out.fr hq2 (jL dW)) (HIE.out.fr hq2 (jL dW)) hil (by show (jV most h' (dM most ps') (lI most YB) d1).2.next<=_;rw [abO.out];exact ZV.out);change Calls _ _ _ _ (KpQ _ _ _ (jV most h' (dM most ps') (lI most YB) d1)) at k;rw [abO.out] at k;exact k
       have HZ0:=hid hb0;have HZ9:=hid ig;have HZ2:=hid hb2;have HZQ:=hid hq2;have hz2:B+1+1 < w2.heap.size:=lt_of_block hb2;clear hb0 ig hb2 hk2 hq2;unfold bI iC at HKC;obtain ⟨⟨k0,k1,k2,k3,k4,k5,k6,k7,k8,k9,k10,k11,k12⟩,_⟩:=thirteen abP;dsimp only at k0 k1 k2 k3 k4 k5 k6 k7 k8 k9 k10 k11 k12;obtain ⟨⟨p0,p1,p2,p3,p4⟩,_⟩:=five HZ0.out;clear abP;go_wp2_with fail;refine HKC.out.mono ?_;rintro x w3 ⟨lo6,ln6,lc6,oo6,on6,oc6,iD,rfl,hk3,hq3⟩;clear p0 p1 p2 p3 p4 k0 k1 k2 k3 k4 k5 k6 k7 k8 k9 k10 k11 k12;have hb0:=au hq3 HZ0.out;obtain ⟨⟨p0,p1,p2,p3,p4⟩,y0,y1,y2,y3,y4⟩:=five hb0;obtain ⟨in4,adq⟩:∃ x,IntKind.i64.wrap (iD-1)=x:=⟨_,rfl⟩;unfold iC;go_upto_region 24 with fail
       clear p0 p1 p2 p3 p4 y0 y1 y2 y3 y4 adq;obtain ⟨w4,hw4⟩:∃ w4,w4=iJ w3 B (.slice lo6 ln6 lc6) (.int .i64 kd.2.next) (.int .i64 most) (.slice oo6 on6 oc6) (.int .i64 iD):=⟨_,rfl⟩;change Code.wp _ _ _ _ ((iJ w3 B (.slice lo6 ln6 lc6) (.int .i64 kd.2.next) (.int .i64 most) (.slice oo6 on6 oc6) (.int .i64 iD)).setCell ⟨B,4,none⟩ (.int .i64 in4));rw [<-hw4];obtain ⟨wp,hwp⟩:∃ wp,wp=w4.setCell ⟨B,4,none⟩ (.int .i64 in4):=⟨_,rfl⟩;rw [<-hwp];obtain ⟨hb0,ig,hb2,hkp,Qz⟩:=JO hw4 hb0 (au hq3 HZ9.out) (au hq3 HZ2.out) (iM hk3 hz2) (HZQ.out.trans hq3) dW;obtain ⟨hb0,ig,hb2,hkp,Qz,_⟩:=Oj hwp hb0 ig hb2 hkp Qz dW;clear hk3 hq3;have KA:=hid hb0;have vH:=hid ig;have zF:=hid hb2;have HKp:=hid hkp;have sO:=hid Qz;have hzp:B+1+1 < wp.heap.size:=lt_of_block hb2;clear hwp hw4 hb0 ig hb2 hkp Qz;have bK:Hid (∀ W',ah wp W'->(fun (W':World)=>(AO W' B (.slice lo6 ln6 lc6) (.int .i64 kd.2.next) (.int .i64 most) (.slice oo6 on6 oc6) (.int .i64 in4))/\(qP W' (B+1) h o1 l1 c1 o2 l2 c2)) W'):=fun W' hq=>by
        obtain ⟨k,_⟩:=five (au hq KA.out);exact ⟨k,aA (au hq vH.out)⟩
       have iw:Hid (∀ W',ah wp W'->Calls Tryz.prog 58 #[iC lo6 ln6 lc6 kd.2.next most oo6 on6 oc6 in4,.agg #[.int .i64 1,.int .i64 d.next,.slice none 0 0],.agg #[.int .i64 1,.int .i64 kd.1,.slice none 0 0],.agg #[.int .i64 h.fr,.int .i64 h.en]] W' (sS (RB R B) W' most fin)):=fun W' hq=>by
        have k:=add_any (o1:=none) (l1:=0) (c1:=0) (o2:=none) (l2:=0) (c2:=0) in4 (HKp.out.stay hq) hm (tv d.next) (tv kd.1) h.fr h.en (aB.nil _ _ _) (aB.nil _ _ _) (by show Fo.nil.size<=_;decide) (by show Fo.nil.size<=_;decide);rw [HF3.out] at k;exact k
       unfold iC at iw;refine dI 8 bK.out (by kernel_rfl) (fun hHeld=>?_)
       (try dsimp only at hHeld)
       have gZ:=ah.drew wp;generalize wp.drew=wd at gZ hHeld ⊢;refine HT.tk 0 rfl ?_;go_frame;refine HT.tk 1 rfl ?_;go_frame;refine HT.tk 3 rfl ?_;go_frame;refine HT.tk 5 rfl ?_;go_frame;refine HT.tk 6 rfl ?_;go_frame;refine HT.branch (rs:=[2]) (by kernel_rfl) (by simp) ?_;refine HT.cn 2 rfl (fun K hK=>?_) ?_
       ·go_simp;go_at_call 59
        with_reducible refine Calls.mono (gX _ _) ?_
        rintro e wv1 ⟨rfl,qj⟩;have fP:=gZ.trans qj;refine hK.out _ _ ?aak (fun hHeld=>?_)
        case aak=>exact bK.out _ fP
        clear hK K
        (try go_frame)
        refine HT.branch (rs:=[4]) (by kernel_rfl) (by simp) ?_;refine HT.cn 4 rfl (fun K hK=>?_) ?_
        ·go_simp;go_at_call 59
         with_reducible refine Calls.mono (gX _ _) ?_
         rintro e wv2 ⟨rfl,rV⟩;have gV:=fP.trans rV;refine hK.out _ _ ?U4 (fun hHeld=>?_)
         case U4=>exact bK.out _ gV
         clear hK K
         (try go_frame)
         refine HT.branch (rs:=[7]) (by kernel_rfl) (by simp) ?_;refine HT.cn 7 rfl (fun K hK=>?_) ?_
         ·go_simp;go_at_call 58
          with_reducible refine Calls.mono (iw.out _ gV) ?_
          rintro e Eb ⟨lo3,iO,iP,iQ,iR,iU,iD,rfl,hk3,Du⟩;have mg:=iM hk3 (Nat.lt_of_lt_of_le hzp gV.size);have oL:=gV.trans Du;unfold iC;refine hK.out _ _ ?U5 (fun hHeld=>?_)
          case U5=>exact bK.out _ oL
          clear hK K
          (try go_frame)
          refine HT.last rfl (by kernel_rfl) (fun K hK=>?_);have hbs:=au oL zF.out;obtain ⟨⟨z0,z1,z2,z3,z4⟩,y0,y1,y2,y3,y4⟩:=five hbs;have dY:=sO.out.trans oL;go_simp;refine hK.out _ _ ?_;clear hK K
          (try go_frame)
          refine HT.done (by kernel_rfl) ?_ _;clear z0 z1 z2 z3 z4 y0 y1 y2 y3 y4;generalize AP:bodyPost Tryz.prog Tryz.f37 (sS R W most fin)=BP at *;go_wp2_with fail;rw [<-AP];have hf:=fJ Eb (B+1+1) (.slice lo3 iO iP) (.int .i64 fin.next) (.int .i64 most) (.slice iQ iR iU) (.int .i64 iD);obtain ⟨⟨f0,f1,f2,f3,f4⟩,_⟩:=five (bY (a:=(.slice lo3 iO iP)) (b:=(.int .i64 fin.next)) (c:=(.int .i64 most)) (d:=(.slice iQ iR iU)) (e:=(.int .i64 iD)) hbs);change bodyPost _ _ _ _ _ (iJ Eb (B+1+1) (.slice lo3 iO iP) (.int .i64 fin.next) (.int .i64 most) (.slice iQ iR iU) (.int .i64 iD));have hend:=ni mg dY hf dW;generalize iJ Eb (B+1+1) (.slice lo3 iO iP) (.int .i64 fin.next) (.int .i64 most) (.slice iQ iR iU) (.int .i64 iD)=wf at *;refine bodyPost_ret (by simp [results,Tryz.results37,go_sem,f0,f1,f2,f3,f4]<;>rfl) rfl ?_;exact ⟨lo3,iO,iP,iQ,iR,iU,iD,by (first | rfl | (rw [HF2.out]<;>rfl)),by (first | exact hend.1 | (rw [HF2.out];exact hend.1)),hend.2⟩
         exact HT.bJ.nil
        exact HT.bJ.nil
       exact HT.bJ.nil
   ·have t2:(h.k == 2)=true:=by rw [hk];rfl
    have HK:=hid hk;clear hk;have HF3:Hid ((dS most (tv d.next) (2,0,.nil) h.fr h.en d1).2=fin):=by
     show _=_
     rw [<-bH.out,jd Q5.out,HD1.out];unfold kY;rw [if_pos HK.out];rfl
    have HF2:Hid (fin=fin):=rfl;have iw:Hid (∀ W',ah wr W'->Calls Tryz.prog 58 #[iC lo ln lc d1.next most Ec Ed Ee inn,.agg #[.int .i64 1,.int .i64 d.next,.slice none 0 0],.agg #[.int .i64 2,.int .i64 0,.slice none 0 0],.agg #[.int .i64 h.fr,.int .i64 h.en]] W' (sS (RB R B) W' most fin)):=fun W' hq=>by
     have k:=add_any (o1:=none) (l1:=0) (c1:=0) (o2:=none) (l2:=0) (c2:=0) inn (Dy.out.stay hq) hm (tv d.next) (2,0,.nil) h.fr h.en (aB.nil _ _ _) (aB.nil _ _ _) (by show Fo.nil.size<=_;decide) (by show Fo.nil.size<=_;decide);rw [HF3.out] at k;exact k
    unfold iC at iw;go_upto_region 9 with fail
    have bK:Hid (∀ W',ah wr W'->(fun (W':World)=>(AO W' B (.slice lo ln lc) (.int .i64 d1.next) (.int .i64 most) (.slice Ec Ed Ee) (.int .i64 inn))/\(W'.cell? ⟨B+1,7,none⟩=some (.int .i64 h.fr)/\W'.cell? ⟨B+1,8,none⟩=some (.int .i64 h.en))) W'):=fun W' hq=>by
     obtain ⟨k,_⟩:=five (au hq HR0.out);obtain ⟨_,_,_,_,_,_,_,k7,k8⟩:=aA (au hq O9.out);exact ⟨k,k7,k8⟩
    clear p0 p1 p2 p3 p4 a0 a1 a2 a3 a4 a5 a6 a7 a8;refine dI 7 bK.out (by kernel_rfl) (fun hHeld=>?_)
    (try dsimp only at hHeld)
    have gZ:=ah.drew wr;generalize wr.drew=wd at *;refine HT.tk 0 rfl ?_;go_frame;refine HT.tk 1 rfl ?_;go_frame;refine HT.tk 3 rfl ?_;go_frame;refine HT.tk 4 rfl ?_;go_frame;refine HT.tk 5 rfl ?_;go_frame;refine HT.branch (rs:=[2]) (by kernel_rfl) (by simp) ?_;refine HT.cn 2 rfl (fun K hK=>?_) ?_
    ·go_simp;go_at_call 59
     with_reducible refine Calls.mono (gX _ _) ?_
     rintro e w2 ⟨rfl,hq2⟩;have hqa:=gZ.trans hq2;refine hK.out _ _ ?U6 (fun hHeld=>?_)
     case U6=>exact bK.out _ hqa
     clear hK K
     (try go_frame)
     refine HT.branch (rs:=[6]) (by kernel_rfl) (by simp) ?_;refine HT.cn 6 rfl (fun K hK=>?_) ?_
     ·go_simp;go_at_call 58
      with_reducible refine Calls.mono (iw.out _ hqa) ?_
      rintro e w3 ⟨lo3,iO,iP,iQ,iR,iU,iD,rfl,hk3,hq3⟩;have qp:=hqa.trans hq3;unfold iC;refine hK.out _ _ ?aaq (fun hHeld=>?_)
      case aaq=>exact bK.out _ qp
      clear hK K
      (try go_frame)
      refine HT.last rfl (by kernel_rfl) (fun K hK=>?_);have hbs:=au qp HR2.out;obtain ⟨⟨d0,d1,d2,d3,d4⟩,y0,y1,y2,y3,y4⟩:=five hbs;have mg:=iM hk3 (Nat.lt_of_lt_of_le Wi hqa.size);have dY:=Aj.out.trans qp;go_simp;refine hK.out _ _ ?_;clear hK K
      (try go_frame)
      refine HT.done (by kernel_rfl) ?_ _;generalize AP:bodyPost Tryz.prog Tryz.f37 (sS R W most fin)=BP;go_wp2_with fail;rw [<-AP];have hf:=fJ w3 (B+1+1) (.slice lo3 iO iP) (.int .i64 fin.next) (.int .i64 most) (.slice iQ iR iU) (.int .i64 iD);obtain ⟨⟨f0,f1,f2,f3,f4⟩,_⟩:=five (bY (a:=(.slice lo3 iO iP)) (b:=(.int .i64 fin.next)) (c:=(.int .i64 most)) (d:=(.slice iQ iR iU)) (e:=(.int .i64 iD)) hbs);change bodyPost _ _ _ _ _ (iJ w3 (B+1+1) (.slice lo3 iO iP) (.int .i64 fin.next) (.int .i64 most) (.slice iQ iR iU) (.int .i64 iD));have hend:=ni mg dY hf dW;generalize iJ w3 (B+1+1) (.slice lo3 iO iP) (.int .i64 fin.next) (.int .i64 most) (.slice iQ iR iU) (.int .i64 iD)=wf at *;refine bodyPost_ret (by simp [results,Tryz.results37,go_sem,f0,f1,f2,f3,f4]<;>rfl) rfl ?_;exact ⟨lo3,iO,iP,iQ,iR,iU,iD,by (first | rfl | (rw [HF2.out]<;>rfl)),by (first | exact hend.1 | (rw [HF2.out];exact hend.1)),hend.2⟩
     exact HT.bJ.nil
    exact HT.bJ.nil
   ·have t2:(h.k == 2)=false:=by rw [hk];rfl
    have t3:(h.k == 3)=true:=by rw [hk];rfl
    have HK:=hid hk;clear hk;have HF3:Hid ((dS most (tv d.next) (3,0,.nil) h.fr h.en d1).2=fin):=by
     show _=_
     rw [<-bH.out,jd Q5.out,HD1.out];unfold kY;rw [if_neg (by rw [HK.out];decide),if_pos HK.out];rfl
    have HF2:Hid (fin=fin):=rfl;have iw:Hid (∀ W',ah wr W'->Calls Tryz.prog 58 #[iC lo ln lc d1.next most Ec Ed Ee inn,.agg #[.int .i64 1,.int .i64 d.next,.slice none 0 0],.agg #[.int .i64 3,.int .i64 0,.slice none 0 0],.agg #[.int .i64 h.fr,.int .i64 h.en]] W' (sS (RB R B) W' most fin)):=fun W' hq=>by
     have k:=add_any (o1:=none) (l1:=0) (c1:=0) (o2:=none) (l2:=0) (c2:=0) inn (Dy.out.stay hq) hm (tv d.next) (3,0,.nil) h.fr h.en (aB.nil _ _ _) (aB.nil _ _ _) (by show Fo.nil.size<=_;decide) (by show Fo.nil.size<=_;decide);rw [HF3.out] at k;exact k
    unfold iC at iw;go_upto_region 11 with fail
    have bK:Hid (∀ W',ah wr W'->(fun (W':World)=>(AO W' B (.slice lo ln lc) (.int .i64 d1.next) (.int .i64 most) (.slice Ec Ed Ee) (.int .i64 inn))/\(W'.cell? ⟨B+1,7,none⟩=some (.int .i64 h.fr)/\W'.cell? ⟨B+1,8,none⟩=some (.int .i64 h.en))) W'):=fun W' hq=>by
     obtain ⟨k,_⟩:=five (au hq HR0.out);obtain ⟨_,_,_,_,_,_,_,k7,k8⟩:=aA (au hq O9.out);exact ⟨k,k7,k8⟩
    clear p0 p1 p2 p3 p4 a0 a1 a2 a3 a4 a5 a6 a7 a8;refine dI 7 bK.out (by kernel_rfl) (fun hHeld=>?_)
    (try dsimp only at hHeld)
    have gZ:=ah.drew wr;generalize wr.drew=wd at *;refine HT.tk 0 rfl ?_;go_frame;refine HT.tk 1 rfl ?_;go_frame;refine HT.tk 3 rfl ?_;go_frame;refine HT.tk 4 rfl ?_;go_frame;refine HT.tk 5 rfl ?_;go_frame;refine HT.branch (rs:=[2]) (by kernel_rfl) (by simp) ?_;refine HT.cn 2 rfl (fun K hK=>?_) ?_
    ·go_simp;go_at_call 59
     with_reducible refine Calls.mono (gX _ _) ?_
     rintro e w2 ⟨rfl,hq2⟩;have hqa:=gZ.trans hq2;refine hK.out _ _ ?U7 (fun hHeld=>?_)
     case U7=>exact bK.out _ hqa
     clear hK K
     (try go_frame)
     refine HT.branch (rs:=[6]) (by kernel_rfl) (by simp) ?_;refine HT.cn 6 rfl (fun K hK=>?_) ?_
     ·go_simp;go_at_call 58
      with_reducible refine Calls.mono (iw.out _ hqa) ?_
      rintro e w3 ⟨lo3,iO,iP,iQ,iR,iU,iD,rfl,hk3,hq3⟩;have qp:=hqa.trans hq3;unfold iC;refine hK.out _ _ ?U8 (fun hHeld=>?_)
      case U8=>exact bK.out _ qp
      clear hK K
      (try go_frame)
      refine HT.last rfl (by kernel_rfl) (fun K hK=>?_);have hbs:=au qp HR2.out;obtain ⟨⟨d0,d1,d2,d3,d4⟩,y0,y1,y2,y3,y4⟩:=five hbs;have mg:=iM hk3 (Nat.lt_of_lt_of_le Wi hqa.size);have dY:=Aj.out.trans qp;go_simp;refine hK.out _ _ ?_;clear hK K
      (try go_frame)
      refine HT.done (by kernel_rfl) ?_ _;generalize AP:bodyPost Tryz.prog Tryz.f37 (sS R W most fin)=BP;go_wp2_with fail;rw [<-AP];have hf:=fJ w3 (B+1+1) (.slice lo3 iO iP) (.int .i64 fin.next) (.int .i64 most) (.slice iQ iR iU) (.int .i64 iD);obtain ⟨⟨f0,f1,f2,f3,f4⟩,_⟩:=five (bY (a:=(.slice lo3 iO iP)) (b:=(.int .i64 fin.next)) (c:=(.int .i64 most)) (d:=(.slice iQ iR iU)) (e:=(.int .i64 iD)) hbs);change bodyPost _ _ _ _ _ (iJ w3 (B+1+1) (.slice lo3 iO iP) (.int .i64 fin.next) (.int .i64 most) (.slice iQ iR iU) (.int .i64 iD));have hend:=ni mg dY hf dW;generalize iJ w3 (B+1+1) (.slice lo3 iO iP) (.int .i64 fin.next) (.int .i64 most) (.slice iQ iR iU) (.int .i64 iD)=wf at *;refine bodyPost_ret (by simp [results,Tryz.results37,go_sem,f0,f1,f2,f3,f4]<;>rfl) rfl ?_;exact ⟨lo3,iO,iP,iQ,iR,iU,iD,by (first | rfl | (rw [HF2.out]<;>rfl)),by (first | exact hend.1 | (rw [HF2.out];exact hend.1)),hend.2⟩
     exact HT.bJ.nil
    exact HT.bJ.nil
   ·have t2:(h.k == 2)=false:=by rw [hk];rfl
    have t3:(h.k == 3)=false:=by rw [hk];rfl
    have t1:(h.k == 1)=false:=by rw [hk];rfl
    have t4:(h.k == 4)=true:=by rw [hk];rfl
    have HK:=hid hk;have hl2:1<=l2:=by rw [HS2.out.1];exact Di.out.2.1 hk
    clear hk;obtain ⟨b9,aK,v0,qv0,r1v,n1v,e1v,r2v,n2v,e2v,e9,_⟩:=HS2.out.nth (i:=0) (by omega);subst e9;obtain ⟨b9',JG,u,qu,lq,lu,d1u,lC,lD,lF,e9,_,gu,ru,cu,su,tu⟩:=HS2.out.nth (i:=0) (by omega);injection e9 with e9
    injection e9 with e9 e9'
    subst e9 e9';simp only [Nat.zero_mul,Nat.add_zero] at cu;have VB:=hid (IH.out 0 u qu gu);have Ku:=hid gu;have AZ:=hid cu;have Aw:=hid su;have Az:=hid tu;have hzu:=To.dK ps 0 u qu gu;have hou:=gJ ps 0 u qu qV.out gu;have hlz:en+1+qu.size<=100000:=by have:=X0.out;omega
    have hi0:(0:Int) < l2:=by omega
    have hj0:0 < l2:=by omega
    clear gu ru cu su tu hzu;obtain ⟨d2,hd2⟩:∃ d2:Dk,d2={ d1 with next:=d1.next+1 }:=⟨_,rfl⟩;have hdn:d2.next=d1.next+1:=by rw [hd2]
    obtain ⟨rt,hrt⟩:∃ rt,fH most u qu (lI most (ev.snoc h.nm d1.next false nd0 .nil .nil)) d2=rt:=⟨_,rfl⟩;have hre:(dS most (tv d.next) (iY (tv d1.next) (tv d2.next)) h.fr h.en rt.2).2=fin:=by
     have e1:rt.1=d2.next:=by rw [<-hrt];exact lG _ _ _ _ _
     rw [<-bH.out,jd Q5.out,<-HD1.out,<-e1,<-hrt,Ol,hd2];unfold kY;rw [if_neg (by rw [HK.out];decide),if_neg (by rw [HK.out];decide),if_neg (by rw [HK.out];decide),if_pos HK.out];unfold gq kX jP;dsimp only;rw [A8 Ku.out]
     all_goals rfl
    have hnt:rt.2.next<=1000000:=by have k:=zX.out;rw [bH.out,<-hre,jR] at k;exact k
    have hnx:d2.next+1<=rt.2.next:=by rw [<-hrt];exact yF most u qu (nG most _) d2
    have hnw:IntKind.i64.wrap ((d1.next:Int)+1)=((d1.next+1:Nat):Int):=by rw [IntWalk.i64_in _ (by omega)];omega
    have xB:=hid hrt;have Qy:=hid hnt;have HD2:=hid hd2;have adr:=hid hdn;have HF3:=hid hre;have HF2:Hid (fin=fin):=rfl;clear hre hrt hnt hnx hd2 hdn;clear p0 p1 p2 p3 p4;obtain ⟨⟨p0,p1,p2,p3,p4⟩,y0,y1,y2,y3,y4⟩:=five HR0.out;go_upto_region 29 with fail
    rw [show ((d1.next:Int)+1)=(d2.next:Int) from by have:=adr.out;omega];clear p0 p1 p2 p3 p4 y0 y1 y2 y3 y4 a0 a1 a2 a3 a4 a5 a6 a7 a8;obtain ⟨wp,hwp⟩:∃ wp,wp=wr.setCell ⟨B,1,none⟩ (.int .i64 d2.next):=⟨_,rfl⟩;rw [<-hwp];obtain ⟨hb0,ig,hb2,hkp,Qz⟩:=Oi HD2.out hwp HR0.out O9.out HR2.out Dy.out Aj.out dW;have KA:=hid hb0;have vH:=hid ig;have zF:=hid hb2;have HKp:=hid hkp;have sO:=hid Qz;have hzp:B+1+1 < wp.heap.size:=lt_of_block hb2;clear hwp hb0 ig hb2 hkp Qz;clear hnw;obtain ⟨xs,hrow,hxl,hxo,hxc⟩:=Kz.out.row;have MH:=hid hxc;have l9:=hid hrow;clear hrow hxc;have nY:Hid (∀ W' o c,ah wp W'->EvS (RB R B) W' o (en+1) (ev.snoc h.nm d1.next false nd0 .nil .nil)->en+1<=c->Calls Tryz.prog 37 #[iC lo ln lc d2.next most Ec Ed Ee inn,bI u lq lu d1u lC lD lF,.slice o (en+1) c] W' (sS (RB R B) W' most rt.2)):=fun W' o c hq he hc=>by
     have hq':=sO.out.trans hq;have k:=VB.out (RB R B) W' d2 inn lo ln lc Ec Ed Ee lq lu d1u lC lD lF o (en+1) c _ (HKp.out.stay hq) (Aw.out.fr hq' (jL dW)) (Az.out.fr hq' (jL dW)) he hc hlz (Good.snoc (fun e=>by cases e) Qx.out) hou.1 hou.2 (by rw [xB.out];exact Qy.out);rw [xB.out] at k;exact k
    unfold bI iC at nY;have bK:Hid (∀ W',ah wp W'->(fun (W':World)=>(AO W' B (.slice lo ln lc) (.int .i64 d2.next) (.int .i64 most) (.slice Ec Ed Ee) (.int .i64 inn))/\(qP W' (B+1) h o1 l1 c1 (some ⟨b9,aK,none⟩) l2 c2)/\(EC W' b9 aK u lq lu d1u lC lD lF)) W'):=fun W' hq=>by
     obtain ⟨k,_⟩:=five (au hq KA.out);exact ⟨k,aA (au hq vH.out),iq AZ.out (sO.out.trans hq)⟩
    go_cut [] from 119 to 133 (fun wx=>TmC R W B rt.2 most h o1 l1 c1 (some ⟨b9,aK,none⟩) l2 c2 wx)
    case first =>
     refine dI 15 bK.out (by kernel_rfl) (fun hHeld=>?_)
     (try dsimp only at hHeld)
     have gZ:=ah.drew wp;generalize wp.drew=wd at gZ hHeld ⊢;refine HT.tk 0 rfl ?_;go_frame;refine HT.tk 1 rfl ?_;go_frame;refine HT.tk 2 rfl ?_;go_frame;refine HT.tk 3 rfl ?_;go_frame;refine HT.tk 4 rfl ?_;go_frame;refine HT.tk 6 rfl ?_;go_frame;refine HT.tk 8 rfl ?_;go_frame;refine HT.tk 9 rfl ?_;go_frame;refine HT.tk 10 rfl ?_;go_frame;refine HT.tk 11 rfl ?_;go_frame;refine HT.branch (rs:=[5,12]) (by kernel_rfl) (by simp) ?_;refine HT.cn 5 rfl (fun K hK=>?_) ?_
     ·go_simp;obtain ⟨qI,kN⟩:∃ wa,wa=wd.alloc (.cells #[] 108):=⟨_,rfl⟩;have hqa:ah wd qI:=by rw [kN];exact ah.alloc _ _
      have hown:=gY (size:=13) (show qI.heap[wd.heap.size]?=some (.cells #[] 108 (0,0)) by rw [kN];exact heap_alloc_new wd _);have hgl:wp.heap.size<=wd.heap.size:=(gZ).size;have ng:=(gZ).trans hqa;rw [<-kN];clear kN;generalize wd.heap.size=ga at hown hgl ⊢;refine hK.out _ _ ?JK (fun hHeld=>?_)
      case JK=>exact bK.out _ ng
      clear hK K
      (try go_frame)
      refine HT.branch (rs:=[7,12]) (by kernel_rfl) (by simp) ?_;refine HT.cn 7 rfl (fun K hK=>?_) ?_
      ·refine aJ qI rfl (.tmp 124) (.tmp 125) 105 rfl 108 _ 13 168 jv (.slice (some ⟨ga,0,none⟩) 0 0) 0 [] rfl hown eo en ec xs rfl hxl ?aav hxo (by unfold maxLen;omega) (by omega) ?_
       case aav=>(intro j u hj;obtain ⟨b,off,e,hc⟩:=MH.out j u hj;subst e;exact ⟨_,rfl,by rw [Addr.add_lit];exact (sO.out.trans (ng)).at hc⟩)
       intro o3 c3 jJ ho3 hf3 iL hnil3;simp only [Nat.zero_add,List.nil_append] at ho3 iL hnil3 ⊢;have pR:ah wp jJ:=Fr.trans' (ng) hf3 (fun i hi e=>by simp [Value.ownBlock] at e;omega);have jK:∀ k,(Value.slice o3 en c3).ownBlock=some k->wp.heap.size<=k:=fun k hk=>by
        rcases iL with e | e
        ·rw [e] at hk;simp [Value.ownBlock] at hk;omega
        ·rw [e] at hk;cases hk;exact ((ng)).size
       refine hK.out _ _ ?Vh (fun hHeld=>?_)
       case Vh=>exact bK.out _ pR
       clear hK K
       (try go_frame)
       refine HT.branch (rs:=[12]) (by kernel_rfl) (by simp) ?_;refine HT.cn 12 rfl (fun K hK=>?_) ?_
       ·go_simp;obtain ⟨lU,hwb⟩:∃ wb,wb=jJ.alloc (.cells (fM h.nm d1.next false nd0 none 0 0 none 0 0 none 0 0) 108):=⟨_,rfl⟩;have qp:ah jJ lU:=by rw [hwb];exact ah.alloc _ _
        have hb8:lU.heap[jJ.heap.size]?=some (.cells (fM h.nm d1.next false nd0 none 0 0 none 0 0 none 0 0) 108 (0,0)):=by rw [hwb];exact heap_alloc_new jJ _
        have BQ:wp.heap.size<=jJ.heap.size:=(pR).size;have kP:=(pR).trans qp;have pU:=lt_of_block hb8;change K _ (jJ.alloc (.cells (fM h.nm d1.next false nd0 none 0 0 none 0 0 none 0 0) 108));rw [<-hwb];clear hwb;replace ho3:=aV ho3 qp (fun _ _ h=>h);generalize jJ.heap.size=g8 at hb8 BQ pU ⊢;refine hK.out _ _ ?JL (fun hHeld=>?_)
        case JL=>exact bK.out _ kP
        clear hK K
        (try go_frame)
        refine HT.branch (rs:=[13]) (by kernel_rfl) (by simp) ?_;refine HT.cn 13 rfl (fun K hK=>?_) ?_
        ·have hc8:∀ j u,(fM h.nm d1.next false nd0 none 0 0 none 0 0 none 0 0).toList[j]?=some u->∃ a,some (⟨g8,0,none⟩:Addr)=some a/\lU.cell? (a.add j)=some u:=fun j u hj=>⟨_,rfl,by rw [Addr.add_lit,Nat.zero_add,cell_of_row _ _ _ _ _ (0,0) hb8];simpa using hj⟩
         refine aJ lU rfl (.tmp 126) (.tmp 131) 105 rfl 108 _ 13 168 jv (.slice o3 en c3) en xs rfl ho3 (some ⟨g8,0,none⟩) 1 1 (fM h.nm d1.next false nd0 none 0 0 none 0 0 none 0 0).toList rfl rfl hc8 (by simp [Value.oneCell']) (by unfold maxLen;omega) (by omega) ?_;intro o4 c4 wU mM hf4 pV uo;have eG:ah wp wU:=Fr.trans' (kP) hf4 (fun i hi e=>by have:=jK i e;omega);have pW:∀ k,(Value.slice o4 (en+1) c4).ownBlock=some k->B+1+1 < k:=fun k hk=>by
          rcases pV with e | e
          ·rw [e] at hk;have:=jK k hk;omega
          ·rw [e] at hk;cases hk;have:=((kP)).size;omega
         refine hK.out _ _ ?JM (fun hHeld=>?_)
         case JM=>exact bK.out _ eG
         clear hK K
         (try go_frame)
         refine HT.branch (rs:=[14]) (by kernel_rfl) (by simp) ?_;refine HT.cn 14 rfl (fun K hK=>?_) ?_
         ·obtain ⟨uw,uy⟩:=lX (h:=nd0) (ps:=.nil) (ar:=.nil) (ag:=false) (o1:=none) (l1:=0) (c1:=0) (o2:=none) (l2:=0) (c2:=0) (ao:=none) (an:=0) (ac:=0) l9.out Kt.out (sO.out.trans (eG)) dW (aB.nil _ _ _) (bD.nil _ _ _) (EvS.nil _ _ _) (Nat.le_refl _) mM (by omega) pW;go_simp;go_at_call 37
          with_reducible refine Calls.mono (nY.out _ _ _ (eG) uw uy) ?_
          rintro e w9 ⟨Rk,Rn,Ro,Rq,Rt,Ru,AQ,rfl,hk9,tH⟩;have mg:=iM hk9 (Nat.lt_of_lt_of_le hzp (eG).size);have fC:=(eG).trans tH;unfold iC;refine hK.out _ _ ?abQ (fun hHeld=>?_)
          case abQ=>exact bK.out _ fC
          clear hK K
          (try go_frame)
          refine HT.last rfl (by kernel_rfl) (fun K hK=>?_);have hbs:=au fC KA.out;obtain ⟨⟨p0,p1,p2,p3,p4⟩,y0,y1,y2,y3,y4⟩:=five hbs;have hend:=kG AQ hbs (au fC vH.out) (au fC zF.out) mg (sO.out.trans fC) dW;go_simp;refine hK.out _ _ ?_;clear hK K
          (try go_frame)
          refine HT.done (by kernel_rfl) ?_ _;go_wp2_with fail;go_meet;exact hend
         exact HT.bJ.nil
        exact HT.bJ.nil
       exact HT.bJ.nil
      refine HT.cn 12 rfl (fun K hK=>?_) ?_
      ·go_simp;obtain ⟨wV,hwb⟩:∃ wb,wb=qI.alloc (.cells (fM h.nm d1.next false nd0 none 0 0 none 0 0 none 0 0) 108):=⟨_,rfl⟩;have qp:ah qI wV:=by rw [hwb];exact ah.alloc _ _
       have hb8:wV.heap[qI.heap.size]?=some (.cells (fM h.nm d1.next false nd0 none 0 0 none 0 0 none 0 0) 108 (0,0)):=by rw [hwb];exact heap_alloc_new qI _
       have BQ:wp.heap.size<=qI.heap.size:=(ng).size;have lV:=(ng).trans qp;have pU:=lt_of_block hb8;change K _ (qI.alloc (.cells (fM h.nm d1.next false nd0 none 0 0 none 0 0 none 0 0) 108));rw [<-hwb];clear hwb;have Qu:=(hown.lt ga rfl).2;replace hown:=aV hown qp (fun _ _ h=>h);generalize qI.heap.size=g8 at hb8 BQ pU Qu ⊢;refine hK.out _ _ ?Vj (fun hHeld=>?_)
       case Vj=>exact bK.out _ lV
       clear hK K
       (try go_frame)
       refine HT.branch (rs:=[7]) (by kernel_rfl) (by simp) ?_;refine HT.cn 7 rfl (fun K hK=>?_) ?_
       ·refine aJ wV rfl (.tmp 124) (.tmp 125) 105 rfl 108 _ 13 168 jv (.slice (some ⟨ga,0,none⟩) 0 0) 0 [] rfl hown eo en ec xs rfl hxl ?aaw hxo (by unfold maxLen;omega) (by omega) ?_
        case aaw=>(intro j u hj;obtain ⟨b,off,e,hc⟩:=MH.out j u hj;subst e;exact ⟨_,rfl,by rw [Addr.add_lit];exact (sO.out.trans (lV)).at hc⟩)
        intro o3 c3 pX ho3 hf3 iL hnil3;simp only [Nat.zero_add,List.nil_append] at ho3 iL hnil3 ⊢;have kQ:ah wp pX:=Fr.trans' (lV) hf3 (fun i hi e=>by simp [Value.ownBlock] at e;omega);have jK:∀ k,(Value.slice o3 en c3).ownBlock=some k->wp.heap.size<=k:=fun k hk=>by
         rcases iL with e | e
         ·rw [e] at hk;simp [Value.ownBlock] at hk;omega
         ·rw [e] at hk;cases hk;exact ((lV)).size
        refine hK.out _ _ ?Vk (fun hHeld=>?_)
        case Vk=>exact bK.out _ kQ
        clear hK K
        (try go_frame)
        replace hb8:=aC hf3 (fun e=>by simp [Value.ownBlock] at e;omega) hb8;refine HT.branch (rs:=[13]) (by kernel_rfl) (by simp) ?_;refine HT.cn 13 rfl (fun K hK=>?_) ?_
        ·have hc8:∀ j u,(fM h.nm d1.next false nd0 none 0 0 none 0 0 none 0 0).toList[j]?=some u->∃ a,some (⟨g8,0,none⟩:Addr)=some a/\pX.cell? (a.add j)=some u:=fun j u hj=>⟨_,rfl,by rw [Addr.add_lit,Nat.zero_add,cell_of_row _ _ _ _ _ (0,0) hb8];simpa using hj⟩
         refine aJ pX rfl (.tmp 126) (.tmp 131) 105 rfl 108 _ 13 168 jv (.slice o3 en c3) en xs rfl ho3 (some ⟨g8,0,none⟩) 1 1 (fM h.nm d1.next false nd0 none 0 0 none 0 0 none 0 0).toList rfl rfl hc8 (by simp [Value.oneCell']) (by unfold maxLen;omega) (by omega) ?_;intro o4 c4 wW mM hf4 pV uo;have eH:ah wp wW:=Fr.trans' (kQ) hf4 (fun i hi e=>by have:=jK i e;omega);have pW:∀ k,(Value.slice o4 (en+1) c4).ownBlock=some k->B+1+1 < k:=fun k hk=>by
          rcases pV with e | e
          ·rw [e] at hk;have:=jK k hk;omega
          ·rw [e] at hk;cases hk;have:=((kQ)).size;omega
         refine hK.out _ _ ?Vl (fun hHeld=>?_)
         case Vl=>exact bK.out _ eH
         clear hK K
         (try go_frame)
         refine HT.branch (rs:=[14]) (by kernel_rfl) (by simp) ?_;refine HT.cn 14 rfl (fun K hK=>?_) ?_
         ·obtain ⟨uw,uy⟩:=lX (h:=nd0) (ps:=.nil) (ar:=.nil) (ag:=false) (o1:=none) (l1:=0) (c1:=0) (o2:=none) (l2:=0) (c2:=0) (ao:=none) (an:=0) (ac:=0) l9.out Kt.out (sO.out.trans (eH)) dW (aB.nil _ _ _) (bD.nil _ _ _) (EvS.nil _ _ _) (Nat.le_refl _) mM (by omega) pW;go_simp;go_at_call 37
          with_reducible refine Calls.mono (nY.out _ _ _ (eH) uw uy) ?_
          rintro e w9 ⟨Rk,Rn,Ro,Rq,Rt,Ru,AQ,rfl,hk9,tH⟩;have mg:=iM hk9 (Nat.lt_of_lt_of_le hzp (eH).size);have fD:=(eH).trans tH;unfold iC;refine hK.out _ _ ?Vm (fun hHeld=>?_)
          case Vm=>exact bK.out _ fD
          clear hK K
          (try go_frame)
          refine HT.last rfl (by kernel_rfl) (fun K hK=>?_);have hbs:=au fD KA.out;obtain ⟨⟨p0,p1,p2,p3,p4⟩,y0,y1,y2,y3,y4⟩:=five hbs;have hend:=kG AQ hbs (au fD vH.out) (au fD zF.out) mg (sO.out.trans fD) dW;go_simp;refine hK.out _ _ ?_;clear hK K
          (try go_frame)
          refine HT.done (by kernel_rfl) ?_ _;go_wp2_with fail;go_meet;exact hend
         exact HT.bJ.nil
        exact HT.bJ.nil
       exact HT.bJ.nil
      exact HT.bJ.nil
     refine HT.cn 12 rfl (fun K hK=>?_) ?_
     ·go_simp;obtain ⟨uq,hwb⟩:∃ wb,wb=wd.alloc (.cells (fM h.nm d1.next false nd0 none 0 0 none 0 0 none 0 0) 108):=⟨_,rfl⟩;have qp:ah wd uq:=by rw [hwb];exact ah.alloc _ _
      have hb8:uq.heap[wd.heap.size]?=some (.cells (fM h.nm d1.next false nd0 none 0 0 none 0 0 none 0 0) 108 (0,0)):=by rw [hwb];exact heap_alloc_new wd _
      have BQ:wp.heap.size<=wd.heap.size:=(gZ).size;have wX:=(gZ).trans qp;have pU:=lt_of_block hb8;change K _ (wd.alloc (.cells (fM h.nm d1.next false nd0 none 0 0 none 0 0 none 0 0) 108));rw [<-hwb];clear hwb;generalize wd.heap.size=g8 at hb8 BQ pU ⊢;refine hK.out _ _ ?Vo (fun hHeld=>?_)
      case Vo=>exact bK.out _ wX
      clear hK K
      (try go_frame)
      refine HT.branch (rs:=[5]) (by kernel_rfl) (by simp) ?_;refine HT.cn 5 rfl (fun K hK=>?_) ?_
      ·go_simp;obtain ⟨wY,kN⟩:∃ wa,wa=uq.alloc (.cells #[] 108):=⟨_,rfl⟩;have hqa:ah uq wY:=by rw [kN];exact ah.alloc _ _
       have hown:=gY (size:=13) (show wY.heap[uq.heap.size]?=some (.cells #[] 108 (0,0)) by rw [kN];exact heap_alloc_new uq _);have hgl:wp.heap.size<=uq.heap.size:=(wX).size;have lW:=(wX).trans hqa;rw [<-kN];clear kN;generalize uq.heap.size=ga at hown hgl pU ⊢;refine hK.out _ _ ?Vp (fun hHeld=>?_)
       case Vp=>exact bK.out _ lW
       clear hK K
       (try go_frame)
       replace hb8:=au hqa hb8;refine HT.branch (rs:=[7]) (by kernel_rfl) (by simp) ?_;refine HT.cn 7 rfl (fun K hK=>?_) ?_
       ·refine aJ wY rfl (.tmp 124) (.tmp 125) 105 rfl 108 _ 13 168 jv (.slice (some ⟨ga,0,none⟩) 0 0) 0 [] rfl hown eo en ec xs rfl hxl ?aax hxo (by unfold maxLen;omega) (by omega) ?_
        case aax=>(intro j u hj;obtain ⟨b,off,e,hc⟩:=MH.out j u hj;subst e;exact ⟨_,rfl,by rw [Addr.add_lit];exact (sO.out.trans (lW)).at hc⟩)
        intro o3 c3 pY ho3 hf3 iL hnil3;simp only [Nat.zero_add,List.nil_append] at ho3 iL hnil3 ⊢;have kR:ah wp pY:=Fr.trans' (lW) hf3 (fun i hi e=>by simp [Value.ownBlock] at e;omega);have jK:∀ k,(Value.slice o3 en c3).ownBlock=some k->wp.heap.size<=k:=fun k hk=>by
         rcases iL with e | e
         ·rw [e] at hk;simp [Value.ownBlock] at hk;omega
         ·rw [e] at hk;cases hk;exact ((lW)).size
        refine hK.out _ _ ?abR (fun hHeld=>?_)
        case abR=>exact bK.out _ kR
        clear hK K
        (try go_frame)
        replace hb8:=aC hf3 (fun e=>by simp [Value.ownBlock] at e;omega) hb8;refine HT.branch (rs:=[13]) (by kernel_rfl) (by simp) ?_;refine HT.cn 13 rfl (fun K hK=>?_) ?_
        ·have hc8:∀ j u,(fM h.nm d1.next false nd0 none 0 0 none 0 0 none 0 0).toList[j]?=some u->∃ a,some (⟨g8,0,none⟩:Addr)=some a/\pY.cell? (a.add j)=some u:=fun j u hj=>⟨_,rfl,by rw [Addr.add_lit,Nat.zero_add,cell_of_row _ _ _ _ _ (0,0) hb8];simpa using hj⟩
         refine aJ pY rfl (.tmp 126) (.tmp 131) 105 rfl 108 _ 13 168 jv (.slice o3 en c3) en xs rfl ho3 (some ⟨g8,0,none⟩) 1 1 (fM h.nm d1.next false nd0 none 0 0 none 0 0 none 0 0).toList rfl rfl hc8 (by simp [Value.oneCell']) (by unfold maxLen;omega) (by omega) ?_;intro o4 c4 wZ mM hf4 pV uo;have eU:ah wp wZ:=Fr.trans' (kR) hf4 (fun i hi e=>by have:=jK i e;omega);have pW:∀ k,(Value.slice o4 (en+1) c4).ownBlock=some k->B+1+1 < k:=fun k hk=>by
          rcases pV with e | e
          ·rw [e] at hk;have:=jK k hk;omega
          ·rw [e] at hk;cases hk;have:=((kR)).size;omega
         refine hK.out _ _ ?abS (fun hHeld=>?_)
         case abS=>exact bK.out _ eU
         clear hK K
         (try go_frame)
         refine HT.branch (rs:=[14]) (by kernel_rfl) (by simp) ?_;refine HT.cn 14 rfl (fun K hK=>?_) ?_
         ·obtain ⟨uw,uy⟩:=lX (h:=nd0) (ps:=.nil) (ar:=.nil) (ag:=false) (o1:=none) (l1:=0) (c1:=0) (o2:=none) (l2:=0) (c2:=0) (ao:=none) (an:=0) (ac:=0) l9.out Kt.out (sO.out.trans (eU)) dW (aB.nil _ _ _) (bD.nil _ _ _) (EvS.nil _ _ _) (Nat.le_refl _) mM (by omega) pW;go_simp;go_at_call 37
          with_reducible refine Calls.mono (nY.out _ _ _ (eU) uw uy) ?_
          rintro e w9 ⟨Rk,Rn,Ro,Rq,Rt,Ru,AQ,rfl,hk9,tH⟩;have mg:=iM hk9 (Nat.lt_of_lt_of_le hzp (eU).size);have fE:=(eU).trans tH;unfold iC;refine hK.out _ _ ?abT (fun hHeld=>?_)
          case abT=>exact bK.out _ fE
          clear hK K
          (try go_frame)
          refine HT.last rfl (by kernel_rfl) (fun K hK=>?_);have hbs:=au fE KA.out;obtain ⟨⟨p0,p1,p2,p3,p4⟩,y0,y1,y2,y3,y4⟩:=five hbs;have hend:=kG AQ hbs (au fE vH.out) (au fE zF.out) mg (sO.out.trans fE) dW;go_simp;refine hK.out _ _ ?_;clear hK K
          (try go_frame)
          refine HT.done (by kernel_rfl) ?_ _;go_wp2_with fail;go_meet;exact hend
         exact HT.bJ.nil
        exact HT.bJ.nil
       exact HT.bJ.nil
      exact HT.bJ.nil
     exact HT.bJ.nil
    case rest =>
     rename World=>wq
     obtain ⟨rP,rQ,rU,vI,vJ,vK,qZ,hb0,ig,hb2,hk5,hq5⟩:=hcut;have qg:=hid hb0;have qh:=hid ig;have uz:=hid hb2;have JR:=hid hk5;have nD:=hid hq5;clear hzp;have hzp:B+1+1 < wq.heap.size:=lt_of_block hb2;clear hb0 ig hb2 hk5 hq5;have Dz:Hid (∀ W',ah wq W'->(fun (W':World)=>(AO W' B (.slice rP rQ rU) (.int .i64 rt.2.next) (.int .i64 most) (.slice vI vJ vK) (.int .i64 qZ))/\(qP W' (B+1) h o1 l1 c1 (some ⟨b9,aK,none⟩) l2 c2)) W'):=fun W' hq=>by
      obtain ⟨k,_⟩:=five (au hq qg.out);exact ⟨k,aA (au hq qh.out)⟩
     have iw:Hid (∀ W' oA cA,ah wq W'->aB (RB R B) W' oA 2 (iY (tv d1.next) (tv d2.next)).2.2->Calls Tryz.prog 58 #[iC rP rQ rU rt.2.next most vI vJ vK qZ,.agg #[.int .i64 1,.int .i64 d.next,.slice none 0 0],.agg #[.int .i64 4,.int .i64 0,.slice oA 2 cA],.agg #[.int .i64 h.fr,.int .i64 h.en]] W' (sS (RB R B) W' most fin)):=fun W' oA cA hq hs=>by
      have k:=add_any (o1:=none) (l1:=0) (c1:=0) (c2:=cA) qZ (JR.out.stay hq) hm (tv d.next) (iY (tv d1.next) (tv d2.next)) h.fr h.en (aB.nil _ _ _) hs (by show Fo.nil.size<=_;decide) (Nat.le_of_ble_eq_true rfl);rw [HF3.out] at k;exact k
     unfold iC at iw;go_upto_region 30 with fail
     refine dI 11 Dz.out (by kernel_rfl) (fun hHeld=>?_)
     (try dsimp only at hHeld)
     have gZ:=ah.drew wq;generalize wq.drew=wd at gZ hHeld ⊢;refine HT.tk 0 rfl ?_;go_frame;refine HT.tk 1 rfl ?_;go_frame;refine HT.tk 3 rfl ?_;go_frame;refine HT.tk 5 rfl ?_;go_frame;refine HT.tk 8 rfl ?_;go_frame;refine HT.tk 9 rfl ?_;go_frame;refine HT.branch (rs:=[2]) (by kernel_rfl) (by simp) ?_;refine HT.cn 2 rfl (fun K hK=>?_) ?_
     ·go_simp;go_at_call 59
      with_reducible refine Calls.mono (gX _ _) ?_
      rintro e wv1 ⟨rfl,qj⟩;have fP:=gZ.trans qj;refine hK.out _ _ ?abU (fun hHeld=>?_)
      case abU=>exact Dz.out _ fP
      clear hK K
      (try go_frame)
      refine HT.branch (rs:=[4]) (by kernel_rfl) (by simp) ?_;refine HT.cn 4 rfl (fun K hK=>?_) ?_
      ·go_simp;go_at_call 59
       with_reducible refine Calls.mono (gX _ _) ?_
       rintro e wv2 ⟨rfl,rV⟩;have gV:=fP.trans rV;refine hK.out _ _ ?Un (fun hHeld=>?_)
       case Un=>exact Dz.out _ gV
       clear hK K
       (try go_frame)
       refine HT.branch (rs:=[6]) (by kernel_rfl) (by simp) ?_;refine HT.cn 6 rfl (fun K hK=>?_) ?_
       ·go_simp;go_at_call 59
        with_reducible refine Calls.mono (gX _ _) ?_
        rintro e Eb ⟨rfl,Du⟩;have oL:=gV.trans Du;refine hK.out _ _ ?Uo (fun hHeld=>?_)
        case Uo=>exact Dz.out _ oL
        clear hK K
        (try go_frame)
        refine HT.branch (rs:=[7]) (by kernel_rfl) (by simp) ?_;refine HT.cn 7 rfl (fun K hK=>?_) ?_
        ·go_simp;go_at_call 61
         with_reducible refine Calls.mono (Ae _ _) ?_
         rintro e wv4 ⟨oA,cA,rfl,hs4,ads⟩;have hzA:wq.heap.size<=Eb.heap.size:=oL.size;replace hs4:=hs4.mono (T:=RB R B) (fun k _ hk=>.inr (by have hk':Eb.heap.size<=k:=hk;omega));have X4:=oL.trans ads;refine hK.out _ _ ?Ur (fun hHeld=>?_)
         case Ur=>exact Dz.out _ X4
         clear hK K
         (try go_frame)
         refine HT.branch (rs:=[10]) (by kernel_rfl) (by simp) ?_;refine HT.cn 10 rfl (fun K hK=>?_) ?_
         ·go_simp;go_at_call 58
          with_reducible refine Calls.mono (iw.out _ _ _ X4 hs4) ?_
          rintro e wv5 ⟨lo3,iO,iP,iQ,iR,iU,iD,rfl,hk3,adt⟩;have mg:=iM hk3 (Nat.lt_of_lt_of_le hzp X4.size);have aay:=X4.trans adt;unfold iC;refine hK.out _ _ ?Us (fun hHeld=>?_)
          case Us=>exact Dz.out _ aay
          clear hK K
          (try go_frame)
          refine HT.last rfl (by kernel_rfl) (fun K hK=>?_);have hbs:=au aay uz.out;obtain ⟨⟨z0,z1,z2,z3,z4⟩,y0,y1,y2,y3,y4⟩:=five hbs;have dY:=nD.out.trans aay;go_simp;refine hK.out _ _ ?_;clear hK K
          (try go_frame)
          refine HT.done (by kernel_rfl) ?_ _;clear z0 z1 z2 z3 z4 y0 y1 y2 y3 y4;generalize AP:bodyPost Tryz.prog Tryz.f37 (sS R W most fin)=BP at *;go_wp2_with fail;rw [<-AP];have hf:=fJ wv5 (B+1+1) (.slice lo3 iO iP) (.int .i64 fin.next) (.int .i64 most) (.slice iQ iR iU) (.int .i64 iD);obtain ⟨⟨f0,f1,f2,f3,f4⟩,_⟩:=five (bY (a:=(.slice lo3 iO iP)) (b:=(.int .i64 fin.next)) (c:=(.int .i64 most)) (d:=(.slice iQ iR iU)) (e:=(.int .i64 iD)) hbs);change bodyPost _ _ _ _ _ (iJ wv5 (B+1+1) (.slice lo3 iO iP) (.int .i64 fin.next) (.int .i64 most) (.slice iQ iR iU) (.int .i64 iD));have hend:=ni mg dY hf dW;generalize iJ wv5 (B+1+1) (.slice lo3 iO iP) (.int .i64 fin.next) (.int .i64 most) (.slice iQ iR iU) (.int .i64 iD)=wf at *;refine bodyPost_ret (by simp [results,Tryz.results37,go_sem,f0,f1,f2,f3,f4]<;>rfl) rfl ?_;exact ⟨lo3,iO,iP,iQ,iR,iU,iD,by (first | rfl | (rw [HF2.out]<;>rfl)),by (first | exact hend.1 | (rw [HF2.out];exact hend.1)),hend.2⟩
         exact HT.bJ.nil
        exact HT.bJ.nil
       exact HT.bJ.nil
      exact HT.bJ.nil
     exact HT.bJ.nil
   ·have t2:(h.k == 2)=false:=by rw [hk];rfl
    have t3:(h.k == 3)=false:=by rw [hk];rfl
    have t1:(h.k == 1)=false:=by rw [hk];rfl
    have t4:(h.k == 4)=false:=by rw [hk];rfl
    have t6:(h.k == 6)=false:=by rw [hk];rfl
    have t7:(h.k == 7)=false:=by rw [hk];rfl
    have t5:(h.k == 5)=true:=by rw [hk];rfl
    have HK:=hid hk;clear hk;obtain ⟨lf,hlf⟩:∃ lf,dmap (lI most ev) (dM most ps) d1=lf:=⟨_,rfl⟩;have hre:(dS most (jY lf.1 0) (iY (jY lf.1 1) (tv d.next)) h.fr h.en lf.2).2=fin:=by
     rw [<-bH.out,jd Q5.out,<-HD1.out];unfold kY;rw [if_neg (by rw [HK.out];decide),if_neg (by rw [HK.out];decide),if_neg (by rw [HK.out];decide),if_neg (by rw [HK.out];decide),if_neg (by rw [HK.out];decide)]
     show _=((gq (dmap (lI most ev) (dM most ps)) _) d1).2
     unfold gq;rw [hlf];dsimp only;rw [if_pos HK.out];rfl
    have ML:Hid (lf.2.next<=1000000):=by show _<=_;have k:=zX.out;rw [bH.out,<-hre] at k;simpa only [jR] using k
    have HF3:=hid hre;have HF2:Hid (fin=fin):=rfl;clear hre;have HLF:=hid hlf;have hzz:B+1+1 < wr.heap.size:=Wi;obtain ⟨vs,hvs⟩:∃ vs,dM most ps=vs:=⟨_,rfl⟩;have N8:=hid hvs;have FC:Hid (vs.length=l2):=by show _=_;rw [<-hvs,lY,HS2.out.1]
    have HST:Hid (YG R W B wr.heap.size most h o1 l1 c1 o2 l2 c2 (lI most ev) vs lf (.slice none 0 0) (.int .i64 0) wr):=by
     refine ⟨0,none,0,rfl,rfl,d1,[],[],lo,ln,lc,Ec,Ed,Ee,inn,Nat.zero_le _,?_,?_,PR.nil _ _,HR0.out,O9.out,HR2.out,Ba Dy.out,Aj.out,Nat.le_refl _⟩
     ·rw [List.drop_zero,<-hvs,hlf];rfl
     ·rw [List.drop_zero,<-hvs,hlf]
    obtain ⟨zz,DC⟩:∃ zz,wr.heap.size=zz:=⟨_,rfl⟩;rw [DC] at HST hzz;clear hvs hlf DC;go_wp2_with fail;clear p0 p1 p2 p3 p4 a0 a1 a2 a3 a4 a5 a6 a7 a8;go_loopw [14,15] (fun p t wx=>YG R W B zz most h o1 l1 c1 o2 l2 c2 (lI most ev) vs lf p t wx) (fun _ t _=>l2-(intOf t).toNat)
    case atStart=>exact HST.out
    case round =>
     clear HST;rename World=>wx
     obtain ⟨i,po,pc,rfl,rfl,di,ns,xs,rP,rQ,rU,vI,vJ,vK,qZ,hiv,hf1,hf2,hpr,hb0,ig,hb2,hk5,hq5,hzw⟩:=hrel;have hil:i<=l2:=by rw [<-FC.out];exact hiv
     have qg:=hid hb0;have qh:=hid ig;have uz:=hid hb2;have JR:=hid hk5;have nD:=hid hq5;have yJ:=hid hpr;have hzx:B+1+1 < wx.heap.size:=lt_of_block hb2;clear hb0 ig hb2 hk5 hq5 hpr hiv;obtain ⟨⟨p0,p1,p2,p3,p4⟩,_⟩:=five qg.out;obtain ⟨a0,a1,a2,a3,a4,a5,a6,a7,a8⟩:=aA qh.out
     by_cases hlt:i < l2
     ·have hlt':(i:Int) < l2:=by omega
      obtain ⟨b9,aK,u,qu,lq,lu,d1u,lC,lD,lF,rfl,_,gu,ru,cu,su,tu⟩:=HS2.out.nth hlt;have AZ:=hid cu;have Aw:=hid su;have Az:=hid tu;have hou:=gJ ps i u qu qV.out gu;have MN:en+qu.size<=100000:=by have:=To.dK ps i u qu gu;have:=X0.out;omega
      have hmd:=qY (lI most ev) vs i _ di (show vs[i]?=some (fH most u qu) by rw [<-N8.out];exact oP most ps i u qu gu);rw [hmd] at hf1 hf2;have hnr:(fH most u qu (lI most ev) di).2.next<=lf.2.next:=by
       rw [<-hf2];exact uP (nG most ev) (us:=vs.drop (i+1)) (fun v hv=>by rw [<-N8.out] at hv;exact nO most ps v (List.mem_of_mem_drop hv)) _
      obtain ⟨rt,hrt⟩:∃ rt,fH most u qu (lI most ev) di=rt:=⟨_,rfl⟩;have hr1:rt.1=di.next:=by rw [<-hrt];exact lG _ _ _ _ _
      rw [hrt] at hf1 hf2 hnr;rw [hr1] at hf1;have VB:=hid (IH.out i u qu gu);have xB:=hid hrt;have Qy:Hid (rt.2.next<=1000000):=Nat.le_trans hnr ML.out;have vO:=hid hf1;have MO:=hid hf2;clear hf1 hf2 hrt hr1 hnr hmd cu su tu gu ru;go_wp2_with fail;refine (gX _ _).mono ?_;rintro x w2 ⟨rfl,hq2⟩;have eF:=hid hq2;clear hq2 p0 p1 p2 p3 p4 a0 a1 a2 a3 a4 a5 a6 a7 a8;go_wp2_with (at_builtin;go_must (refine aY w2 rfl (.tmp 188) (.tmp 192) 22 rfl 24 _ 3 40 elemTy (.slice po i pc) i xs rfl (yJ.out.stay eF.out).own #[.int .i64 1,.int .i64 di.next,.slice none 0 0] rfl rfl ?c1 (by unfold maxLen;omega) (by omega) ?_);(case c1=>simp [Value.oneCell']));intro g4 c4 w4 mM hf4 hg4;have hlow:∀ k,(Value.slice po i pc).ownBlock=some k->zz<=k:=yJ.out.low;have ql:=hid ((yJ.out.stay eF.out).snoc (o':=none) (c1:=0) (di.next) mM (Nat.le_trans hzw eF.out.size) hg4);have HK4:=hid (yG (JR.out.stay eF.out) hf4 hg4 (n:=i+1) (c:=c4));have xk:=hid (aC hf4 (fun e=>by have:=hlow _ e;omega) (au eF.out qg.out));have xq:=hid (aC hf4 (fun e=>by have:=hlow _ e;omega) (au eF.out qh.out));have DF:=hid (aC hf4 (fun e=>by have:=hlow _ e;omega) (au eF.out uz.out));have fV:Hid (ah W w4):=Fr.trans' (nD.out.trans eF.out) hf4 (fun j hj e=>by have:=hlow j e;omega);have KH:B+1+1 < w4.heap.size:=lt_of_block DF.out;have MP:zz<=w4.heap.size:=Nat.le_trans hzw (Nat.le_trans eF.out.size hf4.size);clear mM hf4 hg4 hlow;have nY:Hid (∀ W',ah w4 W'->Calls Tryz.prog 37 #[iC rP rQ rU di.next most vI vJ vK qZ,bI u lq lu d1u lC lD lF,.slice eo en ec] W' (sS (Hz R B (.slice (some ⟨g4,0,none⟩) (i+1) c4)) W' most rt.2)):=fun W' hq=>by
       have hq':=fV.out.trans hq;have k:=VB.out (Hz R B (.slice (some ⟨g4,0,none⟩) (i+1) c4)) W' di qZ rP rQ rU vI vJ vK lq lu d1u lC lD lF eo en ec ev (HK4.out.stay hq) (Aw.out.fr hq' (og dW ql.out.low (by omega))) (Az.out.fr hq' (og dW ql.out.low (by omega))) (Kz.out.fr hq' (og dW ql.out.low (by omega))) vX MN Qx.out hou.1 hou.2 (by rw [xB.out];exact Qy.out);rw [xB.out] at k;exact k
      unfold bI iC at nY;obtain ⟨⟨p0,p1,p2,p3,p4⟩,_⟩:=five xk.out;obtain ⟨a0,a1,a2,a3,a4,a5,a6,a7,a8⟩:=aA xq.out;go_upto_region 42 with fail
      clear p0 p1 p2 p3 p4 a0 a1 a2 a3 a4 a5 a6 a7 a8;have bK:Hid (∀ W',ah w4 W'->(fun (W':World)=>(AO W' B (.slice rP rQ rU) (.int .i64 di.next) (.int .i64 most) (.slice vI vJ vK) (.int .i64 qZ))/\(qP W' (B+1) h o1 l1 c1 (some ⟨b9,aK,none⟩) l2 c2)/\(EC W' b9 (aK+i*9) u lq lu d1u lC lD lF)) W'):=fun W' hq=>by
       obtain ⟨k,_⟩:=five (au hq xk.out);exact ⟨k,aA (au hq xq.out),iq AZ.out (fV.out.trans hq)⟩
      refine dI 8 bK.out (by kernel_rfl) (fun hHeld=>?_)
      (try dsimp only at hHeld)
      have gZ:=ah.drew w4;generalize w4.drew=wd at *;refine HT.tk 0 rfl ?_;go_frame;refine HT.tk 1 rfl ?_;go_frame;refine HT.tk 2 rfl ?_;go_frame;refine HT.tk 3 rfl ?_;go_frame;refine HT.tk 4 rfl ?_;go_frame;refine HT.tk 5 rfl ?_;go_frame;refine HT.tk 6 rfl ?_;go_frame;refine HT.branch (rs:=[7]) (by kernel_rfl) (by simp) ?_;refine HT.cn 7 rfl (fun K hK=>?_) ?_
      ·go_simp;go_at_call 37
       with_reducible refine Calls.mono (nY.out _ gZ) ?_
       rintro e w9 ⟨Rk,Rn,Ro,Rq,Rt,Ru,AQ,rfl,hk9,tH⟩;have mg:=yH hk9 (Nat.lt_of_lt_of_le KH gZ.size) (fun k hk=>Nat.lt_of_lt_of_le (ql.out.lt k hk) gZ.size);have hqe:=gZ.trans tH;unfold iC;refine hK.out _ _ ?Uy (fun hHeld=>?_)
       case Uy=>exact bK.out _ hqe
       clear hK K
       (try go_frame)
       refine HT.last rfl (by kernel_rfl) (fun K hK=>?_);have hbs:=au hqe xk.out;obtain ⟨⟨p0,p1,p2,p3,p4⟩,y0,y1,y2,y3,y4⟩:=five hbs;have hend:=Bd AQ (by rw [FC.out];omega) (by rw [List.append_assoc];exact vO.out) MO.out (ql.out.stay hqe) hbs (au hqe xq.out) (au hqe DF.out) mg (fV.out.trans hqe) dW hzz (Nat.le_trans MP hqe.size);have zy:=hid hend;clear hend;go_simp;refine hK.out _ _ ?_;clear hK K
       (try go_frame)
       refine HT.done (by kernel_rfl) ?_ _;go_wp2_with fail;go_roundw
       case rel=>exact ⟨i+1,_,_,by go_num,rfl,zy.out⟩
       case measure=>simp [intOf];omega
      exact HT.bJ.nil
     ·have hlt':¬ (i:Int) < l2:=by omega
      have hi2:l2=i:=by omega
      subst hi2;have hd:vs.drop l2=[]:=List.drop_eq_nil_of_le (by rw [FC.out];exact Nat.le_refl _);rw [hd] at hf1 hf2;have hns:ns=lf.1:=by rw [<-hf1];show ns=ns++[];simp
      have hdl:di=lf.2:=hf2;clear hf1 hf2 hd;obtain ⟨lf1,lf2⟩:=lf;dsimp only at hns hdl;subst hns hdl;obtain ⟨hpt,hpc⟩:=yJ.out.at (R:=R) hzz (by unfold maxLen;omega);have hnl:=yJ.out.len;have Ea:=hid hpt;have HKq:=hid (Bc JR.out);clear hpt;have hl2:2<=l2:=by rw [HS2.out.1];exact Di.out.2.2.1 HK.out
      obtain ⟨gp,n0,wS,n0c,rfl,Il,Dj,n01,n02⟩:=Ea.out.get (i:=0) (by rw [List.length_map,hnl];omega);obtain ⟨ZU,n1,Qq,n1c,eg,UN,n10,n11,n12⟩:=Ea.out.get (i:=1) (by rw [List.length_map,hnl];omega);obtain rfl:gp=ZU:=by cases eg;rfl
      have LZ:Hid ((dS most (tv n0) (iY (tv n1) (tv d.next)) h.fr h.en di).2=fin):=by show _=_;rw [<-HF3.out,<-Il,<-UN]
      have hi0:(0:Int) < l2:=by omega
      have hj0:0 < l2:=by omega
      have hi1:(1:Int) < l2:=by omega
      have hj1:1 < l2:=by omega
      clear Il UN;have hzp:=hzx;have bK:Hid (∀ W',ah wx W'->(fun (W':World)=>(AO W' B (.slice rP rQ rU) (.int .i64 di.next) (.int .i64 most) (.slice vI vJ vK) (.int .i64 qZ))/\(qP W' (B+1) h o1 l1 c1 o2 l2 c2)/\(xw W' gp (.int .i64 1) (.int .i64 n0) (.slice wS 0 n0c))/\(W'.cell? ⟨gp,3,none⟩=some (.int .i64 1)/\W'.cell? ⟨gp,4,none⟩=some (.int .i64 n1)/\W'.cell? ⟨gp,5,none⟩=some (.slice Qq 0 n1c))) W'):=fun W' hq=>by
       obtain ⟨k,_⟩:=five (au hq qg.out);exact ⟨k,aA (au hq qh.out),⟨hq.at Dj,hq.at n01,hq.at n02⟩,⟨hq.at n10,hq.at n11,hq.at n12⟩⟩
      have iw:Hid (∀ W' oA cA,ah wx W'->aB (RB R B) W' oA 2 (iY (tv n1) (tv d.next)).2.2->Calls Tryz.prog 58 #[iC rP rQ rU di.next most vI vJ vK qZ,.agg #[.int .i64 1,.int .i64 n0,.slice wS 0 n0c],.agg #[.int .i64 4,.int .i64 0,.slice oA 2 cA],.agg #[.int .i64 h.fr,.int .i64 h.en]] W' (sS (RB R B) W' most fin)):=fun W' oA cA hq hs=>by
       have k:=add_any (o1:=wS) (l1:=0) (c1:=n0c) (c2:=cA) qZ (HKq.out.stay hq) hm (tv n0) (iY (tv n1) (tv d.next)) h.fr h.en (aB.nil _ _ _) hs (Nat.le_of_ble_eq_true rfl) (Nat.le_of_ble_eq_true rfl);rw [LZ.out] at k;exact k
      unfold iC at iw;go_upto_region 45 with fail
      clear p0 p1 p2 p3 p4 a0 a1 a2 a3 a4 a5 a6 a7 a8 Dj n01 n02 n10 n11 n12;refine dI 13 bK.out (by kernel_rfl) (fun hHeld=>?_)
      (try dsimp only at hHeld)
      have gZ:=ah.drew wx;generalize wx.drew=wd at gZ hHeld ⊢;refine HT.tk 0 rfl ?_;go_frame;refine HT.tk 1 rfl ?_;go_frame;refine HT.tk 2 rfl ?_;go_frame;refine HT.tk 3 rfl ?_;go_frame;refine HT.tk 4 rfl ?_;go_frame;refine HT.tk 5 rfl ?_;go_frame;refine HT.tk 6 rfl ?_;go_frame;refine HT.tk 7 rfl ?_;go_frame;refine HT.tk 10 rfl ?_;go_frame;refine HT.tk 11 rfl ?_;go_frame;refine HT.branch (rs:=[8]) (by kernel_rfl) (by simp) ?_;refine HT.cn 8 rfl (fun K hK=>?_) ?_
      ·go_simp;go_at_call 59
       with_reducible refine Calls.mono (gX _ _) ?_
       rintro e wv1 ⟨rfl,qj⟩;have fP:=gZ.trans qj;refine hK.out _ _ ?Uu (fun hHeld=>?_)
       case Uu=>exact bK.out _ fP
       clear hK K
       (try go_frame)
       refine HT.branch (rs:=[9]) (by kernel_rfl) (by simp) ?_;refine HT.cn 9 rfl (fun K hK=>?_) ?_
       ·go_simp;go_at_call 61
        with_reducible refine Calls.mono (Ae _ _) ?_
        rintro e wv2 ⟨oA,cA,rfl,hs4,rV⟩;have hzA:wx.heap.size<=wv1.heap.size:=fP.size;replace hs4:=hs4.mono (T:=RB R B) (fun k _ hk=>.inr (by have hk':wv1.heap.size<=k:=hk;omega));have gV:=fP.trans rV;refine hK.out _ _ ?Uw (fun hHeld=>?_)
        case Uw=>exact bK.out _ gV
        clear hK K
        (try go_frame)
        refine HT.branch (rs:=[12]) (by kernel_rfl) (by simp) ?_;refine HT.cn 12 rfl (fun K hK=>?_) ?_
        ·go_simp;go_at_call 58
         with_reducible refine Calls.mono (iw.out _ _ _ gV hs4) ?_
         rintro e Eb ⟨lo3,iO,iP,iQ,iR,iU,iD,rfl,hk3,Du⟩;have mg:=iM hk3 (Nat.lt_of_lt_of_le hzp gV.size);have oL:=gV.trans Du;unfold iC;refine hK.out _ _ ?Ux (fun hHeld=>?_)
         case Ux=>exact bK.out _ oL
         clear hK K
         (try go_frame)
         refine HT.last rfl (by kernel_rfl) (fun K hK=>?_);have hbs:=au oL uz.out;obtain ⟨⟨z0,z1,z2,z3,z4⟩,y0,y1,y2,y3,y4⟩:=five hbs;have dY:=nD.out.trans oL;go_simp;refine hK.out _ _ ?_;clear hK K
         (try go_frame)
         refine HT.done (by kernel_rfl) ?_ _;clear z0 z1 z2 z3 z4 y0 y1 y2 y3 y4;generalize AP:bodyPost Tryz.prog Tryz.f37 (sS R W most fin)=BP at *;go_wp2_with fail;rw [<-AP];have hf:=fJ Eb (B+1+1) (.slice lo3 iO iP) (.int .i64 fin.next) (.int .i64 most) (.slice iQ iR iU) (.int .i64 iD);obtain ⟨⟨f0,f1,f2,f3,f4⟩,_⟩:=five (bY (a:=(.slice lo3 iO iP)) (b:=(.int .i64 fin.next)) (c:=(.int .i64 most)) (d:=(.slice iQ iR iU)) (e:=(.int .i64 iD)) hbs);change bodyPost _ _ _ _ _ (iJ Eb (B+1+1) (.slice lo3 iO iP) (.int .i64 fin.next) (.int .i64 most) (.slice iQ iR iU) (.int .i64 iD));have hend:=ni mg dY hf dW;generalize iJ Eb (B+1+1) (.slice lo3 iO iP) (.int .i64 fin.next) (.int .i64 most) (.slice iQ iR iU) (.int .i64 iD)=wf at *;refine bodyPost_ret (by simp [results,Tryz.results37,go_sem,f0,f1,f2,f3,f4]<;>rfl) rfl ?_;exact ⟨lo3,iO,iP,iQ,iR,iU,iD,by (first | rfl | (rw [HF2.out]<;>rfl)),by (first | exact hend.1 | (rw [HF2.out];exact hend.1)),hend.2⟩
        exact HT.bJ.nil
       exact HT.bJ.nil
      exact HT.bJ.nil
   ·have t2:(h.k == 2)=false:=by rcases YI with k | k<;>rw [k]<;>rfl
    have t3:(h.k == 3)=false:=by rcases YI with k | k<;>rw [k]<;>rfl
    have t1:(h.k == 1)=false:=by rcases YI with k | k<;>rw [k]<;>rfl
    have t4:(h.k == 4)=false:=by rcases YI with k | k<;>rw [k]<;>rfl
    have QC:=hid YI;have hl2:2<=l2:=by rw [HS2.out.1];rcases YI with k | k;exact Di.out.2.2.2.1 k;exact Di.out.2.2.2.2.1 k
    have Zt:Hid (KpA most h ps ev):=by
     show KpA most h ps ev
     rcases YI with k | k
     ·exact Ve hm h ps IH.out k ev (by have:=Kt.out;have:=X0.out;omega) Qx.out Di.out qV.out
     ·exact Vg hm h ps IH.out k ev (by have:=Kt.out;have:=X0.out;omega) Qx.out Di.out qV.out
    clear YI;obtain ⟨b9,aK,v0,qv0,r1v,n1v,e1v,r2v,n2v,e2v,e9,_⟩:=HS2.out.nth (i:=0) (by omega);subst e9;obtain ⟨b9',JG,u,qu,lq,lu,d1u,lC,lD,lF,e9,_,gu,ru,cu,su,tu⟩:=HS2.out.nth (i:=1) (by omega);injection e9 with e9
    injection e9 with e9 e9'
    subst e9 e9';simp only [Nat.one_mul] at cu;have VB:=hid (IH.out 1 u qu gu);have Ku:=hid gu;have AZ:=hid cu;have Aw:=hid su;have Az:=hid tu;have hzu:=To.dK ps 1 u qu gu;have hou:=gJ ps 1 u qu qV.out gu;have hlz:en+1+qu.size<=100000:=by have:=X0.out;omega
    have hi1:(1:Int) < l2:=by omega
    have hj1:1 < l2:=by omega
    clear gu ru cu su tu hzu;obtain ⟨kd,hkd⟩:∃ kd,jV most h (dM most ps) (lI most ev) d1=kd:=⟨_,rfl⟩;obtain ⟨rt,hrt⟩:∃ rt,fH most u qu (lI most (ev.snoc h.nm 0 true h ps ev)) kd.2=rt:=⟨_,rfl⟩;have hre:(dS most (tv d.next) (tv kd.2.next) h.fr h.en rt.2).2=fin:=by
     have e1:rt.1=kd.2.next:=by rw [<-hrt];exact lG _ _ _ _ _
     rw [<-bH.out,jd Q5.out,<-HD1.out,<-e1,<-hrt,Qw,<-hkd];unfold kY;rw [if_neg (by rcases QC.out with k | k<;>rw [k]<;>decide),if_neg (by rcases QC.out with k | k<;>rw [k]<;>decide),if_neg (by rcases QC.out with k | k<;>rw [k]<;>decide),if_neg (by rcases QC.out with k | k<;>rw [k]<;>decide),if_pos QC.out];unfold gq jP;dsimp only;rw [A8 Ku.out]
     all_goals rfl
    have hnt:rt.2.next<=1000000:=by have k:=zX.out;rw [bH.out,<-hre,jR] at k;exact k
    have hnx:kd.2.next+1<=rt.2.next:=by rw [<-hrt];exact yF most u qu (nG most _) kd.2
    have xB:=hid hrt;have Qy:=hid hnt;have HKD:=hid hkd;have hkn:kd.2.next<=1000000:=by omega
    have HF3:=hid hre;have HF2:Hid (fin=fin):=rfl;clear hre hrt hnt hnx hkd;have HKC:Hid (Calls Tryz.prog 60 #[iC lo ln lc d1.next most Ec Ed Ee inn,bI h o1 l1 c1 (some ⟨b9,aK,none⟩) l2 c2,.slice eo en ec] wr (KpQ (RB R B) wr most kd)):=by
     have k:=Zt.out (RB R B) wr d1 inn lo ln lc Ec Ed Ee o1 l1 c1 (some ⟨b9,aK,none⟩) l2 c2 eo en ec Dy.out (ny.out.fr Aj.out (jL dW)) (HS2.out.fr Aj.out (jL dW)) (Kz.out.fr Aj.out (jL dW)) vX (by rw [HKD.out];exact hkn);rw [HKD.out] at k;exact k
    unfold bI iC at HKC;clear p0 p1 p2 p3 p4;obtain ⟨⟨p0,p1,p2,p3,p4⟩,y0,y1,y2,y3,y4⟩:=five HR0.out;go_upto_if 145 with fail
    go_cut [145] from 145 to 147 (fun v wx=>v=.bool true/\wr=wx)
    case first =>
     rcases QC.out with hk | hk
     ·have t6:(h.k == 6)=true:=by rw [hk];rfl
      have t7:(h.k == 7)=false:=by rw [hk];rfl
      clear hk;go_wp2_with fail;go_meet;exact ⟨by first | rfl | (rw [t6]) | (rw [t7]),rfl⟩
     ·have t6:(h.k == 6)=false:=by rw [hk];rfl
      have t7:(h.k == 7)=true:=by rw [hk];rfl
      clear hk;go_wp2_with fail;go_meet;exact ⟨by first | rfl | (rw [t6]) | (rw [t7]),rfl⟩
    case rest =>
     obtain ⟨hv,hw⟩:=hcut;subst hv hw;go_upto_region 33 with fail
     go_wp2_with fail;refine HKC.out.mono ?_;rintro x w3 ⟨lo3,iO,iP,iQ,iR,iU,iD,rfl,hk3,hq3⟩;have hb0:=au hq3 HR0.out;clear p0 p1 p2 p3 p4 y0 y1 y2 y3 y4;obtain ⟨⟨p0,p1,p2,p3,p4⟩,y0,y1,y2,y3,y4⟩:=five hb0;unfold iC;go_upto_region 35 with fail
     clear p0 p1 p2 p3 p4 y0 y1 y2 y3 y4 a0 a1 a2 a3 a4 a5 a6 a7 a8;obtain ⟨wp,hwp⟩:∃ wp,wp=iJ w3 B (.slice lo3 iO iP) (.int .i64 kd.2.next) (.int .i64 most) (.slice iQ iR iU) (.int .i64 iD):=⟨_,rfl⟩;change Code.wp _ _ _ _ (iJ w3 B (.slice lo3 iO iP) (.int .i64 kd.2.next) (.int .i64 most) (.slice iQ iR iU) (.int .i64 iD));rw [<-hwp];obtain ⟨hb0,ig,hb2,hkp,Qz⟩:=JO hwp hb0 (au hq3 O9.out) (au hq3 HR2.out) (iM hk3 Wi) (Aj.out.trans hq3) dW;clear hk3 hq3;have KA:=hid hb0;have vH:=hid ig;have zF:=hid hb2;have HKp:=hid hkp;have sO:=hid Qz;have hzp:B+1+1 < wp.heap.size:=lt_of_block hb2;clear hwp hb0 ig hb2 hkp Qz;obtain ⟨xs,hrow,hxl,hxo,hxc⟩:=Kz.out.row;have MH:=hid hxc;have l9:=hid hrow;clear hrow hxc;have nY:Hid (∀ W' o c,ah wp W'->EvS (RB R B) W' o (en+1) (ev.snoc h.nm 0 true h ps ev)->en+1<=c->Calls Tryz.prog 37 #[iC lo3 iO iP kd.2.next most iQ iR iU iD,bI u lq lu d1u lC lD lF,.slice o (en+1) c] W' (sS (RB R B) W' most rt.2)):=fun W' o c hq he hc=>by
      have hq':=sO.out.trans hq;have k:=VB.out (RB R B) W' kd.2 iD lo3 iO iP iQ iR iU lq lu d1u lC lD lF o (en+1) c _ (HKp.out.stay hq) (Aw.out.fr hq' (jL dW)) (Az.out.fr hq' (jL dW)) he hc hlz (Good.snoc (fun _=>Zt.out) Qx.out) hou.1 hou.2 (by rw [xB.out];exact Qy.out);rw [xB.out] at k;exact k
     unfold bI iC at nY;have bK:Hid (∀ W',ah wp W'->(fun (W':World)=>(AO W' B (.slice lo3 iO iP) (.int .i64 kd.2.next) (.int .i64 most) (.slice iQ iR iU) (.int .i64 iD))/\(qP W' (B+1) h o1 l1 c1 (some ⟨b9,aK,none⟩) l2 c2)/\(EC W' b9 (aK+9) u lq lu d1u lC lD lF)) W'):=fun W' hq=>by
      obtain ⟨k,_⟩:=five (au hq KA.out);exact ⟨k,aA (au hq vH.out),iq AZ.out (sO.out.trans hq)⟩
     go_cut [] from 157 to 172 (fun wx=>TmC R W B rt.2 most h o1 l1 c1 (some ⟨b9,aK,none⟩) l2 c2 wx)
     case first =>
      refine dI 16 bK.out (by kernel_rfl) (fun hHeld=>?_)
      (try dsimp only at hHeld)
      have gZ:=ah.drew wp;generalize wp.drew=wd at gZ hHeld ⊢;refine HT.tk 0 rfl ?_;go_frame;refine HT.tk 1 rfl ?_;go_frame;refine HT.tk 2 rfl ?_;go_frame;refine HT.tk 3 rfl ?_;go_frame;refine HT.tk 4 rfl ?_;go_frame;refine HT.tk 6 rfl ?_;go_frame;refine HT.tk 8 rfl ?_;go_frame;refine HT.tk 9 rfl ?_;go_frame;refine HT.tk 10 rfl ?_;go_frame;refine HT.tk 11 rfl ?_;go_frame;refine HT.tk 12 rfl ?_;go_frame;refine HT.branch (rs:=[5,13]) (by kernel_rfl) (by simp) ?_;refine HT.cn 5 rfl (fun K hK=>?_) ?_
      ·go_simp;obtain ⟨qI,kN⟩:∃ wa,wa=wd.alloc (.cells #[] 108):=⟨_,rfl⟩;have hqa:ah wd qI:=by rw [kN];exact ah.alloc _ _
       have hown:=gY (size:=13) (show qI.heap[wd.heap.size]?=some (.cells #[] 108 (0,0)) by rw [kN];exact heap_alloc_new wd _);have hgl:wp.heap.size<=wd.heap.size:=(gZ).size;have ng:=(gZ).trans hqa;rw [<-kN];clear kN;generalize wd.heap.size=ga at hown hgl ⊢;refine hK.out _ _ ?Uz (fun hHeld=>?_)
       case Uz=>exact bK.out _ ng
       clear hK K
       (try go_frame)
       refine HT.branch (rs:=[7,13]) (by kernel_rfl) (by simp) ?_;refine HT.cn 7 rfl (fun K hK=>?_) ?_
       ·refine aJ qI rfl (.tmp 162) (.tmp 163) 105 rfl 108 _ 13 168 jv (.slice (some ⟨ga,0,none⟩) 0 0) 0 [] rfl hown eo en ec xs rfl hxl ?aaz hxo (by unfold maxLen;omega) (by omega) ?_
        case aaz=>(intro j u hj;obtain ⟨b,off,e,hc⟩:=MH.out j u hj;subst e;exact ⟨_,rfl,by rw [Addr.add_lit];exact (sO.out.trans (ng)).at hc⟩)
        intro o3 c3 jJ ho3 hf3 iL hnil3;simp only [Nat.zero_add,List.nil_append] at ho3 iL hnil3 ⊢;have pR:ah wp jJ:=Fr.trans' (ng) hf3 (fun i hi e=>by simp [Value.ownBlock] at e;omega);have jK:∀ k,(Value.slice o3 en c3).ownBlock=some k->wp.heap.size<=k:=fun k hk=>by
         rcases iL with e | e
         ·rw [e] at hk;simp [Value.ownBlock] at hk;omega
         ·rw [e] at hk;cases hk;exact ((ng)).size
        refine hK.out _ _ ?UC (fun hHeld=>?_)
        case UC=>exact bK.out _ pR
        clear hK K
        (try go_frame)
        refine HT.branch (rs:=[13]) (by kernel_rfl) (by simp) ?_;refine HT.cn 13 rfl (fun K hK=>?_) ?_
        ·go_simp;obtain ⟨lU,hwb⟩:∃ wb,wb=jJ.alloc (.cells (fM h.nm 0 true h o1 l1 c1 (some ⟨b9,aK,none⟩) l2 c2 eo en ec) 108):=⟨_,rfl⟩;have qp:ah jJ lU:=by rw [hwb];exact ah.alloc _ _
         have hb8:lU.heap[jJ.heap.size]?=some (.cells (fM h.nm 0 true h o1 l1 c1 (some ⟨b9,aK,none⟩) l2 c2 eo en ec) 108 (0,0)):=by rw [hwb];exact heap_alloc_new jJ _
         have BQ:wp.heap.size<=jJ.heap.size:=(pR).size;have kP:=(pR).trans qp;have pU:=lt_of_block hb8;change K _ (jJ.alloc (.cells (fM h.nm 0 true h o1 l1 c1 (some ⟨b9,aK,none⟩) l2 c2 eo en ec) 108));rw [<-hwb];clear hwb;replace ho3:=aV ho3 qp (fun _ _ h=>h);generalize jJ.heap.size=g8 at hb8 BQ pU ⊢;refine hK.out _ _ ?UD (fun hHeld=>?_)
         case UD=>exact bK.out _ kP
         clear hK K
         (try go_frame)
         refine HT.branch (rs:=[14]) (by kernel_rfl) (by simp) ?_;refine HT.cn 14 rfl (fun K hK=>?_) ?_
         ·have hc8:∀ j u,(fM h.nm 0 true h o1 l1 c1 (some ⟨b9,aK,none⟩) l2 c2 eo en ec).toList[j]?=some u->∃ a,some (⟨g8,0,none⟩:Addr)=some a/\lU.cell? (a.add j)=some u:=fun j u hj=>⟨_,rfl,by rw [Addr.add_lit,Nat.zero_add,cell_of_row _ _ _ _ _ (0,0) hb8];simpa using hj⟩
          refine aJ lU rfl (.tmp 164) (.tmp 170) 105 rfl 108 _ 13 168 jv (.slice o3 en c3) en xs rfl ho3 (some ⟨g8,0,none⟩) 1 1 (fM h.nm 0 true h o1 l1 c1 (some ⟨b9,aK,none⟩) l2 c2 eo en ec).toList rfl rfl hc8 (by simp [Value.oneCell']) (by unfold maxLen;omega) (by omega) ?_;intro o4 c4 wU mM hf4 pV uo;have eG:ah wp wU:=Fr.trans' (kP) hf4 (fun i hi e=>by have:=jK i e;omega);have pW:∀ k,(Value.slice o4 (en+1) c4).ownBlock=some k->B+1+1 < k:=fun k hk=>by
           rcases pV with e | e
           ·rw [e] at hk;have:=jK k hk;omega
           ·rw [e] at hk;cases hk;have:=((kP)).size;omega
          refine hK.out _ _ ?UE (fun hHeld=>?_)
          case UE=>exact bK.out _ eG
          clear hK K
          (try go_frame)
          refine HT.branch (rs:=[15]) (by kernel_rfl) (by simp) ?_;refine HT.cn 15 rfl (fun K hK=>?_) ?_
          ·obtain ⟨uw,uy⟩:=lX (h:=h) (ps:=ps) (ar:=ev) (v:=0) (ag:=true) (c1:=c1) (c2:=c2) l9.out Kt.out (sO.out.trans (eG)) dW ny.out HS2.out Kz.out vX mM (by omega) pW;go_simp;go_at_call 37
           with_reducible refine Calls.mono (nY.out _ _ _ (eG) uw uy) ?_
           rintro e w9 ⟨Rk,Rn,Ro,Rq,Rt,Ru,AQ,rfl,hk9,tH⟩;have mg:=iM hk9 (Nat.lt_of_lt_of_le hzp (eG).size);have fC:=(eG).trans tH;unfold iC;refine hK.out _ _ ?UF (fun hHeld=>?_)
           case UF=>exact bK.out _ fC
           clear hK K
           (try go_frame)
           refine HT.last rfl (by kernel_rfl) (fun K hK=>?_);have hbs:=au fC KA.out;obtain ⟨⟨p0,p1,p2,p3,p4⟩,y0,y1,y2,y3,y4⟩:=five hbs;have hend:=kG AQ hbs (au fC vH.out) (au fC zF.out) mg (sO.out.trans fC) dW;go_simp;refine hK.out _ _ ?_;clear hK K
           (try go_frame)
           refine HT.done (by kernel_rfl) ?_ _;go_wp2_with fail;go_meet;exact hend
          exact HT.bJ.nil
         exact HT.bJ.nil
        exact HT.bJ.nil
       refine HT.cn 13 rfl (fun K hK=>?_) ?_
       ·go_simp;obtain ⟨wV,hwb⟩:∃ wb,wb=qI.alloc (.cells (fM h.nm 0 true h o1 l1 c1 (some ⟨b9,aK,none⟩) l2 c2 eo en ec) 108):=⟨_,rfl⟩;have qp:ah qI wV:=by rw [hwb];exact ah.alloc _ _
        have hb8:wV.heap[qI.heap.size]?=some (.cells (fM h.nm 0 true h o1 l1 c1 (some ⟨b9,aK,none⟩) l2 c2 eo en ec) 108 (0,0)):=by rw [hwb];exact heap_alloc_new qI _
        have BQ:wp.heap.size<=qI.heap.size:=(ng).size;have lV:=(ng).trans qp;have pU:=lt_of_block hb8;change K _ (qI.alloc (.cells (fM h.nm 0 true h o1 l1 c1 (some ⟨b9,aK,none⟩) l2 c2 eo en ec) 108));rw [<-hwb];clear hwb;have Qu:=(hown.lt ga rfl).2;replace hown:=aV hown qp (fun _ _ h=>h);generalize qI.heap.size=g8 at hb8 BQ pU Qu ⊢;refine hK.out _ _ ?UG (fun hHeld=>?_)
        case UG=>exact bK.out _ lV
        clear hK K
        (try go_frame)
        refine HT.branch (rs:=[7]) (by kernel_rfl) (by simp) ?_;refine HT.cn 7 rfl (fun K hK=>?_) ?_
        ·refine aJ wV rfl (.tmp 162) (.tmp 163) 105 rfl 108 _ 13 168 jv (.slice (some ⟨ga,0,none⟩) 0 0) 0 [] rfl hown eo en ec xs rfl hxl ?aaA hxo (by unfold maxLen;omega) (by omega) ?_
         case aaA=>(intro j u hj;obtain ⟨b,off,e,hc⟩:=MH.out j u hj;subst e;exact ⟨_,rfl,by rw [Addr.add_lit];exact (sO.out.trans (lV)).at hc⟩)
         intro o3 c3 pX ho3 hf3 iL hnil3;simp only [Nat.zero_add,List.nil_append] at ho3 iL hnil3 ⊢;have kQ:ah wp pX:=Fr.trans' (lV) hf3 (fun i hi e=>by simp [Value.ownBlock] at e;omega);have jK:∀ k,(Value.slice o3 en c3).ownBlock=some k->wp.heap.size<=k:=fun k hk=>by
          rcases iL with e | e
          ·rw [e] at hk;simp [Value.ownBlock] at hk;omega
          ·rw [e] at hk;cases hk;exact ((lV)).size
         refine hK.out _ _ ?UH (fun hHeld=>?_)
         case UH=>exact bK.out _ kQ
         clear hK K
         (try go_frame)
         replace hb8:=aC hf3 (fun e=>by simp [Value.ownBlock] at e;omega) hb8;refine HT.branch (rs:=[14]) (by kernel_rfl) (by simp) ?_;refine HT.cn 14 rfl (fun K hK=>?_) ?_
         ·have hc8:∀ j u,(fM h.nm 0 true h o1 l1 c1 (some ⟨b9,aK,none⟩) l2 c2 eo en ec).toList[j]?=some u->∃ a,some (⟨g8,0,none⟩:Addr)=some a/\pX.cell? (a.add j)=some u:=fun j u hj=>⟨_,rfl,by rw [Addr.add_lit,Nat.zero_add,cell_of_row _ _ _ _ _ (0,0) hb8];simpa using hj⟩
          refine aJ pX rfl (.tmp 164) (.tmp 170) 105 rfl 108 _ 13 168 jv (.slice o3 en c3) en xs rfl ho3 (some ⟨g8,0,none⟩) 1 1 (fM h.nm 0 true h o1 l1 c1 (some ⟨b9,aK,none⟩) l2 c2 eo en ec).toList rfl rfl hc8 (by simp [Value.oneCell']) (by unfold maxLen;omega) (by omega) ?_;intro o4 c4 wW mM hf4 pV uo;have eH:ah wp wW:=Fr.trans' (kQ) hf4 (fun i hi e=>by have:=jK i e;omega);have pW:∀ k,(Value.slice o4 (en+1) c4).ownBlock=some k->B+1+1 < k:=fun k hk=>by
           rcases pV with e | e
           ·rw [e] at hk;have:=jK k hk;omega
           ·rw [e] at hk;cases hk;have:=((kQ)).size;omega
          refine hK.out _ _ ?abV (fun hHeld=>?_)
          case abV=>exact bK.out _ eH
          clear hK K
          (try go_frame)
          refine HT.branch (rs:=[15]) (by kernel_rfl) (by simp) ?_;refine HT.cn 15 rfl (fun K hK=>?_) ?_
          ·obtain ⟨uw,uy⟩:=lX (h:=h) (ps:=ps) (ar:=ev) (v:=0) (ag:=true) (c1:=c1) (c2:=c2) l9.out Kt.out (sO.out.trans (eH)) dW ny.out HS2.out Kz.out vX mM (by omega) pW;go_simp;go_at_call 37
           with_reducible refine Calls.mono (nY.out _ _ _ (eH) uw uy) ?_
           rintro e w9 ⟨Rk,Rn,Ro,Rq,Rt,Ru,AQ,rfl,hk9,tH⟩;have mg:=iM hk9 (Nat.lt_of_lt_of_le hzp (eH).size);have fD:=(eH).trans tH;unfold iC;refine hK.out _ _ ?abW (fun hHeld=>?_)
           case abW=>exact bK.out _ fD
           clear hK K
           (try go_frame)
           refine HT.last rfl (by kernel_rfl) (fun K hK=>?_);have hbs:=au fD KA.out;obtain ⟨⟨p0,p1,p2,p3,p4⟩,y0,y1,y2,y3,y4⟩:=five hbs;have hend:=kG AQ hbs (au fD vH.out) (au fD zF.out) mg (sO.out.trans fD) dW;go_simp;refine hK.out _ _ ?_;clear hK K
           (try go_frame)
           refine HT.done (by kernel_rfl) ?_ _;go_wp2_with fail;go_meet;exact hend
          exact HT.bJ.nil
         exact HT.bJ.nil
        exact HT.bJ.nil
       exact HT.bJ.nil
      refine HT.cn 13 rfl (fun K hK=>?_) ?_
      ·go_simp;obtain ⟨uq,hwb⟩:∃ wb,wb=wd.alloc (.cells (fM h.nm 0 true h o1 l1 c1 (some ⟨b9,aK,none⟩) l2 c2 eo en ec) 108):=⟨_,rfl⟩;have qp:ah wd uq:=by rw [hwb];exact ah.alloc _ _
       have hb8:uq.heap[wd.heap.size]?=some (.cells (fM h.nm 0 true h o1 l1 c1 (some ⟨b9,aK,none⟩) l2 c2 eo en ec) 108 (0,0)):=by rw [hwb];exact heap_alloc_new wd _
       have BQ:wp.heap.size<=wd.heap.size:=(gZ).size;have wX:=(gZ).trans qp;have pU:=lt_of_block hb8;change K _ (wd.alloc (.cells (fM h.nm 0 true h o1 l1 c1 (some ⟨b9,aK,none⟩) l2 c2 eo en ec) 108));rw [<-hwb];clear hwb;generalize wd.heap.size=g8 at hb8 BQ pU ⊢;refine hK.out _ _ ?abX (fun hHeld=>?_)
       case abX=>exact bK.out _ wX
       clear hK K
       (try go_frame)
       refine HT.branch (rs:=[5]) (by kernel_rfl) (by simp) ?_;refine HT.cn 5 rfl (fun K hK=>?_) ?_
       ·go_simp;obtain ⟨wY,kN⟩:∃ wa,wa=uq.alloc (.cells #[] 108):=⟨_,rfl⟩;have hqa:ah uq wY:=by rw [kN];exact ah.alloc _ _
        have hown:=gY (size:=13) (show wY.heap[uq.heap.size]?=some (.cells #[] 108 (0,0)) by rw [kN];exact heap_alloc_new uq _);have hgl:wp.heap.size<=uq.heap.size:=(wX).size;have lW:=(wX).trans hqa;rw [<-kN];clear kN;generalize uq.heap.size=ga at hown hgl pU ⊢;refine hK.out _ _ ?abY (fun hHeld=>?_)
        case abY=>exact bK.out _ lW
        clear hK K
        (try go_frame)
        replace hb8:=au hqa hb8;refine HT.branch (rs:=[7]) (by kernel_rfl) (by simp) ?_;refine HT.cn 7 rfl (fun K hK=>?_) ?_
        ·refine aJ wY rfl (.tmp 162) (.tmp 163) 105 rfl 108 _ 13 168 jv (.slice (some ⟨ga,0,none⟩) 0 0) 0 [] rfl hown eo en ec xs rfl hxl ?aaB hxo (by unfold maxLen;omega) (by omega) ?_
         case aaB=>(intro j u hj;obtain ⟨b,off,e,hc⟩:=MH.out j u hj;subst e;exact ⟨_,rfl,by rw [Addr.add_lit];exact (sO.out.trans (lW)).at hc⟩)
         intro o3 c3 pY ho3 hf3 iL hnil3;simp only [Nat.zero_add,List.nil_append] at ho3 iL hnil3 ⊢;have kR:ah wp pY:=Fr.trans' (lW) hf3 (fun i hi e=>by simp [Value.ownBlock] at e;omega);have jK:∀ k,(Value.slice o3 en c3).ownBlock=some k->wp.heap.size<=k:=fun k hk=>by
          rcases iL with e | e
          ·rw [e] at hk;simp [Value.ownBlock] at hk;omega
          ·rw [e] at hk;cases hk;exact ((lW)).size
         refine hK.out _ _ ?abZ (fun hHeld=>?_)
         case abZ=>exact bK.out _ kR
         clear hK K
         (try go_frame)
         replace hb8:=aC hf3 (fun e=>by simp [Value.ownBlock] at e;omega) hb8;refine HT.branch (rs:=[14]) (by kernel_rfl) (by simp) ?_;refine HT.cn 14 rfl (fun K hK=>?_) ?_
         ·have hc8:∀ j u,(fM h.nm 0 true h o1 l1 c1 (some ⟨b9,aK,none⟩) l2 c2 eo en ec).toList[j]?=some u->∃ a,some (⟨g8,0,none⟩:Addr)=some a/\pY.cell? (a.add j)=some u:=fun j u hj=>⟨_,rfl,by rw [Addr.add_lit,Nat.zero_add,cell_of_row _ _ _ _ _ (0,0) hb8];simpa using hj⟩
          refine aJ pY rfl (.tmp 164) (.tmp 170) 105 rfl 108 _ 13 168 jv (.slice o3 en c3) en xs rfl ho3 (some ⟨g8,0,none⟩) 1 1 (fM h.nm 0 true h o1 l1 c1 (some ⟨b9,aK,none⟩) l2 c2 eo en ec).toList rfl rfl hc8 (by simp [Value.oneCell']) (by unfold maxLen;omega) (by omega) ?_;intro o4 c4 wZ mM hf4 pV uo;have eU:ah wp wZ:=Fr.trans' (kR) hf4 (fun i hi e=>by have:=jK i e;omega);have pW:∀ k,(Value.slice o4 (en+1) c4).ownBlock=some k->B+1+1 < k:=fun k hk=>by
           rcases pV with e | e
           ·rw [e] at hk;have:=jK k hk;omega
           ·rw [e] at hk;cases hk;have:=((kR)).size;omega
          refine hK.out _ _ ?ab1 (fun hHeld=>?_)
          case ab1=>exact bK.out _ eU
          clear hK K
          (try go_frame)
          refine HT.branch (rs:=[15]) (by kernel_rfl) (by simp) ?_;refine HT.cn 15 rfl (fun K hK=>?_) ?_
          ·obtain ⟨uw,uy⟩:=lX (h:=h) (ps:=ps) (ar:=ev) (v:=0) (ag:=true) (c1:=c1) (c2:=c2) l9.out Kt.out (sO.out.trans (eU)) dW ny.out HS2.out Kz.out vX mM (by omega) pW;go_simp;go_at_call 37
           with_reducible refine Calls.mono (nY.out _ _ _ (eU) uw uy) ?_
           rintro e w9 ⟨Rk,Rn,Ro,Rq,Rt,Ru,AQ,rfl,hk9,tH⟩;have mg:=iM hk9 (Nat.lt_of_lt_of_le hzp (eU).size);have fE:=(eU).trans tH;unfold iC;refine hK.out _ _ ?ab2 (fun hHeld=>?_)
           case ab2=>exact bK.out _ fE
           clear hK K
           (try go_frame)
           refine HT.last rfl (by kernel_rfl) (fun K hK=>?_);have hbs:=au fE KA.out;obtain ⟨⟨p0,p1,p2,p3,p4⟩,y0,y1,y2,y3,y4⟩:=five hbs;have hend:=kG AQ hbs (au fE vH.out) (au fE zF.out) mg (sO.out.trans fE) dW;go_simp;refine hK.out _ _ ?_;clear hK K
           (try go_frame)
           refine HT.done (by kernel_rfl) ?_ _;go_wp2_with fail;go_meet;exact hend
          exact HT.bJ.nil
         exact HT.bJ.nil
        exact HT.bJ.nil
       exact HT.bJ.nil
      exact HT.bJ.nil
     case rest =>
      rename World=>wq
      obtain ⟨rP,rQ,rU,vI,vJ,vK,qZ,hb0,ig,hb2,hk5,hq5⟩:=hcut;have qg:=hid hb0;have qh:=hid ig;have uz:=hid hb2;have JR:=hid hk5;have nD:=hid hq5;clear hzp;have hzp:B+1+1 < wq.heap.size:=lt_of_block hb2;clear hb0 ig hb2 hk5 hq5;have Dz:Hid (∀ W',ah wq W'->(fun (W':World)=>(AO W' B (.slice rP rQ rU) (.int .i64 rt.2.next) (.int .i64 most) (.slice vI vJ vK) (.int .i64 qZ))/\(qP W' (B+1) h o1 l1 c1 (some ⟨b9,aK,none⟩) l2 c2)) W'):=fun W' hq=>by
       obtain ⟨k,_⟩:=five (au hq qg.out);exact ⟨k,aA (au hq qh.out)⟩
      have iw:Hid (∀ W',ah wq W'->Calls Tryz.prog 58 #[iC rP rQ rU rt.2.next most vI vJ vK qZ,.agg #[.int .i64 1,.int .i64 d.next,.slice none 0 0],.agg #[.int .i64 1,.int .i64 kd.2.next,.slice none 0 0],.agg #[.int .i64 h.fr,.int .i64 h.en]] W' (sS (RB R B) W' most fin)):=fun W' hq=>by
       have k:=add_any (o1:=none) (l1:=0) (c1:=0) (o2:=none) (l2:=0) (c2:=0) qZ (JR.out.stay hq) hm (tv d.next) (tv kd.2.next) h.fr h.en (aB.nil _ _ _) (aB.nil _ _ _) (by show Fo.nil.size<=_;decide) (by show Fo.nil.size<=_;decide);rw [HF3.out] at k;exact k
      unfold iC at iw;go_upto_region 36 with fail
      refine dI 8 Dz.out (by kernel_rfl) (fun hHeld=>?_)
      (try dsimp only at hHeld)
      have gZ:=ah.drew wq;generalize wq.drew=wd at gZ hHeld ⊢;refine HT.tk 0 rfl ?_;go_frame;refine HT.tk 1 rfl ?_;go_frame;refine HT.tk 3 rfl ?_;go_frame;refine HT.tk 5 rfl ?_;go_frame;refine HT.tk 6 rfl ?_;go_frame;refine HT.branch (rs:=[2]) (by kernel_rfl) (by simp) ?_;refine HT.cn 2 rfl (fun K hK=>?_) ?_
      ·go_simp;go_at_call 59
       with_reducible refine Calls.mono (gX _ _) ?_
       rintro e wv1 ⟨rfl,qj⟩;have fP:=gZ.trans qj;refine hK.out _ _ ?UQ (fun hHeld=>?_)
       case UQ=>exact Dz.out _ fP
       clear hK K
       (try go_frame)
       refine HT.branch (rs:=[4]) (by kernel_rfl) (by simp) ?_;refine HT.cn 4 rfl (fun K hK=>?_) ?_
       ·go_simp;go_at_call 59
        with_reducible refine Calls.mono (gX _ _) ?_
        rintro e wv2 ⟨rfl,rV⟩;have gV:=fP.trans rV;refine hK.out _ _ ?ab3 (fun hHeld=>?_)
        case ab3=>exact Dz.out _ gV
        clear hK K
        (try go_frame)
        refine HT.branch (rs:=[7]) (by kernel_rfl) (by simp) ?_;refine HT.cn 7 rfl (fun K hK=>?_) ?_
        ·go_simp;go_at_call 58
         with_reducible refine Calls.mono (iw.out _ gV) ?_
         rintro e Eb ⟨lo3,iO,iP,iQ,iR,iU,iD,rfl,hk3,Du⟩;have mg:=iM hk3 (Nat.lt_of_lt_of_le hzp gV.size);have oL:=gV.trans Du;unfold iC;refine hK.out _ _ ?ab4 (fun hHeld=>?_)
         case ab4=>exact Dz.out _ oL
         clear hK K
         (try go_frame)
         refine HT.last rfl (by kernel_rfl) (fun K hK=>?_);have hbs:=au oL uz.out;obtain ⟨⟨z0,z1,z2,z3,z4⟩,y0,y1,y2,y3,y4⟩:=five hbs;have dY:=nD.out.trans oL;go_simp;refine hK.out _ _ ?_;clear hK K
         (try go_frame)
         refine HT.done (by kernel_rfl) ?_ _;clear z0 z1 z2 z3 z4 y0 y1 y2 y3 y4;generalize AP:bodyPost Tryz.prog Tryz.f37 (sS R W most fin)=BP at *;go_wp2_with fail;rw [<-AP];have hf:=fJ Eb (B+1+1) (.slice lo3 iO iP) (.int .i64 fin.next) (.int .i64 most) (.slice iQ iR iU) (.int .i64 iD);obtain ⟨⟨f0,f1,f2,f3,f4⟩,_⟩:=five (bY (a:=(.slice lo3 iO iP)) (b:=(.int .i64 fin.next)) (c:=(.int .i64 most)) (d:=(.slice iQ iR iU)) (e:=(.int .i64 iD)) hbs);change bodyPost _ _ _ _ _ (iJ Eb (B+1+1) (.slice lo3 iO iP) (.int .i64 fin.next) (.int .i64 most) (.slice iQ iR iU) (.int .i64 iD));have hend:=ni mg dY hf dW;generalize iJ Eb (B+1+1) (.slice lo3 iO iP) (.int .i64 fin.next) (.int .i64 most) (.slice iQ iR iU) (.int .i64 iD)=wf at *;refine bodyPost_ret (by simp [results,Tryz.results37,go_sem,f0,f1,f2,f3,f4]<;>rfl) rfl ?_;exact ⟨lo3,iO,iP,iQ,iR,iU,iD,by (first | rfl | (rw [HF2.out]<;>rfl)),by (first | exact hend.1 | (rw [HF2.out];exact hend.1)),hend.2⟩
        exact HT.bJ.nil
       exact HT.bJ.nil
      exact HT.bJ.nil
   ·have t2:(h.k == 2)=false:=by rw [hk];rfl
    have t3:(h.k == 3)=false:=by rw [hk];rfl
    have t1:(h.k == 1)=false:=by rw [hk];rfl
    have t4:(h.k == 4)=false:=by rw [hk];rfl
    have t6:(h.k == 6)=false:=by rw [hk];rfl
    have t7:(h.k == 7)=false:=by rw [hk];rfl
    have t5:(h.k == 5)=false:=by rw [hk];rfl
    have t8:(h.k == 8)=true:=by rw [hk];rfl
    have HK:=hid hk;clear hk;obtain ⟨lf,hlf⟩:∃ lf,dmap (lI most ev) (dM most ps) d1=lf:=⟨_,rfl⟩;have hre:(dS most (tv d.next) (jY lf.1 2) (aH ps 2).1 (aH ps 2).2 (dS most (tv d.next) (jY lf.1 1) (aH ps 1).1 (aH ps 1).2 (dS most (jY lf.1 0) (3,0,.nil) (aH ps 0).1 (aH ps 0).2 lf.2).2).2).2=fin:=by
     rw [<-bH.out,jd Q5.out,<-HD1.out];unfold kY;rw [if_neg (by rw [HK.out];decide),if_neg (by rw [HK.out];decide),if_neg (by rw [HK.out];decide),if_neg (by rw [HK.out];decide),if_neg (by rw [HK.out];decide)]
     show _=((gq (dmap (lI most ev) (dM most ps)) _) d1).2
     unfold gq;rw [hlf];dsimp only;rw [if_neg (by rw [HK.out];decide),if_pos HK.out];rfl
    have ML:Hid (lf.2.next<=1000000):=by show _<=_;have k:=zX.out;rw [bH.out,<-hre] at k;simpa only [jR] using k
    have HF3:=hid hre;have HF2:Hid (fin=fin):=rfl;clear hre;have HLF:=hid hlf;have hzz:B+1+1 < wr.heap.size:=Wi;obtain ⟨vs,hvs⟩:∃ vs,dM most ps=vs:=⟨_,rfl⟩;have N8:=hid hvs;have FC:Hid (vs.length=l2):=by show _=_;rw [<-hvs,lY,HS2.out.1]
    have HST:Hid (YG R W B wr.heap.size most h o1 l1 c1 o2 l2 c2 (lI most ev) vs lf (.slice none 0 0) (.int .i64 0) wr):=by
     refine ⟨0,none,0,rfl,rfl,d1,[],[],lo,ln,lc,Ec,Ed,Ee,inn,Nat.zero_le _,?_,?_,PR.nil _ _,HR0.out,O9.out,HR2.out,Ba Dy.out,Aj.out,Nat.le_refl _⟩
     ·rw [List.drop_zero,<-hvs,hlf];rfl
     ·rw [List.drop_zero,<-hvs,hlf]
    obtain ⟨zz,DC⟩:∃ zz,wr.heap.size=zz:=⟨_,rfl⟩;rw [DC] at HST hzz;clear hvs hlf DC;go_wp2_with fail;clear p0 p1 p2 p3 p4 a0 a1 a2 a3 a4 a5 a6 a7 a8;go_loopw [14,15] (fun p t wx=>YG R W B zz most h o1 l1 c1 o2 l2 c2 (lI most ev) vs lf p t wx) (fun _ t _=>l2-(intOf t).toNat)
    case atStart=>exact HST.out
    case round =>
     clear HST;rename World=>wx
     obtain ⟨i,po,pc,rfl,rfl,di,ns,xs,rP,rQ,rU,vI,vJ,vK,qZ,hiv,hf1,hf2,hpr,hb0,ig,hb2,hk5,hq5,hzw⟩:=hrel;have hil:i<=l2:=by rw [<-FC.out];exact hiv
     have qg:=hid hb0;have qh:=hid ig;have uz:=hid hb2;have JR:=hid hk5;have nD:=hid hq5;have yJ:=hid hpr;have hzx:B+1+1 < wx.heap.size:=lt_of_block hb2;clear hb0 ig hb2 hk5 hq5 hpr hiv;obtain ⟨⟨p0,p1,p2,p3,p4⟩,_⟩:=five qg.out;obtain ⟨a0,a1,a2,a3,a4,a5,a6,a7,a8⟩:=aA qh.out
     by_cases hlt:i < l2
     ·have hlt':(i:Int) < l2:=by omega
      obtain ⟨b9,aK,u,qu,lq,lu,d1u,lC,lD,lF,rfl,_,gu,ru,cu,su,tu⟩:=HS2.out.nth hlt;have AZ:=hid cu;have Aw:=hid su;have Az:=hid tu;have hou:=gJ ps i u qu qV.out gu;have MN:en+qu.size<=100000:=by have:=To.dK ps i u qu gu;have:=X0.out;omega
      have hmd:=qY (lI most ev) vs i _ di (show vs[i]?=some (fH most u qu) by rw [<-N8.out];exact oP most ps i u qu gu);rw [hmd] at hf1 hf2;have hnr:(fH most u qu (lI most ev) di).2.next<=lf.2.next:=by
       rw [<-hf2];exact uP (nG most ev) (us:=vs.drop (i+1)) (fun v hv=>by rw [<-N8.out] at hv;exact nO most ps v (List.mem_of_mem_drop hv)) _
      obtain ⟨rt,hrt⟩:∃ rt,fH most u qu (lI most ev) di=rt:=⟨_,rfl⟩;have hr1:rt.1=di.next:=by rw [<-hrt];exact lG _ _ _ _ _
      rw [hrt] at hf1 hf2 hnr;rw [hr1] at hf1;have VB:=hid (IH.out i u qu gu);have xB:=hid hrt;have Qy:Hid (rt.2.next<=1000000):=Nat.le_trans hnr ML.out;have vO:=hid hf1;have MO:=hid hf2;clear hf1 hf2 hrt hr1 hnr hmd cu su tu gu ru;go_wp2_with fail;refine (gX _ _).mono ?_;rintro x w2 ⟨rfl,hq2⟩;have eF:=hid hq2;clear hq2 p0 p1 p2 p3 p4 a0 a1 a2 a3 a4 a5 a6 a7 a8;go_wp2_with (at_builtin;go_must (refine aY w2 rfl (.tmp 188) (.tmp 192) 22 rfl 24 _ 3 40 elemTy (.slice po i pc) i xs rfl (yJ.out.stay eF.out).own #[.int .i64 1,.int .i64 di.next,.slice none 0 0] rfl rfl ?c1 (by unfold maxLen;omega) (by omega) ?_);(case c1=>simp [Value.oneCell']));intro g4 c4 w4 mM hf4 hg4;have hlow:∀ k,(Value.slice po i pc).ownBlock=some k->zz<=k:=yJ.out.low;have ql:=hid ((yJ.out.stay eF.out).snoc (o':=none) (c1:=0) (di.next) mM (Nat.le_trans hzw eF.out.size) hg4);have HK4:=hid (yG (JR.out.stay eF.out) hf4 hg4 (n:=i+1) (c:=c4));have xk:=hid (aC hf4 (fun e=>by have:=hlow _ e;omega) (au eF.out qg.out));have xq:=hid (aC hf4 (fun e=>by have:=hlow _ e;omega) (au eF.out qh.out));have DF:=hid (aC hf4 (fun e=>by have:=hlow _ e;omega) (au eF.out uz.out));have fV:Hid (ah W w4):=Fr.trans' (nD.out.trans eF.out) hf4 (fun j hj e=>by have:=hlow j e;omega);have KH:B+1+1 < w4.heap.size:=lt_of_block DF.out;have MP:zz<=w4.heap.size:=Nat.le_trans hzw (Nat.le_trans eF.out.size hf4.size);clear mM hf4 hg4 hlow;have nY:Hid (∀ W',ah w4 W'->Calls Tryz.prog 37 #[iC rP rQ rU di.next most vI vJ vK qZ,bI u lq lu d1u lC lD lF,.slice eo en ec] W' (sS (Hz R B (.slice (some ⟨g4,0,none⟩) (i+1) c4)) W' most rt.2)):=fun W' hq=>by
       have hq':=fV.out.trans hq;have k:=VB.out (Hz R B (.slice (some ⟨g4,0,none⟩) (i+1) c4)) W' di qZ rP rQ rU vI vJ vK lq lu d1u lC lD lF eo en ec ev (HK4.out.stay hq) (Aw.out.fr hq' (og dW ql.out.low (by omega))) (Az.out.fr hq' (og dW ql.out.low (by omega))) (Kz.out.fr hq' (og dW ql.out.low (by omega))) vX MN Qx.out hou.1 hou.2 (by rw [xB.out];exact Qy.out);rw [xB.out] at k;exact k
      unfold bI iC at nY;obtain ⟨⟨p0,p1,p2,p3,p4⟩,_⟩:=five xk.out;obtain ⟨a0,a1,a2,a3,a4,a5,a6,a7,a8⟩:=aA xq.out;go_upto_region 42 with fail
      clear p0 p1 p2 p3 p4 a0 a1 a2 a3 a4 a5 a6 a7 a8;have bK:Hid (∀ W',ah w4 W'->(fun (W':World)=>(AO W' B (.slice rP rQ rU) (.int .i64 di.next) (.int .i64 most) (.slice vI vJ vK) (.int .i64 qZ))/\(qP W' (B+1) h o1 l1 c1 (some ⟨b9,aK,none⟩) l2 c2)/\(EC W' b9 (aK+i*9) u lq lu d1u lC lD lF)) W'):=fun W' hq=>by
       obtain ⟨k,_⟩:=five (au hq xk.out);exact ⟨k,aA (au hq xq.out),iq AZ.out (fV.out.trans hq)⟩
      refine dI 8 bK.out (by kernel_rfl) (fun hHeld=>?_)
      (try dsimp only at hHeld)
      have gZ:=ah.drew w4;generalize w4.drew=wd at *;refine HT.tk 0 rfl ?_;go_frame;refine HT.tk 1 rfl ?_;go_frame;refine HT.tk 2 rfl ?_;go_frame;refine HT.tk 3 rfl ?_;go_frame;refine HT.tk 4 rfl ?_;go_frame;refine HT.tk 5 rfl ?_;go_frame;refine HT.tk 6 rfl ?_;go_frame;refine HT.branch (rs:=[7]) (by kernel_rfl) (by simp) ?_;refine HT.cn 7 rfl (fun K hK=>?_) ?_
      ·go_simp;go_at_call 37
       with_reducible refine Calls.mono (nY.out _ gZ) ?_
       rintro e w9 ⟨Rk,Rn,Ro,Rq,Rt,Ru,AQ,rfl,hk9,tH⟩;have mg:=yH hk9 (Nat.lt_of_lt_of_le KH gZ.size) (fun k hk=>Nat.lt_of_lt_of_le (ql.out.lt k hk) gZ.size);have hqe:=gZ.trans tH;unfold iC;refine hK.out _ _ ?ab5 (fun hHeld=>?_)
       case ab5=>exact bK.out _ hqe
       clear hK K
       (try go_frame)
       refine HT.last rfl (by kernel_rfl) (fun K hK=>?_);have hbs:=au hqe xk.out;obtain ⟨⟨p0,p1,p2,p3,p4⟩,y0,y1,y2,y3,y4⟩:=five hbs;have hend:=Bd AQ (by rw [FC.out];omega) (by rw [List.append_assoc];exact vO.out) MO.out (ql.out.stay hqe) hbs (au hqe xq.out) (au hqe DF.out) mg (fV.out.trans hqe) dW hzz (Nat.le_trans MP hqe.size);have zy:=hid hend;clear hend;go_simp;refine hK.out _ _ ?_;clear hK K
       (try go_frame)
       refine HT.done (by kernel_rfl) ?_ _;go_wp2_with fail;go_roundw
       case rel=>exact ⟨i+1,_,_,by go_num,rfl,zy.out⟩
       case measure=>simp [intOf];omega
      exact HT.bJ.nil
     ·have hlt':¬ (i:Int) < l2:=by omega
      have hi2:l2=i:=by omega
      subst hi2;have hd:vs.drop l2=[]:=List.drop_eq_nil_of_le (by rw [FC.out];exact Nat.le_refl _);rw [hd] at hf1 hf2;have hns:ns=lf.1:=by rw [<-hf1];show ns=ns++[];simp
      have hdl:di=lf.2:=hf2;clear hf1 hf2 hd;obtain ⟨lf1,lf2⟩:=lf;dsimp only at hns hdl;subst hns hdl;obtain ⟨hpt,hpc⟩:=yJ.out.at (R:=R) hzz (by unfold maxLen;omega);have hnl:=yJ.out.len;have Ea:=hid hpt;have HKq:=hid (Bc JR.out);clear hpt;have hl2:3<=l2:=by rw [HS2.out.1];exact Di.out.2.2.2.2.2.1 HK.out
      obtain ⟨b9,aK,u,qu,_,_,_,_,_,_,rfl,_,gu,_,cu,_,_⟩:=HS2.out.nth (i:=0) (by omega);have VD:aH ps 0=(u.fr,u.en):=by unfold aH;rw [gu]
      obtain ⟨_,_,_,_,_,_,_,u7,u8⟩:=cu
      (try simp only [Nat.zero_mul,Nat.add_zero] at u7 u8)
      obtain ⟨b9x,VE,v,qv,_,_,_,_,_,_,e9x,_,gv,_,cv,_,_⟩:=HS2.out.nth (i:=1) (by omega);obtain ⟨rfl,rfl⟩:b9=b9x/\aK=VE:=by cases e9x;exact ⟨rfl,rfl⟩
      have hsp1:aH ps 1=(v.fr,v.en):=by unfold aH;rw [gv]
      obtain ⟨_,_,_,_,_,_,_,v7,v8⟩:=cv
      (try simp only [Nat.one_mul] at v7 v8)
      obtain ⟨b9x,VE,x,qx,_,_,_,_,_,_,e9x,_,gx,_,cx,_,_⟩:=HS2.out.nth (i:=2) (by omega);obtain ⟨rfl,rfl⟩:b9=b9x/\aK=VE:=by cases e9x;exact ⟨rfl,rfl⟩
      have hsp2:aH ps 2=(x.fr,x.en):=by unfold aH;rw [gx]
      obtain ⟨_,_,_,_,_,_,_,x7,x8⟩:=cx
      (try simp only [Nat.zero_mul,Nat.one_mul,Nat.add_zero] at x7 x8)
      obtain ⟨gp,n0,wS,n0c,rfl,Il,Dj,n01,n02⟩:=Ea.out.get (i:=0) (by rw [List.length_map,hnl];omega);obtain ⟨ZU,n1,Qq,n1c,eg,UN,n10,n11,n12⟩:=Ea.out.get (i:=1) (by rw [List.length_map,hnl];omega);obtain rfl:gp=ZU:=by cases eg;rfl
      obtain ⟨gp2,n2,ZW,ZX,eg,n2t,n20,n21,n22⟩:=Ea.out.get (i:=2) (by rw [List.length_map,hnl];omega);obtain rfl:gp=gp2:=by cases eg;rfl
      obtain ⟨dA,hdA⟩:∃ dA,(dS most (tv n0) (3,0,.nil) u.fr u.en di).2=dA:=⟨_,rfl⟩;obtain ⟨dB,hdB⟩:∃ dB,(dS most (tv d.next) (tv n1) v.fr v.en dA).2=dB:=⟨_,rfl⟩;have HA:=hid hdA;have yV:=hid hdB;have LZ:Hid ((dS most (tv d.next) (tv n2) x.fr x.en dB).2=fin):=by show _=_;rw [<-HF3.out,<-hdB,<-hdA,VD,hsp1,hsp2,<-Il,<-UN,<-n2t]
      have Hu7:=hid u7;have Hu8:=hid u8;have Hv7:=hid v7;have Hv8:=hid v8;have Hx7:=hid x7;have Hx8:=hid x8;have hi0:(0:Int) < l2:=by omega
      have hj0:0 < l2:=by omega
      have hi1:(1:Int) < l2:=by omega
      have hj1:1 < l2:=by omega
      have hi2:(2:Int) < l2:=by omega
      have hj2:2 < l2:=by omega
      have Hn0:=hid (And.intro Dj (And.intro n01 n02));have Hn1:=hid (And.intro n10 (And.intro n11 n12));have Hn2:=hid (And.intro n20 (And.intro n21 n22));clear Il UN n2t hdA hdB VD hsp1 hsp2 gu gv gx u7 u8 v7 v8 x7 x8 Dj n01 n02 n10 n11 n12 n20 n21 n22;have hzp:=hzx;have bK:Hid (∀ W',ah wx W'->(fun (W':World)=>(AO W' B (.slice rP rQ rU) (.int .i64 di.next) (.int .i64 most) (.slice vI vJ vK) (.int .i64 qZ))/\(qP W' (B+1) h o1 l1 c1 (some ⟨b9,aK,none⟩) l2 c2)/\(xw W' gp (.int .i64 1) (.int .i64 n0) (.slice wS 0 n0c))/\(W'.cell? ⟨b9,aK+7,none⟩=some (.int .i64 u.fr)/\W'.cell? ⟨b9,aK+8,none⟩=some (.int .i64 u.en))) W'):=fun W' hq=>by
       obtain ⟨k,_⟩:=five (au hq qg.out);exact ⟨k,aA (au hq qh.out),⟨hq.at Hn0.out.1,hq.at Hn0.out.2.1,hq.at Hn0.out.2.2⟩,⟨(nD.out.trans hq).at Hu7.out,(nD.out.trans hq).at Hu8.out⟩⟩
      have iw:Hid (∀ W',ah wx W'->Calls Tryz.prog 58 #[iC rP rQ rU di.next most vI vJ vK qZ,.agg #[.int .i64 1,.int .i64 n0,.slice wS 0 n0c],.agg #[.int .i64 3,.int .i64 0,.slice none 0 0],.agg #[.int .i64 u.fr,.int .i64 u.en]] W' (sS (RB R B) W' most dA)):=fun W' hq=>by
       have k:=add_any (o1:=wS) (l1:=0) (c1:=n0c) (o2:=none) (l2:=0) (c2:=0) qZ (HKq.out.stay hq) hm (tv n0) ((3,0,.nil)) u.fr u.en (aB.nil _ _ _) (aB.nil _ _ _) (Nat.le_of_ble_eq_true rfl) (Nat.le_of_ble_eq_true rfl);rw [HA.out] at k;exact k
      unfold iC at iw;have DX:¬ gp=B:=by have:=yJ.out.low gp rfl;omega
      go_upto_region 47 with fail
      clear p0 p1 p2 p3 p4 a0 a1 a2 a3 a4 a5 a6 a7 a8;go_cut [] from 221 to 231 (fun wy=>TmC R W B dA most h o1 l1 c1 (some ⟨b9,aK,none⟩) l2 c2 wy/\Fr (fun k=>k=B) wx wy)
      case first =>
       refine dI 11 bK.out (by kernel_rfl) (fun hHeld=>?_)
       (try dsimp only at hHeld)
       have gZ:=ah.drew wx;generalize wx.drew=wd at gZ hHeld ⊢;refine HT.tk 0 rfl ?_;go_frame;refine HT.tk 1 rfl ?_;go_frame;refine HT.tk 2 rfl ?_;go_frame;refine HT.tk 3 rfl ?_;go_frame;refine HT.tk 4 rfl ?_;go_frame;refine HT.tk 5 rfl ?_;go_frame;refine HT.tk 6 rfl ?_;go_frame;refine HT.tk 7 rfl ?_;go_frame;refine HT.tk 8 rfl ?_;go_frame;refine HT.tk 9 rfl ?_;go_frame;refine HT.branch (rs:=[10]) (by kernel_rfl) (by simp) ?_;refine HT.cn 10 rfl (fun K hK=>?_) ?_
       ·go_simp;go_at_call 58
        with_reducible refine Calls.mono (iw.out _ gZ) ?_
        rintro e wv1 ⟨lo3,iO,iP,iQ,iR,iU,iD,rfl,hk3,qj⟩;have mg:=iM hk3 (Nat.lt_of_lt_of_le hzp gZ.size);have fP:=gZ.trans qj;unfold iC;refine hK.out _ _ ?ab6 (fun hHeld=>?_)
        case ab6=>exact bK.out _ fP
        clear hK K
        (try go_frame)
        refine HT.last rfl (by kernel_rfl) (fun K hK=>?_);have hbs:=au fP qg.out;obtain ⟨⟨p0,p1,p2,p3,p4⟩,y0,y1,y2,y3,y4⟩:=five hbs;have hend:=kG iD hbs (au fP qh.out) (au fP uz.out) mg (nD.out.trans fP) dW;go_simp;refine hK.out _ _ ?_;clear hK K
        (try go_frame)
        refine HT.done (by kernel_rfl) ?_ _;go_wp2_with fail;go_meet;exact ⟨hend,(Fr.mono fP (fun _ _ h=>h.elim)).trans (fJ _ _ _ _ _ _ _)⟩
       exact HT.bJ.nil
      case rest =>
       rename World=>Rx
       obtain ⟨⟨lo7,ln7,lc7,oo7,on7,oc7,in7,hb0,ig,hb2,hk7,hq7⟩,Ej⟩:=hcut;have X5:=hid hb0;have X6:=hid ig;have aaC:=hid hb2;have HK7:=hid hk7;have Ns:=hid hq7;clear hzp;have hzp:B+1+1 < Rx.heap.size:=lt_of_block hb2;clear hb0 ig hb2 hk7 hq7;have VF:=hid (And.intro ((Ej.bf (World.block_lt_of_cell? _ _ Hn1.out.1) DX).trans Hn1.out.1) (And.intro ((Ej.bf (World.block_lt_of_cell? _ _ Hn1.out.2.1) DX).trans Hn1.out.2.1) ((Ej.bf (World.block_lt_of_cell? _ _ Hn1.out.2.2) DX).trans Hn1.out.2.2)));have FX:=hid (And.intro ((Ej.bf (World.block_lt_of_cell? _ _ Hn2.out.1) DX).trans Hn2.out.1) (And.intro ((Ej.bf (World.block_lt_of_cell? _ _ Hn2.out.2.1) DX).trans Hn2.out.2.1) ((Ej.bf (World.block_lt_of_cell? _ _ Hn2.out.2.2) DX).trans Hn2.out.2.2)));clear Ej iw;have MQ:Hid (∀ W',ah Rx W'->(fun (W':World)=>(AO W' B (.slice lo7 ln7 lc7) (.int .i64 dA.next) (.int .i64 most) (.slice oo7 on7 oc7) (.int .i64 in7))/\(qP W' (B+1) h o1 l1 c1 (some ⟨b9,aK,none⟩) l2 c2)/\(W'.cell? ⟨gp,3,none⟩=some (.int .i64 1)/\W'.cell? ⟨gp,4,none⟩=some (.int .i64 n1)/\W'.cell? ⟨gp,5,none⟩=some (.slice Qq 0 n1c))/\(W'.cell? ⟨b9,aK+16,none⟩=some (.int .i64 v.fr)/\W'.cell? ⟨b9,aK+17,none⟩=some (.int .i64 v.en))) W'):=fun W' hq=>by
        obtain ⟨k,_⟩:=five (au hq X5.out);exact ⟨k,aA (au hq X6.out),⟨hq.at VF.out.1,hq.at VF.out.2.1,hq.at VF.out.2.2⟩,⟨(Ns.out.trans hq).at Hv7.out,(Ns.out.trans hq).at Hv8.out⟩⟩
       have iw:Hid (∀ W',ah Rx W'->Calls Tryz.prog 58 #[iC lo7 ln7 lc7 dA.next most oo7 on7 oc7 in7,.agg #[.int .i64 1,.int .i64 d.next,.slice none 0 0],.agg #[.int .i64 1,.int .i64 n1,.slice Qq 0 n1c],.agg #[.int .i64 v.fr,.int .i64 v.en]] W' (sS (RB R B) W' most dB)):=fun W' hq=>by
        have k:=add_any (o1:=none) (l1:=0) (c1:=0) (o2:=Qq) (l2:=0) (c2:=n1c) in7 (HK7.out.stay hq) hm (tv d.next) (tv n1) v.fr v.en (aB.nil _ _ _) (aB.nil _ _ _) (Nat.le_of_ble_eq_true rfl) (Nat.le_of_ble_eq_true rfl);rw [yV.out] at k;exact k
       unfold iC at iw;go_upto_region 48 with fail
       go_cut [] from 232 to 243 (fun wy=>TmC R W B dB most h o1 l1 c1 (some ⟨b9,aK,none⟩) l2 c2 wy/\Fr (fun k=>k=B) Rx wy)
       case first =>
        refine dI 12 MQ.out (by kernel_rfl) (fun hHeld=>?_)
        (try dsimp only at hHeld)
        have gZ:=ah.drew Rx;generalize Rx.drew=wd at gZ hHeld ⊢;refine HT.tk 0 rfl ?_;go_frame;refine HT.tk 1 rfl ?_;go_frame;refine HT.tk 3 rfl ?_;go_frame;refine HT.tk 4 rfl ?_;go_frame;refine HT.tk 5 rfl ?_;go_frame;refine HT.tk 6 rfl ?_;go_frame;refine HT.tk 7 rfl ?_;go_frame;refine HT.tk 8 rfl ?_;go_frame;refine HT.tk 9 rfl ?_;go_frame;refine HT.tk 10 rfl ?_;go_frame;refine HT.branch (rs:=[2]) (by kernel_rfl) (by simp) ?_;refine HT.cn 2 rfl (fun K hK=>?_) ?_
        ·go_simp;go_at_call 59
         with_reducible refine Calls.mono (gX _ _) ?_
         rintro e wv1 ⟨rfl,qj⟩;have fP:=gZ.trans qj;refine hK.out _ _ ?ab7 (fun hHeld=>?_)
         case ab7=>exact MQ.out _ fP
         clear hK K
         (try go_frame)
         refine HT.branch (rs:=[11]) (by kernel_rfl) (by simp) ?_;refine HT.cn 11 rfl (fun K hK=>?_) ?_
         ·go_simp;go_at_call 58
          with_reducible refine Calls.mono (iw.out _ fP) ?_
          rintro e wv2 ⟨lo3,iO,iP,iQ,iR,iU,iD,rfl,hk3,rV⟩;have mg:=iM hk3 (Nat.lt_of_lt_of_le hzp fP.size);have gV:=fP.trans rV;unfold iC;refine hK.out _ _ ?ab8 (fun hHeld=>?_)
          case ab8=>exact MQ.out _ gV
          clear hK K
          (try go_frame)
          refine HT.last rfl (by kernel_rfl) (fun K hK=>?_);have hbs:=au gV X5.out;obtain ⟨⟨p0,p1,p2,p3,p4⟩,y0,y1,y2,y3,y4⟩:=five hbs;have hend:=kG iD hbs (au gV X6.out) (au gV aaC.out) mg (Ns.out.trans gV) dW;go_simp;refine hK.out _ _ ?_;clear hK K
          (try go_frame)
          refine HT.done (by kernel_rfl) ?_ _;go_wp2_with fail;go_meet;exact ⟨hend,(Fr.mono gV (fun _ _ h=>h.elim)).trans (fJ _ _ _ _ _ _ _)⟩
         exact HT.bJ.nil
        exact HT.bJ.nil
       case rest =>
        rename World=>wq8
        obtain ⟨⟨lo8,ln8,lc8,oo8,on8,oc8,in8,hb0,ig,hb2,hk8,hq8⟩,Ej⟩:=hcut;have adu:=hid hb0;have adv:=hid ig;have adw:=hid hb2;have HK8:=hid hk8;have Tv:=hid hq8;clear hzp;have hzp:B+1+1 < wq8.heap.size:=lt_of_block hb2;clear hb0 ig hb2 hk8 hq8;have VG:=hid (And.intro ((Ej.bf (World.block_lt_of_cell? _ _ FX.out.1) DX).trans FX.out.1) (And.intro ((Ej.bf (World.block_lt_of_cell? _ _ FX.out.2.1) DX).trans FX.out.2.1) ((Ej.bf (World.block_lt_of_cell? _ _ FX.out.2.2) DX).trans FX.out.2.2)));clear Ej iw;have aaD:Hid (∀ W',ah wq8 W'->(fun (W':World)=>(AO W' B (.slice lo8 ln8 lc8) (.int .i64 dB.next) (.int .i64 most) (.slice oo8 on8 oc8) (.int .i64 in8))/\(qP W' (B+1) h o1 l1 c1 (some ⟨b9,aK,none⟩) l2 c2)/\(W'.cell? ⟨gp,6,none⟩=some (.int .i64 1)/\W'.cell? ⟨gp,7,none⟩=some (.int .i64 n2)/\W'.cell? ⟨gp,8,none⟩=some (.slice ZW 0 ZX))/\(W'.cell? ⟨b9,aK+25,none⟩=some (.int .i64 x.fr)/\W'.cell? ⟨b9,aK+26,none⟩=some (.int .i64 x.en))) W'):=fun W' hq=>by
         obtain ⟨k,_⟩:=five (au hq adu.out);exact ⟨k,aA (au hq adv.out),⟨hq.at VG.out.1,hq.at VG.out.2.1,hq.at VG.out.2.2⟩,⟨(Tv.out.trans hq).at Hx7.out,(Tv.out.trans hq).at Hx8.out⟩⟩
        have iw:Hid (∀ W',ah wq8 W'->Calls Tryz.prog 58 #[iC lo8 ln8 lc8 dB.next most oo8 on8 oc8 in8,.agg #[.int .i64 1,.int .i64 d.next,.slice none 0 0],.agg #[.int .i64 1,.int .i64 n2,.slice ZW 0 ZX],.agg #[.int .i64 x.fr,.int .i64 x.en]] W' (sS (RB R B) W' most fin)):=fun W' hq=>by
         have k:=add_any (o1:=none) (l1:=0) (c1:=0) (o2:=ZW) (l2:=0) (c2:=ZX) in8 (HK8.out.stay hq) hm (tv d.next) (tv n2) x.fr x.en (aB.nil _ _ _) (aB.nil _ _ _) (Nat.le_of_ble_eq_true rfl) (Nat.le_of_ble_eq_true rfl);rw [LZ.out] at k;exact k
        unfold iC at iw;go_upto_region 49 with fail
        refine dI 12 aaD.out (by kernel_rfl) (fun hHeld=>?_)
        (try dsimp only at hHeld)
        have gZ:=ah.drew wq8;generalize wq8.drew=wd at gZ hHeld ⊢;refine HT.tk 0 rfl ?_;go_frame;refine HT.tk 1 rfl ?_;go_frame;refine HT.tk 3 rfl ?_;go_frame;refine HT.tk 4 rfl ?_;go_frame;refine HT.tk 5 rfl ?_;go_frame;refine HT.tk 6 rfl ?_;go_frame;refine HT.tk 7 rfl ?_;go_frame;refine HT.tk 8 rfl ?_;go_frame;refine HT.tk 9 rfl ?_;go_frame;refine HT.tk 10 rfl ?_;go_frame;refine HT.branch (rs:=[2]) (by kernel_rfl) (by simp) ?_;refine HT.cn 2 rfl (fun K hK=>?_) ?_
        ·go_simp;go_at_call 59
         with_reducible refine Calls.mono (gX _ _) ?_
         rintro e wv1 ⟨rfl,qj⟩;have fP:=gZ.trans qj;refine hK.out _ _ ?ab9 (fun hHeld=>?_)
         case ab9=>exact aaD.out _ fP
         clear hK K
         (try go_frame)
         refine HT.branch (rs:=[11]) (by kernel_rfl) (by simp) ?_;refine HT.cn 11 rfl (fun K hK=>?_) ?_
         ·go_simp;go_at_call 58
          with_reducible refine Calls.mono (iw.out _ fP) ?_
          rintro e wv2 ⟨lo3,iO,iP,iQ,iR,iU,iD,rfl,hk3,rV⟩;have mg:=iM hk3 (Nat.lt_of_lt_of_le hzp fP.size);have gV:=fP.trans rV;unfold iC;refine hK.out _ _ ?acd (fun hHeld=>?_)
          case acd=>exact aaD.out _ gV
          clear hK K
          (try go_frame)
          refine HT.last rfl (by kernel_rfl) (fun K hK=>?_);have hbs:=au gV adw.out;obtain ⟨⟨z0,z1,z2,z3,z4⟩,y0,y1,y2,y3,y4⟩:=five hbs;have dY:=Tv.out.trans gV;go_simp;refine hK.out _ _ ?_;clear hK K
          (try go_frame)
          refine HT.done (by kernel_rfl) ?_ _;clear z0 z1 z2 z3 z4 y0 y1 y2 y3 y4;generalize AP:bodyPost Tryz.prog Tryz.f37 (sS R W most fin)=BP at *;go_wp2_with fail;rw [<-AP];have hf:=fJ wv2 (B+1+1) (.slice lo3 iO iP) (.int .i64 fin.next) (.int .i64 most) (.slice iQ iR iU) (.int .i64 iD);obtain ⟨⟨f0,f1,f2,f3,f4⟩,_⟩:=five (bY (a:=(.slice lo3 iO iP)) (b:=(.int .i64 fin.next)) (c:=(.int .i64 most)) (d:=(.slice iQ iR iU)) (e:=(.int .i64 iD)) hbs);change bodyPost _ _ _ _ _ (iJ wv2 (B+1+1) (.slice lo3 iO iP) (.int .i64 fin.next) (.int .i64 most) (.slice iQ iR iU) (.int .i64 iD));have hend:=ni mg dY hf dW;generalize iJ wv2 (B+1+1) (.slice lo3 iO iP) (.int .i64 fin.next) (.int .i64 most) (.slice iQ iR iU) (.int .i64 iD)=wf at *;refine bodyPost_ret (by simp [results,Tryz.results37,go_sem,f0,f1,f2,f3,f4]<;>rfl) rfl ?_;exact ⟨lo3,iO,iP,iQ,iR,iU,iD,by (first | rfl | (rw [HF2.out]<;>rfl)),by (first | exact hend.1 | (rw [HF2.out];exact hend.1)),hend.2⟩
         exact HT.bJ.nil
        exact HT.bJ.nil
   ·have t2:(h.k == 2)=false:=by rw [hk];rfl
    have t3:(h.k == 3)=false:=by rw [hk];rfl
    have t1:(h.k == 1)=false:=by rw [hk];rfl
    have t4:(h.k == 4)=false:=by rw [hk];rfl
    have t6:(h.k == 6)=false:=by rw [hk];rfl
    have t7:(h.k == 7)=false:=by rw [hk];rfl
    have t5:(h.k == 5)=false:=by rw [hk];rfl
    have t8:(h.k == 8)=false:=by rw [hk];rfl
    have t9:(h.k == 9)=true:=by rw [hk];rfl
    have HK:=hid hk;clear hk;obtain ⟨lf,hlf⟩:∃ lf,dmap (lI most ev) (dM most ps) d1=lf:=⟨_,rfl⟩;have hre:(dS most (tv d.next) (5,0,jF (lf.1.map tv)) h.fr h.en lf.2).2=fin:=by
     rw [<-bH.out,jd Q5.out,<-HD1.out];unfold kY;rw [if_neg (by rw [HK.out];decide),if_neg (by rw [HK.out];decide),if_neg (by rw [HK.out];decide),if_neg (by rw [HK.out];decide),if_neg (by rw [HK.out];decide)]
     show _=((gq (dmap (lI most ev) (dM most ps)) _) d1).2
     unfold gq;rw [hlf];dsimp only;rw [if_neg (by rw [HK.out];decide),if_neg (by rw [HK.out];decide),if_pos HK.out];rfl
    have ML:Hid (lf.2.next<=1000000):=by show _<=_;have k:=zX.out;rw [bH.out,<-hre] at k;simpa only [jR] using k
    have HF3:=hid hre;have HF2:Hid (fin=fin):=rfl;clear hre;have HLF:=hid hlf;have hzz:B+1+1 < wr.heap.size:=Wi;obtain ⟨vs,hvs⟩:∃ vs,dM most ps=vs:=⟨_,rfl⟩;have N8:=hid hvs;have FC:Hid (vs.length=l2):=by show _=_;rw [<-hvs,lY,HS2.out.1]
    have HST:Hid (YG R W B wr.heap.size most h o1 l1 c1 o2 l2 c2 (lI most ev) vs lf (.slice none 0 0) (.int .i64 0) wr):=by
     refine ⟨0,none,0,rfl,rfl,d1,[],[],lo,ln,lc,Ec,Ed,Ee,inn,Nat.zero_le _,?_,?_,PR.nil _ _,HR0.out,O9.out,HR2.out,Ba Dy.out,Aj.out,Nat.le_refl _⟩
     ·rw [List.drop_zero,<-hvs,hlf];rfl
     ·rw [List.drop_zero,<-hvs,hlf]
    obtain ⟨zz,DC⟩:∃ zz,wr.heap.size=zz:=⟨_,rfl⟩;rw [DC] at HST hzz;clear hvs hlf DC;go_wp2_with fail;clear p0 p1 p2 p3 p4 a0 a1 a2 a3 a4 a5 a6 a7 a8;go_loopw [14,15] (fun p t wx=>YG R W B zz most h o1 l1 c1 o2 l2 c2 (lI most ev) vs lf p t wx) (fun _ t _=>l2-(intOf t).toNat)
    case atStart=>exact HST.out
    case round =>
     clear HST;rename World=>wx
     obtain ⟨i,po,pc,rfl,rfl,di,ns,xs,rP,rQ,rU,vI,vJ,vK,qZ,hiv,hf1,hf2,hpr,hb0,ig,hb2,hk5,hq5,hzw⟩:=hrel;have hil:i<=l2:=by rw [<-FC.out];exact hiv
     have qg:=hid hb0;have qh:=hid ig;have uz:=hid hb2;have JR:=hid hk5;have nD:=hid hq5;have yJ:=hid hpr;have hzx:B+1+1 < wx.heap.size:=lt_of_block hb2;clear hb0 ig hb2 hk5 hq5 hpr hiv;obtain ⟨⟨p0,p1,p2,p3,p4⟩,_⟩:=five qg.out;obtain ⟨a0,a1,a2,a3,a4,a5,a6,a7,a8⟩:=aA qh.out
     by_cases hlt:i < l2
     ·have hlt':(i:Int) < l2:=by omega
      obtain ⟨b9,aK,u,qu,lq,lu,d1u,lC,lD,lF,rfl,_,gu,ru,cu,su,tu⟩:=HS2.out.nth hlt;have AZ:=hid cu;have Aw:=hid su;have Az:=hid tu;have hou:=gJ ps i u qu qV.out gu;have MN:en+qu.size<=100000:=by have:=To.dK ps i u qu gu;have:=X0.out;omega
      have hmd:=qY (lI most ev) vs i _ di (show vs[i]?=some (fH most u qu) by rw [<-N8.out];exact oP most ps i u qu gu);rw [hmd] at hf1 hf2;have hnr:(fH most u qu (lI most ev) di).2.next<=lf.2.next:=by
       rw [<-hf2];exact uP (nG most ev) (us:=vs.drop (i+1)) (fun v hv=>by rw [<-N8.out] at hv;exact nO most ps v (List.mem_of_mem_drop hv)) _
      obtain ⟨rt,hrt⟩:∃ rt,fH most u qu (lI most ev) di=rt:=⟨_,rfl⟩;have hr1:rt.1=di.next:=by rw [<-hrt];exact lG _ _ _ _ _
      rw [hrt] at hf1 hf2 hnr;rw [hr1] at hf1;have VB:=hid (IH.out i u qu gu);have xB:=hid hrt;have Qy:Hid (rt.2.next<=1000000):=Nat.le_trans hnr ML.out;have vO:=hid hf1;have MO:=hid hf2;clear hf1 hf2 hrt hr1 hnr hmd cu su tu gu ru;go_wp2_with fail;refine (gX _ _).mono ?_;rintro x w2 ⟨rfl,hq2⟩;have eF:=hid hq2;clear hq2 p0 p1 p2 p3 p4 a0 a1 a2 a3 a4 a5 a6 a7 a8;go_wp2_with (at_builtin;go_must (refine aY w2 rfl (.tmp 188) (.tmp 192) 22 rfl 24 _ 3 40 elemTy (.slice po i pc) i xs rfl (yJ.out.stay eF.out).own #[.int .i64 1,.int .i64 di.next,.slice none 0 0] rfl rfl ?c1 (by unfold maxLen;omega) (by omega) ?_);(case c1=>simp [Value.oneCell']));intro g4 c4 w4 mM hf4 hg4;have hlow:∀ k,(Value.slice po i pc).ownBlock=some k->zz<=k:=yJ.out.low;have ql:=hid ((yJ.out.stay eF.out).snoc (o':=none) (c1:=0) (di.next) mM (Nat.le_trans hzw eF.out.size) hg4);have HK4:=hid (yG (JR.out.stay eF.out) hf4 hg4 (n:=i+1) (c:=c4));have xk:=hid (aC hf4 (fun e=>by have:=hlow _ e;omega) (au eF.out qg.out));have xq:=hid (aC hf4 (fun e=>by have:=hlow _ e;omega) (au eF.out qh.out));have DF:=hid (aC hf4 (fun e=>by have:=hlow _ e;omega) (au eF.out uz.out));have fV:Hid (ah W w4):=Fr.trans' (nD.out.trans eF.out) hf4 (fun j hj e=>by have:=hlow j e;omega);have KH:B+1+1 < w4.heap.size:=lt_of_block DF.out;have MP:zz<=w4.heap.size:=Nat.le_trans hzw (Nat.le_trans eF.out.size hf4.size);clear mM hf4 hg4 hlow;have nY:Hid (∀ W',ah w4 W'->Calls Tryz.prog 37 #[iC rP rQ rU di.next most vI vJ vK qZ,bI u lq lu d1u lC lD lF,.slice eo en ec] W' (sS (Hz R B (.slice (some ⟨g4,0,none⟩) (i+1) c4)) W' most rt.2)):=fun W' hq=>by
       have hq':=fV.out.trans hq;have k:=VB.out (Hz R B (.slice (some ⟨g4,0,none⟩) (i+1) c4)) W' di qZ rP rQ rU vI vJ vK lq lu d1u lC lD lF eo en ec ev (HK4.out.stay hq) (Aw.out.fr hq' (og dW ql.out.low (by omega))) (Az.out.fr hq' (og dW ql.out.low (by omega))) (Kz.out.fr hq' (og dW ql.out.low (by omega))) vX MN Qx.out hou.1 hou.2 (by rw [xB.out];exact Qy.out);rw [xB.out] at k;exact k
      unfold bI iC at nY;obtain ⟨⟨p0,p1,p2,p3,p4⟩,_⟩:=five xk.out;obtain ⟨a0,a1,a2,a3,a4,a5,a6,a7,a8⟩:=aA xq.out;go_upto_region 42 with fail
      clear p0 p1 p2 p3 p4 a0 a1 a2 a3 a4 a5 a6 a7 a8;have bK:Hid (∀ W',ah w4 W'->(fun (W':World)=>(AO W' B (.slice rP rQ rU) (.int .i64 di.next) (.int .i64 most) (.slice vI vJ vK) (.int .i64 qZ))/\(qP W' (B+1) h o1 l1 c1 (some ⟨b9,aK,none⟩) l2 c2)/\(EC W' b9 (aK+i*9) u lq lu d1u lC lD lF)) W'):=fun W' hq=>by
       obtain ⟨k,_⟩:=five (au hq xk.out);exact ⟨k,aA (au hq xq.out),iq AZ.out (fV.out.trans hq)⟩
      refine dI 8 bK.out (by kernel_rfl) (fun hHeld=>?_)
      (try dsimp only at hHeld)
      have gZ:=ah.drew w4;generalize w4.drew=wd at *;refine HT.tk 0 rfl ?_;go_frame;refine HT.tk 1 rfl ?_;go_frame;refine HT.tk 2 rfl ?_;go_frame;refine HT.tk 3 rfl ?_;go_frame;refine HT.tk 4 rfl ?_;go_frame;refine HT.tk 5 rfl ?_;go_frame;refine HT.tk 6 rfl ?_;go_frame;refine HT.branch (rs:=[7]) (by kernel_rfl) (by simp) ?_;refine HT.cn 7 rfl (fun K hK=>?_) ?_
      ·go_simp;go_at_call 37
       with_reducible refine Calls.mono (nY.out _ gZ) ?_
       rintro e w9 ⟨Rk,Rn,Ro,Rq,Rt,Ru,AQ,rfl,hk9,tH⟩;have mg:=yH hk9 (Nat.lt_of_lt_of_le KH gZ.size) (fun k hk=>Nat.lt_of_lt_of_le (ql.out.lt k hk) gZ.size);have hqe:=gZ.trans tH;unfold iC;refine hK.out _ _ ?ace (fun hHeld=>?_)
       case ace=>exact bK.out _ hqe
       clear hK K
       (try go_frame)
       refine HT.last rfl (by kernel_rfl) (fun K hK=>?_);have hbs:=au hqe xk.out;obtain ⟨⟨p0,p1,p2,p3,p4⟩,y0,y1,y2,y3,y4⟩:=five hbs;have hend:=Bd AQ (by rw [FC.out];omega) (by rw [List.append_assoc];exact vO.out) MO.out (ql.out.stay hqe) hbs (au hqe xq.out) (au hqe DF.out) mg (fV.out.trans hqe) dW hzz (Nat.le_trans MP hqe.size);have zy:=hid hend;clear hend;go_simp;refine hK.out _ _ ?_;clear hK K
       (try go_frame)
       refine HT.done (by kernel_rfl) ?_ _;go_wp2_with fail;go_roundw
       case rel=>exact ⟨i+1,_,_,by go_num,rfl,zy.out⟩
       case measure=>simp [intOf];omega
      exact HT.bJ.nil
     ·have hlt':¬ (i:Int) < l2:=by omega
      have hi2:l2=i:=by omega
      subst hi2;have hd:vs.drop l2=[]:=List.drop_eq_nil_of_le (by rw [FC.out];exact Nat.le_refl _);rw [hd] at hf1 hf2;have hns:ns=lf.1:=by rw [<-hf1];show ns=ns++[];simp
      have hdl:di=lf.2:=hf2;clear hf1 hf2 hd;obtain ⟨lf1,lf2⟩:=lf;dsimp only at hns hdl;subst hns hdl;obtain ⟨hpt,hpc⟩:=yJ.out.at (R:=R) hzz (by unfold maxLen;omega);have hnl:=yJ.out.len;have Ea:=hid hpt;have HKq:=hid (Bc JR.out);clear hpt;have hl2:0<=l2:=Nat.zero_le _;have hzp:=hzx;have HSL:Hid (aB (RB R B) wx po l2 (jF (ns.map tv))):=by have k:=Ea.out.slc;rw [List.length_map,hnl] at k;exact k
      have hsz:(jF (ns.map tv)).size<=100000:=by rw [FT];omega
      have bK:Hid (∀ W',ah wx W'->(fun (W':World)=>(AO W' B (.slice rP rQ rU) (.int .i64 di.next) (.int .i64 most) (.slice vI vJ vK) (.int .i64 qZ))/\(qP W' (B+1) h o1 l1 c1 o2 l2 c2)) W'):=fun W' hq=>by
       obtain ⟨k,_⟩:=five (au hq qg.out);exact ⟨k,aA (au hq qh.out)⟩
      have iw:Hid (∀ W',ah wx W'->Calls Tryz.prog 58 #[iC rP rQ rU di.next most vI vJ vK qZ,.agg #[.int .i64 1,.int .i64 d.next,.slice none 0 0],.agg #[.int .i64 5,.int .i64 0,.slice po l2 pc],.agg #[.int .i64 h.fr,.int .i64 h.en]] W' (sS (RB R B) W' most fin)):=fun W' hq=>by
       have k:=add_any (o1:=none) (l1:=0) (c1:=0) (o2:=po) (l2:=l2) (c2:=pc) qZ (HKq.out.stay hq) hm (tv d.next) ((5,0,jF (ns.map tv))) h.fr h.en (aB.nil _ _ _) (HSL.out.stay hq) (Nat.le_of_ble_eq_true rfl) hsz;rw [HF3.out] at k;exact k
      unfold iC at iw;go_upto_region 51 with fail
      clear p0 p1 p2 p3 p4 a0 a1 a2 a3 a4 a5 a6 a7 a8;refine dI 8 bK.out (by kernel_rfl) (fun hHeld=>?_)
      (try dsimp only at hHeld)
      have gZ:=ah.drew wx;generalize wx.drew=wd at gZ hHeld ⊢;refine HT.tk 0 rfl ?_;go_frame;refine HT.tk 1 rfl ?_;go_frame;refine HT.tk 3 rfl ?_;go_frame;refine HT.tk 4 rfl ?_;go_frame;refine HT.tk 5 rfl ?_;go_frame;refine HT.tk 6 rfl ?_;go_frame;refine HT.branch (rs:=[2]) (by kernel_rfl) (by simp) ?_;refine HT.cn 2 rfl (fun K hK=>?_) ?_
      ·go_simp;go_at_call 59
       with_reducible refine Calls.mono (gX _ _) ?_
       rintro e wv1 ⟨rfl,qj⟩;have fP:=gZ.trans qj;refine hK.out _ _ ?acf (fun hHeld=>?_)
       case acf=>exact bK.out _ fP
       clear hK K
       (try go_frame)
       refine HT.branch (rs:=[7]) (by kernel_rfl) (by simp) ?_;refine HT.cn 7 rfl (fun K hK=>?_) ?_
       ·go_simp;go_at_call 58
        with_reducible refine Calls.mono (iw.out _ fP) ?_
        rintro e wv2 ⟨lo3,iO,iP,iQ,iR,iU,iD,rfl,hk3,rV⟩;have mg:=iM hk3 (Nat.lt_of_lt_of_le hzp fP.size);have gV:=fP.trans rV;unfold iC;refine hK.out _ _ ?acg (fun hHeld=>?_)
        case acg=>exact bK.out _ gV
        clear hK K
        (try go_frame)
        refine HT.last rfl (by kernel_rfl) (fun K hK=>?_);have hbs:=au gV uz.out;obtain ⟨⟨z0,z1,z2,z3,z4⟩,y0,y1,y2,y3,y4⟩:=five hbs;have dY:=nD.out.trans gV;go_simp;refine hK.out _ _ ?_;clear hK K
        (try go_frame)
        refine HT.done (by kernel_rfl) ?_ _;clear z0 z1 z2 z3 z4 y0 y1 y2 y3 y4;generalize AP:bodyPost Tryz.prog Tryz.f37 (sS R W most fin)=BP at *;go_wp2_with fail;rw [<-AP];have hf:=fJ wv2 (B+1+1) (.slice lo3 iO iP) (.int .i64 fin.next) (.int .i64 most) (.slice iQ iR iU) (.int .i64 iD);obtain ⟨⟨f0,f1,f2,f3,f4⟩,_⟩:=five (bY (a:=(.slice lo3 iO iP)) (b:=(.int .i64 fin.next)) (c:=(.int .i64 most)) (d:=(.slice iQ iR iU)) (e:=(.int .i64 iD)) hbs);change bodyPost _ _ _ _ _ (iJ wv2 (B+1+1) (.slice lo3 iO iP) (.int .i64 fin.next) (.int .i64 most) (.slice iQ iR iU) (.int .i64 iD));have hend:=ni mg dY hf dW;generalize iJ wv2 (B+1+1) (.slice lo3 iO iP) (.int .i64 fin.next) (.int .i64 most) (.slice iQ iR iU) (.int .i64 iD)=wf at *;refine bodyPost_ret (by simp [results,Tryz.results37,go_sem,f0,f1,f2,f3,f4]<;>rfl) rfl ?_;exact ⟨lo3,iO,iP,iQ,iR,iU,iD,by (first | rfl | (rw [HF2.out]<;>rfl)),by (first | exact hend.1 | (rw [HF2.out];exact hend.1)),hend.2⟩
       exact HT.bJ.nil
      exact HT.bJ.nil
   ·have t2:(h.k == 2)=false:=by rw [hk];rfl
    have t3:(h.k == 3)=false:=by rw [hk];rfl
    have t1:(h.k == 1)=false:=by rw [hk];rfl
    have t4:(h.k == 4)=false:=by rw [hk];rfl
    have t6:(h.k == 6)=false:=by rw [hk];rfl
    have t7:(h.k == 7)=false:=by rw [hk];rfl
    have t5:(h.k == 5)=false:=by rw [hk];rfl
    have t8:(h.k == 8)=false:=by rw [hk];rfl
    have t9:(h.k == 9)=false:=by rw [hk];rfl
    have t10:(h.k == 10)=true:=by rw [hk];rfl
    have HK:=hid hk;clear hk;obtain ⟨lf,hlf⟩:∃ lf,dmap (lI most ev) (dM most ps) d1=lf:=⟨_,rfl⟩;have hre:(dS most (tv d.next) (h.tk,h.tn,h.tp) h.fr h.en (dS most (jY lf.1 0) (h.tk,h.tn,h.tp) (aH ps 0).1 (aH ps 0).2 lf.2).2).2=fin:=by
     rw [<-bH.out,jd Q5.out,<-HD1.out];unfold kY;rw [if_neg (by rw [HK.out];decide),if_neg (by rw [HK.out];decide),if_neg (by rw [HK.out];decide),if_neg (by rw [HK.out];decide),if_neg (by rw [HK.out];decide)]
     show _=((gq (dmap (lI most ev) (dM most ps)) _) d1).2
     unfold gq;rw [hlf];dsimp only;rw [if_neg (by rw [HK.out];decide),if_neg (by rw [HK.out];decide),if_neg (by rw [HK.out];decide),if_pos HK.out];rfl
    have ML:Hid (lf.2.next<=1000000):=by show _<=_;have k:=zX.out;rw [bH.out,<-hre] at k;simpa only [jR] using k
    have HF3:=hid hre;have HF2:Hid (fin=fin):=rfl;clear hre;have HLF:=hid hlf;have hzz:B+1+1 < wr.heap.size:=Wi;obtain ⟨vs,hvs⟩:∃ vs,dM most ps=vs:=⟨_,rfl⟩;have N8:=hid hvs;have FC:Hid (vs.length=l2):=by show _=_;rw [<-hvs,lY,HS2.out.1]
    have HST:Hid (YG R W B wr.heap.size most h o1 l1 c1 o2 l2 c2 (lI most ev) vs lf (.slice none 0 0) (.int .i64 0) wr):=by
     refine ⟨0,none,0,rfl,rfl,d1,[],[],lo,ln,lc,Ec,Ed,Ee,inn,Nat.zero_le _,?_,?_,PR.nil _ _,HR0.out,O9.out,HR2.out,Ba Dy.out,Aj.out,Nat.le_refl _⟩
     ·rw [List.drop_zero,<-hvs,hlf];rfl
     ·rw [List.drop_zero,<-hvs,hlf]
    obtain ⟨zz,DC⟩:∃ zz,wr.heap.size=zz:=⟨_,rfl⟩;rw [DC] at HST hzz;clear hvs hlf DC;go_wp2_with fail;clear p0 p1 p2 p3 p4 a0 a1 a2 a3 a4 a5 a6 a7 a8;go_loopw [14,15] (fun p t wx=>YG R W B zz most h o1 l1 c1 o2 l2 c2 (lI most ev) vs lf p t wx) (fun _ t _=>l2-(intOf t).toNat)
    case atStart=>exact HST.out
    case round =>
     clear HST;rename World=>wx
     obtain ⟨i,po,pc,rfl,rfl,di,ns,xs,rP,rQ,rU,vI,vJ,vK,qZ,hiv,hf1,hf2,hpr,hb0,ig,hb2,hk5,hq5,hzw⟩:=hrel;have hil:i<=l2:=by rw [<-FC.out];exact hiv
     have qg:=hid hb0;have qh:=hid ig;have uz:=hid hb2;have JR:=hid hk5;have nD:=hid hq5;have yJ:=hid hpr;have hzx:B+1+1 < wx.heap.size:=lt_of_block hb2;clear hb0 ig hb2 hk5 hq5 hpr hiv;obtain ⟨⟨p0,p1,p2,p3,p4⟩,_⟩:=five qg.out;obtain ⟨a0,a1,a2,a3,a4,a5,a6,a7,a8⟩:=aA qh.out
     by_cases hlt:i < l2
     ·have hlt':(i:Int) < l2:=by omega
      obtain ⟨b9,aK,u,qu,lq,lu,d1u,lC,lD,lF,rfl,_,gu,ru,cu,su,tu⟩:=HS2.out.nth hlt;have AZ:=hid cu;have Aw:=hid su;have Az:=hid tu;have hou:=gJ ps i u qu qV.out gu;have MN:en+qu.size<=100000:=by have:=To.dK ps i u qu gu;have:=X0.out;omega
      have hmd:=qY (lI most ev) vs i _ di (show vs[i]?=some (fH most u qu) by rw [<-N8.out];exact oP most ps i u qu gu);rw [hmd] at hf1 hf2;have hnr:(fH most u qu (lI most ev) di).2.next<=lf.2.next:=by
       rw [<-hf2];exact uP (nG most ev) (us:=vs.drop (i+1)) (fun v hv=>by rw [<-N8.out] at hv;exact nO most ps v (List.mem_of_mem_drop hv)) _
      obtain ⟨rt,hrt⟩:∃ rt,fH most u qu (lI most ev) di=rt:=⟨_,rfl⟩;have hr1:rt.1=di.next:=by rw [<-hrt];exact lG _ _ _ _ _
      rw [hrt] at hf1 hf2 hnr;rw [hr1] at hf1;have VB:=hid (IH.out i u qu gu);have xB:=hid hrt;have Qy:Hid (rt.2.next<=1000000):=Nat.le_trans hnr ML.out;have vO:=hid hf1;have MO:=hid hf2;clear hf1 hf2 hrt hr1 hnr hmd cu su tu gu ru;go_wp2_with fail;refine (gX _ _).mono ?_;rintro x w2 ⟨rfl,hq2⟩;have eF:=hid hq2;clear hq2 p0 p1 p2 p3 p4 a0 a1 a2 a3 a4 a5 a6 a7 a8;go_wp2_with (at_builtin;go_must (refine aY w2 rfl (.tmp 188) (.tmp 192) 22 rfl 24 _ 3 40 elemTy (.slice po i pc) i xs rfl (yJ.out.stay eF.out).own #[.int .i64 1,.int .i64 di.next,.slice none 0 0] rfl rfl ?c1 (by unfold maxLen;omega) (by omega) ?_);(case c1=>simp [Value.oneCell']));intro g4 c4 w4 mM hf4 hg4;have hlow:∀ k,(Value.slice po i pc).ownBlock=some k->zz<=k:=yJ.out.low;have ql:=hid ((yJ.out.stay eF.out).snoc (o':=none) (c1:=0) (di.next) mM (Nat.le_trans hzw eF.out.size) hg4);have HK4:=hid (yG (JR.out.stay eF.out) hf4 hg4 (n:=i+1) (c:=c4));have xk:=hid (aC hf4 (fun e=>by have:=hlow _ e;omega) (au eF.out qg.out));have xq:=hid (aC hf4 (fun e=>by have:=hlow _ e;omega) (au eF.out qh.out));have DF:=hid (aC hf4 (fun e=>by have:=hlow _ e;omega) (au eF.out uz.out));have fV:Hid (ah W w4):=Fr.trans' (nD.out.trans eF.out) hf4 (fun j hj e=>by have:=hlow j e;omega);have KH:B+1+1 < w4.heap.size:=lt_of_block DF.out;have MP:zz<=w4.heap.size:=Nat.le_trans hzw (Nat.le_trans eF.out.size hf4.size);clear mM hf4 hg4 hlow;have nY:Hid (∀ W',ah w4 W'->Calls Tryz.prog 37 #[iC rP rQ rU di.next most vI vJ vK qZ,bI u lq lu d1u lC lD lF,.slice eo en ec] W' (sS (Hz R B (.slice (some ⟨g4,0,none⟩) (i+1) c4)) W' most rt.2)):=fun W' hq=>by
       have hq':=fV.out.trans hq;have k:=VB.out (Hz R B (.slice (some ⟨g4,0,none⟩) (i+1) c4)) W' di qZ rP rQ rU vI vJ vK lq lu d1u lC lD lF eo en ec ev (HK4.out.stay hq) (Aw.out.fr hq' (og dW ql.out.low (by omega))) (Az.out.fr hq' (og dW ql.out.low (by omega))) (Kz.out.fr hq' (og dW ql.out.low (by omega))) vX MN Qx.out hou.1 hou.2 (by rw [xB.out];exact Qy.out);rw [xB.out] at k;exact k
      unfold bI iC at nY;obtain ⟨⟨p0,p1,p2,p3,p4⟩,_⟩:=five xk.out;obtain ⟨a0,a1,a2,a3,a4,a5,a6,a7,a8⟩:=aA xq.out;go_upto_region 42 with fail
      clear p0 p1 p2 p3 p4 a0 a1 a2 a3 a4 a5 a6 a7 a8;have bK:Hid (∀ W',ah w4 W'->(fun (W':World)=>(AO W' B (.slice rP rQ rU) (.int .i64 di.next) (.int .i64 most) (.slice vI vJ vK) (.int .i64 qZ))/\(qP W' (B+1) h o1 l1 c1 (some ⟨b9,aK,none⟩) l2 c2)/\(EC W' b9 (aK+i*9) u lq lu d1u lC lD lF)) W'):=fun W' hq=>by
       obtain ⟨k,_⟩:=five (au hq xk.out);exact ⟨k,aA (au hq xq.out),iq AZ.out (fV.out.trans hq)⟩
      refine dI 8 bK.out (by kernel_rfl) (fun hHeld=>?_)
      (try dsimp only at hHeld)
      have gZ:=ah.drew w4;generalize w4.drew=wd at *;refine HT.tk 0 rfl ?_;go_frame;refine HT.tk 1 rfl ?_;go_frame;refine HT.tk 2 rfl ?_;go_frame;refine HT.tk 3 rfl ?_;go_frame;refine HT.tk 4 rfl ?_;go_frame;refine HT.tk 5 rfl ?_;go_frame;refine HT.tk 6 rfl ?_;go_frame;refine HT.branch (rs:=[7]) (by kernel_rfl) (by simp) ?_;refine HT.cn 7 rfl (fun K hK=>?_) ?_
      ·go_simp;go_at_call 37
       with_reducible refine Calls.mono (nY.out _ gZ) ?_
       rintro e w9 ⟨Rk,Rn,Ro,Rq,Rt,Ru,AQ,rfl,hk9,tH⟩;have mg:=yH hk9 (Nat.lt_of_lt_of_le KH gZ.size) (fun k hk=>Nat.lt_of_lt_of_le (ql.out.lt k hk) gZ.size);have hqe:=gZ.trans tH;unfold iC;refine hK.out _ _ ?ach (fun hHeld=>?_)
       case ach=>exact bK.out _ hqe
       clear hK K
       (try go_frame)
       refine HT.last rfl (by kernel_rfl) (fun K hK=>?_);have hbs:=au hqe xk.out;obtain ⟨⟨p0,p1,p2,p3,p4⟩,y0,y1,y2,y3,y4⟩:=five hbs;have hend:=Bd AQ (by rw [FC.out];omega) (by rw [List.append_assoc];exact vO.out) MO.out (ql.out.stay hqe) hbs (au hqe xq.out) (au hqe DF.out) mg (fV.out.trans hqe) dW hzz (Nat.le_trans MP hqe.size);have zy:=hid hend;clear hend;go_simp;refine hK.out _ _ ?_;clear hK K
       (try go_frame)
       refine HT.done (by kernel_rfl) ?_ _;go_wp2_with fail;go_roundw
       case rel=>exact ⟨i+1,_,_,by go_num,rfl,zy.out⟩
       case measure=>simp [intOf];omega
      exact HT.bJ.nil
     ·have hlt':¬ (i:Int) < l2:=by omega
      have hi2:l2=i:=by omega
      subst hi2;have hd:vs.drop l2=[]:=List.drop_eq_nil_of_le (by rw [FC.out];exact Nat.le_refl _);rw [hd] at hf1 hf2;have hns:ns=lf.1:=by rw [<-hf1];show ns=ns++[];simp
      have hdl:di=lf.2:=hf2;clear hf1 hf2 hd;obtain ⟨lf1,lf2⟩:=lf;dsimp only at hns hdl;subst hns hdl;obtain ⟨hpt,hpc⟩:=yJ.out.at (R:=R) hzz (by unfold maxLen;omega);have hnl:=yJ.out.len;have Ea:=hid hpt;have HKq:=hid (Bc JR.out);clear hpt;have hl2:1<=l2:=by rw [HS2.out.1];exact Di.out.2.2.2.2.2.2.1 HK.out
      obtain ⟨b9,aK,u,qu,_,_,_,_,_,_,rfl,_,gu,_,cu,_,_⟩:=HS2.out.nth (i:=0) (by omega);have VD:aH ps 0=(u.fr,u.en):=by unfold aH;rw [gu]
      obtain ⟨_,_,_,_,_,_,_,u7,u8⟩:=cu
      (try simp only [Nat.zero_mul,Nat.add_zero] at u7 u8)
      obtain ⟨gp,n0,wS,n0c,rfl,Il,Dj,n01,n02⟩:=Ea.out.get (i:=0) (by rw [List.length_map,hnl];omega);obtain ⟨dA,hdA⟩:∃ dA,(dS most (tv n0) (h.tk,h.tn,h.tp) u.fr u.en di).2=dA:=⟨_,rfl⟩;have HA:=hid hdA;have LZ:Hid ((dS most (tv d.next) (h.tk,h.tn,h.tp) h.fr h.en dA).2=fin):=by show _=_;rw [<-HF3.out,<-hdA,VD,<-Il]
      have htz:h.tp.size<=100000:=Di.out.2.2.2.2.2.2.2;have HU7:=hid u7;have HU8:=hid u8;have hi0:(0:Int) < l2:=by omega
      have hj0:0 < l2:=by omega
      clear Il hdA VD gu u7 u8;have hzp:=hzx;have bK:Hid (∀ W',ah wx W'->(fun (W':World)=>(AO W' B (.slice rP rQ rU) (.int .i64 di.next) (.int .i64 most) (.slice vI vJ vK) (.int .i64 qZ))/\(qP W' (B+1) h o1 l1 c1 (some ⟨b9,aK,none⟩) l2 c2)/\(xw W' gp (.int .i64 1) (.int .i64 n0) (.slice wS 0 n0c))/\(W'.cell? ⟨b9,aK+7,none⟩=some (.int .i64 u.fr)/\W'.cell? ⟨b9,aK+8,none⟩=some (.int .i64 u.en))) W'):=fun W' hq=>by
       obtain ⟨k,_⟩:=five (au hq qg.out);exact ⟨k,aA (au hq qh.out),⟨hq.at Dj,hq.at n01,hq.at n02⟩,⟨(nD.out.trans hq).at HU7.out,(nD.out.trans hq).at HU8.out⟩⟩
      have iw:Hid (∀ W',ah wx W'->Calls Tryz.prog 58 #[iC rP rQ rU di.next most vI vJ vK qZ,.agg #[.int .i64 1,.int .i64 n0,.slice wS 0 n0c],.agg #[.int .i64 h.tk,.int .i64 h.tn,.slice o1 l1 c1],.agg #[.int .i64 u.fr,.int .i64 u.en]] W' (sS (RB R B) W' most dA)):=fun W' hq=>by
       have k:=add_any (o1:=wS) (l1:=0) (c1:=n0c) (o2:=o1) (l2:=l1) (c2:=c1) qZ (HKq.out.stay hq) hm (tv n0) ((h.tk,h.tn,h.tp)) u.fr u.en (aB.nil _ _ _) (ny.out.fr (nD.out.trans hq) (jL dW)) (Nat.le_of_ble_eq_true rfl) htz;rw [HA.out] at k;exact k
      unfold iC at iw;go_upto_region 52 with fail
      clear p0 p1 p2 p3 p4 a0 a1 a2 a3 a4 a5 a6 a7 a8 Dj n01 n02;go_cut [] from 266 to 277 (fun wy=>TmC R W B dA most h o1 l1 c1 (some ⟨b9,aK,none⟩) l2 c2 wy)
      case first =>
       refine dI 12 bK.out (by kernel_rfl) (fun hHeld=>?_)
       (try dsimp only at hHeld)
       have gZ:=ah.drew wx;generalize wx.drew=wd at gZ hHeld ⊢;refine HT.tk 0 rfl ?_;go_frame;refine HT.tk 1 rfl ?_;go_frame;refine HT.tk 2 rfl ?_;go_frame;refine HT.tk 3 rfl ?_;go_frame;refine HT.tk 4 rfl ?_;go_frame;refine HT.tk 5 rfl ?_;go_frame;refine HT.tk 6 rfl ?_;go_frame;refine HT.tk 7 rfl ?_;go_frame;refine HT.tk 8 rfl ?_;go_frame;refine HT.tk 9 rfl ?_;go_frame;refine HT.tk 10 rfl ?_;go_frame;refine HT.branch (rs:=[11]) (by kernel_rfl) (by simp) ?_;refine HT.cn 11 rfl (fun K hK=>?_) ?_
       ·go_simp;go_at_call 58
        with_reducible refine Calls.mono (iw.out _ gZ) ?_
        rintro e wv1 ⟨lo3,iO,iP,iQ,iR,iU,iD,rfl,hk3,qj⟩;have mg:=iM hk3 (Nat.lt_of_lt_of_le hzp gZ.size);have fP:=gZ.trans qj;unfold iC;refine hK.out _ _ ?aci (fun hHeld=>?_)
        case aci=>exact bK.out _ fP
        clear hK K
        (try go_frame)
        refine HT.last rfl (by kernel_rfl) (fun K hK=>?_);have hbs:=au fP qg.out;obtain ⟨⟨p0,p1,p2,p3,p4⟩,y0,y1,y2,y3,y4⟩:=five hbs;have hend:=kG iD hbs (au fP qh.out) (au fP uz.out) mg (nD.out.trans fP) dW;go_simp;refine hK.out _ _ ?_;clear hK K
        (try go_frame)
        refine HT.done (by kernel_rfl) ?_ _;go_wp2_with fail;go_meet;exact hend
       exact HT.bJ.nil
      case rest =>
       rename World=>Rx
       obtain ⟨lo7,ln7,lc7,oo7,on7,oc7,in7,hb0,ig,hb2,hk7,hq7⟩:=hcut;have X5:=hid hb0;have X6:=hid ig;have aaC:=hid hb2;have HK7:=hid hk7;have Ns:=hid hq7;clear hzp;have hzp:B+1+1 < Rx.heap.size:=lt_of_block hb2;clear hb0 ig hb2 hk7 hq7;have MQ:Hid (∀ W',ah Rx W'->(fun (W':World)=>(AO W' B (.slice lo7 ln7 lc7) (.int .i64 dA.next) (.int .i64 most) (.slice oo7 on7 oc7) (.int .i64 in7))/\(qP W' (B+1) h o1 l1 c1 (some ⟨b9,aK,none⟩) l2 c2)) W'):=fun W' hq=>by
        obtain ⟨k,_⟩:=five (au hq X5.out);exact ⟨k,aA (au hq X6.out)⟩
       clear iw;have iw:Hid (∀ W',ah Rx W'->Calls Tryz.prog 58 #[iC lo7 ln7 lc7 dA.next most oo7 on7 oc7 in7,.agg #[.int .i64 1,.int .i64 d.next,.slice none 0 0],.agg #[.int .i64 h.tk,.int .i64 h.tn,.slice o1 l1 c1],.agg #[.int .i64 h.fr,.int .i64 h.en]] W' (sS (RB R B) W' most fin)):=fun W' hq=>by
        have k:=add_any (o1:=none) (l1:=0) (c1:=0) (o2:=o1) (l2:=l1) (c2:=c1) in7 (HK7.out.stay hq) hm (tv d.next) ((h.tk,h.tn,h.tp)) h.fr h.en (aB.nil _ _ _) (ny.out.fr (Ns.out.trans hq) (jL dW)) (Nat.le_of_ble_eq_true rfl) htz;rw [LZ.out] at k;exact k
       unfold iC at iw;go_upto_region 53 with fail
       refine dI 8 MQ.out (by kernel_rfl) (fun hHeld=>?_)
       (try dsimp only at hHeld)
       have gZ:=ah.drew Rx;generalize Rx.drew=wd at gZ hHeld ⊢;refine HT.tk 0 rfl ?_;go_frame;refine HT.tk 1 rfl ?_;go_frame;refine HT.tk 3 rfl ?_;go_frame;refine HT.tk 4 rfl ?_;go_frame;refine HT.tk 5 rfl ?_;go_frame;refine HT.tk 6 rfl ?_;go_frame;refine HT.branch (rs:=[2]) (by kernel_rfl) (by simp) ?_;refine HT.cn 2 rfl (fun K hK=>?_) ?_
       ·go_simp;go_at_call 59
        with_reducible refine Calls.mono (gX _ _) ?_
        rintro e wv1 ⟨rfl,qj⟩;have fP:=gZ.trans qj;refine hK.out _ _ ?acj (fun hHeld=>?_)
        case acj=>exact MQ.out _ fP
        clear hK K
        (try go_frame)
        refine HT.branch (rs:=[7]) (by kernel_rfl) (by simp) ?_;refine HT.cn 7 rfl (fun K hK=>?_) ?_
        ·go_simp;go_at_call 58
         with_reducible refine Calls.mono (iw.out _ fP) ?_
         rintro e wv2 ⟨lo3,iO,iP,iQ,iR,iU,iD,rfl,hk3,rV⟩;have mg:=iM hk3 (Nat.lt_of_lt_of_le hzp fP.size);have gV:=fP.trans rV;unfold iC;refine hK.out _ _ ?acn (fun hHeld=>?_)
         case acn=>exact MQ.out _ gV
         clear hK K
         (try go_frame)
         refine HT.last rfl (by kernel_rfl) (fun K hK=>?_);have hbs:=au gV aaC.out;obtain ⟨⟨z0,z1,z2,z3,z4⟩,y0,y1,y2,y3,y4⟩:=five hbs;have dY:=Ns.out.trans gV;go_simp;refine hK.out _ _ ?_;clear hK K
         (try go_frame)
         refine HT.done (by kernel_rfl) ?_ _;clear z0 z1 z2 z3 z4 y0 y1 y2 y3 y4;generalize AP:bodyPost Tryz.prog Tryz.f37 (sS R W most fin)=BP at *;go_wp2_with fail;rw [<-AP];have hf:=fJ wv2 (B+1+1) (.slice lo3 iO iP) (.int .i64 fin.next) (.int .i64 most) (.slice iQ iR iU) (.int .i64 iD);obtain ⟨⟨f0,f1,f2,f3,f4⟩,_⟩:=five (bY (a:=(.slice lo3 iO iP)) (b:=(.int .i64 fin.next)) (c:=(.int .i64 most)) (d:=(.slice iQ iR iU)) (e:=(.int .i64 iD)) hbs);change bodyPost _ _ _ _ _ (iJ wv2 (B+1+1) (.slice lo3 iO iP) (.int .i64 fin.next) (.int .i64 most) (.slice iQ iR iU) (.int .i64 iD));have hend:=ni mg dY hf dW;generalize iJ wv2 (B+1+1) (.slice lo3 iO iP) (.int .i64 fin.next) (.int .i64 most) (.slice iQ iR iU) (.int .i64 iD)=wf at *;refine bodyPost_ret (by simp [results,Tryz.results37,go_sem,f0,f1,f2,f3,f4]<;>rfl) rfl ?_;exact ⟨lo3,iO,iP,iQ,iR,iU,iD,by (first | rfl | (rw [HF2.out]<;>rfl)),by (first | exact hend.1 | (rw [HF2.out];exact hend.1)),hend.2⟩
        exact HT.bJ.nil
       exact HT.bJ.nil
theorem X7 {most:Nat} (hm:most<=4000) (h:Nd) (ps:To):jU most h ps:=To.sG (T:=jU most) (Vx hm) h ps
theorem rk0 (R:Nat->Prop) (w:World) (most:Nat):gy R w most ⟨[],0⟩ none 0 0 none 0 0 :=
 ⟨rfl,Nat.le_refl _,⟨Nat.zero_le _,fun t ht=>(by cases ht),.inl rfl⟩,Nat.zero_le _,.inl rfl,Nat.zero_le _,Nat.le_refl _⟩
theorem QD {most : Nat} (hm : most <= 4000) (h : Nd) (ps : To) {R : Nat -> Prop} {w : World} {o1 : Option Addr} {l1 c1 : Nat} {o2 : Option Addr} {l2 c2 : Nat} (hs1 : aB R w o1 l1 h.tp) (hs : bD R w o2 l2 ps) (hz : ps.size <= 100000) (hok : Ri h ps.length) (mZ : vF ps) (hnb : (fH most h ps [] ⟨[], 0⟩).2.next <= 1000000) :
    Calls Tryz.prog 37 #[.agg #[.slice none 0 0,.int .i64 0,.int .i64 most,.slice none 0 0,.int .i64 0],bI h o1 l1 c1 o2 l2 c2,.slice none 0 0] w (sS R w most (fH most h ps [] ⟨[],0⟩).2) :=
 X7 hm h ps R w ⟨[],0⟩ 0 none 0 0 none 0 0 o1 l1 c1 o2 l2 c2 none 0 0 .nil (rk0 R w most) hs1 hs (EvS.nil _ _ _) (Nat.le_refl _) (by omega) trivial hok mZ hnb
end Em
end
end Go.Proofs.YtcninopmelmajaaGreatDoor
