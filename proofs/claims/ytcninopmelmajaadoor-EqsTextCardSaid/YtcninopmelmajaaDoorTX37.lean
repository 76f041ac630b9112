/-
  Texts laid together (RqOne): laws and walks, with their conditions.
-/
import Derived.Test.YtcninopmelmajaaDoorTX36
set_option maxHeartbeats 32000000
set_option maxRecDepth 1000000
namespace Go.Proofs.YtcninopmelmajaaDoor
open Go.Lib (hid)
section
open Go.RowKit
namespace Em
theorem VH {most:Nat} (hm:most<=4000) (h:Nd) (ps:To) (ih:∀ i g qs,ps.get i=some (g,qs)->iU most g qs):iU most h ps:=by
 intro R W d inn lo ln lc oo on oc o1 l1 c1 o2 l2 c2 eo en ec ev hrk hs1 hs2 hev vW hez hgd hok kF hnb;have IH:=hid ih;have Yd:=hid hez;have Hw:=hid hev.1;have hlz:l2<=100000:=by have:=To.length_le ps;have:=hs2.1;omega
 clear ih;obtain ⟨W0,hW0⟩:∃ W0,W0=(((W.alloc (.cells (r5 lo ln lc d.next most oo on oc inn) 61)).alloc (.cells (cells9 h o1 l1 c1 o2 l2 c2) 30)).alloc (.cells (#[.slice none 0 0,.int .i64 0,.int .i64 0,.slice none 0 0,.int .i64 0]) 61)):=⟨_,rfl⟩;have vG:ah W W0:=by rw [hW0];exact ((ah.alloc _ _).trans (ah.alloc _ _)).trans (ah.alloc _ _)
 have yC:(W.alloc (.cells (r5 lo ln lc d.next most oo on oc inn) 61)).heap.size=W.heap.size+1:=by simp
 have yD:((W.alloc (.cells (r5 lo ln lc d.next most oo on oc inn) 61)).alloc (.cells (cells9 h o1 l1 c1 o2 l2 c2) 30)).heap.size=W.heap.size+1+1:=by simp
 have yE:W0.heap[W.heap.size]?=some (.cells (r5 lo ln lc d.next most oo on oc inn) 61 (0,0)):=by
  rw [hW0];have k:=heap_alloc_new W (.cells (r5 lo ln lc d.next most oo on oc inn) 61);exact au ((ah.alloc _ _).trans (ah.alloc _ _)) k
 have yF:W0.heap[W.heap.size+1]?=some (.cells (cells9 h o1 l1 c1 o2 l2 c2) 30 (0,0)):=by
  rw [hW0];have k:=heap_alloc_new (W.alloc (.cells (r5 lo ln lc d.next most oo on oc inn) 61)) (.cells (cells9 h o1 l1 c1 o2 l2 c2) 30);rw [yC] at k;exact au (ah.alloc _ _) k
 have um:W0.heap[W.heap.size+1+1]?=some (.cells (#[.slice none 0 0,.int .i64 0,.int .i64 0,.slice none 0 0,.int .i64 0]) 61 (0,0)):=by
  rw [hW0];have k:=heap_alloc_new ((W.alloc (.cells (r5 lo ln lc d.next most oo on oc inn) 61)).alloc (.cells (cells9 h o1 l1 c1 o2 l2 c2) 30)) (.cells (#[.slice none 0 0,.int .i64 0,.int .i64 0,.slice none 0 0,.int .i64 0]) 61);rw [yD] at k;exact k
 clear yC yD;have hz0:W.heap.size+1+1 < W0.heap.size:=lt_of_block um;have bD:=hid vG;have HB0:=hid yE;have HB1:=hid yF;have HB2:=hid um;have HRK:=hid hrk;have nH:=hid hs1;have HS2:=hid hs2;have La:=hid hev;have QL:=hid hgd;have xA:=hid hok;have qO:=hid kF;have yM:=hid hnb;have hnx:=yG most h ps (mY most ev) d;have hn1:d.next+1<=1000000:=Nat.le_trans hnx hnb
 have hn0:d.next<=1000000:=by omega
 have hnw:IntKind.i64.wrap ((d.next:Int)+1)=((d.next+1:Nat):Int):=by rw [IntWalk.i64_in _ (by omega)];omega
 have aec:=hrk.onl;obtain ⟨fin,hfin⟩:∃ fin,(dZ most h ps (lq most ev) d).2=fin:=⟨_,rfl⟩;have bF:=hid hfin;rw [hfin];clear hez hrk hs1 hs2 hev hgd hok kF hnb vG yE yF um hnx hfin;unfold bP gK;go_enter Tryd.func20,Tryd.ntmps20;generalize dV:W.heap.size=B at *;go_upto_region 1 with fail
 rw [<-hW0];clear hW0;obtain ⟨⟨p0,p1,p2,p3,p4⟩,y0,y1,y2,y3,y4⟩:=five HB0.out;go_upto_region 3 with fail
 obtain ⟨d1,hd1⟩:∃ d1:Dk,d1={ d with next:=d.next+1 }:=⟨_,rfl⟩;have hdn:d1.next=d.next+1:=by rw [hd1]
 have hdL:d1.L=d.L:=by rw [hd1]
 rw [show ((d.next:Int)+1)=(d1.next:Int) from by omega];clear hnw;clear p0 p1 p2 p3 p4 y0 y1 y2 y3 y4;have hs:=Fr.setCell (fun i=>i=B) W0 ⟨B,1,none⟩ (.int .i64 d1.next) rfl;obtain ⟨w1,hw1⟩:∃ w1,w1=W0.setCell ⟨B,1,none⟩ (.int .i64 d1.next):=⟨_,rfl⟩;rw [<-hw1] at hs ⊢;have hb0:w1.heap[B]?=some (.cells (r5 lo ln lc d1.next most oo on oc inn) 61 (0,0)):=by rw [hw1];exact aF (i:=1) HB0.out
 have hb1:=aC hs (by intro h;have h':B+1=B:=h;omega) HB1.out;have hb2:=aC hs (by intro h;have h':B+1+1=B:=h;omega) HB2.out;have hq1:ah W w1:=Fr.trans' bD.out hs (fun i hi e=>by have e':i=B:=e;omega);have hR1:∀ k,k < W.heap.size->R k->RB R B k/\¬ False:=fun k hk hr=>⟨.inl ⟨hr,by omega⟩,fun h=>h⟩
 have hk1:=HRK.out.fr hq1 hR1;replace hk1:fH (RB R B) w1 most d1 lo ln lc oo on oc:=⟨by rw [hdL];exact hk1.len,hk1.cap,by rw [hdL];exact hk1.eqs,by rw [hdL];exact hk1.few,hk1.own,by rw [hdn];exact Nat.le_succ_of_le hk1.onl,hk1.onc⟩;have HD1:=hid hd1;have HDN:=hid hdn;have HDL:=hid hdL;clear hd1 hdn hdL;have VI:=hid hb0;have abO:=hid hb1;have abP:=hid hb2;have fD:=hid hq1;have KQ:=hid hk1;have hz1:B+1+1 < w1.heap.size:=lt_of_block hb2;clear hs hw1 hb0 hb1 hb2 hq1 hR1 hk1 hz0;obtain ⟨⟨p0,p1,p2,p3,p4⟩,y0,y1,y2,y3,y4⟩:=five VI.out;go_upto_if 24 with fail
 go_cut [] from 22 to 32 (fun wx=>TmS R W B d1 most h o1 l1 c1 o2 l2 c2 lo ln lc inn wx)
 case first =>
  by_cases hin:inn=0
  ·have hib:(inn == 0)=true:=by simp [hin]
   clear hin;obtain ⟨vl,hvl,hvc⟩:∃ vl:List Int,vl.length=on/\∀ (W':World),ah w1 W'->∀ (j:Nat) (u:Value),(vl.map (Value.int .i64))[j]?=some u->∃ a,oo=some a/\W'.cell? (a.add j)=some u:=by
    rcases KQ.out.own with e | ⟨b,off,e,hb,vl,h1,h2⟩
    ·exact ⟨[],e.symm,fun W' _ j u hj=>by simp at hj⟩
    ·refine ⟨vl,h1,fun W' hq j u hj=>?_⟩;rw [List.getElem?_map] at hj;obtain ⟨x,hx,rfl⟩:=Option.map_eq_some_iff.1 hj;exact ⟨_,e,by rw [Addr.add_lit];exact hq.at (h2 j x hx)⟩
   have WC:=hid hvc;clear hvc;clear p0 p1 p2 p3 p4 y0 y1 y2 y3 y4;obtain ⟨⟨p0,p1,p2,p3,p4⟩,y0,y1,y2,y3,y4⟩:=five (au (ah.alloc w1 (.cells #[] 3)) VI.out);have HOE:=hid (iZ (size:=1) (heap_alloc_new w1 (.cells #[] 3)));go_wp2_with (first
    | (at_builtin;(refine lK (w1.alloc (.cells #[] 3)) rfl (.tmp 25) (.tmp 27) 59 rfl 3 _ 1 8 GH (.slice (some ⟨w1.heap.size,0,none⟩) 0 0) 0 [] rfl HOE.out oo on oc (vl.map (Value.int .i64)) rfl (by simp [hvl]) (WC.out _ (ah.alloc _ _)) (by intro u hu;obtain ⟨z,_,rfl⟩:=List.mem_map.1 hu;rfl) (by unfold maxLen;omega) (by omega) ?_);intro o3 c3 w3 ho3 hf3 iE hnil3;simp only [Nat.zero_add,List.nil_append] at ho3 iE hnil3 ⊢;(have hq3:ah w1 w3:=Fr.trans' (ah.alloc w1 _) hf3 (fun i hi e=>by simp [Value.ownBlock] at e;omega)))
    | (at_builtin;(refine aX w3 rfl (.tmp 28) (.tmp 30) 59 rfl 3 _ 1 8 GH (.slice o3 on c3) on (vl.map (Value.int .i64)) rfl ho3 #[.int .i64 (d.next:Int)] rfl rfl (by simp [Value.oneCell']) (by unfold maxLen;omega) (by omega) ?_);intro g4 c4 w4 nM hf4 hg4;(obtain ⟨hq4,hgg⟩:=X7 hz1 hq3 iE hf4 hg4);clear p0 p1 p2 p3 p4 y0 y1 y2 y3 y4;obtain ⟨⟨p0,p1,p2,p3,p4⟩,y0,y1,y2,y3,y4⟩:=five (au hq4 VI.out)))
   go_meet;exact X8 (own:=d.next) KQ.out (by have k:=HDN.out;omega) fD.out hq4 dV VI.out abO.out abP.out nM hvl hgg
  ·have hib:(inn == 0)=false:=by simp [hin]
   clear hin;go_wp2_with fail;go_meet;exact ⟨oo,on,oc,VI.out,abO.out,abP.out,KQ.out,fD.out⟩
 case rest =>
  rename World=>wr
  clear p0 p1 p2 p3 p4 y0 y1 y2 y3 y4;obtain ⟨EC,ED,EF,hr0,hr1,hr2,hrk,hqr⟩:=hcut;have HR0:=hid hr0;have HR2:=hid hr2;have DW:=hid hrk;have Az:=hid hqr;have WM:B+1+1 < wr.heap.size:=lt_of_block hr2;have qX:=hid hrk.len;obtain ⟨⟨p0,p1,p2,p3,p4⟩,y0,y1,y2,y3,y4⟩:=five hr0;obtain ⟨a0,a1,a2,a3,a4,a5,a6,a7,a8⟩:=aA hr1;have PE:=hid hr1;clear hr0 hr1 hr2 hrk hqr
  by_cases hov:most < ln
  ·have aaB:(most:Int) < ln:=by omega
   have HF2:Hid (fin=d1):=by show _=_;rw [<-bF.out,MS (by rw [<-HDL.out,<-qX.out];exact hov),HD1.out]
   obtain ⟨⟨d0,d1,d2,d3,d4⟩,e0,e1,e2,e3,e4⟩:=five HR2.out;generalize Ba:bodyPost Tryd.prog Tryd.f20 (sW R W most fin)=BP at *;go_wp2_with fail;rw [<-Ba];clear d0 d1 d2 d3 d4 e0 e1 e2 e3 e4;have hf:=eU wr (B+1+1) (.slice lo ln lc) (.int .i64 d1.next) (.int .i64 most) (.slice EC ED EF) (.int .i64 inn);obtain ⟨⟨f0,f1,f2,f3,f4⟩,_⟩:=five (bV (a:=(.slice lo ln lc)) (b:=(.int .i64 d1.next)) (c:=(.int .i64 most)) (d:=(.slice EC ED EF)) (e:=(.int .i64 inn)) HR2.out);change bodyPost _ _ _ _ _ (iD wr (B+1+1) (.slice lo ln lc) (.int .i64 d1.next) (.int .i64 most) (.slice EC ED EF) (.int .i64 inn));have hend:=mV DW.out Az.out hf dV;generalize iD wr (B+1+1) (.slice lo ln lc) (.int .i64 d1.next) (.int .i64 most) (.slice EC ED EF) (.int .i64 inn)=wf at *;refine bodyPost_ret (by simp [results,Tryd.results20,go_sem,f0,f1,f2,f3,f4]<;>rfl) rfl ?_;exact ⟨lo,ln,lc,EC,ED,EF,inn,by (first | rfl | (rw [HF2.out]<;>rfl)),by (first | exact hend.1 | (rw [HF2.out];exact hend.1)),hend.2⟩
  ·have aaB:¬ (most:Int) < ln:=by omega
   have Rt:Hid (¬ most < d.L.length):=by show ¬ _;rw [<-HDL.out,<-qX.out];exact hov
   clear y0 y1 y2 y3 y4;have hkk:h.k=1∨h.k=2∨h.k=3∨h.k=4∨h.k=5∨(h.k=6∨h.k=7)∨h.k=8∨h.k=9∨h.k=10:=by have:=xA.out.1;omega
   rcases hkk with hk | hk | hk | hk | hk | Y5 | hk | hk | hk
   ·have t2:(h.k == 2)=false:=by rw [hk];rfl
    have t3:(h.k == 3)=false:=by rw [hk];rfl
    have t1:(h.k == 1)=true:=by rw [hk];rfl
    have HK:=hid hk;clear hk;have hez:=Yd.out;have Hw:=hid La.out.1;have aed:en<=100000:=by omega
    obtain ⟨aL,haL⟩:∃ a,pJ ev h.nm en0=a:=⟨_,rfl⟩;obtain ⟨kd,hkd⟩:∃ kd,Ou most aL d1=kd:=⟨_,rfl⟩;have hre:(dP most (tv d.next) (tv kd.1) h.fr h.en kd.2).2=fin:=by
     rw [<-bF.out,iR Rt.out,<-HD1.out];unfold jM;rw [if_neg (by rw [HK.out];decide),if_neg (by rw [HK.out];decide),if_pos HK.out,MV,haL];unfold fF jg;dsimp only;rw [hkd]
    have hkn:kd.2.next<=1000000:=by have k:=yM.out;rw [bF.out,<-hre,jJ] at k;exact k
    have HKD:=hid hkd;have HKN:=hid hkn;have HAL:=hid haL;have HF3:=hid hre;have HF2:Hid (fin=fin):=rfl;clear hre hkd hkn haL;go_wp2_with fail;obtain ⟨wl,hwl⟩:∃ wl,wl=wr.alloc (.cells (Ya en0 none 0 0 none 0 0 none 0 0) 79):=⟨_,rfl⟩;have hql:ah wr wl:=by rw [hwl];exact ah.alloc _ _
    have hbl:wl.heap[wr.heap.size]?=some (.cells (Ya en0 none 0 0 none 0 0 none 0 0) 79 (0,0)):=by rw [hwl];exact heap_alloc_new wr _
    obtain ⟨Bm,hBm⟩:∃ Bm,wr.heap.size=Bm:=⟨_,rfl⟩;rw [hBm] at hbl;have HBM:=hid hBm;have HBL:=hid hbl;have HQL:=hid hql;have hzm:B+1+1 < Bm:=by rw [<-hBm];exact WM
    clear p0 p1 p2 p3 p4 a0 a1 a2 a3 a4 a5 a6 a7 a8;change Code.wp _ _ _ _ (wr.alloc (.cells (Ya en0 none 0 0 none 0 0 none 0 0) 79));rw [<-hwl];simp only [hBm];clear hwl hbl hql hBm;go_loopw [9] (fun t wx=>∃ i:Nat,t=.int .i64 i/\i<=en/\ah wr wx/\abL R W most ev h.nm Bm i wx) (fun t _=>en-(intOf t).toNat)
    case atStart=>exact ⟨0,rfl,Nat.zero_le _,HQL.out,en0,none,0,0,none,0,0,none,0,0,HBL.out,by rw [Ev.drop_zero],Vt most,aav R W⟩
    case round =>
     rename World=>wx
     obtain ⟨i,rfl,hi,fJ,hvl⟩:=hrel;have yL:=hid fJ;obtain ⟨a,o1',l1',c1',o2',l2',c2',ao',an',ac',hbm,hla,hga,hin⟩:=hvl;have sK:=hid hbm;have YT:=hid hla;have HGA:=hid hga;have uN:=hid hin;clear fJ hbm hla hga hin;obtain ⟨⟨p0,p1,p2,p3,p4⟩,_⟩:=five (au yL.out HR0.out);obtain ⟨a0,a1,a2,a3,a4,a5,a6,a7,a8⟩:=aA (au yL.out PE.out)
     by_cases hlt:i < en
     ·have hlt':(i:Int) < en:=by omega
      obtain ⟨b,off,nm,v,ag,hh,pps,ar,o1x,l1x,c1x,o2x,l2x,c2x,aox,anx,acx,rfl,hdr,hce,hsx,htx,hex,hlx,hrb⟩:=La.out.nth hlt;have HDR:=hid hdr;have HSX:=hid hsx;have HTX:=hid htx;have HEX:=hid hex;have WG:=hid (hce.fr (Az.out.trans yL.out) (fun h=>h));obtain ⟨u0,u1,u2,u3,u4,u5,u6,u7,u8,u9,u10,u11,u12⟩:=WG.out;clear hdr hsx htx hex hce;cases hx:(nm.toList == h.nm.toList)
      ·go_upto_region 17 with fail
       go_quiet (fail);have yT:=ah.drewN wx nq;have Z4:=hid (yL.out.trans yT);have HBY:=hid (au yT sK.out);clear yT p0 p1 p2 p3 p4 a0 a1 a2 a3 a4 a5 a6 a7 a8 u0 u1 u2 u3 u4 u5 u6 u7 u8 u9 u10 u11 u12;generalize wx.drewN nq=wy at *;go_wp2_with fail;go_roundw
       case rel=>exact ⟨i+1,by go_num,by omega,Z4.out,a,o1',l1',c1',o2',l2',c2',ao',an',ac',HBY.out,by
        have k:=YT.out;rw [HDR.out] at k;rw [Aq] at k;rw [if_neg (fun e=>by rw [Sc.str_eq.2 e] at hx;cases hx)] at k;exact k,HGA.out,uN.out⟩
       case measure=>simp [intOf];omega
      ·go_upto_region 17 with fail
       go_quiet (fail);have yT:=ah.drewN wx nq;have Z4:=hid (yL.out.trans yT);have HBY:=hid (au yT sK.out);have HCY:=hid (WG.out.fr yT (fun h=>h));clear yT p0 p1 p2 p3 p4 a0 a1 a2 a3 a4 a5 a6 a7 a8 u0 u1 u2 u3 u4 u5 u6 u7 u8 u9 u10 u11 u12;generalize wx.drewN nq=wy at *;obtain ⟨⟨k0,k1,k2,k3,k4,k5,k6,k7,k8,k9,k10,k11,k12⟩,z0,z1,z2,z3,z4,z5,z6,z7,z8,z9,z10,z11,z12⟩:=thirteen HBY.out;obtain ⟨u0,u1,u2,u3,u4,u5,u6,u7,u8,u9,u10,u11,u12⟩:=HCY.out;have hend:ah wr (aN wy Bm (.string nm) (.int .i64 v) (.bool ag) (.int .i64 hh.k) (.string hh.nm) (.int .i64 hh.n) (.int .i64 hh.tk) (.int .i64 hh.tn) (.slice o1x l1x c1x) (.slice o2x l2x c2x) (.int .i64 hh.fr) (.int .i64 hh.en) (.slice aox anx acx))/\abL R W most ev h.nm Bm (i+1) (aN wy Bm (.string nm) (.int .i64 v) (.bool ag) (.int .i64 hh.k) (.string hh.nm) (.int .i64 hh.n) (.int .i64 hh.tk) (.int .i64 hh.tn) (.slice o1x l1x c1x) (.slice o2x l2x c2x) (.int .i64 hh.fr) (.int .i64 hh.en) (.slice aox anx acx)):=by
        have hf:=bg wy Bm (.string nm) (.int .i64 v) (.bool ag) (.int .i64 hh.k) (.string hh.nm) (.int .i64 hh.n) (.int .i64 hh.tk) (.int .i64 hh.tn) (.slice o1x l1x c1x) (.slice o2x l2x c2x) (.int .i64 hh.fr) (.int .i64 hh.en) (.slice aox anx acx);refine ⟨Fr.trans' Z4.out hf (fun i hi e=>by have e':i=Bm:=e;have:=HBM.out;omega),(nm,v,ag,hh,pps,ar),o1x,l1x,c1x,o2x,l2x,c2x,aox,anx,acx,aK HBY.out,?_,?_,HSX.out,HTX.out,HEX.out,hlx⟩
        ·have k:=YT.out;rw [HDR.out] at k;rw [Aq] at k;rw [if_pos (Sc.str_eq.1 hx)] at k;exact k
        ·have k:=QL.out.drop i;rw [HDR.out] at k;exact k.1
       have zC:=hid hend;clear hend;go_wp2_with fail;clear k0 k1 k2 k3 k4 k5 k6 k7 k8 k9 k10 k11 k12 u0 u1 u2 u3 u4 u5 u6 u7 u8 u9 u10 u11 u12 z0 z1 z2 z3 z4 z5 z6 z7 z8 z9 z10 z11 z12;go_roundw
       case rel=>exact ⟨i+1,by go_num,by omega,zC.out⟩
       case measure=>simp [intOf];omega
     ·have hlt':¬ (i:Int) < en:=by omega
      have hal:a=aL:=by
       have k:=YT.out;rw [show i=ev.length from by have:=Hw.out;omega,Ev.Kw,HAL.out] at k;exact k
      subst hal;clear YT HAL;obtain ⟨nm',v',ag',h',ps',YX⟩:=a;have HIS:=hid uN.out.1;have HIT:=hid uN.out.2.1;have HIE:=hid uN.out.2.2.1;have hil:an'<=ac':=uN.out.2.2.2;have VJ:=au yL.out HR0.out;have Ye:=au yL.out PE.out;have VK:=au yL.out HR2.out;obtain ⟨⟨k0,k1,k2,k3,k4,k5,k6,k7,k8,k9,k10,k11,k12⟩,_⟩:=thirteen sK.out;clear uN;dsimp only at HIS HIT HIE k0 k1 k2 k3 k4 k5 k6 k7 k8 k9 k10 k11 k12;cases ag'
      ·have hkd:kd=(v',d1):=by rw [<-HKD.out];rfl
       subst hkd;have adr:=hid VJ;have ads:=hid Ye;have adt:=hid VK;have HKx:=hid (DW.out.stay yL.out);have G8:=hid (Az.out.trans yL.out);have hzp:B+1+1 < wx.heap.size:=lt_of_block VK;clear VJ Ye VK;go_upto_region 24 with fail
       clear p0 p1 p2 p3 p4 a0 a1 a2 a3 a4 a5 a6 a7 a8 k0 k1 k2 k3 k4 k5 k6 k7 k8 k9 k10 k11 k12;have bK:Hid (∀ W',ah wx W'->(fun (W':World)=>(A8 W' B (.slice lo ln lc) (.int .i64 d1.next) (.int .i64 most) (.slice EC ED EF) (.int .i64 inn))/\(qV W' (B+1) h o1 l1 c1 o2 l2 c2)) W'):=fun W' hq=>by
        obtain ⟨k,_⟩:=five (au hq adr.out);exact ⟨k,aA (au hq ads.out)⟩
       have gI:Hid (∀ W',ah wx W'->Calls Tryd.prog 31 #[gK lo ln lc d1.next most EC ED EF inn,.agg #[.int .i64 1,.int .i64 d.next,.slice none 0 0],.agg #[.int .i64 1,.int .i64 v',.slice none 0 0],.agg #[.int .i64 h.fr,.int .i64 h.en]] W' (sW (RB R B) W' most fin)):=fun W' hq=>by
        have k:=add_any (o1:=none) (l1:=0) (c1:=0) (o2:=none) (l2:=0) (c2:=0) inn (HKx.out.stay hq) hm (tv d.next) (tv v') h.fr h.en (aB.nil _ _ _) (aB.nil _ _ _) (by show Fo.nil.size<=_;decide) (by show Fo.nil.size<=_;decide);have e:=HF3.out;dsimp only at e;rw [e] at k;exact k
       unfold gK at gI;refine dH 8 bK.out (by kernel_rfl) (fun hHeld=>?_)
       (try dsimp only at hHeld)
       have gq:=ah.drew wx;generalize wx.drew=wd at gq hHeld ⊢;refine HT.tk 0 rfl ?_;go_frame;refine HT.tk 1 rfl ?_;go_frame;refine HT.tk 3 rfl ?_;go_frame;refine HT.tk 5 rfl ?_;go_frame;refine HT.tk 6 rfl ?_;go_frame;refine HT.branch (rs:=[2]) (by kernel_rfl) (by simp) ?_;refine HT.cn 2 rfl (fun K hK=>?_) ?_
       ·go_simp;go_at_call 32
        with_reducible refine Calls.mono (fZ _ _) ?_
        rintro e wv1 ⟨rfl,pR⟩;have fA:=gq.trans pR;refine hK.out _ _ ?aaw (fun hHeld=>?_)
        case aaw=>exact bK.out _ fA
        clear hK K
        (try go_frame)
        refine HT.branch (rs:=[4]) (by kernel_rfl) (by simp) ?_;refine HT.cn 4 rfl (fun K hK=>?_) ?_
        ·go_simp;go_at_call 32
         with_reducible refine Calls.mono (fZ _ _) ?_
         rintro e wv2 ⟨rfl,rX⟩;have fU:=fA.trans rX;refine hK.out _ _ ?Vk (fun hHeld=>?_)
         case Vk=>exact bK.out _ fU
         clear hK K
         (try go_frame)
         refine HT.branch (rs:=[7]) (by kernel_rfl) (by simp) ?_;refine HT.cn 7 rfl (fun K hK=>?_) ?_
         ·go_simp;go_at_call 31
          with_reducible refine Calls.mono (gI.out _ fU) ?_
          rintro e Ez ⟨lo3,iG,iH,iI,iJ,iK,gX,rfl,hk3,DV⟩;have mg:=iF hk3 (Nat.lt_of_lt_of_le hzp fU.size);have oD:=fU.trans DV;unfold gK;refine hK.out _ _ ?aax (fun hHeld=>?_)
          case aax=>exact bK.out _ oD
          clear hK K
          (try go_frame)
          refine HT.last rfl (by kernel_rfl) (fun K hK=>?_);have hbs:=au oD adt.out;obtain ⟨⟨z0,z1,z2,z3,z4⟩,y0,y1,y2,y3,y4⟩:=five hbs;have dU:=G8.out.trans oD;go_simp;refine hK.out _ _ ?_;clear hK K
          (try go_frame)
          refine HT.done (by kernel_rfl) ?_ _;clear z0 z1 z2 z3 z4 y0 y1 y2 y3 y4;generalize Ba:bodyPost Tryd.prog Tryd.f20 (sW R W most fin)=BP at *;go_wp2_with fail;rw [<-Ba];have hf:=eU Ez (B+1+1) (.slice lo3 iG iH) (.int .i64 fin.next) (.int .i64 most) (.slice iI iJ iK) (.int .i64 gX);obtain ⟨⟨f0,f1,f2,f3,f4⟩,_⟩:=five (bV (a:=(.slice lo3 iG iH)) (b:=(.int .i64 fin.next)) (c:=(.int .i64 most)) (d:=(.slice iI iJ iK)) (e:=(.int .i64 gX)) hbs);change bodyPost _ _ _ _ _ (iD Ez (B+1+1) (.slice lo3 iG iH) (.int .i64 fin.next) (.int .i64 most) (.slice iI iJ iK) (.int .i64 gX));have hend:=mV mg dU hf dV;generalize iD Ez (B+1+1) (.slice lo3 iG iH) (.int .i64 fin.next) (.int .i64 most) (.slice iI iJ iK) (.int .i64 gX)=wf at *;refine bodyPost_ret (by simp [results,Tryd.results20,go_sem,f0,f1,f2,f3,f4]<;>rfl) rfl ?_;exact ⟨lo3,iG,iH,iI,iJ,iK,gX,by (first | rfl | (rw [HF2.out]<;>rfl)),by (first | exact hend.1 | (rw [HF2.out];exact hend.1)),hend.2⟩
         exact HT.bG.nil
        exact HT.bG.nil
       exact HT.bG.nil
      ·have hkd:jf most h' (dJ most ps') (lq most YX) d1=kd:=by rw [<-HKD.out];rfl
       have abQ:=hid hkd;obtain ⟨in2,hin2⟩:∃ x,IntKind.i64.wrap (inn+1)=x:=⟨_,rfl⟩;clear hkd p0 p1 p2 p3 p4;obtain ⟨⟨p0,p1,p2,p3,p4⟩,y0,y1,y2,y3,y4⟩:=five VJ;go_upto_region 22 with fail
       obtain ⟨w2,hw2⟩:∃ w2,w2=wx.setCell ⟨B,4,none⟩ (.int .i64 in2):=⟨_,rfl⟩;rw [<-hw2];obtain ⟨hb0,gB,hb2,hk2,hq2,hf2⟩:=Oz hw2 VJ Ye VK (DW.out.stay yL.out) (Az.out.trans yL.out) dV;have abR:=aC hf2 (by intro e;have e':Bm=B:=e;omega) sK.out;clear p0 p1 p2 p3 p4 y0 y1 y2 y3 y4 a0 a1 a2 a3 a4 a5 a6 a7 a8 k0 k1 k2 k3 k4 k5 k6 k7 k8 k9 k10 k11 k12 hw2 hf2 hin2 VJ Ye VK;have HKC:Hid (Calls Tryd.prog 33 #[gK lo ln lc d1.next most EC ED EF in2,bP h' o1' l1' c1' o2' l2' c2',.slice ao' an' ac'] w2 (KpQ (RB R B) w2 most kd)):=by
        have k:=HGA.out rfl (RB R B) w2 d1 in2 lo ln lc EC ED EF o1' l1' c1' o2' l2' c2' ao' an' ac' hk2 (HIS.out.fr hq2 (jG dV)) (HIT.out.fr hq2 (jG dV)) (HIE.out.fr hq2 (jG dV)) hil (by show (jf most h' (dJ most ps') (lq most YX) d1).2.next<=_;rw [abQ.out];exact HKN.out);change Calls _ _ _ _ (KpQ _ _ _ (jf most h' (dJ most ps') (lq most YX) d1)) at k;rw [abQ.out] at k;exact k
       have HZ0:=hid hb0;have HZ9:=hid gB;have HZ2:=hid hb2;have HZQ:=hid hq2;have hz2:B+1+1 < w2.heap.size:=lt_of_block hb2;clear hb0 gB hb2 hk2 hq2;unfold bP gK at HKC;obtain ⟨⟨k0,k1,k2,k3,k4,k5,k6,k7,k8,k9,k10,k11,k12⟩,_⟩:=thirteen abR;dsimp only at k0 k1 k2 k3 k4 k5 k6 k7 k8 k9 k10 k11 k12;obtain ⟨⟨p0,p1,p2,p3,p4⟩,_⟩:=five HZ0.out;clear abR;go_wp2_with fail;refine HKC.out.mono ?_;rintro x w3 ⟨lo6,ln6,lc6,oo6,on6,oc6,gX,rfl,hk3,hq3⟩;clear p0 p1 p2 p3 p4 k0 k1 k2 k3 k4 k5 k6 k7 k8 k9 k10 k11 k12;have hb0:=au hq3 HZ0.out;obtain ⟨⟨p0,p1,p2,p3,p4⟩,y0,y1,y2,y3,y4⟩:=five hb0;obtain ⟨in4,adu⟩:∃ x,IntKind.i64.wrap (gX-1)=x:=⟨_,rfl⟩;unfold gK;go_upto_region 24 with fail
       clear p0 p1 p2 p3 p4 y0 y1 y2 y3 y4 adu;obtain ⟨w4,hw4⟩:∃ w4,w4=iD w3 B (.slice lo6 ln6 lc6) (.int .i64 kd.2.next) (.int .i64 most) (.slice oo6 on6 oc6) (.int .i64 gX):=⟨_,rfl⟩;change Code.wp _ _ _ _ ((iD w3 B (.slice lo6 ln6 lc6) (.int .i64 kd.2.next) (.int .i64 most) (.slice oo6 on6 oc6) (.int .i64 gX)).setCell ⟨B,4,none⟩ (.int .i64 in4));rw [<-hw4];obtain ⟨wp,hwp⟩:∃ wp,wp=w4.setCell ⟨B,4,none⟩ (.int .i64 in4):=⟨_,rfl⟩;rw [<-hwp];obtain ⟨hb0,gB,hb2,hkp,QN⟩:=Kv hw4 hb0 (au hq3 HZ9.out) (au hq3 HZ2.out) (iF hk3 hz2) (HZQ.out.trans hq3) dV;obtain ⟨hb0,gB,hb2,hkp,QN,_⟩:=Oz hwp hb0 gB hb2 hkp QN dV;clear hk3 hq3;have Lc:=hid hb0;have vH:=hid gB;have zJ:=hid hb2;have HKp:=hid hkp;have sV:=hid QN;have hzp:B+1+1 < wp.heap.size:=lt_of_block hb2;clear hwp hw4 hb0 gB hb2 hkp QN;have bK:Hid (∀ W',ah wp W'->(fun (W':World)=>(A8 W' B (.slice lo6 ln6 lc6) (.int .i64 kd.2.next) (.int .i64 most) (.slice oo6 on6 oc6) (.int .i64 in4))/\(qV W' (B+1) h o1 l1 c1 o2 l2 c2)) W'):=fun W' hq=>by
        obtain ⟨k,_⟩:=five (au hq Lc.out);exact ⟨k,aA (au hq vH.out)⟩
       have gI:Hid (∀ W',ah wp W'->Calls Tryd.prog 31 #[gK lo6 ln6 lc6 kd.2.next most oo6 on6 oc6 in4,.agg #[.int .i64 1,.int .i64 d.next,.slice none 0 0],.agg #[.int .i64 1,.int .i64 kd.1,.slice none 0 0],.agg #[.int .i64 h.fr,.int .i64 h.en]] W' (sW (RB R B) W' most fin)):=fun W' hq=>by
        have k:=add_any (o1:=none) (l1:=0) (c1:=0) (o2:=none) (l2:=0) (c2:=0) in4 (HKp.out.stay hq) hm (tv d.next) (tv kd.1) h.fr h.en (aB.nil _ _ _) (aB.nil _ _ _) (by show Fo.nil.size<=_;decide) (by show Fo.nil.size<=_;decide);rw [HF3.out] at k;exact k
       unfold gK at gI;refine dH 8 bK.out (by kernel_rfl) (fun hHeld=>?_)
       (try dsimp only at hHeld)
       have gq:=ah.drew wp;generalize wp.drew=wd at gq hHeld ⊢;refine HT.tk 0 rfl ?_;go_frame;refine HT.tk 1 rfl ?_;go_frame;refine HT.tk 3 rfl ?_;go_frame;refine HT.tk 5 rfl ?_;go_frame;refine HT.tk 6 rfl ?_;go_frame;refine HT.branch (rs:=[2]) (by kernel_rfl) (by simp) ?_;refine HT.cn 2 rfl (fun K hK=>?_) ?_
       ·go_simp;go_at_call 32
        with_reducible refine Calls.mono (fZ _ _) ?_
        rintro e wv1 ⟨rfl,pR⟩;have fA:=gq.trans pR;refine hK.out _ _ ?aas (fun hHeld=>?_)
        case aas=>exact bK.out _ fA
        clear hK K
        (try go_frame)
        refine HT.branch (rs:=[4]) (by kernel_rfl) (by simp) ?_;refine HT.cn 4 rfl (fun K hK=>?_) ?_
        ·go_simp;go_at_call 32
         with_reducible refine Calls.mono (fZ _ _) ?_
         rintro e wv2 ⟨rfl,rX⟩;have fU:=fA.trans rX;refine hK.out _ _ ?Vl (fun hHeld=>?_)
         case Vl=>exact bK.out _ fU
         clear hK K
         (try go_frame)
         refine HT.branch (rs:=[7]) (by kernel_rfl) (by simp) ?_;refine HT.cn 7 rfl (fun K hK=>?_) ?_
         ·go_simp;go_at_call 31
          with_reducible refine Calls.mono (gI.out _ fU) ?_
          rintro e Ez ⟨lo3,iG,iH,iI,iJ,iK,gX,rfl,hk3,DV⟩;have mg:=iF hk3 (Nat.lt_of_lt_of_le hzp fU.size);have oD:=fU.trans DV;unfold gK;refine hK.out _ _ ?Vm (fun hHeld=>?_)
          case Vm=>exact bK.out _ oD
          clear hK K
          (try go_frame)
          refine HT.last rfl (by kernel_rfl) (fun K hK=>?_);have hbs:=au oD zJ.out;obtain ⟨⟨z0,z1,z2,z3,z4⟩,y0,y1,y2,y3,y4⟩:=five hbs;have dU:=sV.out.trans oD;go_simp;refine hK.out _ _ ?_;clear hK K
          (try go_frame)
          refine HT.done (by kernel_rfl) ?_ _;clear z0 z1 z2 z3 z4 y0 y1 y2 y3 y4;generalize Ba:bodyPost Tryd.prog Tryd.f20 (sW R W most fin)=BP at *;go_wp2_with fail;rw [<-Ba];have hf:=eU Ez (B+1+1) (.slice lo3 iG iH) (.int .i64 fin.next) (.int .i64 most) (.slice iI iJ iK) (.int .i64 gX);obtain ⟨⟨f0,f1,f2,f3,f4⟩,_⟩:=five (bV (a:=(.slice lo3 iG iH)) (b:=(.int .i64 fin.next)) (c:=(.int .i64 most)) (d:=(.slice iI iJ iK)) (e:=(.int .i64 gX)) hbs);change bodyPost _ _ _ _ _ (iD Ez (B+1+1) (.slice lo3 iG iH) (.int .i64 fin.next) (.int .i64 most) (.slice iI iJ iK) (.int .i64 gX));have hend:=mV mg dU hf dV;generalize iD Ez (B+1+1) (.slice lo3 iG iH) (.int .i64 fin.next) (.int .i64 most) (.slice iI iJ iK) (.int .i64 gX)=wf at *;refine bodyPost_ret (by simp [results,Tryd.results20,go_sem,f0,f1,f2,f3,f4]<;>rfl) rfl ?_;exact ⟨lo3,iG,iH,iI,iJ,iK,gX,by (first | rfl | (rw [HF2.out]<;>rfl)),by (first | exact hend.1 | (rw [HF2.out];exact hend.1)),hend.2⟩
         exact HT.bG.nil
        exact HT.bG.nil
       exact HT.bG.nil
   ·have t2:(h.k == 2)=true:=by rw [hk];rfl
    have HK:=hid hk;clear hk;have HF3:Hid ((dP most (tv d.next) (2,0,.nil) h.fr h.en d1).2=fin):=by
     show _=_
     rw [<-bF.out,iR Rt.out,HD1.out];unfold jM;rw [if_pos HK.out];rfl
    have HF2:Hid (fin=fin):=rfl;have gI:Hid (∀ W',ah wr W'->Calls Tryd.prog 31 #[gK lo ln lc d1.next most EC ED EF inn,.agg #[.int .i64 1,.int .i64 d.next,.slice none 0 0],.agg #[.int .i64 2,.int .i64 0,.slice none 0 0],.agg #[.int .i64 h.fr,.int .i64 h.en]] W' (sW (RB R B) W' most fin)):=fun W' hq=>by
     have k:=add_any (o1:=none) (l1:=0) (c1:=0) (o2:=none) (l2:=0) (c2:=0) inn (DW.out.stay hq) hm (tv d.next) (2,0,.nil) h.fr h.en (aB.nil _ _ _) (aB.nil _ _ _) (by show Fo.nil.size<=_;decide) (by show Fo.nil.size<=_;decide);rw [HF3.out] at k;exact k
    unfold gK at gI;go_upto_region 9 with fail
    have bK:Hid (∀ W',ah wr W'->(fun (W':World)=>(A8 W' B (.slice lo ln lc) (.int .i64 d1.next) (.int .i64 most) (.slice EC ED EF) (.int .i64 inn))/\(W'.cell? ⟨B+1,7,none⟩=some (.int .i64 h.fr)/\W'.cell? ⟨B+1,8,none⟩=some (.int .i64 h.en))) W'):=fun W' hq=>by
     obtain ⟨k,_⟩:=five (au hq HR0.out);obtain ⟨_,_,_,_,_,_,_,k7,k8⟩:=aA (au hq PE.out);exact ⟨k,k7,k8⟩
    clear p0 p1 p2 p3 p4 a0 a1 a2 a3 a4 a5 a6 a7 a8;refine dH 7 bK.out (by kernel_rfl) (fun hHeld=>?_)
    (try dsimp only at hHeld)
    have gq:=ah.drew wr;generalize wr.drew=wd at *;refine HT.tk 0 rfl ?_;go_frame;refine HT.tk 1 rfl ?_;go_frame;refine HT.tk 3 rfl ?_;go_frame;refine HT.tk 4 rfl ?_;go_frame;refine HT.tk 5 rfl ?_;go_frame;refine HT.branch (rs:=[2]) (by kernel_rfl) (by simp) ?_;refine HT.cn 2 rfl (fun K hK=>?_) ?_
    ·go_simp;go_at_call 32
     with_reducible refine Calls.mono (fZ _ _) ?_
     rintro e w2 ⟨rfl,hq2⟩;have hqa:=gq.trans hq2;refine hK.out _ _ ?Vo (fun hHeld=>?_)
     case Vo=>exact bK.out _ hqa
     clear hK K
     (try go_frame)
     refine HT.branch (rs:=[6]) (by kernel_rfl) (by simp) ?_;refine HT.cn 6 rfl (fun K hK=>?_) ?_
     ·go_simp;go_at_call 31
      with_reducible refine Calls.mono (gI.out _ hqa) ?_
      rintro e w3 ⟨lo3,iG,iH,iI,iJ,iK,gX,rfl,hk3,hq3⟩;have pX:=hqa.trans hq3;unfold gK;refine hK.out _ _ ?aay (fun hHeld=>?_)
      case aay=>exact bK.out _ pX
      clear hK K
      (try go_frame)
      refine HT.last rfl (by kernel_rfl) (fun K hK=>?_);have hbs:=au pX HR2.out;obtain ⟨⟨d0,d1,d2,d3,d4⟩,y0,y1,y2,y3,y4⟩:=five hbs;have mg:=iF hk3 (Nat.lt_of_lt_of_le WM hqa.size);have dU:=Az.out.trans pX;go_simp;refine hK.out _ _ ?_;clear hK K
      (try go_frame)
      refine HT.done (by kernel_rfl) ?_ _;generalize Ba:bodyPost Tryd.prog Tryd.f20 (sW R W most fin)=BP;go_wp2_with fail;rw [<-Ba];have hf:=eU w3 (B+1+1) (.slice lo3 iG iH) (.int .i64 fin.next) (.int .i64 most) (.slice iI iJ iK) (.int .i64 gX);obtain ⟨⟨f0,f1,f2,f3,f4⟩,_⟩:=five (bV (a:=(.slice lo3 iG iH)) (b:=(.int .i64 fin.next)) (c:=(.int .i64 most)) (d:=(.slice iI iJ iK)) (e:=(.int .i64 gX)) hbs);change bodyPost _ _ _ _ _ (iD w3 (B+1+1) (.slice lo3 iG iH) (.int .i64 fin.next) (.int .i64 most) (.slice iI iJ iK) (.int .i64 gX));have hend:=mV mg dU hf dV;generalize iD w3 (B+1+1) (.slice lo3 iG iH) (.int .i64 fin.next) (.int .i64 most) (.slice iI iJ iK) (.int .i64 gX)=wf at *;refine bodyPost_ret (by simp [results,Tryd.results20,go_sem,f0,f1,f2,f3,f4]<;>rfl) rfl ?_;exact ⟨lo3,iG,iH,iI,iJ,iK,gX,by (first | rfl | (rw [HF2.out]<;>rfl)),by (first | exact hend.1 | (rw [HF2.out];exact hend.1)),hend.2⟩
     exact HT.bG.nil
    exact HT.bG.nil
   ·have t2:(h.k == 2)=false:=by rw [hk];rfl
    have t3:(h.k == 3)=true:=by rw [hk];rfl
    have HK:=hid hk;clear hk;have HF3:Hid ((dP most (tv d.next) (3,0,.nil) h.fr h.en d1).2=fin):=by
     show _=_
     rw [<-bF.out,iR Rt.out,HD1.out];unfold jM;rw [if_neg (by rw [HK.out];decide),if_pos HK.out];rfl
    have HF2:Hid (fin=fin):=rfl;have gI:Hid (∀ W',ah wr W'->Calls Tryd.prog 31 #[gK lo ln lc d1.next most EC ED EF inn,.agg #[.int .i64 1,.int .i64 d.next,.slice none 0 0],.agg #[.int .i64 3,.int .i64 0,.slice none 0 0],.agg #[.int .i64 h.fr,.int .i64 h.en]] W' (sW (RB R B) W' most fin)):=fun W' hq=>by
     have k:=add_any (o1:=none) (l1:=0) (c1:=0) (o2:=none) (l2:=0) (c2:=0) inn (DW.out.stay hq) hm (tv d.next) (3,0,.nil) h.fr h.en (aB.nil _ _ _) (aB.nil _ _ _) (by show Fo.nil.size<=_;decide) (by show Fo.nil.size<=_;decide);rw [HF3.out] at k;exact k
    unfold gK at gI;go_upto_region 11 with fail
    have bK:Hid (∀ W',ah wr W'->(fun (W':World)=>(A8 W' B (.slice lo ln lc) (.int .i64 d1.next) (.int .i64 most) (.slice EC ED EF) (.int .i64 inn))/\(W'.cell? ⟨B+1,7,none⟩=some (.int .i64 h.fr)/\W'.cell? ⟨B+1,8,none⟩=some (.int .i64 h.en))) W'):=fun W' hq=>by
     obtain ⟨k,_⟩:=five (au hq HR0.out);obtain ⟨_,_,_,_,_,_,_,k7,k8⟩:=aA (au hq PE.out);exact ⟨k,k7,k8⟩
    clear p0 p1 p2 p3 p4 a0 a1 a2 a3 a4 a5 a6 a7 a8;refine dH 7 bK.out (by kernel_rfl) (fun hHeld=>?_)
    (try dsimp only at hHeld)
    have gq:=ah.drew wr;generalize wr.drew=wd at *;refine HT.tk 0 rfl ?_;go_frame;refine HT.tk 1 rfl ?_;go_frame;refine HT.tk 3 rfl ?_;go_frame;refine HT.tk 4 rfl ?_;go_frame;refine HT.tk 5 rfl ?_;go_frame;refine HT.branch (rs:=[2]) (by kernel_rfl) (by simp) ?_;refine HT.cn 2 rfl (fun K hK=>?_) ?_
    ·go_simp;go_at_call 32
     with_reducible refine Calls.mono (fZ _ _) ?_
     rintro e w2 ⟨rfl,hq2⟩;have hqa:=gq.trans hq2;refine hK.out _ _ ?Vp (fun hHeld=>?_)
     case Vp=>exact bK.out _ hqa
     clear hK K
     (try go_frame)
     refine HT.branch (rs:=[6]) (by kernel_rfl) (by simp) ?_;refine HT.cn 6 rfl (fun K hK=>?_) ?_
     ·go_simp;go_at_call 31
      with_reducible refine Calls.mono (gI.out _ hqa) ?_
      rintro e w3 ⟨lo3,iG,iH,iI,iJ,iK,gX,rfl,hk3,hq3⟩;have pX:=hqa.trans hq3;unfold gK;refine hK.out _ _ ?Vq (fun hHeld=>?_)
      case Vq=>exact bK.out _ pX
      clear hK K
      (try go_frame)
      refine HT.last rfl (by kernel_rfl) (fun K hK=>?_);have hbs:=au pX HR2.out;obtain ⟨⟨d0,d1,d2,d3,d4⟩,y0,y1,y2,y3,y4⟩:=five hbs;have mg:=iF hk3 (Nat.lt_of_lt_of_le WM hqa.size);have dU:=Az.out.trans pX;go_simp;refine hK.out _ _ ?_;clear hK K
      (try go_frame)
      refine HT.done (by kernel_rfl) ?_ _;generalize Ba:bodyPost Tryd.prog Tryd.f20 (sW R W most fin)=BP;go_wp2_with fail;rw [<-Ba];have hf:=eU w3 (B+1+1) (.slice lo3 iG iH) (.int .i64 fin.next) (.int .i64 most) (.slice iI iJ iK) (.int .i64 gX);obtain ⟨⟨f0,f1,f2,f3,f4⟩,_⟩:=five (bV (a:=(.slice lo3 iG iH)) (b:=(.int .i64 fin.next)) (c:=(.int .i64 most)) (d:=(.slice iI iJ iK)) (e:=(.int .i64 gX)) hbs);change bodyPost _ _ _ _ _ (iD w3 (B+1+1) (.slice lo3 iG iH) (.int .i64 fin.next) (.int .i64 most) (.slice iI iJ iK) (.int .i64 gX));have hend:=mV mg dU hf dV;generalize iD w3 (B+1+1) (.slice lo3 iG iH) (.int .i64 fin.next) (.int .i64 most) (.slice iI iJ iK) (.int .i64 gX)=wf at *;refine bodyPost_ret (by simp [results,Tryd.results20,go_sem,f0,f1,f2,f3,f4]<;>rfl) rfl ?_;exact ⟨lo3,iG,iH,iI,iJ,iK,gX,by (first | rfl | (rw [HF2.out]<;>rfl)),by (first | exact hend.1 | (rw [HF2.out];exact hend.1)),hend.2⟩
     exact HT.bG.nil
    exact HT.bG.nil
   ·have t2:(h.k == 2)=false:=by rw [hk];rfl
    have t3:(h.k == 3)=false:=by rw [hk];rfl
    have t1:(h.k == 1)=false:=by rw [hk];rfl
    have t4:(h.k == 4)=true:=by rw [hk];rfl
    have HK:=hid hk;have hl2:1<=l2:=by rw [HS2.out.1];exact xA.out.2.1 hk
    clear hk;obtain ⟨b9,aJ,v0,qv0,r1v,n1v,e1v,r2v,n2v,e2v,e9,_⟩:=HS2.out.nth (i:=0) (by omega);subst e9;obtain ⟨b9',J5,u,qu,kS,kT,d1u,kU,kV,kW,e9,_,gu,ru,cu,su,tu⟩:=HS2.out.nth (i:=0) (by omega);injection e9 with e9
    injection e9 with e9 e9'
    subst e9 e9';simp only [Nat.zero_mul,Nat.add_zero] at cu;have VO:=hid (IH.out 0 u qu gu);have KW:=hid gu;have Bj:=hid cu;have AV:=hid su;have AX:=hid tu;have hzu:=To.dG ps 0 u qu gu;have hou:=fO ps 0 u qu qO.out gu;have hlz:en+1+qu.size<=100000:=by have:=Yd.out;omega
    have hi0:(0:Int) < l2:=by omega
    have hj0:0 < l2:=by omega
    clear gu ru cu su tu hzu;obtain ⟨d2,hd2⟩:∃ d2:Dk,d2={ d1 with next:=d1.next+1 }:=⟨_,rfl⟩;have hdn:d2.next=d1.next+1:=by rw [hd2]
    obtain ⟨rt,hrt⟩:∃ rt,dZ most u qu (lq most (ev.snoc h.nm d1.next false nd0 .nil .nil)) d2=rt:=⟨_,rfl⟩;have hre:(dP most (tv d.next) (iO (tv d1.next) (tv d2.next)) h.fr h.en rt.2).2=fin:=by
     have e1:rt.1=d2.next:=by rw [<-hrt];exact kX _ _ _ _ _
     rw [<-bF.out,iR Rt.out,<-HD1.out,<-e1,<-hrt,OA,hd2];unfold jM;rw [if_neg (by rw [HK.out];decide),if_neg (by rw [HK.out];decide),if_neg (by rw [HK.out];decide),if_pos HK.out];unfold fF jU jg;dsimp only;rw [Bl KW.out]
     all_goals rfl
    have hnt:rt.2.next<=1000000:=by have k:=yM.out;rw [bF.out,<-hre,jJ] at k;exact k
    have hnx:d2.next+1<=rt.2.next:=by rw [<-hrt];exact yG most u qu (mY most _) d2
    have hnw:IntKind.i64.wrap ((d1.next:Int)+1)=((d1.next+1:Nat):Int):=by rw [IntWalk.i64_in _ (by omega)];omega
    have yN:=hid hrt;have QM:=hid hnt;have HD2:=hid hd2;have adv:=hid hdn;have HF3:=hid hre;have HF2:Hid (fin=fin):=rfl;clear hre hrt hnt hnx hd2 hdn;clear p0 p1 p2 p3 p4;obtain ⟨⟨p0,p1,p2,p3,p4⟩,y0,y1,y2,y3,y4⟩:=five HR0.out;go_upto_region 29 with fail
    rw [show ((d1.next:Int)+1)=(d2.next:Int) from by have:=adv.out;omega];clear p0 p1 p2 p3 p4 y0 y1 y2 y3 y4 a0 a1 a2 a3 a4 a5 a6 a7 a8;obtain ⟨wp,hwp⟩:∃ wp,wp=wr.setCell ⟨B,1,none⟩ (.int .i64 d2.next):=⟨_,rfl⟩;rw [<-hwp];obtain ⟨hb0,gB,hb2,hkp,QN⟩:=Oy HD2.out hwp HR0.out PE.out HR2.out DW.out Az.out dV;have Lc:=hid hb0;have vH:=hid gB;have zJ:=hid hb2;have HKp:=hid hkp;have sV:=hid QN;have hzp:B+1+1 < wp.heap.size:=lt_of_block hb2;clear hwp hb0 gB hb2 hkp QN;clear hnw;obtain ⟨xs,hrow,hxl,hxo,hxc⟩:=La.out.row;have MR:=hid hxc;have kZ:=hid hrow;clear hrow hxc;have nT:Hid (∀ W' o c,ah wp W'->EvS (RB R B) W' o (en+1) (ev.snoc h.nm d1.next false nd0 .nil .nil)->en+1<=c->Calls Tryd.prog 20 #[gK lo ln lc d2.next most EC ED EF inn,bP u kS kT d1u kU kV kW,.slice o (en+1) c] W' (sW (RB R B) W' most rt.2)):=fun W' o c hq he hc=>by
     have hq':=sV.out.trans hq;have k:=VO.out (RB R B) W' d2 inn lo ln lc EC ED EF kS kT d1u kU kV kW o (en+1) c _ (HKp.out.stay hq) (AV.out.fr hq' (jG dV)) (AX.out.fr hq' (jG dV)) he hc hlz (Good.snoc (fun e=>by cases e) QL.out) hou.1 hou.2 (by rw [yN.out];exact QM.out);rw [yN.out] at k;exact k
    unfold bP gK at nT;have bK:Hid (∀ W',ah wp W'->(fun (W':World)=>(A8 W' B (.slice lo ln lc) (.int .i64 d2.next) (.int .i64 most) (.slice EC ED EF) (.int .i64 inn))/\(qV W' (B+1) h o1 l1 c1 (some ⟨b9,aJ,none⟩) l2 c2)/\(ES W' b9 aJ u kS kT d1u kU kV kW)) W'):=fun W' hq=>by
     obtain ⟨k,_⟩:=five (au hq Lc.out);exact ⟨k,aA (au hq vH.out),gG Bj.out (sV.out.trans hq)⟩
    go_cut [] from 119 to 133 (fun wx=>TmC R W B rt.2 most h o1 l1 c1 (some ⟨b9,aJ,none⟩) l2 c2 wx)
    case first =>
     refine dH 15 bK.out (by kernel_rfl) (fun hHeld=>?_)
     (try dsimp only at hHeld)
     have gq:=ah.drew wp;generalize wp.drew=wd at gq hHeld ⊢;refine HT.tk 0 rfl ?_;go_frame;refine HT.tk 1 rfl ?_;go_frame;refine HT.tk 2 rfl ?_;go_frame;refine HT.tk 3 rfl ?_;go_frame;refine HT.tk 4 rfl ?_;go_frame;refine HT.tk 6 rfl ?_;go_frame;refine HT.tk 8 rfl ?_;go_frame;refine HT.tk 9 rfl ?_;go_frame;refine HT.tk 10 rfl ?_;go_frame;refine HT.tk 11 rfl ?_;go_frame;refine HT.branch (rs:=[5,12]) (by kernel_rfl) (by simp) ?_;refine HT.cn 5 rfl (fun K hK=>?_) ?_
     ·go_simp;obtain ⟨qB,kG⟩:∃ wa,wa=wd.alloc (.cells #[] 79):=⟨_,rfl⟩;have hqa:ah wd qB:=by rw [kG];exact ah.alloc _ _
      have hown:=iZ (size:=13) (show qB.heap[wd.heap.size]?=some (.cells #[] 79 (0,0)) by rw [kG];exact heap_alloc_new wd _);have hgl:wp.heap.size<=wd.heap.size:=(gq).size;have mQ:=(gq).trans hqa;rw [<-kG];clear kG;generalize wd.heap.size=ga at hown hgl ⊢;refine hK.out _ _ ?Kr (fun hHeld=>?_)
      case Kr=>exact bK.out _ mQ
      clear hK K
      (try go_frame)
      refine HT.branch (rs:=[7,12]) (by kernel_rfl) (by simp) ?_;refine HT.cn 7 rfl (fun K hK=>?_) ?_
      ·refine aI qB rfl (.tmp 124) (.tmp 125) 76 rfl 79 _ 13 168 jd (.slice (some ⟨ga,0,none⟩) 0 0) 0 [] rfl hown eo en ec xs rfl hxl ?aaC hxo (by unfold maxLen;omega) (by omega) ?_
       case aaC=>(intro j u hj;obtain ⟨b,off,e,hc⟩:=MR.out j u hj;subst e;exact ⟨_,rfl,by rw [Addr.add_lit];exact (sV.out.trans (mQ)).at hc⟩)
       intro o3 c3 jE ho3 hf3 iE hnil3;simp only [Nat.zero_add,List.nil_append] at ho3 iE hnil3 ⊢;have o8:ah wp jE:=Fr.trans' (mQ) hf3 (fun i hi e=>by simp [Value.ownBlock] at e;omega);have jF:∀ k,(Value.slice o3 en c3).ownBlock=some k->wp.heap.size<=k:=fun k hk=>by
        rcases iE with e | e
        ·rw [e] at hk;simp [Value.ownBlock] at hk;omega
        ·rw [e] at hk;cases hk;exact ((mQ)).size
       refine hK.out _ _ ?Vz (fun hHeld=>?_)
       case Vz=>exact bK.out _ o8
       clear hK K
       (try go_frame)
       refine HT.branch (rs:=[12]) (by kernel_rfl) (by simp) ?_;refine HT.cn 12 rfl (fun K hK=>?_) ?_
       ·go_simp;obtain ⟨lU,hwb⟩:∃ wb,wb=jE.alloc (.cells (eX h.nm d1.next false nd0 none 0 0 none 0 0 none 0 0) 79):=⟨_,rfl⟩;have pX:ah jE lU:=by rw [hwb];exact ah.alloc _ _
        have hb8:lU.heap[jE.heap.size]?=some (.cells (eX h.nm d1.next false nd0 none 0 0 none 0 0 none 0 0) 79 (0,0)):=by rw [hwb];exact heap_alloc_new jE _
        have Cm:wp.heap.size<=jE.heap.size:=(o8).size;have kH:=(o8).trans pX;have pq:=lt_of_block hb8;change K _ (jE.alloc (.cells (eX h.nm d1.next false nd0 none 0 0 none 0 0 none 0 0) 79));rw [<-hwb];clear hwb;replace ho3:=aU ho3 pX (fun _ _ h=>h);generalize jE.heap.size=g8 at hb8 Cm pq ⊢;refine hK.out _ _ ?Kt (fun hHeld=>?_)
        case Kt=>exact bK.out _ kH
        clear hK K
        (try go_frame)
        refine HT.branch (rs:=[13]) (by kernel_rfl) (by simp) ?_;refine HT.cn 13 rfl (fun K hK=>?_) ?_
        ·have hc8:∀ j u,(eX h.nm d1.next false nd0 none 0 0 none 0 0 none 0 0).toList[j]?=some u->∃ a,some (⟨g8,0,none⟩:Addr)=some a/\lU.cell? (a.add j)=some u:=fun j u hj=>⟨_,rfl,by rw [Addr.add_lit,Nat.zero_add,cell_of_row _ _ _ _ _ (0,0) hb8];simpa using hj⟩
         refine aI lU rfl (.tmp 126) (.tmp 131) 76 rfl 79 _ 13 168 jd (.slice o3 en c3) en xs rfl ho3 (some ⟨g8,0,none⟩) 1 1 (eX h.nm d1.next false nd0 none 0 0 none 0 0 none 0 0).toList rfl rfl hc8 (by simp [Value.oneCell']) (by unfold maxLen;omega) (by omega) ?_;intro o4 c4 wV nM hf4 pz uo;have dW:ah wp wV:=Fr.trans' (kH) hf4 (fun i hi e=>by have:=jF i e;omega);have pF:∀ k,(Value.slice o4 (en+1) c4).ownBlock=some k->B+1+1 < k:=fun k hk=>by
          rcases pz with e | e
          ·rw [e] at hk;have:=jF k hk;omega
          ·rw [e] at hk;cases hk;have:=((kH)).size;omega
         refine hK.out _ _ ?Ku (fun hHeld=>?_)
         case Ku=>exact bK.out _ dW
         clear hK K
         (try go_frame)
         refine HT.branch (rs:=[14]) (by kernel_rfl) (by simp) ?_;refine HT.cn 14 rfl (fun K hK=>?_) ?_
         ·obtain ⟨uw,uy⟩:=lX (h:=nd0) (ps:=.nil) (ar:=.nil) (ag:=false) (o1:=none) (l1:=0) (c1:=0) (o2:=none) (l2:=0) (c2:=0) (ao:=none) (an:=0) (ac:=0) kZ.out Hw.out (sV.out.trans (dW)) dV (aB.nil _ _ _) (bC.nil _ _ _) (EvS.nil _ _ _) (Nat.le_refl _) nM (by omega) pF;go_simp;go_at_call 20
          with_reducible refine Calls.mono (nT.out _ _ _ (dW) uw uy) ?_
          rintro e w9 ⟨RG,RH,RI,RJ,RP,RQ,Bc,rfl,hk9,oU⟩;have mg:=iF hk9 (Nat.lt_of_lt_of_le hzp (dW).size);have eF:=(dW).trans oU;unfold gK;refine hK.out _ _ ?abS (fun hHeld=>?_)
          case abS=>exact bK.out _ eF
          clear hK K
          (try go_frame)
          refine HT.last rfl (by kernel_rfl) (fun K hK=>?_);have hbs:=au eF Lc.out;obtain ⟨⟨p0,p1,p2,p3,p4⟩,y0,y1,y2,y3,y4⟩:=five hbs;have hend:=jX Bc hbs (au eF vH.out) (au eF zJ.out) mg (sV.out.trans eF) dV;go_simp;refine hK.out _ _ ?_;clear hK K
          (try go_frame)
          refine HT.done (by kernel_rfl) ?_ _;go_wp2_with fail;go_meet;exact hend
         exact HT.bG.nil
        exact HT.bG.nil
       exact HT.bG.nil
      refine HT.cn 12 rfl (fun K hK=>?_) ?_
      ·go_simp;obtain ⟨wW,hwb⟩:∃ wb,wb=qB.alloc (.cells (eX h.nm d1.next false nd0 none 0 0 none 0 0 none 0 0) 79):=⟨_,rfl⟩;have pX:ah qB wW:=by rw [hwb];exact ah.alloc _ _
       have hb8:wW.heap[qB.heap.size]?=some (.cells (eX h.nm d1.next false nd0 none 0 0 none 0 0 none 0 0) 79 (0,0)):=by rw [hwb];exact heap_alloc_new qB _
       have Cm:wp.heap.size<=qB.heap.size:=(mQ).size;have lV:=(mQ).trans pX;have pq:=lt_of_block hb8;change K _ (qB.alloc (.cells (eX h.nm d1.next false nd0 none 0 0 none 0 0 none 0 0) 79));rw [<-hwb];clear hwb;have QI:=(hown.lt ga rfl).2;replace hown:=aU hown pX (fun _ _ h=>h);generalize qB.heap.size=g8 at hb8 Cm pq QI ⊢;refine hK.out _ _ ?VA (fun hHeld=>?_)
       case VA=>exact bK.out _ lV
       clear hK K
       (try go_frame)
       refine HT.branch (rs:=[7]) (by kernel_rfl) (by simp) ?_;refine HT.cn 7 rfl (fun K hK=>?_) ?_
       ·refine aI wW rfl (.tmp 124) (.tmp 125) 76 rfl 79 _ 13 168 jd (.slice (some ⟨ga,0,none⟩) 0 0) 0 [] rfl hown eo en ec xs rfl hxl ?aaD hxo (by unfold maxLen;omega) (by omega) ?_
        case aaD=>(intro j u hj;obtain ⟨b,off,e,hc⟩:=MR.out j u hj;subst e;exact ⟨_,rfl,by rw [Addr.add_lit];exact (sV.out.trans (lV)).at hc⟩)
        intro o3 c3 pG ho3 hf3 iE hnil3;simp only [Nat.zero_add,List.nil_append] at ho3 iE hnil3 ⊢;have kJ:ah wp pG:=Fr.trans' (lV) hf3 (fun i hi e=>by simp [Value.ownBlock] at e;omega);have jF:∀ k,(Value.slice o3 en c3).ownBlock=some k->wp.heap.size<=k:=fun k hk=>by
         rcases iE with e | e
         ·rw [e] at hk;simp [Value.ownBlock] at hk;omega
         ·rw [e] at hk;cases hk;exact ((lV)).size
        refine hK.out _ _ ?VB (fun hHeld=>?_)
        case VB=>exact bK.out _ kJ
        clear hK K
        (try go_frame)
        replace hb8:=aC hf3 (fun e=>by simp [Value.ownBlock] at e;omega) hb8;refine HT.branch (rs:=[13]) (by kernel_rfl) (by simp) ?_;refine HT.cn 13 rfl (fun K hK=>?_) ?_
        ·have hc8:∀ j u,(eX h.nm d1.next false nd0 none 0 0 none 0 0 none 0 0).toList[j]?=some u->∃ a,some (⟨g8,0,none⟩:Addr)=some a/\pG.cell? (a.add j)=some u:=fun j u hj=>⟨_,rfl,by rw [Addr.add_lit,Nat.zero_add,cell_of_row _ _ _ _ _ (0,0) hb8];simpa using hj⟩
         refine aI pG rfl (.tmp 126) (.tmp 131) 76 rfl 79 _ 13 168 jd (.slice o3 en c3) en xs rfl ho3 (some ⟨g8,0,none⟩) 1 1 (eX h.nm d1.next false nd0 none 0 0 none 0 0 none 0 0).toList rfl rfl hc8 (by simp [Value.oneCell']) (by unfold maxLen;omega) (by omega) ?_;intro o4 c4 wX nM hf4 pz uo;have dX:ah wp wX:=Fr.trans' (kJ) hf4 (fun i hi e=>by have:=jF i e;omega);have pF:∀ k,(Value.slice o4 (en+1) c4).ownBlock=some k->B+1+1 < k:=fun k hk=>by
          rcases pz with e | e
          ·rw [e] at hk;have:=jF k hk;omega
          ·rw [e] at hk;cases hk;have:=((kJ)).size;omega
         refine hK.out _ _ ?VD (fun hHeld=>?_)
         case VD=>exact bK.out _ dX
         clear hK K
         (try go_frame)
         refine HT.branch (rs:=[14]) (by kernel_rfl) (by simp) ?_;refine HT.cn 14 rfl (fun K hK=>?_) ?_
         ·obtain ⟨uw,uy⟩:=lX (h:=nd0) (ps:=.nil) (ar:=.nil) (ag:=false) (o1:=none) (l1:=0) (c1:=0) (o2:=none) (l2:=0) (c2:=0) (ao:=none) (an:=0) (ac:=0) kZ.out Hw.out (sV.out.trans (dX)) dV (aB.nil _ _ _) (bC.nil _ _ _) (EvS.nil _ _ _) (Nat.le_refl _) nM (by omega) pF;go_simp;go_at_call 20
          with_reducible refine Calls.mono (nT.out _ _ _ (dX) uw uy) ?_
          rintro e w9 ⟨RG,RH,RI,RJ,RP,RQ,Bc,rfl,hk9,oU⟩;have mg:=iF hk9 (Nat.lt_of_lt_of_le hzp (dX).size);have eG:=(dX).trans oU;unfold gK;refine hK.out _ _ ?VE (fun hHeld=>?_)
          case VE=>exact bK.out _ eG
          clear hK K
          (try go_frame)
          refine HT.last rfl (by kernel_rfl) (fun K hK=>?_);have hbs:=au eG Lc.out;obtain ⟨⟨p0,p1,p2,p3,p4⟩,y0,y1,y2,y3,y4⟩:=five hbs;have hend:=jX Bc hbs (au eG vH.out) (au eG zJ.out) mg (sV.out.trans eG) dV;go_simp;refine hK.out _ _ ?_;clear hK K
          (try go_frame)
          refine HT.done (by kernel_rfl) ?_ _;go_wp2_with fail;go_meet;exact hend
         exact HT.bG.nil
        exact HT.bG.nil
       exact HT.bG.nil
      exact HT.bG.nil
     refine HT.cn 12 rfl (fun K hK=>?_) ?_
     ·go_simp;obtain ⟨uq,hwb⟩:∃ wb,wb=wd.alloc (.cells (eX h.nm d1.next false nd0 none 0 0 none 0 0 none 0 0) 79):=⟨_,rfl⟩;have pX:ah wd uq:=by rw [hwb];exact ah.alloc _ _
      have hb8:uq.heap[wd.heap.size]?=some (.cells (eX h.nm d1.next false nd0 none 0 0 none 0 0 none 0 0) 79 (0,0)):=by rw [hwb];exact heap_alloc_new wd _
      have Cm:wp.heap.size<=wd.heap.size:=(gq).size;have wY:=(gq).trans pX;have pq:=lt_of_block hb8;change K _ (wd.alloc (.cells (eX h.nm d1.next false nd0 none 0 0 none 0 0 none 0 0) 79));rw [<-hwb];clear hwb;generalize wd.heap.size=g8 at hb8 Cm pq ⊢;refine hK.out _ _ ?VF (fun hHeld=>?_)
      case VF=>exact bK.out _ wY
      clear hK K
      (try go_frame)
      refine HT.branch (rs:=[5]) (by kernel_rfl) (by simp) ?_;refine HT.cn 5 rfl (fun K hK=>?_) ?_
      ·go_simp;obtain ⟨wZ,kG⟩:∃ wa,wa=uq.alloc (.cells #[] 79):=⟨_,rfl⟩;have hqa:ah uq wZ:=by rw [kG];exact ah.alloc _ _
       have hown:=iZ (size:=13) (show wZ.heap[uq.heap.size]?=some (.cells #[] 79 (0,0)) by rw [kG];exact heap_alloc_new uq _);have hgl:wp.heap.size<=uq.heap.size:=(wY).size;have lW:=(wY).trans hqa;rw [<-kG];clear kG;generalize uq.heap.size=ga at hown hgl pq ⊢;refine hK.out _ _ ?VG (fun hHeld=>?_)
       case VG=>exact bK.out _ lW
       clear hK K
       (try go_frame)
       replace hb8:=au hqa hb8;refine HT.branch (rs:=[7]) (by kernel_rfl) (by simp) ?_;refine HT.cn 7 rfl (fun K hK=>?_) ?_
       ·refine aI wZ rfl (.tmp 124) (.tmp 125) 76 rfl 79 _ 13 168 jd (.slice (some ⟨ga,0,none⟩) 0 0) 0 [] rfl hown eo en ec xs rfl hxl ?aaE hxo (by unfold maxLen;omega) (by omega) ?_
        case aaE=>(intro j u hj;obtain ⟨b,off,e,hc⟩:=MR.out j u hj;subst e;exact ⟨_,rfl,by rw [Addr.add_lit];exact (sV.out.trans (lW)).at hc⟩)
        intro o3 c3 pI ho3 hf3 iE hnil3;simp only [Nat.zero_add,List.nil_append] at ho3 iE hnil3 ⊢;have kK:ah wp pI:=Fr.trans' (lW) hf3 (fun i hi e=>by simp [Value.ownBlock] at e;omega);have jF:∀ k,(Value.slice o3 en c3).ownBlock=some k->wp.heap.size<=k:=fun k hk=>by
         rcases iE with e | e
         ·rw [e] at hk;simp [Value.ownBlock] at hk;omega
         ·rw [e] at hk;cases hk;exact ((lW)).size
        refine hK.out _ _ ?abT (fun hHeld=>?_)
        case abT=>exact bK.out _ kK
        clear hK K
        (try go_frame)
        replace hb8:=aC hf3 (fun e=>by simp [Value.ownBlock] at e;omega) hb8;refine HT.branch (rs:=[13]) (by kernel_rfl) (by simp) ?_;refine HT.cn 13 rfl (fun K hK=>?_) ?_
        ·have hc8:∀ j u,(eX h.nm d1.next false nd0 none 0 0 none 0 0 none 0 0).toList[j]?=some u->∃ a,some (⟨g8,0,none⟩:Addr)=some a/\pI.cell? (a.add j)=some u:=fun j u hj=>⟨_,rfl,by rw [Addr.add_lit,Nat.zero_add,cell_of_row _ _ _ _ _ (0,0) hb8];simpa using hj⟩
         refine aI pI rfl (.tmp 126) (.tmp 131) 76 rfl 79 _ 13 168 jd (.slice o3 en c3) en xs rfl ho3 (some ⟨g8,0,none⟩) 1 1 (eX h.nm d1.next false nd0 none 0 0 none 0 0 none 0 0).toList rfl rfl hc8 (by simp [Value.oneCell']) (by unfold maxLen;omega) (by omega) ?_;intro o4 c4 xg nM hf4 pz uo;have dY:ah wp xg:=Fr.trans' (kK) hf4 (fun i hi e=>by have:=jF i e;omega);have pF:∀ k,(Value.slice o4 (en+1) c4).ownBlock=some k->B+1+1 < k:=fun k hk=>by
          rcases pz with e | e
          ·rw [e] at hk;have:=jF k hk;omega
          ·rw [e] at hk;cases hk;have:=((kK)).size;omega
         refine hK.out _ _ ?abU (fun hHeld=>?_)
         case abU=>exact bK.out _ dY
         clear hK K
         (try go_frame)
         refine HT.branch (rs:=[14]) (by kernel_rfl) (by simp) ?_;refine HT.cn 14 rfl (fun K hK=>?_) ?_
         ·obtain ⟨uw,uy⟩:=lX (h:=nd0) (ps:=.nil) (ar:=.nil) (ag:=false) (o1:=none) (l1:=0) (c1:=0) (o2:=none) (l2:=0) (c2:=0) (ao:=none) (an:=0) (ac:=0) kZ.out Hw.out (sV.out.trans (dY)) dV (aB.nil _ _ _) (bC.nil _ _ _) (EvS.nil _ _ _) (Nat.le_refl _) nM (by omega) pF;go_simp;go_at_call 20
          with_reducible refine Calls.mono (nT.out _ _ _ (dY) uw uy) ?_
          rintro e w9 ⟨RG,RH,RI,RJ,RP,RQ,Bc,rfl,hk9,oU⟩;have mg:=iF hk9 (Nat.lt_of_lt_of_le hzp (dY).size);have eH:=(dY).trans oU;unfold gK;refine hK.out _ _ ?abV (fun hHeld=>?_)
          case abV=>exact bK.out _ eH
          clear hK K
          (try go_frame)
          refine HT.last rfl (by kernel_rfl) (fun K hK=>?_);have hbs:=au eH Lc.out;obtain ⟨⟨p0,p1,p2,p3,p4⟩,y0,y1,y2,y3,y4⟩:=five hbs;have hend:=jX Bc hbs (au eH vH.out) (au eH zJ.out) mg (sV.out.trans eH) dV;go_simp;refine hK.out _ _ ?_;clear hK K
          (try go_frame)
          refine HT.done (by kernel_rfl) ?_ _;go_wp2_with fail;go_meet;exact hend
         exact HT.bG.nil
        exact HT.bG.nil
       exact HT.bG.nil
      exact HT.bG.nil
     exact HT.bG.nil
    case rest =>
     rename World=>wq
     obtain ⟨rU,rV,rW,vI,vJ,vK,qW,hb0,gB,hb2,hk5,hq5⟩:=hcut;have pK:=hid hb0;have pO:=hid gB;have uz:=hid hb2;have Ky:=hid hk5;have qU:=hid hq5;clear hzp;have hzp:B+1+1 < wq.heap.size:=lt_of_block hb2;clear hb0 gB hb2 hk5 hq5;have DX:Hid (∀ W',ah wq W'->(fun (W':World)=>(A8 W' B (.slice rU rV rW) (.int .i64 rt.2.next) (.int .i64 most) (.slice vI vJ vK) (.int .i64 qW))/\(qV W' (B+1) h o1 l1 c1 (some ⟨b9,aJ,none⟩) l2 c2)) W'):=fun W' hq=>by
      obtain ⟨k,_⟩:=five (au hq pK.out);exact ⟨k,aA (au hq pO.out)⟩
     have gI:Hid (∀ W' oA cA,ah wq W'->aB (RB R B) W' oA 2 (iO (tv d1.next) (tv d2.next)).2.2->Calls Tryd.prog 31 #[gK rU rV rW rt.2.next most vI vJ vK qW,.agg #[.int .i64 1,.int .i64 d.next,.slice none 0 0],.agg #[.int .i64 4,.int .i64 0,.slice oA 2 cA],.agg #[.int .i64 h.fr,.int .i64 h.en]] W' (sW (RB R B) W' most fin)):=fun W' oA cA hq hs=>by
      have k:=add_any (o1:=none) (l1:=0) (c1:=0) (c2:=cA) qW (Ky.out.stay hq) hm (tv d.next) (iO (tv d1.next) (tv d2.next)) h.fr h.en (aB.nil _ _ _) hs (by show Fo.nil.size<=_;decide) (Nat.le_of_ble_eq_true rfl);rw [HF3.out] at k;exact k
     unfold gK at gI;go_upto_region 30 with fail
     refine dH 11 DX.out (by kernel_rfl) (fun hHeld=>?_)
     (try dsimp only at hHeld)
     have gq:=ah.drew wq;generalize wq.drew=wd at gq hHeld ⊢;refine HT.tk 0 rfl ?_;go_frame;refine HT.tk 1 rfl ?_;go_frame;refine HT.tk 3 rfl ?_;go_frame;refine HT.tk 5 rfl ?_;go_frame;refine HT.tk 8 rfl ?_;go_frame;refine HT.tk 9 rfl ?_;go_frame;refine HT.branch (rs:=[2]) (by kernel_rfl) (by simp) ?_;refine HT.cn 2 rfl (fun K hK=>?_) ?_
     ·go_simp;go_at_call 32
      with_reducible refine Calls.mono (fZ _ _) ?_
      rintro e wv1 ⟨rfl,pR⟩;have fA:=gq.trans pR;refine hK.out _ _ ?abW (fun hHeld=>?_)
      case abW=>exact DX.out _ fA
      clear hK K
      (try go_frame)
      refine HT.branch (rs:=[4]) (by kernel_rfl) (by simp) ?_;refine HT.cn 4 rfl (fun K hK=>?_) ?_
      ·go_simp;go_at_call 32
       with_reducible refine Calls.mono (fZ _ _) ?_
       rintro e wv2 ⟨rfl,rX⟩;have fU:=fA.trans rX;refine hK.out _ _ ?UF (fun hHeld=>?_)
       case UF=>exact DX.out _ fU
       clear hK K
       (try go_frame)
       refine HT.branch (rs:=[6]) (by kernel_rfl) (by simp) ?_;refine HT.cn 6 rfl (fun K hK=>?_) ?_
       ·go_simp;go_at_call 32
        with_reducible refine Calls.mono (fZ _ _) ?_
        rintro e Ez ⟨rfl,DV⟩;have oD:=fU.trans DV;refine hK.out _ _ ?UG (fun hHeld=>?_)
        case UG=>exact DX.out _ oD
        clear hK K
        (try go_frame)
        refine HT.branch (rs:=[7]) (by kernel_rfl) (by simp) ?_;refine HT.cn 7 rfl (fun K hK=>?_) ?_
        ·go_simp;go_at_call 34
         with_reducible refine Calls.mono (Ap _ _) ?_
         rintro e wv4 ⟨oA,cA,rfl,hs4,adw⟩;have hzA:wq.heap.size<=Ez.heap.size:=oD.size;replace hs4:=hs4.mono (T:=RB R B) (fun k _ hk=>.inr (by have hk':Ez.heap.size<=k:=hk;omega));have Yf:=oD.trans adw;refine hK.out _ _ ?UH (fun hHeld=>?_)
         case UH=>exact DX.out _ Yf
         clear hK K
         (try go_frame)
         refine HT.branch (rs:=[10]) (by kernel_rfl) (by simp) ?_;refine HT.cn 10 rfl (fun K hK=>?_) ?_
         ·go_simp;go_at_call 31
          with_reducible refine Calls.mono (gI.out _ _ _ Yf hs4) ?_
          rintro e wv5 ⟨lo3,iG,iH,iI,iJ,iK,gX,rfl,hk3,adx⟩;have mg:=iF hk3 (Nat.lt_of_lt_of_le hzp Yf.size);have aaF:=Yf.trans adx;unfold gK;refine hK.out _ _ ?UK (fun hHeld=>?_)
          case UK=>exact DX.out _ aaF
          clear hK K
          (try go_frame)
          refine HT.last rfl (by kernel_rfl) (fun K hK=>?_);have hbs:=au aaF uz.out;obtain ⟨⟨z0,z1,z2,z3,z4⟩,y0,y1,y2,y3,y4⟩:=five hbs;have dU:=qU.out.trans aaF;go_simp;refine hK.out _ _ ?_;clear hK K
          (try go_frame)
          refine HT.done (by kernel_rfl) ?_ _;clear z0 z1 z2 z3 z4 y0 y1 y2 y3 y4;generalize Ba:bodyPost Tryd.prog Tryd.f20 (sW R W most fin)=BP at *;go_wp2_with fail;rw [<-Ba];have hf:=eU wv5 (B+1+1) (.slice lo3 iG iH) (.int .i64 fin.next) (.int .i64 most) (.slice iI iJ iK) (.int .i64 gX);obtain ⟨⟨f0,f1,f2,f3,f4⟩,_⟩:=five (bV (a:=(.slice lo3 iG iH)) (b:=(.int .i64 fin.next)) (c:=(.int .i64 most)) (d:=(.slice iI iJ iK)) (e:=(.int .i64 gX)) hbs);change bodyPost _ _ _ _ _ (iD wv5 (B+1+1) (.slice lo3 iG iH) (.int .i64 fin.next) (.int .i64 most) (.slice iI iJ iK) (.int .i64 gX));have hend:=mV mg dU hf dV;generalize iD wv5 (B+1+1) (.slice lo3 iG iH) (.int .i64 fin.next) (.int .i64 most) (.slice iI iJ iK) (.int .i64 gX)=wf at *;refine bodyPost_ret (by simp [results,Tryd.results20,go_sem,f0,f1,f2,f3,f4]<;>rfl) rfl ?_;exact ⟨lo3,iG,iH,iI,iJ,iK,gX,by (first | rfl | (rw [HF2.out]<;>rfl)),by (first | exact hend.1 | (rw [HF2.out];exact hend.1)),hend.2⟩
         exact HT.bG.nil
        exact HT.bG.nil
       exact HT.bG.nil
      exact HT.bG.nil
     exact HT.bG.nil
   ·have t2:(h.k == 2)=false:=by rw [hk];rfl
    have t3:(h.k == 3)=false:=by rw [hk];rfl
    have t1:(h.k == 1)=false:=by rw [hk];rfl
    have t4:(h.k == 4)=false:=by rw [hk];rfl
    have t6:(h.k == 6)=false:=by rw [hk];rfl
    have t7:(h.k == 7)=false:=by rw [hk];rfl
    have t5:(h.k == 5)=true:=by rw [hk];rfl
    have HK:=hid hk;clear hk;obtain ⟨lf,hlf⟩:∃ lf,dmap (lq most ev) (dJ most ps) d1=lf:=⟨_,rfl⟩;have hre:(dP most (jP lf.1 0) (iO (jP lf.1 1) (tv d.next)) h.fr h.en lf.2).2=fin:=by
     rw [<-bF.out,iR Rt.out,<-HD1.out];unfold jM;rw [if_neg (by rw [HK.out];decide),if_neg (by rw [HK.out];decide),if_neg (by rw [HK.out];decide),if_neg (by rw [HK.out];decide),if_neg (by rw [HK.out];decide)]
     show _=((fF (dmap (lq most ev) (dJ most ps)) _) d1).2
     unfold fF;rw [hlf];dsimp only;rw [if_pos HK.out];rfl
    have MW:Hid (lf.2.next<=1000000):=by show _<=_;have k:=yM.out;rw [bF.out,<-hre] at k;simpa only [jJ] using k
    have HF3:=hid hre;have HF2:Hid (fin=fin):=rfl;clear hre;have HLF:=hid hlf;have hzz:B+1+1 < wr.heap.size:=WM;obtain ⟨vs,hvs⟩:∃ vs,dJ most ps=vs:=⟨_,rfl⟩;have Oi:=hid hvs;have F7:Hid (vs.length=l2):=by show _=_;rw [<-hvs,lY,HS2.out.1]
    have HST:Hid (Y4 R W B wr.heap.size most h o1 l1 c1 o2 l2 c2 (lq most ev) vs lf (.slice none 0 0) (.int .i64 0) wr):=by
     refine ⟨0,none,0,rfl,rfl,d1,[],[],lo,ln,lc,EC,ED,EF,inn,Nat.zero_le _,?_,?_,PR.nil _ _,HR0.out,PE.out,HR2.out,Bo DW.out,Az.out,Nat.le_refl _⟩
     ·rw [List.drop_zero,<-hvs,hlf];rfl
     ·rw [List.drop_zero,<-hvs,hlf]
    obtain ⟨zz,DY⟩:∃ zz,wr.heap.size=zz:=⟨_,rfl⟩;rw [DY] at HST hzz;clear hvs hlf DY;go_wp2_with fail;clear p0 p1 p2 p3 p4 a0 a1 a2 a3 a4 a5 a6 a7 a8;go_loopw [14,15] (fun p t wx=>Y4 R W B zz most h o1 l1 c1 o2 l2 c2 (lq most ev) vs lf p t wx) (fun _ t _=>l2-(intOf t).toNat)
    case atStart=>exact HST.out
    case round =>
     clear HST;rename World=>wx
     obtain ⟨i,po,pc,rfl,rfl,di,ns,xs,rU,rV,rW,vI,vJ,vK,qW,hiv,hf1,hf2,hpr,hb0,gB,hb2,hk5,hq5,hzw⟩:=hrel;have hil:i<=l2:=by rw [<-F7.out];exact hiv
     have pK:=hid hb0;have pO:=hid gB;have uz:=hid hb2;have Ky:=hid hk5;have qU:=hid hq5;have yK:=hid hpr;have hzx:B+1+1 < wx.heap.size:=lt_of_block hb2;clear hb0 gB hb2 hk5 hq5 hpr hiv;obtain ⟨⟨p0,p1,p2,p3,p4⟩,_⟩:=five pK.out;obtain ⟨a0,a1,a2,a3,a4,a5,a6,a7,a8⟩:=aA pO.out
     by_cases hlt:i < l2
     ·have hlt':(i:Int) < l2:=by omega
      obtain ⟨b9,aJ,u,qu,kS,kT,d1u,kU,kV,kW,rfl,_,gu,ru,cu,su,tu⟩:=HS2.out.nth hlt;have Bj:=hid cu;have AV:=hid su;have AX:=hid tu;have hou:=fO ps i u qu qO.out gu;have MX:en+qu.size<=100000:=by have:=To.dG ps i u qu gu;have:=Yd.out;omega
      have hmd:=qR (lq most ev) vs i _ di (show vs[i]?=some (dZ most u qu) by rw [<-Oi.out];exact oI most ps i u qu gu);rw [hmd] at hf1 hf2;have hnr:(dZ most u qu (lq most ev) di).2.next<=lf.2.next:=by
       rw [<-hf2];exact uQ (mY most ev) (us:=vs.drop (i+1)) (fun v hv=>by rw [<-Oi.out] at hv;exact nC most ps v (List.mem_of_mem_drop hv)) _
      obtain ⟨rt,hrt⟩:∃ rt,dZ most u qu (lq most ev) di=rt:=⟨_,rfl⟩;have hr1:rt.1=di.next:=by rw [<-hrt];exact kX _ _ _ _ _
      rw [hrt] at hf1 hf2 hnr;rw [hr1] at hf1;have VO:=hid (IH.out i u qu gu);have yN:=hid hrt;have QM:Hid (rt.2.next<=1000000):=Nat.le_trans hnr MW.out;have vO:=hid hf1;have MZ:=hid hf2;clear hf1 hf2 hrt hr1 hnr hmd cu su tu gu ru;go_wp2_with fail;refine (fZ _ _).mono ?_;rintro x w2 ⟨rfl,hq2⟩;have fC:=hid hq2;clear hq2 p0 p1 p2 p3 p4 a0 a1 a2 a3 a4 a5 a6 a7 a8;go_wp2_with (at_builtin;go_must (refine aX w2 rfl (.tmp 188) (.tmp 192) 23 rfl 25 _ 3 40 elemTy (.slice po i pc) i xs rfl (yK.out.stay fC.out).own #[.int .i64 1,.int .i64 di.next,.slice none 0 0] rfl rfl ?c1 (by unfold maxLen;omega) (by omega) ?_);(case c1=>simp [Value.oneCell']));intro g4 c4 w4 nM hf4 hg4;have hlow:∀ k,(Value.slice po i pc).ownBlock=some k->zz<=k:=yK.out.low;have pU:=hid ((yK.out.stay fC.out).snoc (o':=none) (c1:=0) (di.next) nM (Nat.le_trans hzw fC.out.size) hg4);have HK4:=hid (yH (Ky.out.stay fC.out) hf4 hg4 (n:=i+1) (c:=c4));have xk:=hid (aC hf4 (fun e=>by have:=hlow _ e;omega) (au fC.out pK.out));have xq:=hid (aC hf4 (fun e=>by have:=hlow _ e;omega) (au fC.out pO.out));have DZ:=hid (aC hf4 (fun e=>by have:=hlow _ e;omega) (au fC.out uz.out));have uI:Hid (ah W w4):=Fr.trans' (qU.out.trans fC.out) hf4 (fun j hj e=>by have:=hlow j e;omega);have Rx:B+1+1 < w4.heap.size:=lt_of_block DZ.out;have Na:zz<=w4.heap.size:=Nat.le_trans hzw (Nat.le_trans fC.out.size hf4.size);clear nM hf4 hg4 hlow;have nT:Hid (∀ W',ah w4 W'->Calls Tryd.prog 20 #[gK rU rV rW di.next most vI vJ vK qW,bP u kS kT d1u kU kV kW,.slice eo en ec] W' (sW (Iz R B (.slice (some ⟨g4,0,none⟩) (i+1) c4)) W' most rt.2)):=fun W' hq=>by
       have hq':=uI.out.trans hq;have k:=VO.out (Iz R B (.slice (some ⟨g4,0,none⟩) (i+1) c4)) W' di qW rU rV rW vI vJ vK kS kT d1u kU kV kW eo en ec ev (HK4.out.stay hq) (AV.out.fr hq' (nV dV pU.out.low (by omega))) (AX.out.fr hq' (nV dV pU.out.low (by omega))) (La.out.fr hq' (nV dV pU.out.low (by omega))) vW MX QL.out hou.1 hou.2 (by rw [yN.out];exact QM.out);rw [yN.out] at k;exact k
      unfold bP gK at nT;obtain ⟨⟨p0,p1,p2,p3,p4⟩,_⟩:=five xk.out;obtain ⟨a0,a1,a2,a3,a4,a5,a6,a7,a8⟩:=aA xq.out;go_upto_region 42 with fail
      clear p0 p1 p2 p3 p4 a0 a1 a2 a3 a4 a5 a6 a7 a8;have bK:Hid (∀ W',ah w4 W'->(fun (W':World)=>(A8 W' B (.slice rU rV rW) (.int .i64 di.next) (.int .i64 most) (.slice vI vJ vK) (.int .i64 qW))/\(qV W' (B+1) h o1 l1 c1 (some ⟨b9,aJ,none⟩) l2 c2)/\(ES W' b9 (aJ+i*9) u kS kT d1u kU kV kW)) W'):=fun W' hq=>by
       obtain ⟨k,_⟩:=five (au hq xk.out);exact ⟨k,aA (au hq xq.out),gG Bj.out (uI.out.trans hq)⟩
      refine dH 8 bK.out (by kernel_rfl) (fun hHeld=>?_)
      (try dsimp only at hHeld)
      have gq:=ah.drew w4;generalize w4.drew=wd at *;refine HT.tk 0 rfl ?_;go_frame;refine HT.tk 1 rfl ?_;go_frame;refine HT.tk 2 rfl ?_;go_frame;refine HT.tk 3 rfl ?_;go_frame;refine HT.tk 4 rfl ?_;go_frame;refine HT.tk 5 rfl ?_;go_frame;refine HT.tk 6 rfl ?_;go_frame;refine HT.branch (rs:=[7]) (by kernel_rfl) (by simp) ?_;refine HT.cn 7 rfl (fun K hK=>?_) ?_
      ·go_simp;go_at_call 20
       with_reducible refine Calls.mono (nT.out _ gq) ?_
       rintro e w9 ⟨RG,RH,RI,RJ,RP,RQ,Bc,rfl,hk9,oU⟩;have mg:=yI hk9 (Nat.lt_of_lt_of_le Rx gq.size) (fun k hk=>Nat.lt_of_lt_of_le (pU.out.lt k hk) gq.size);have hqe:=gq.trans oU;unfold gK;refine hK.out _ _ ?UQ (fun hHeld=>?_)
       case UQ=>exact bK.out _ hqe
       clear hK K
       (try go_frame)
       refine HT.last rfl (by kernel_rfl) (fun K hK=>?_);have hbs:=au hqe xk.out;obtain ⟨⟨p0,p1,p2,p3,p4⟩,y0,y1,y2,y3,y4⟩:=five hbs;have hend:=Bv Bc (by rw [F7.out];omega) (by rw [List.append_assoc];exact vO.out) MZ.out (pU.out.stay hqe) hbs (au hqe xq.out) (au hqe DZ.out) mg (uI.out.trans hqe) dV hzz (Nat.le_trans Na hqe.size);have zC:=hid hend;clear hend;go_simp;refine hK.out _ _ ?_;clear hK K
       (try go_frame)
       refine HT.done (by kernel_rfl) ?_ _;go_wp2_with fail;go_roundw
       case rel=>exact ⟨i+1,_,_,by go_num,rfl,zC.out⟩
       case measure=>simp [intOf];omega
      exact HT.bG.nil
     ·have hlt':¬ (i:Int) < l2:=by omega
      have hi2:l2=i:=by omega
      subst hi2;have hd:vs.drop l2=[]:=List.drop_eq_nil_of_le (by rw [F7.out];exact Nat.le_refl _);rw [hd] at hf1 hf2;have hns:ns=lf.1:=by rw [<-hf1];show ns=ns++[];simp
      have hdl:di=lf.2:=hf2;clear hf1 hf2 hd;obtain ⟨lf1,lf2⟩:=lf;dsimp only at hns hdl;subst hns hdl;obtain ⟨hpt,hpc⟩:=yK.out.at (R:=R) hzz (by unfold maxLen;omega);have hnl:=yK.out.len;have Ey:=hid hpt;have HKq:=hid (Bq Ky.out);clear hpt;have hl2:2<=l2:=by rw [HS2.out.1];exact xA.out.2.2.1 HK.out
      obtain ⟨gp,n0,wU,n0c,rfl,IW,DJ,n01,n02⟩:=Ey.out.get (i:=0) (by rw [List.length_map,hnl];omega);obtain ⟨gp1,n1,QE,n1c,eg,U6,n10,n11,n12⟩:=Ey.out.get (i:=1) (by rw [List.length_map,hnl];omega);obtain rfl:gp=gp1:=by cases eg;rfl
      have MC:Hid ((dP most (tv n0) (iO (tv n1) (tv d.next)) h.fr h.en di).2=fin):=by show _=_;rw [<-HF3.out,<-IW,<-U6]
      have hi0:(0:Int) < l2:=by omega
      have hj0:0 < l2:=by omega
      have hi1:(1:Int) < l2:=by omega
      have hj1:1 < l2:=by omega
      clear IW U6;have hzp:=hzx;have bK:Hid (∀ W',ah wx W'->(fun (W':World)=>(A8 W' B (.slice rU rV rW) (.int .i64 di.next) (.int .i64 most) (.slice vI vJ vK) (.int .i64 qW))/\(qV W' (B+1) h o1 l1 c1 o2 l2 c2)/\(yB W' gp (.int .i64 1) (.int .i64 n0) (.slice wU 0 n0c))/\(W'.cell? ⟨gp,3,none⟩=some (.int .i64 1)/\W'.cell? ⟨gp,4,none⟩=some (.int .i64 n1)/\W'.cell? ⟨gp,5,none⟩=some (.slice QE 0 n1c))) W'):=fun W' hq=>by
       obtain ⟨k,_⟩:=five (au hq pK.out);exact ⟨k,aA (au hq pO.out),⟨hq.at DJ,hq.at n01,hq.at n02⟩,⟨hq.at n10,hq.at n11,hq.at n12⟩⟩
      have gI:Hid (∀ W' oA cA,ah wx W'->aB (RB R B) W' oA 2 (iO (tv n1) (tv d.next)).2.2->Calls Tryd.prog 31 #[gK rU rV rW di.next most vI vJ vK qW,.agg #[.int .i64 1,.int .i64 n0,.slice wU 0 n0c],.agg #[.int .i64 4,.int .i64 0,.slice oA 2 cA],.agg #[.int .i64 h.fr,.int .i64 h.en]] W' (sW (RB R B) W' most fin)):=fun W' oA cA hq hs=>by
       have k:=add_any (o1:=wU) (l1:=0) (c1:=n0c) (c2:=cA) qW (HKq.out.stay hq) hm (tv n0) (iO (tv n1) (tv d.next)) h.fr h.en (aB.nil _ _ _) hs (Nat.le_of_ble_eq_true rfl) (Nat.le_of_ble_eq_true rfl);rw [MC.out] at k;exact k
      unfold gK at gI;go_upto_region 45 with fail
      clear p0 p1 p2 p3 p4 a0 a1 a2 a3 a4 a5 a6 a7 a8 DJ n01 n02 n10 n11 n12;refine dH 13 bK.out (by kernel_rfl) (fun hHeld=>?_)
      (try dsimp only at hHeld)
      have gq:=ah.drew wx;generalize wx.drew=wd at gq hHeld ⊢;refine HT.tk 0 rfl ?_;go_frame;refine HT.tk 1 rfl ?_;go_frame;refine HT.tk 2 rfl ?_;go_frame;refine HT.tk 3 rfl ?_;go_frame;refine HT.tk 4 rfl ?_;go_frame;refine HT.tk 5 rfl ?_;go_frame;refine HT.tk 6 rfl ?_;go_frame;refine HT.tk 7 rfl ?_;go_frame;refine HT.tk 10 rfl ?_;go_frame;refine HT.tk 11 rfl ?_;go_frame;refine HT.branch (rs:=[8]) (by kernel_rfl) (by simp) ?_;refine HT.cn 8 rfl (fun K hK=>?_) ?_
      ·go_simp;go_at_call 32
       with_reducible refine Calls.mono (fZ _ _) ?_
       rintro e wv1 ⟨rfl,pR⟩;have fA:=gq.trans pR;refine hK.out _ _ ?UM (fun hHeld=>?_)
       case UM=>exact bK.out _ fA
       clear hK K
       (try go_frame)
       refine HT.branch (rs:=[9]) (by kernel_rfl) (by simp) ?_;refine HT.cn 9 rfl (fun K hK=>?_) ?_
       ·go_simp;go_at_call 34
        with_reducible refine Calls.mono (Ap _ _) ?_
        rintro e wv2 ⟨oA,cA,rfl,hs4,rX⟩;have hzA:wx.heap.size<=wv1.heap.size:=fA.size;replace hs4:=hs4.mono (T:=RB R B) (fun k _ hk=>.inr (by have hk':wv1.heap.size<=k:=hk;omega));have fU:=fA.trans rX;refine hK.out _ _ ?UN (fun hHeld=>?_)
        case UN=>exact bK.out _ fU
        clear hK K
        (try go_frame)
        refine HT.branch (rs:=[12]) (by kernel_rfl) (by simp) ?_;refine HT.cn 12 rfl (fun K hK=>?_) ?_
        ·go_simp;go_at_call 31
         with_reducible refine Calls.mono (gI.out _ _ _ fU hs4) ?_
         rintro e Ez ⟨lo3,iG,iH,iI,iJ,iK,gX,rfl,hk3,DV⟩;have mg:=iF hk3 (Nat.lt_of_lt_of_le hzp fU.size);have oD:=fU.trans DV;unfold gK;refine hK.out _ _ ?UO (fun hHeld=>?_)
         case UO=>exact bK.out _ oD
         clear hK K
         (try go_frame)
         refine HT.last rfl (by kernel_rfl) (fun K hK=>?_);have hbs:=au oD uz.out;obtain ⟨⟨z0,z1,z2,z3,z4⟩,y0,y1,y2,y3,y4⟩:=five hbs;have dU:=qU.out.trans oD;go_simp;refine hK.out _ _ ?_;clear hK K
         (try go_frame)
         refine HT.done (by kernel_rfl) ?_ _;clear z0 z1 z2 z3 z4 y0 y1 y2 y3 y4;generalize Ba:bodyPost Tryd.prog Tryd.f20 (sW R W most fin)=BP at *;go_wp2_with fail;rw [<-Ba];have hf:=eU Ez (B+1+1) (.slice lo3 iG iH) (.int .i64 fin.next) (.int .i64 most) (.slice iI iJ iK) (.int .i64 gX);obtain ⟨⟨f0,f1,f2,f3,f4⟩,_⟩:=five (bV (a:=(.slice lo3 iG iH)) (b:=(.int .i64 fin.next)) (c:=(.int .i64 most)) (d:=(.slice iI iJ iK)) (e:=(.int .i64 gX)) hbs);change bodyPost _ _ _ _ _ (iD Ez (B+1+1) (.slice lo3 iG iH) (.int .i64 fin.next) (.int .i64 most) (.slice iI iJ iK) (.int .i64 gX));have hend:=mV mg dU hf dV;generalize iD Ez (B+1+1) (.slice lo3 iG iH) (.int .i64 fin.next) (.int .i64 most) (.slice iI iJ iK) (.int .i64 gX)=wf at *;refine bodyPost_ret (by simp [results,Tryd.results20,go_sem,f0,f1,f2,f3,f4]<;>rfl) rfl ?_;exact ⟨lo3,iG,iH,iI,iJ,iK,gX,by (first | rfl | (rw [HF2.out]<;>rfl)),by (first | exact hend.1 | (rw [HF2.out];exact hend.1)),hend.2⟩
        exact HT.bG.nil
       exact HT.bG.nil
      exact HT.bG.nil
   ·have t2:(h.k == 2)=false:=by rcases Y5 with k | k<;>rw [k]<;>rfl
    have t3:(h.k == 3)=false:=by rcases Y5 with k | k<;>rw [k]<;>rfl
    have t1:(h.k == 1)=false:=by rcases Y5 with k | k<;>rw [k]<;>rfl
    have t4:(h.k == 4)=false:=by rcases Y5 with k | k<;>rw [k]<;>rfl
    have QO:=hid Y5;have hl2:2<=l2:=by rw [HS2.out.1];rcases Y5 with k | k;exact xA.out.2.2.2.1 k;exact xA.out.2.2.2.2.1 k
    have ZM:Hid (KpA most h ps ev):=by
     show KpA most h ps ev
     rcases Y5 with k | k
     ·exact Vw hm h ps IH.out k ev (by have:=Hw.out;have:=Yd.out;omega) QL.out xA.out qO.out
     ·exact Vy hm h ps IH.out k ev (by have:=Hw.out;have:=Yd.out;omega) QL.out xA.out qO.out
    clear Y5;obtain ⟨b9,aJ,v0,qv0,r1v,n1v,e1v,r2v,n2v,e2v,e9,_⟩:=HS2.out.nth (i:=0) (by omega);subst e9;obtain ⟨b9',J5,u,qu,kS,kT,d1u,kU,kV,kW,e9,_,gu,ru,cu,su,tu⟩:=HS2.out.nth (i:=1) (by omega);injection e9 with e9
    injection e9 with e9 e9'
    subst e9 e9';simp only [Nat.one_mul] at cu;have VO:=hid (IH.out 1 u qu gu);have KW:=hid gu;have Bj:=hid cu;have AV:=hid su;have AX:=hid tu;have hzu:=To.dG ps 1 u qu gu;have hou:=fO ps 1 u qu qO.out gu;have hlz:en+1+qu.size<=100000:=by have:=Yd.out;omega
    have hi1:(1:Int) < l2:=by omega
    have hj1:1 < l2:=by omega
    clear gu ru cu su tu hzu;obtain ⟨kd,hkd⟩:∃ kd,jf most h (dJ most ps) (lq most ev) d1=kd:=⟨_,rfl⟩;obtain ⟨rt,hrt⟩:∃ rt,dZ most u qu (lq most (ev.snoc h.nm 0 true h ps ev)) kd.2=rt:=⟨_,rfl⟩;have hre:(dP most (tv d.next) (tv kd.2.next) h.fr h.en rt.2).2=fin:=by
     have e1:rt.1=kd.2.next:=by rw [<-hrt];exact kX _ _ _ _ _
     rw [<-bF.out,iR Rt.out,<-HD1.out,<-e1,<-hrt,QK,<-hkd];unfold jM;rw [if_neg (by rcases QO.out with k | k<;>rw [k]<;>decide),if_neg (by rcases QO.out with k | k<;>rw [k]<;>decide),if_neg (by rcases QO.out with k | k<;>rw [k]<;>decide),if_neg (by rcases QO.out with k | k<;>rw [k]<;>decide),if_pos QO.out];unfold fF jg;dsimp only;rw [Bl KW.out]
     all_goals rfl
    have hnt:rt.2.next<=1000000:=by have k:=yM.out;rw [bF.out,<-hre,jJ] at k;exact k
    have hnx:kd.2.next+1<=rt.2.next:=by rw [<-hrt];exact yG most u qu (mY most _) kd.2
    have yN:=hid hrt;have QM:=hid hnt;have HKD:=hid hkd;have hkn:kd.2.next<=1000000:=by omega
    have HF3:=hid hre;have HF2:Hid (fin=fin):=rfl;clear hre hrt hnt hnx hkd;have HKC:Hid (Calls Tryd.prog 33 #[gK lo ln lc d1.next most EC ED EF inn,bP h o1 l1 c1 (some ⟨b9,aJ,none⟩) l2 c2,.slice eo en ec] wr (KpQ (RB R B) wr most kd)):=by
     have k:=ZM.out (RB R B) wr d1 inn lo ln lc EC ED EF o1 l1 c1 (some ⟨b9,aJ,none⟩) l2 c2 eo en ec DW.out (nH.out.fr Az.out (jG dV)) (HS2.out.fr Az.out (jG dV)) (La.out.fr Az.out (jG dV)) vW (by rw [HKD.out];exact hkn);rw [HKD.out] at k;exact k
    unfold bP gK at HKC;clear p0 p1 p2 p3 p4;obtain ⟨⟨p0,p1,p2,p3,p4⟩,y0,y1,y2,y3,y4⟩:=five HR0.out;go_upto_if 145 with fail
    go_cut [145] from 145 to 147 (fun v wx=>v=.bool true/\wr=wx)
    case first =>
     rcases QO.out with hk | hk
     ·have t6:(h.k == 6)=true:=by rw [hk];rfl
      have t7:(h.k == 7)=false:=by rw [hk];rfl
      clear hk;go_wp2_with fail;go_meet;exact ⟨by first | rfl | (rw [t6]) | (rw [t7]),rfl⟩
     ·have t6:(h.k == 6)=false:=by rw [hk];rfl
      have t7:(h.k == 7)=true:=by rw [hk];rfl
      clear hk;go_wp2_with fail;go_meet;exact ⟨by first | rfl | (rw [t6]) | (rw [t7]),rfl⟩
    case rest =>
     obtain ⟨hv,hw⟩:=hcut;subst hv hw;go_upto_region 33 with fail
     go_wp2_with fail;refine HKC.out.mono ?_;rintro x w3 ⟨lo3,iG,iH,iI,iJ,iK,gX,rfl,hk3,hq3⟩;have hb0:=au hq3 HR0.out;clear p0 p1 p2 p3 p4 y0 y1 y2 y3 y4;obtain ⟨⟨p0,p1,p2,p3,p4⟩,y0,y1,y2,y3,y4⟩:=five hb0;unfold gK;go_upto_region 35 with fail
     clear p0 p1 p2 p3 p4 y0 y1 y2 y3 y4 a0 a1 a2 a3 a4 a5 a6 a7 a8;obtain ⟨wp,hwp⟩:∃ wp,wp=iD w3 B (.slice lo3 iG iH) (.int .i64 kd.2.next) (.int .i64 most) (.slice iI iJ iK) (.int .i64 gX):=⟨_,rfl⟩;change Code.wp _ _ _ _ (iD w3 B (.slice lo3 iG iH) (.int .i64 kd.2.next) (.int .i64 most) (.slice iI iJ iK) (.int .i64 gX));rw [<-hwp];obtain ⟨hb0,gB,hb2,hkp,QN⟩:=Kv hwp hb0 (au hq3 PE.out) (au hq3 HR2.out) (iF hk3 WM) (Az.out.trans hq3) dV;clear hk3 hq3;have Lc:=hid hb0;have vH:=hid gB;have zJ:=hid hb2;have HKp:=hid hkp;have sV:=hid QN;have hzp:B+1+1 < wp.heap.size:=lt_of_block hb2;clear hwp hb0 gB hb2 hkp QN;obtain ⟨xs,hrow,hxl,hxo,hxc⟩:=La.out.row;have MR:=hid hxc;have kZ:=hid hrow;clear hrow hxc;have nT:Hid (∀ W' o c,ah wp W'->EvS (RB R B) W' o (en+1) (ev.snoc h.nm 0 true h ps ev)->en+1<=c->Calls Tryd.prog 20 #[gK lo3 iG iH kd.2.next most iI iJ iK gX,bP u kS kT d1u kU kV kW,.slice o (en+1) c] W' (sW (RB R B) W' most rt.2)):=fun W' o c hq he hc=>by
      have hq':=sV.out.trans hq;have k:=VO.out (RB R B) W' kd.2 gX lo3 iG iH iI iJ iK kS kT d1u kU kV kW o (en+1) c _ (HKp.out.stay hq) (AV.out.fr hq' (jG dV)) (AX.out.fr hq' (jG dV)) he hc hlz (Good.snoc (fun _=>ZM.out) QL.out) hou.1 hou.2 (by rw [yN.out];exact QM.out);rw [yN.out] at k;exact k
     unfold bP gK at nT;have bK:Hid (∀ W',ah wp W'->(fun (W':World)=>(A8 W' B (.slice lo3 iG iH) (.int .i64 kd.2.next) (.int .i64 most) (.slice iI iJ iK) (.int .i64 gX))/\(qV W' (B+1) h o1 l1 c1 (some ⟨b9,aJ,none⟩) l2 c2)/\(ES W' b9 (aJ+9) u kS kT d1u kU kV kW)) W'):=fun W' hq=>by
      obtain ⟨k,_⟩:=five (au hq Lc.out);exact ⟨k,aA (au hq vH.out),gG Bj.out (sV.out.trans hq)⟩
     go_cut [] from 157 to 172 (fun wx=>TmC R W B rt.2 most h o1 l1 c1 (some ⟨b9,aJ,none⟩) l2 c2 wx)
     case first =>
      refine dH 16 bK.out (by kernel_rfl) (fun hHeld=>?_)
      (try dsimp only at hHeld)
      have gq:=ah.drew wp;generalize wp.drew=wd at gq hHeld ⊢;refine HT.tk 0 rfl ?_;go_frame;refine HT.tk 1 rfl ?_;go_frame;refine HT.tk 2 rfl ?_;go_frame;refine HT.tk 3 rfl ?_;go_frame;refine HT.tk 4 rfl ?_;go_frame;refine HT.tk 6 rfl ?_;go_frame;refine HT.tk 8 rfl ?_;go_frame;refine HT.tk 9 rfl ?_;go_frame;refine HT.tk 10 rfl ?_;go_frame;refine HT.tk 11 rfl ?_;go_frame;refine HT.tk 12 rfl ?_;go_frame;refine HT.branch (rs:=[5,13]) (by kernel_rfl) (by simp) ?_;refine HT.cn 5 rfl (fun K hK=>?_) ?_
      ·go_simp;obtain ⟨qB,kG⟩:∃ wa,wa=wd.alloc (.cells #[] 79):=⟨_,rfl⟩;have hqa:ah wd qB:=by rw [kG];exact ah.alloc _ _
       have hown:=iZ (size:=13) (show qB.heap[wd.heap.size]?=some (.cells #[] 79 (0,0)) by rw [kG];exact heap_alloc_new wd _);have hgl:wp.heap.size<=wd.heap.size:=(gq).size;have mQ:=(gq).trans hqa;rw [<-kG];clear kG;generalize wd.heap.size=ga at hown hgl ⊢;refine hK.out _ _ ?UR (fun hHeld=>?_)
       case UR=>exact bK.out _ mQ
       clear hK K
       (try go_frame)
       refine HT.branch (rs:=[7,13]) (by kernel_rfl) (by simp) ?_;refine HT.cn 7 rfl (fun K hK=>?_) ?_
       ·refine aI qB rfl (.tmp 162) (.tmp 163) 76 rfl 79 _ 13 168 jd (.slice (some ⟨ga,0,none⟩) 0 0) 0 [] rfl hown eo en ec xs rfl hxl ?aaG hxo (by unfold maxLen;omega) (by omega) ?_
        case aaG=>(intro j u hj;obtain ⟨b,off,e,hc⟩:=MR.out j u hj;subst e;exact ⟨_,rfl,by rw [Addr.add_lit];exact (sV.out.trans (mQ)).at hc⟩)
        intro o3 c3 jE ho3 hf3 iE hnil3;simp only [Nat.zero_add,List.nil_append] at ho3 iE hnil3 ⊢;have o8:ah wp jE:=Fr.trans' (mQ) hf3 (fun i hi e=>by simp [Value.ownBlock] at e;omega);have jF:∀ k,(Value.slice o3 en c3).ownBlock=some k->wp.heap.size<=k:=fun k hk=>by
         rcases iE with e | e
         ·rw [e] at hk;simp [Value.ownBlock] at hk;omega
         ·rw [e] at hk;cases hk;exact ((mQ)).size
        refine hK.out _ _ ?UW (fun hHeld=>?_)
        case UW=>exact bK.out _ o8
        clear hK K
        (try go_frame)
        refine HT.branch (rs:=[13]) (by kernel_rfl) (by simp) ?_;refine HT.cn 13 rfl (fun K hK=>?_) ?_
        ·go_simp;obtain ⟨lU,hwb⟩:∃ wb,wb=jE.alloc (.cells (eX h.nm 0 true h o1 l1 c1 (some ⟨b9,aJ,none⟩) l2 c2 eo en ec) 79):=⟨_,rfl⟩;have pX:ah jE lU:=by rw [hwb];exact ah.alloc _ _
         have hb8:lU.heap[jE.heap.size]?=some (.cells (eX h.nm 0 true h o1 l1 c1 (some ⟨b9,aJ,none⟩) l2 c2 eo en ec) 79 (0,0)):=by rw [hwb];exact heap_alloc_new jE _
         have Cm:wp.heap.size<=jE.heap.size:=(o8).size;have kH:=(o8).trans pX;have pq:=lt_of_block hb8;change K _ (jE.alloc (.cells (eX h.nm 0 true h o1 l1 c1 (some ⟨b9,aJ,none⟩) l2 c2 eo en ec) 79));rw [<-hwb];clear hwb;replace ho3:=aU ho3 pX (fun _ _ h=>h);generalize jE.heap.size=g8 at hb8 Cm pq ⊢;refine hK.out _ _ ?UY (fun hHeld=>?_)
         case UY=>exact bK.out _ kH
         clear hK K
         (try go_frame)
         refine HT.branch (rs:=[14]) (by kernel_rfl) (by simp) ?_;refine HT.cn 14 rfl (fun K hK=>?_) ?_
         ·have hc8:∀ j u,(eX h.nm 0 true h o1 l1 c1 (some ⟨b9,aJ,none⟩) l2 c2 eo en ec).toList[j]?=some u->∃ a,some (⟨g8,0,none⟩:Addr)=some a/\lU.cell? (a.add j)=some u:=fun j u hj=>⟨_,rfl,by rw [Addr.add_lit,Nat.zero_add,cell_of_row _ _ _ _ _ (0,0) hb8];simpa using hj⟩
          refine aI lU rfl (.tmp 164) (.tmp 170) 76 rfl 79 _ 13 168 jd (.slice o3 en c3) en xs rfl ho3 (some ⟨g8,0,none⟩) 1 1 (eX h.nm 0 true h o1 l1 c1 (some ⟨b9,aJ,none⟩) l2 c2 eo en ec).toList rfl rfl hc8 (by simp [Value.oneCell']) (by unfold maxLen;omega) (by omega) ?_;intro o4 c4 wV nM hf4 pz uo;have dW:ah wp wV:=Fr.trans' (kH) hf4 (fun i hi e=>by have:=jF i e;omega);have pF:∀ k,(Value.slice o4 (en+1) c4).ownBlock=some k->B+1+1 < k:=fun k hk=>by
           rcases pz with e | e
           ·rw [e] at hk;have:=jF k hk;omega
           ·rw [e] at hk;cases hk;have:=((kH)).size;omega
          refine hK.out _ _ ?UZ (fun hHeld=>?_)
          case UZ=>exact bK.out _ dW
          clear hK K
          (try go_frame)
          refine HT.branch (rs:=[15]) (by kernel_rfl) (by simp) ?_;refine HT.cn 15 rfl (fun K hK=>?_) ?_
          ·obtain ⟨uw,uy⟩:=lX (h:=h) (ps:=ps) (ar:=ev) (v:=0) (ag:=true) (c1:=c1) (c2:=c2) kZ.out Hw.out (sV.out.trans (dW)) dV nH.out HS2.out La.out vW nM (by omega) pF;go_simp;go_at_call 20
           with_reducible refine Calls.mono (nT.out _ _ _ (dW) uw uy) ?_
           rintro e w9 ⟨RG,RH,RI,RJ,RP,RQ,Bc,rfl,hk9,oU⟩;have mg:=iF hk9 (Nat.lt_of_lt_of_le hzp (dW).size);have eF:=(dW).trans oU;unfold gK;refine hK.out _ _ ?U0 (fun hHeld=>?_)
           case U0=>exact bK.out _ eF
           clear hK K
           (try go_frame)
           refine HT.last rfl (by kernel_rfl) (fun K hK=>?_);have hbs:=au eF Lc.out;obtain ⟨⟨p0,p1,p2,p3,p4⟩,y0,y1,y2,y3,y4⟩:=five hbs;have hend:=jX Bc hbs (au eF vH.out) (au eF zJ.out) mg (sV.out.trans eF) dV;go_simp;refine hK.out _ _ ?_;clear hK K
           (try go_frame)
           refine HT.done (by kernel_rfl) ?_ _;go_wp2_with fail;go_meet;exact hend
          exact HT.bG.nil
         exact HT.bG.nil
        exact HT.bG.nil
       refine HT.cn 13 rfl (fun K hK=>?_) ?_
       ·go_simp;obtain ⟨wW,hwb⟩:∃ wb,wb=qB.alloc (.cells (eX h.nm 0 true h o1 l1 c1 (some ⟨b9,aJ,none⟩) l2 c2 eo en ec) 79):=⟨_,rfl⟩;have pX:ah qB wW:=by rw [hwb];exact ah.alloc _ _
        have hb8:wW.heap[qB.heap.size]?=some (.cells (eX h.nm 0 true h o1 l1 c1 (some ⟨b9,aJ,none⟩) l2 c2 eo en ec) 79 (0,0)):=by rw [hwb];exact heap_alloc_new qB _
        have Cm:wp.heap.size<=qB.heap.size:=(mQ).size;have lV:=(mQ).trans pX;have pq:=lt_of_block hb8;change K _ (qB.alloc (.cells (eX h.nm 0 true h o1 l1 c1 (some ⟨b9,aJ,none⟩) l2 c2 eo en ec) 79));rw [<-hwb];clear hwb;have QI:=(hown.lt ga rfl).2;replace hown:=aU hown pX (fun _ _ h=>h);generalize qB.heap.size=g8 at hb8 Cm pq QI ⊢;refine hK.out _ _ ?U1 (fun hHeld=>?_)
        case U1=>exact bK.out _ lV
        clear hK K
        (try go_frame)
        refine HT.branch (rs:=[7]) (by kernel_rfl) (by simp) ?_;refine HT.cn 7 rfl (fun K hK=>?_) ?_
        ·refine aI wW rfl (.tmp 162) (.tmp 163) 76 rfl 79 _ 13 168 jd (.slice (some ⟨ga,0,none⟩) 0 0) 0 [] rfl hown eo en ec xs rfl hxl ?aaH hxo (by unfold maxLen;omega) (by omega) ?_
         case aaH=>(intro j u hj;obtain ⟨b,off,e,hc⟩:=MR.out j u hj;subst e;exact ⟨_,rfl,by rw [Addr.add_lit];exact (sV.out.trans (lV)).at hc⟩)
         intro o3 c3 pG ho3 hf3 iE hnil3;simp only [Nat.zero_add,List.nil_append] at ho3 iE hnil3 ⊢;have kJ:ah wp pG:=Fr.trans' (lV) hf3 (fun i hi e=>by simp [Value.ownBlock] at e;omega);have jF:∀ k,(Value.slice o3 en c3).ownBlock=some k->wp.heap.size<=k:=fun k hk=>by
          rcases iE with e | e
          ·rw [e] at hk;simp [Value.ownBlock] at hk;omega
          ·rw [e] at hk;cases hk;exact ((lV)).size
         refine hK.out _ _ ?U2 (fun hHeld=>?_)
         case U2=>exact bK.out _ kJ
         clear hK K
         (try go_frame)
         replace hb8:=aC hf3 (fun e=>by simp [Value.ownBlock] at e;omega) hb8;refine HT.branch (rs:=[14]) (by kernel_rfl) (by simp) ?_;refine HT.cn 14 rfl (fun K hK=>?_) ?_
         ·have hc8:∀ j u,(eX h.nm 0 true h o1 l1 c1 (some ⟨b9,aJ,none⟩) l2 c2 eo en ec).toList[j]?=some u->∃ a,some (⟨g8,0,none⟩:Addr)=some a/\pG.cell? (a.add j)=some u:=fun j u hj=>⟨_,rfl,by rw [Addr.add_lit,Nat.zero_add,cell_of_row _ _ _ _ _ (0,0) hb8];simpa using hj⟩
          refine aI pG rfl (.tmp 164) (.tmp 170) 76 rfl 79 _ 13 168 jd (.slice o3 en c3) en xs rfl ho3 (some ⟨g8,0,none⟩) 1 1 (eX h.nm 0 true h o1 l1 c1 (some ⟨b9,aJ,none⟩) l2 c2 eo en ec).toList rfl rfl hc8 (by simp [Value.oneCell']) (by unfold maxLen;omega) (by omega) ?_;intro o4 c4 wX nM hf4 pz uo;have dX:ah wp wX:=Fr.trans' (kJ) hf4 (fun i hi e=>by have:=jF i e;omega);have pF:∀ k,(Value.slice o4 (en+1) c4).ownBlock=some k->B+1+1 < k:=fun k hk=>by
           rcases pz with e | e
           ·rw [e] at hk;have:=jF k hk;omega
           ·rw [e] at hk;cases hk;have:=((kJ)).size;omega
          refine hK.out _ _ ?abX (fun hHeld=>?_)
          case abX=>exact bK.out _ dX
          clear hK K
          (try go_frame)
          refine HT.branch (rs:=[15]) (by kernel_rfl) (by simp) ?_;refine HT.cn 15 rfl (fun K hK=>?_) ?_
          ·obtain ⟨uw,uy⟩:=lX (h:=h) (ps:=ps) (ar:=ev) (v:=0) (ag:=true) (c1:=c1) (c2:=c2) kZ.out Hw.out (sV.out.trans (dX)) dV nH.out HS2.out La.out vW nM (by omega) pF;go_simp;go_at_call 20
           with_reducible refine Calls.mono (nT.out _ _ _ (dX) uw uy) ?_
           rintro e w9 ⟨RG,RH,RI,RJ,RP,RQ,Bc,rfl,hk9,oU⟩;have mg:=iF hk9 (Nat.lt_of_lt_of_le hzp (dX).size);have eG:=(dX).trans oU;unfold gK;refine hK.out _ _ ?abY (fun hHeld=>?_)
           case abY=>exact bK.out _ eG
           clear hK K
           (try go_frame)
           refine HT.last rfl (by kernel_rfl) (fun K hK=>?_);have hbs:=au eG Lc.out;obtain ⟨⟨p0,p1,p2,p3,p4⟩,y0,y1,y2,y3,y4⟩:=five hbs;have hend:=jX Bc hbs (au eG vH.out) (au eG zJ.out) mg (sV.out.trans eG) dV;go_simp;refine hK.out _ _ ?_;clear hK K
           (try go_frame)
           refine HT.done (by kernel_rfl) ?_ _;go_wp2_with fail;go_meet;exact hend
          exact HT.bG.nil
         exact HT.bG.nil
        exact HT.bG.nil
       exact HT.bG.nil
      refine HT.cn 13 rfl (fun K hK=>?_) ?_
      ·go_simp;obtain ⟨uq,hwb⟩:∃ wb,wb=wd.alloc (.cells (eX h.nm 0 true h o1 l1 c1 (some ⟨b9,aJ,none⟩) l2 c2 eo en ec) 79):=⟨_,rfl⟩;have pX:ah wd uq:=by rw [hwb];exact ah.alloc _ _
       have hb8:uq.heap[wd.heap.size]?=some (.cells (eX h.nm 0 true h o1 l1 c1 (some ⟨b9,aJ,none⟩) l2 c2 eo en ec) 79 (0,0)):=by rw [hwb];exact heap_alloc_new wd _
       have Cm:wp.heap.size<=wd.heap.size:=(gq).size;have wY:=(gq).trans pX;have pq:=lt_of_block hb8;change K _ (wd.alloc (.cells (eX h.nm 0 true h o1 l1 c1 (some ⟨b9,aJ,none⟩) l2 c2 eo en ec) 79));rw [<-hwb];clear hwb;generalize wd.heap.size=g8 at hb8 Cm pq ⊢;refine hK.out _ _ ?abZ (fun hHeld=>?_)
       case abZ=>exact bK.out _ wY
       clear hK K
       (try go_frame)
       refine HT.branch (rs:=[5]) (by kernel_rfl) (by simp) ?_;refine HT.cn 5 rfl (fun K hK=>?_) ?_
       ·go_simp;obtain ⟨wZ,kG⟩:∃ wa,wa=uq.alloc (.cells #[] 79):=⟨_,rfl⟩;have hqa:ah uq wZ:=by rw [kG];exact ah.alloc _ _
        have hown:=iZ (size:=13) (show wZ.heap[uq.heap.size]?=some (.cells #[] 79 (0,0)) by rw [kG];exact heap_alloc_new uq _);have hgl:wp.heap.size<=uq.heap.size:=(wY).size;have lW:=(wY).trans hqa;rw [<-kG];clear kG;generalize uq.heap.size=ga at hown hgl pq ⊢;refine hK.out _ _ ?ab1 (fun hHeld=>?_)
        case ab1=>exact bK.out _ lW
        clear hK K
        (try go_frame)
        replace hb8:=au hqa hb8;refine HT.branch (rs:=[7]) (by kernel_rfl) (by simp) ?_;refine HT.cn 7 rfl (fun K hK=>?_) ?_
        ·refine aI wZ rfl (.tmp 162) (.tmp 163) 76 rfl 79 _ 13 168 jd (.slice (some ⟨ga,0,none⟩) 0 0) 0 [] rfl hown eo en ec xs rfl hxl ?aaI hxo (by unfold maxLen;omega) (by omega) ?_
         case aaI=>(intro j u hj;obtain ⟨b,off,e,hc⟩:=MR.out j u hj;subst e;exact ⟨_,rfl,by rw [Addr.add_lit];exact (sV.out.trans (lW)).at hc⟩)
         intro o3 c3 pI ho3 hf3 iE hnil3;simp only [Nat.zero_add,List.nil_append] at ho3 iE hnil3 ⊢;have kK:ah wp pI:=Fr.trans' (lW) hf3 (fun i hi e=>by simp [Value.ownBlock] at e;omega);have jF:∀ k,(Value.slice o3 en c3).ownBlock=some k->wp.heap.size<=k:=fun k hk=>by
          rcases iE with e | e
          ·rw [e] at hk;simp [Value.ownBlock] at hk;omega
          ·rw [e] at hk;cases hk;exact ((lW)).size
         refine hK.out _ _ ?ab2 (fun hHeld=>?_)
         case ab2=>exact bK.out _ kK
         clear hK K
         (try go_frame)
         replace hb8:=aC hf3 (fun e=>by simp [Value.ownBlock] at e;omega) hb8;refine HT.branch (rs:=[14]) (by kernel_rfl) (by simp) ?_;refine HT.cn 14 rfl (fun K hK=>?_) ?_
         ·have hc8:∀ j u,(eX h.nm 0 true h o1 l1 c1 (some ⟨b9,aJ,none⟩) l2 c2 eo en ec).toList[j]?=some u->∃ a,some (⟨g8,0,none⟩:Addr)=some a/\pI.cell? (a.add j)=some u:=fun j u hj=>⟨_,rfl,by rw [Addr.add_lit,Nat.zero_add,cell_of_row _ _ _ _ _ (0,0) hb8];simpa using hj⟩
          refine aI pI rfl (.tmp 164) (.tmp 170) 76 rfl 79 _ 13 168 jd (.slice o3 en c3) en xs rfl ho3 (some ⟨g8,0,none⟩) 1 1 (eX h.nm 0 true h o1 l1 c1 (some ⟨b9,aJ,none⟩) l2 c2 eo en ec).toList rfl rfl hc8 (by simp [Value.oneCell']) (by unfold maxLen;omega) (by omega) ?_;intro o4 c4 xg nM hf4 pz uo;have dY:ah wp xg:=Fr.trans' (kK) hf4 (fun i hi e=>by have:=jF i e;omega);have pF:∀ k,(Value.slice o4 (en+1) c4).ownBlock=some k->B+1+1 < k:=fun k hk=>by
           rcases pz with e | e
           ·rw [e] at hk;have:=jF k hk;omega
           ·rw [e] at hk;cases hk;have:=((kK)).size;omega
          refine hK.out _ _ ?ab3 (fun hHeld=>?_)
          case ab3=>exact bK.out _ dY
          clear hK K
          (try go_frame)
          refine HT.branch (rs:=[15]) (by kernel_rfl) (by simp) ?_;refine HT.cn 15 rfl (fun K hK=>?_) ?_
          ·obtain ⟨uw,uy⟩:=lX (h:=h) (ps:=ps) (ar:=ev) (v:=0) (ag:=true) (c1:=c1) (c2:=c2) kZ.out Hw.out (sV.out.trans (dY)) dV nH.out HS2.out La.out vW nM (by omega) pF;go_simp;go_at_call 20
           with_reducible refine Calls.mono (nT.out _ _ _ (dY) uw uy) ?_
           rintro e w9 ⟨RG,RH,RI,RJ,RP,RQ,Bc,rfl,hk9,oU⟩;have mg:=iF hk9 (Nat.lt_of_lt_of_le hzp (dY).size);have eH:=(dY).trans oU;unfold gK;refine hK.out _ _ ?ab4 (fun hHeld=>?_)
           case ab4=>exact bK.out _ eH
           clear hK K
           (try go_frame)
           refine HT.last rfl (by kernel_rfl) (fun K hK=>?_);have hbs:=au eH Lc.out;obtain ⟨⟨p0,p1,p2,p3,p4⟩,y0,y1,y2,y3,y4⟩:=five hbs;have hend:=jX Bc hbs (au eH vH.out) (au eH zJ.out) mg (sV.out.trans eH) dV;go_simp;refine hK.out _ _ ?_;clear hK K
           (try go_frame)
           refine HT.done (by kernel_rfl) ?_ _;go_wp2_with fail;go_meet;exact hend
          exact HT.bG.nil
         exact HT.bG.nil
        exact HT.bG.nil
       exact HT.bG.nil
      exact HT.bG.nil
     case rest =>
      rename World=>wq
      obtain ⟨rU,rV,rW,vI,vJ,vK,qW,hb0,gB,hb2,hk5,hq5⟩:=hcut;have pK:=hid hb0;have pO:=hid gB;have uz:=hid hb2;have Ky:=hid hk5;have qU:=hid hq5;clear hzp;have hzp:B+1+1 < wq.heap.size:=lt_of_block hb2;clear hb0 gB hb2 hk5 hq5;have DX:Hid (∀ W',ah wq W'->(fun (W':World)=>(A8 W' B (.slice rU rV rW) (.int .i64 rt.2.next) (.int .i64 most) (.slice vI vJ vK) (.int .i64 qW))/\(qV W' (B+1) h o1 l1 c1 (some ⟨b9,aJ,none⟩) l2 c2)) W'):=fun W' hq=>by
       obtain ⟨k,_⟩:=five (au hq pK.out);exact ⟨k,aA (au hq pO.out)⟩
      have gI:Hid (∀ W',ah wq W'->Calls Tryd.prog 31 #[gK rU rV rW rt.2.next most vI vJ vK qW,.agg #[.int .i64 1,.int .i64 d.next,.slice none 0 0],.agg #[.int .i64 1,.int .i64 kd.2.next,.slice none 0 0],.agg #[.int .i64 h.fr,.int .i64 h.en]] W' (sW (RB R B) W' most fin)):=fun W' hq=>by
       have k:=add_any (o1:=none) (l1:=0) (c1:=0) (o2:=none) (l2:=0) (c2:=0) qW (Ky.out.stay hq) hm (tv d.next) (tv kd.2.next) h.fr h.en (aB.nil _ _ _) (aB.nil _ _ _) (by show Fo.nil.size<=_;decide) (by show Fo.nil.size<=_;decide);rw [HF3.out] at k;exact k
      unfold gK at gI;go_upto_region 36 with fail
      refine dH 8 DX.out (by kernel_rfl) (fun hHeld=>?_)
      (try dsimp only at hHeld)
      have gq:=ah.drew wq;generalize wq.drew=wd at gq hHeld ⊢;refine HT.tk 0 rfl ?_;go_frame;refine HT.tk 1 rfl ?_;go_frame;refine HT.tk 3 rfl ?_;go_frame;refine HT.tk 5 rfl ?_;go_frame;refine HT.tk 6 rfl ?_;go_frame;refine HT.branch (rs:=[2]) (by kernel_rfl) (by simp) ?_;refine HT.cn 2 rfl (fun K hK=>?_) ?_
      ·go_simp;go_at_call 32
       with_reducible refine Calls.mono (fZ _ _) ?_
       rintro e wv1 ⟨rfl,pR⟩;have fA:=gq.trans pR;refine hK.out _ _ ?U8 (fun hHeld=>?_)
       case U8=>exact DX.out _ fA
       clear hK K
       (try go_frame)
       refine HT.branch (rs:=[4]) (by kernel_rfl) (by simp) ?_;refine HT.cn 4 rfl (fun K hK=>?_) ?_
       ·go_simp;go_at_call 32
        with_reducible refine Calls.mono (fZ _ _) ?_
        rintro e wv2 ⟨rfl,rX⟩;have fU:=fA.trans rX;refine hK.out _ _ ?ab5 (fun hHeld=>?_)
        case ab5=>exact DX.out _ fU
        clear hK K
        (try go_frame)
        refine HT.branch (rs:=[7]) (by kernel_rfl) (by simp) ?_;refine HT.cn 7 rfl (fun K hK=>?_) ?_
        ·go_simp;go_at_call 31
         with_reducible refine Calls.mono (gI.out _ fU) ?_
         rintro e Ez ⟨lo3,iG,iH,iI,iJ,iK,gX,rfl,hk3,DV⟩;have mg:=iF hk3 (Nat.lt_of_lt_of_le hzp fU.size);have oD:=fU.trans DV;unfold gK;refine hK.out _ _ ?ab6 (fun hHeld=>?_)
         case ab6=>exact DX.out _ oD
         clear hK K
         (try go_frame)
         refine HT.last rfl (by kernel_rfl) (fun K hK=>?_);have hbs:=au oD uz.out;obtain ⟨⟨z0,z1,z2,z3,z4⟩,y0,y1,y2,y3,y4⟩:=five hbs;have dU:=qU.out.trans oD;go_simp;refine hK.out _ _ ?_;clear hK K
         (try go_frame)
         refine HT.done (by kernel_rfl) ?_ _;clear z0 z1 z2 z3 z4 y0 y1 y2 y3 y4;generalize Ba:bodyPost Tryd.prog Tryd.f20 (sW R W most fin)=BP at *;go_wp2_with fail;rw [<-Ba];have hf:=eU Ez (B+1+1) (.slice lo3 iG iH) (.int .i64 fin.next) (.int .i64 most) (.slice iI iJ iK) (.int .i64 gX);obtain ⟨⟨f0,f1,f2,f3,f4⟩,_⟩:=five (bV (a:=(.slice lo3 iG iH)) (b:=(.int .i64 fin.next)) (c:=(.int .i64 most)) (d:=(.slice iI iJ iK)) (e:=(.int .i64 gX)) hbs);change bodyPost _ _ _ _ _ (iD Ez (B+1+1) (.slice lo3 iG iH) (.int .i64 fin.next) (.int .i64 most) (.slice iI iJ iK) (.int .i64 gX));have hend:=mV mg dU hf dV;generalize iD Ez (B+1+1) (.slice lo3 iG iH) (.int .i64 fin.next) (.int .i64 most) (.slice iI iJ iK) (.int .i64 gX)=wf at *;refine bodyPost_ret (by simp [results,Tryd.results20,go_sem,f0,f1,f2,f3,f4]<;>rfl) rfl ?_;exact ⟨lo3,iG,iH,iI,iJ,iK,gX,by (first | rfl | (rw [HF2.out]<;>rfl)),by (first | exact hend.1 | (rw [HF2.out];exact hend.1)),hend.2⟩
        exact HT.bG.nil
       exact HT.bG.nil
      exact HT.bG.nil
   ·have t2:(h.k == 2)=false:=by rw [hk];rfl
    have t3:(h.k == 3)=false:=by rw [hk];rfl
    have t1:(h.k == 1)=false:=by rw [hk];rfl
    have t4:(h.k == 4)=false:=by rw [hk];rfl
    have t6:(h.k == 6)=false:=by rw [hk];rfl
    have t7:(h.k == 7)=false:=by rw [hk];rfl
    have t5:(h.k == 5)=false:=by rw [hk];rfl
    have t8:(h.k == 8)=true:=by rw [hk];rfl
    have HK:=hid hk;clear hk;obtain ⟨lf,hlf⟩:∃ lf,dmap (lq most ev) (dJ most ps) d1=lf:=⟨_,rfl⟩;have hre:(dP most (tv d.next) (jP lf.1 2) (aH ps 2).1 (aH ps 2).2 (dP most (tv d.next) (jP lf.1 1) (aH ps 1).1 (aH ps 1).2 (dP most (jP lf.1 0) (3,0,.nil) (aH ps 0).1 (aH ps 0).2 lf.2).2).2).2=fin:=by
     rw [<-bF.out,iR Rt.out,<-HD1.out];unfold jM;rw [if_neg (by rw [HK.out];decide),if_neg (by rw [HK.out];decide),if_neg (by rw [HK.out];decide),if_neg (by rw [HK.out];decide),if_neg (by rw [HK.out];decide)]
     show _=((fF (dmap (lq most ev) (dJ most ps)) _) d1).2
     unfold fF;rw [hlf];dsimp only;rw [if_neg (by rw [HK.out];decide),if_pos HK.out];rfl
    have MW:Hid (lf.2.next<=1000000):=by show _<=_;have k:=yM.out;rw [bF.out,<-hre] at k;simpa only [jJ] using k
    have HF3:=hid hre;have HF2:Hid (fin=fin):=rfl;clear hre;have HLF:=hid hlf;have hzz:B+1+1 < wr.heap.size:=WM;obtain ⟨vs,hvs⟩:∃ vs,dJ most ps=vs:=⟨_,rfl⟩;have Oi:=hid hvs;have F7:Hid (vs.length=l2):=by show _=_;rw [<-hvs,lY,HS2.out.1]
    have HST:Hid (Y4 R W B wr.heap.size most h o1 l1 c1 o2 l2 c2 (lq most ev) vs lf (.slice none 0 0) (.int .i64 0) wr):=by
     refine ⟨0,none,0,rfl,rfl,d1,[],[],lo,ln,lc,EC,ED,EF,inn,Nat.zero_le _,?_,?_,PR.nil _ _,HR0.out,PE.out,HR2.out,Bo DW.out,Az.out,Nat.le_refl _⟩
     ·rw [List.drop_zero,<-hvs,hlf];rfl
     ·rw [List.drop_zero,<-hvs,hlf]
    obtain ⟨zz,DY⟩:∃ zz,wr.heap.size=zz:=⟨_,rfl⟩;rw [DY] at HST hzz;clear hvs hlf DY;go_wp2_with fail;clear p0 p1 p2 p3 p4 a0 a1 a2 a3 a4 a5 a6 a7 a8;go_loopw [14,15] (fun p t wx=>Y4 R W B zz most h o1 l1 c1 o2 l2 c2 (lq most ev) vs lf p t wx) (fun _ t _=>l2-(intOf t).toNat)
    case atStart=>exact HST.out
    case round =>
     clear HST;rename World=>wx
     obtain ⟨i,po,pc,rfl,rfl,di,ns,xs,rU,rV,rW,vI,vJ,vK,qW,hiv,hf1,hf2,hpr,hb0,gB,hb2,hk5,hq5,hzw⟩:=hrel;have hil:i<=l2:=by rw [<-F7.out];exact hiv
     have pK:=hid hb0;have pO:=hid gB;have uz:=hid hb2;have Ky:=hid hk5;have qU:=hid hq5;have yK:=hid hpr;have hzx:B+1+1 < wx.heap.size:=lt_of_block hb2;clear hb0 gB hb2 hk5 hq5 hpr hiv;obtain ⟨⟨p0,p1,p2,p3,p4⟩,_⟩:=five pK.out;obtain ⟨a0,a1,a2,a3,a4,a5,a6,a7,a8⟩:=aA pO.out
     by_cases hlt:i < l2
     ·have hlt':(i:Int) < l2:=by omega
      obtain ⟨b9,aJ,u,qu,kS,kT,d1u,kU,kV,kW,rfl,_,gu,ru,cu,su,tu⟩:=HS2.out.nth hlt;have Bj:=hid cu;have AV:=hid su;have AX:=hid tu;have hou:=fO ps i u qu qO.out gu;have MX:en+qu.size<=100000:=by have:=To.dG ps i u qu gu;have:=Yd.out;omega
      have hmd:=qR (lq most ev) vs i _ di (show vs[i]?=some (dZ most u qu) by rw [<-Oi.out];exact oI most ps i u qu gu);rw [hmd] at hf1 hf2;have hnr:(dZ most u qu (lq most ev) di).2.next<=lf.2.next:=by
       rw [<-hf2];exact uQ (mY most ev) (us:=vs.drop (i+1)) (fun v hv=>by rw [<-Oi.out] at hv;exact nC most ps v (List.mem_of_mem_drop hv)) _
      obtain ⟨rt,hrt⟩:∃ rt,dZ most u qu (lq most ev) di=rt:=⟨_,rfl⟩;have hr1:rt.1=di.next:=by rw [<-hrt];exact kX _ _ _ _ _
      rw [hrt] at hf1 hf2 hnr;rw [hr1] at hf1;have VO:=hid (IH.out i u qu gu);have yN:=hid hrt;have QM:Hid (rt.2.next<=1000000):=Nat.le_trans hnr MW.out;have vO:=hid hf1;have MZ:=hid hf2;clear hf1 hf2 hrt hr1 hnr hmd cu su tu gu ru;go_wp2_with fail;refine (fZ _ _).mono ?_;rintro x w2 ⟨rfl,hq2⟩;have fC:=hid hq2;clear hq2 p0 p1 p2 p3 p4 a0 a1 a2 a3 a4 a5 a6 a7 a8;go_wp2_with (at_builtin;go_must (refine aX w2 rfl (.tmp 188) (.tmp 192) 23 rfl 25 _ 3 40 elemTy (.slice po i pc) i xs rfl (yK.out.stay fC.out).own #[.int .i64 1,.int .i64 di.next,.slice none 0 0] rfl rfl ?c1 (by unfold maxLen;omega) (by omega) ?_);(case c1=>simp [Value.oneCell']));intro g4 c4 w4 nM hf4 hg4;have hlow:∀ k,(Value.slice po i pc).ownBlock=some k->zz<=k:=yK.out.low;have pU:=hid ((yK.out.stay fC.out).snoc (o':=none) (c1:=0) (di.next) nM (Nat.le_trans hzw fC.out.size) hg4);have HK4:=hid (yH (Ky.out.stay fC.out) hf4 hg4 (n:=i+1) (c:=c4));have xk:=hid (aC hf4 (fun e=>by have:=hlow _ e;omega) (au fC.out pK.out));have xq:=hid (aC hf4 (fun e=>by have:=hlow _ e;omega) (au fC.out pO.out));have DZ:=hid (aC hf4 (fun e=>by have:=hlow _ e;omega) (au fC.out uz.out));have uI:Hid (ah W w4):=Fr.trans' (qU.out.trans fC.out) hf4 (fun j hj e=>by have:=hlow j e;omega);have Rx:B+1+1 < w4.heap.size:=lt_of_block DZ.out;have Na:zz<=w4.heap.size:=Nat.le_trans hzw (Nat.le_trans fC.out.size hf4.size);clear nM hf4 hg4 hlow;have nT:Hid (∀ W',ah w4 W'->Calls Tryd.prog 20 #[gK rU rV rW di.next most vI vJ vK qW,bP u kS kT d1u kU kV kW,.slice eo en ec] W' (sW (Iz R B (.slice (some ⟨g4,0,none⟩) (i+1) c4)) W' most rt.2)):=fun W' hq=>by
       have hq':=uI.out.trans hq;have k:=VO.out (Iz R B (.slice (some ⟨g4,0,none⟩) (i+1) c4)) W' di qW rU rV rW vI vJ vK kS kT d1u kU kV kW eo en ec ev (HK4.out.stay hq) (AV.out.fr hq' (nV dV pU.out.low (by omega))) (AX.out.fr hq' (nV dV pU.out.low (by omega))) (La.out.fr hq' (nV dV pU.out.low (by omega))) vW MX QL.out hou.1 hou.2 (by rw [yN.out];exact QM.out);rw [yN.out] at k;exact k
      unfold bP gK at nT;obtain ⟨⟨p0,p1,p2,p3,p4⟩,_⟩:=five xk.out;obtain ⟨a0,a1,a2,a3,a4,a5,a6,a7,a8⟩:=aA xq.out;go_upto_region 42 with fail
      clear p0 p1 p2 p3 p4 a0 a1 a2 a3 a4 a5 a6 a7 a8;have bK:Hid (∀ W',ah w4 W'->(fun (W':World)=>(A8 W' B (.slice rU rV rW) (.int .i64 di.next) (.int .i64 most) (.slice vI vJ vK) (.int .i64 qW))/\(qV W' (B+1) h o1 l1 c1 (some ⟨b9,aJ,none⟩) l2 c2)/\(ES W' b9 (aJ+i*9) u kS kT d1u kU kV kW)) W'):=fun W' hq=>by
       obtain ⟨k,_⟩:=five (au hq xk.out);exact ⟨k,aA (au hq xq.out),gG Bj.out (uI.out.trans hq)⟩
      refine dH 8 bK.out (by kernel_rfl) (fun hHeld=>?_)
      (try dsimp only at hHeld)
      have gq:=ah.drew w4;generalize w4.drew=wd at *;refine HT.tk 0 rfl ?_;go_frame;refine HT.tk 1 rfl ?_;go_frame;refine HT.tk 2 rfl ?_;go_frame;refine HT.tk 3 rfl ?_;go_frame;refine HT.tk 4 rfl ?_;go_frame;refine HT.tk 5 rfl ?_;go_frame;refine HT.tk 6 rfl ?_;go_frame;refine HT.branch (rs:=[7]) (by kernel_rfl) (by simp) ?_;refine HT.cn 7 rfl (fun K hK=>?_) ?_
      ·go_simp;go_at_call 20
       with_reducible refine Calls.mono (nT.out _ gq) ?_
       rintro e w9 ⟨RG,RH,RI,RJ,RP,RQ,Bc,rfl,hk9,oU⟩;have mg:=yI hk9 (Nat.lt_of_lt_of_le Rx gq.size) (fun k hk=>Nat.lt_of_lt_of_le (pU.out.lt k hk) gq.size);have hqe:=gq.trans oU;unfold gK;refine hK.out _ _ ?ab7 (fun hHeld=>?_)
       case ab7=>exact bK.out _ hqe
       clear hK K
       (try go_frame)
       refine HT.last rfl (by kernel_rfl) (fun K hK=>?_);have hbs:=au hqe xk.out;obtain ⟨⟨p0,p1,p2,p3,p4⟩,y0,y1,y2,y3,y4⟩:=five hbs;have hend:=Bv Bc (by rw [F7.out];omega) (by rw [List.append_assoc];exact vO.out) MZ.out (pU.out.stay hqe) hbs (au hqe xq.out) (au hqe DZ.out) mg (uI.out.trans hqe) dV hzz (Nat.le_trans Na hqe.size);have zC:=hid hend;clear hend;go_simp;refine hK.out _ _ ?_;clear hK K
       (try go_frame)
       refine HT.done (by kernel_rfl) ?_ _;go_wp2_with fail;go_roundw
       case rel=>exact ⟨i+1,_,_,by go_num,rfl,zC.out⟩
       case measure=>simp [intOf];omega
      exact HT.bG.nil
     ·have hlt':¬ (i:Int) < l2:=by omega
      have hi2:l2=i:=by omega
      subst hi2;have hd:vs.drop l2=[]:=List.drop_eq_nil_of_le (by rw [F7.out];exact Nat.le_refl _);rw [hd] at hf1 hf2;have hns:ns=lf.1:=by rw [<-hf1];show ns=ns++[];simp
      have hdl:di=lf.2:=hf2;clear hf1 hf2 hd;obtain ⟨lf1,lf2⟩:=lf;dsimp only at hns hdl;subst hns hdl;obtain ⟨hpt,hpc⟩:=yK.out.at (R:=R) hzz (by unfold maxLen;omega);have hnl:=yK.out.len;have Ey:=hid hpt;have HKq:=hid (Bq Ky.out);clear hpt;have hl2:3<=l2:=by rw [HS2.out.1];exact xA.out.2.2.2.2.2.1 HK.out
      obtain ⟨b9,aJ,u,qu,_,_,_,_,_,_,rfl,_,gu,_,cu,_,_⟩:=HS2.out.nth (i:=0) (by omega);have VP:aH ps 0=(u.fr,u.en):=by unfold aH;rw [gu]
      obtain ⟨_,_,_,_,_,_,_,u7,u8⟩:=cu
      (try simp only [Nat.zero_mul,Nat.add_zero] at u7 u8)
      obtain ⟨b9x,VQ,v,qv,_,_,_,_,_,_,e9x,_,gv,_,cv,_,_⟩:=HS2.out.nth (i:=1) (by omega);obtain ⟨rfl,rfl⟩:b9=b9x/\aJ=VQ:=by cases e9x;exact ⟨rfl,rfl⟩
      have hsp1:aH ps 1=(v.fr,v.en):=by unfold aH;rw [gv]
      obtain ⟨_,_,_,_,_,_,_,v7,v8⟩:=cv
      (try simp only [Nat.one_mul] at v7 v8)
      obtain ⟨b9x,VQ,x,qx,_,_,_,_,_,_,e9x,_,gx,_,cx,_,_⟩:=HS2.out.nth (i:=2) (by omega);obtain ⟨rfl,rfl⟩:b9=b9x/\aJ=VQ:=by cases e9x;exact ⟨rfl,rfl⟩
      have hsp2:aH ps 2=(x.fr,x.en):=by unfold aH;rw [gx]
      obtain ⟨_,_,_,_,_,_,_,x7,x8⟩:=cx
      (try simp only [Nat.zero_mul,Nat.one_mul,Nat.add_zero] at x7 x8)
      obtain ⟨gp,n0,wU,n0c,rfl,IW,DJ,n01,n02⟩:=Ey.out.get (i:=0) (by rw [List.length_map,hnl];omega);obtain ⟨gp1,n1,QE,n1c,eg,U6,n10,n11,n12⟩:=Ey.out.get (i:=1) (by rw [List.length_map,hnl];omega);obtain rfl:gp=gp1:=by cases eg;rfl
      obtain ⟨gp2,n2,n2o,n2c,eg,n2t,n20,n21,n22⟩:=Ey.out.get (i:=2) (by rw [List.length_map,hnl];omega);obtain rfl:gp=gp2:=by cases eg;rfl
      obtain ⟨dA,hdA⟩:∃ dA,(dP most (tv n0) (3,0,.nil) u.fr u.en di).2=dA:=⟨_,rfl⟩;obtain ⟨dB,hdB⟩:∃ dB,(dP most (tv d.next) (tv n1) v.fr v.en dA).2=dB:=⟨_,rfl⟩;have HA:=hid hdA;have IQ:=hid hdB;have MC:Hid ((dP most (tv d.next) (tv n2) x.fr x.en dB).2=fin):=by show _=_;rw [<-HF3.out,<-hdB,<-hdA,VP,hsp1,hsp2,<-IW,<-U6,<-n2t]
      have Hu7:=hid u7;have Hu8:=hid u8;have Hv7:=hid v7;have Hv8:=hid v8;have Hx7:=hid x7;have Hx8:=hid x8;have hi0:(0:Int) < l2:=by omega
      have hj0:0 < l2:=by omega
      have hi1:(1:Int) < l2:=by omega
      have hj1:1 < l2:=by omega
      have hi2:(2:Int) < l2:=by omega
      have hj2:2 < l2:=by omega
      have Hn0:=hid (And.intro DJ (And.intro n01 n02));have Hn1:=hid (And.intro n10 (And.intro n11 n12));have Hn2:=hid (And.intro n20 (And.intro n21 n22));clear IW U6 n2t hdA hdB VP hsp1 hsp2 gu gv gx u7 u8 v7 v8 x7 x8 DJ n01 n02 n10 n11 n12 n20 n21 n22;have hzp:=hzx;have bK:Hid (∀ W',ah wx W'->(fun (W':World)=>(A8 W' B (.slice rU rV rW) (.int .i64 di.next) (.int .i64 most) (.slice vI vJ vK) (.int .i64 qW))/\(qV W' (B+1) h o1 l1 c1 (some ⟨b9,aJ,none⟩) l2 c2)/\(yB W' gp (.int .i64 1) (.int .i64 n0) (.slice wU 0 n0c))/\(W'.cell? ⟨b9,aJ+7,none⟩=some (.int .i64 u.fr)/\W'.cell? ⟨b9,aJ+8,none⟩=some (.int .i64 u.en))) W'):=fun W' hq=>by
       obtain ⟨k,_⟩:=five (au hq pK.out);exact ⟨k,aA (au hq pO.out),⟨hq.at Hn0.out.1,hq.at Hn0.out.2.1,hq.at Hn0.out.2.2⟩,⟨(qU.out.trans hq).at Hu7.out,(qU.out.trans hq).at Hu8.out⟩⟩
      have gI:Hid (∀ W',ah wx W'->Calls Tryd.prog 31 #[gK rU rV rW di.next most vI vJ vK qW,.agg #[.int .i64 1,.int .i64 n0,.slice wU 0 n0c],.agg #[.int .i64 3,.int .i64 0,.slice none 0 0],.agg #[.int .i64 u.fr,.int .i64 u.en]] W' (sW (RB R B) W' most dA)):=fun W' hq=>by
       have k:=add_any (o1:=wU) (l1:=0) (c1:=n0c) (o2:=none) (l2:=0) (c2:=0) qW (HKq.out.stay hq) hm (tv n0) ((3,0,.nil)) u.fr u.en (aB.nil _ _ _) (aB.nil _ _ _) (Nat.le_of_ble_eq_true rfl) (Nat.le_of_ble_eq_true rfl);rw [HA.out] at k;exact k
      unfold gK at gI;have GR:¬ gp=B:=by have:=yK.out.low gp rfl;omega
      go_upto_region 47 with fail
      clear p0 p1 p2 p3 p4 a0 a1 a2 a3 a4 a5 a6 a7 a8;go_cut [] from 221 to 231 (fun wy=>TmC R W B dA most h o1 l1 c1 (some ⟨b9,aJ,none⟩) l2 c2 wy/\Fr (fun k=>k=B) wx wy)
      case first =>
       refine dH 11 bK.out (by kernel_rfl) (fun hHeld=>?_)
       (try dsimp only at hHeld)
       have gq:=ah.drew wx;generalize wx.drew=wd at gq hHeld ⊢;refine HT.tk 0 rfl ?_;go_frame;refine HT.tk 1 rfl ?_;go_frame;refine HT.tk 2 rfl ?_;go_frame;refine HT.tk 3 rfl ?_;go_frame;refine HT.tk 4 rfl ?_;go_frame;refine HT.tk 5 rfl ?_;go_frame;refine HT.tk 6 rfl ?_;go_frame;refine HT.tk 7 rfl ?_;go_frame;refine HT.tk 8 rfl ?_;go_frame;refine HT.tk 9 rfl ?_;go_frame;refine HT.branch (rs:=[10]) (by kernel_rfl) (by simp) ?_;refine HT.cn 10 rfl (fun K hK=>?_) ?_
       ·go_simp;go_at_call 31
        with_reducible refine Calls.mono (gI.out _ gq) ?_
        rintro e wv1 ⟨lo3,iG,iH,iI,iJ,iK,gX,rfl,hk3,pR⟩;have mg:=iF hk3 (Nat.lt_of_lt_of_le hzp gq.size);have fA:=gq.trans pR;unfold gK;refine hK.out _ _ ?ab8 (fun hHeld=>?_)
        case ab8=>exact bK.out _ fA
        clear hK K
        (try go_frame)
        refine HT.last rfl (by kernel_rfl) (fun K hK=>?_);have hbs:=au fA pK.out;obtain ⟨⟨p0,p1,p2,p3,p4⟩,y0,y1,y2,y3,y4⟩:=five hbs;have hend:=jX gX hbs (au fA pO.out) (au fA uz.out) mg (qU.out.trans fA) dV;go_simp;refine hK.out _ _ ?_;clear hK K
        (try go_frame)
        refine HT.done (by kernel_rfl) ?_ _;go_wp2_with fail;go_meet;exact ⟨hend,(Fr.mono fA (fun _ _ h=>h.elim)).trans (eU _ _ _ _ _ _ _)⟩
       exact HT.bG.nil
      case rest =>
       rename World=>RU
       obtain ⟨⟨lo7,ln7,lc7,oo7,on7,oc7,in7,hb0,gB,hb2,hk7,hq7⟩,EI⟩:=hcut;have Yg:=hid hb0;have Yh:=hid gB;have aaJ:=hid hb2;have HK7:=hid hk7;have WB:=hid hq7;clear hzp;have hzp:B+1+1 < RU.heap.size:=lt_of_block hb2;clear hb0 gB hb2 hk7 hq7;have VR:=hid (And.intro ((EI.aY (World.block_lt_of_cell? _ _ Hn1.out.1) GR).trans Hn1.out.1) (And.intro ((EI.aY (World.block_lt_of_cell? _ _ Hn1.out.2.1) GR).trans Hn1.out.2.1) ((EI.aY (World.block_lt_of_cell? _ _ Hn1.out.2.2) GR).trans Hn1.out.2.2)));have Gm:=hid (And.intro ((EI.aY (World.block_lt_of_cell? _ _ Hn2.out.1) GR).trans Hn2.out.1) (And.intro ((EI.aY (World.block_lt_of_cell? _ _ Hn2.out.2.1) GR).trans Hn2.out.2.1) ((EI.aY (World.block_lt_of_cell? _ _ Hn2.out.2.2) GR).trans Hn2.out.2.2)));clear EI gI;have Nb:Hid (∀ W',ah RU W'->(fun (W':World)=>(A8 W' B (.slice lo7 ln7 lc7) (.int .i64 dA.next) (.int .i64 most) (.slice oo7 on7 oc7) (.int .i64 in7))/\(qV W' (B+1) h o1 l1 c1 (some ⟨b9,aJ,none⟩) l2 c2)/\(W'.cell? ⟨gp,3,none⟩=some (.int .i64 1)/\W'.cell? ⟨gp,4,none⟩=some (.int .i64 n1)/\W'.cell? ⟨gp,5,none⟩=some (.slice QE 0 n1c))/\(W'.cell? ⟨b9,aJ+16,none⟩=some (.int .i64 v.fr)/\W'.cell? ⟨b9,aJ+17,none⟩=some (.int .i64 v.en))) W'):=fun W' hq=>by
        obtain ⟨k,_⟩:=five (au hq Yg.out);exact ⟨k,aA (au hq Yh.out),⟨hq.at VR.out.1,hq.at VR.out.2.1,hq.at VR.out.2.2⟩,⟨(WB.out.trans hq).at Hv7.out,(WB.out.trans hq).at Hv8.out⟩⟩
       have gI:Hid (∀ W',ah RU W'->Calls Tryd.prog 31 #[gK lo7 ln7 lc7 dA.next most oo7 on7 oc7 in7,.agg #[.int .i64 1,.int .i64 d.next,.slice none 0 0],.agg #[.int .i64 1,.int .i64 n1,.slice QE 0 n1c],.agg #[.int .i64 v.fr,.int .i64 v.en]] W' (sW (RB R B) W' most dB)):=fun W' hq=>by
        have k:=add_any (o1:=none) (l1:=0) (c1:=0) (o2:=QE) (l2:=0) (c2:=n1c) in7 (HK7.out.stay hq) hm (tv d.next) (tv n1) v.fr v.en (aB.nil _ _ _) (aB.nil _ _ _) (Nat.le_of_ble_eq_true rfl) (Nat.le_of_ble_eq_true rfl);rw [IQ.out] at k;exact k
       unfold gK at gI;go_upto_region 48 with fail
       go_cut [] from 232 to 243 (fun wy=>TmC R W B dB most h o1 l1 c1 (some ⟨b9,aJ,none⟩) l2 c2 wy/\Fr (fun k=>k=B) RU wy)
       case first =>
        refine dH 12 Nb.out (by kernel_rfl) (fun hHeld=>?_)
        (try dsimp only at hHeld)
        have gq:=ah.drew RU;generalize RU.drew=wd at gq hHeld ⊢;refine HT.tk 0 rfl ?_;go_frame;refine HT.tk 1 rfl ?_;go_frame;refine HT.tk 3 rfl ?_;go_frame;refine HT.tk 4 rfl ?_;go_frame;refine HT.tk 5 rfl ?_;go_frame;refine HT.tk 6 rfl ?_;go_frame;refine HT.tk 7 rfl ?_;go_frame;refine HT.tk 8 rfl ?_;go_frame;refine HT.tk 9 rfl ?_;go_frame;refine HT.tk 10 rfl ?_;go_frame;refine HT.branch (rs:=[2]) (by kernel_rfl) (by simp) ?_;refine HT.cn 2 rfl (fun K hK=>?_) ?_
        ·go_simp;go_at_call 32
         with_reducible refine Calls.mono (fZ _ _) ?_
         rintro e wv1 ⟨rfl,pR⟩;have fA:=gq.trans pR;refine hK.out _ _ ?ab9 (fun hHeld=>?_)
         case ab9=>exact Nb.out _ fA
         clear hK K
         (try go_frame)
         refine HT.branch (rs:=[11]) (by kernel_rfl) (by simp) ?_;refine HT.cn 11 rfl (fun K hK=>?_) ?_
         ·go_simp;go_at_call 31
          with_reducible refine Calls.mono (gI.out _ fA) ?_
          rintro e wv2 ⟨lo3,iG,iH,iI,iJ,iK,gX,rfl,hk3,rX⟩;have mg:=iF hk3 (Nat.lt_of_lt_of_le hzp fA.size);have fU:=fA.trans rX;unfold gK;refine hK.out _ _ ?acd (fun hHeld=>?_)
          case acd=>exact Nb.out _ fU
          clear hK K
          (try go_frame)
          refine HT.last rfl (by kernel_rfl) (fun K hK=>?_);have hbs:=au fU Yg.out;obtain ⟨⟨p0,p1,p2,p3,p4⟩,y0,y1,y2,y3,y4⟩:=five hbs;have hend:=jX gX hbs (au fU Yh.out) (au fU aaJ.out) mg (WB.out.trans fU) dV;go_simp;refine hK.out _ _ ?_;clear hK K
          (try go_frame)
          refine HT.done (by kernel_rfl) ?_ _;go_wp2_with fail;go_meet;exact ⟨hend,(Fr.mono fU (fun _ _ h=>h.elim)).trans (eU _ _ _ _ _ _ _)⟩
         exact HT.bG.nil
        exact HT.bG.nil
       case rest =>
        rename World=>wq8
        obtain ⟨⟨lo8,ln8,lc8,oo8,on8,oc8,in8,hb0,gB,hb2,hk8,hq8⟩,EI⟩:=hcut;have ady:=hid hb0;have adz:=hid gB;have adA:=hid hb2;have HK8:=hid hk8;have WH:=hid hq8;clear hzp;have hzp:B+1+1 < wq8.heap.size:=lt_of_block hb2;clear hb0 gB hb2 hk8 hq8;have VT:=hid (And.intro ((EI.aY (World.block_lt_of_cell? _ _ Gm.out.1) GR).trans Gm.out.1) (And.intro ((EI.aY (World.block_lt_of_cell? _ _ Gm.out.2.1) GR).trans Gm.out.2.1) ((EI.aY (World.block_lt_of_cell? _ _ Gm.out.2.2) GR).trans Gm.out.2.2)));clear EI gI;have aaK:Hid (∀ W',ah wq8 W'->(fun (W':World)=>(A8 W' B (.slice lo8 ln8 lc8) (.int .i64 dB.next) (.int .i64 most) (.slice oo8 on8 oc8) (.int .i64 in8))/\(qV W' (B+1) h o1 l1 c1 (some ⟨b9,aJ,none⟩) l2 c2)/\(W'.cell? ⟨gp,6,none⟩=some (.int .i64 1)/\W'.cell? ⟨gp,7,none⟩=some (.int .i64 n2)/\W'.cell? ⟨gp,8,none⟩=some (.slice n2o 0 n2c))/\(W'.cell? ⟨b9,aJ+25,none⟩=some (.int .i64 x.fr)/\W'.cell? ⟨b9,aJ+26,none⟩=some (.int .i64 x.en))) W'):=fun W' hq=>by
         obtain ⟨k,_⟩:=five (au hq ady.out);exact ⟨k,aA (au hq adz.out),⟨hq.at VT.out.1,hq.at VT.out.2.1,hq.at VT.out.2.2⟩,⟨(WH.out.trans hq).at Hx7.out,(WH.out.trans hq).at Hx8.out⟩⟩
        have gI:Hid (∀ W',ah wq8 W'->Calls Tryd.prog 31 #[gK lo8 ln8 lc8 dB.next most oo8 on8 oc8 in8,.agg #[.int .i64 1,.int .i64 d.next,.slice none 0 0],.agg #[.int .i64 1,.int .i64 n2,.slice n2o 0 n2c],.agg #[.int .i64 x.fr,.int .i64 x.en]] W' (sW (RB R B) W' most fin)):=fun W' hq=>by
         have k:=add_any (o1:=none) (l1:=0) (c1:=0) (o2:=n2o) (l2:=0) (c2:=n2c) in8 (HK8.out.stay hq) hm (tv d.next) (tv n2) x.fr x.en (aB.nil _ _ _) (aB.nil _ _ _) (Nat.le_of_ble_eq_true rfl) (Nat.le_of_ble_eq_true rfl);rw [MC.out] at k;exact k
        unfold gK at gI;go_upto_region 49 with fail
        refine dH 12 aaK.out (by kernel_rfl) (fun hHeld=>?_)
        (try dsimp only at hHeld)
        have gq:=ah.drew wq8;generalize wq8.drew=wd at gq hHeld ⊢;refine HT.tk 0 rfl ?_;go_frame;refine HT.tk 1 rfl ?_;go_frame;refine HT.tk 3 rfl ?_;go_frame;refine HT.tk 4 rfl ?_;go_frame;refine HT.tk 5 rfl ?_;go_frame;refine HT.tk 6 rfl ?_;go_frame;refine HT.tk 7 rfl ?_;go_frame;refine HT.tk 8 rfl ?_;go_frame;refine HT.tk 9 rfl ?_;go_frame;refine HT.tk 10 rfl ?_;go_frame;refine HT.branch (rs:=[2]) (by kernel_rfl) (by simp) ?_;refine HT.cn 2 rfl (fun K hK=>?_) ?_
        ·go_simp;go_at_call 32
         with_reducible refine Calls.mono (fZ _ _) ?_
         rintro e wv1 ⟨rfl,pR⟩;have fA:=gq.trans pR;refine hK.out _ _ ?ace (fun hHeld=>?_)
         case ace=>exact aaK.out _ fA
         clear hK K
         (try go_frame)
         refine HT.branch (rs:=[11]) (by kernel_rfl) (by simp) ?_;refine HT.cn 11 rfl (fun K hK=>?_) ?_
         ·go_simp;go_at_call 31
          with_reducible refine Calls.mono (gI.out _ fA) ?_
          rintro e wv2 ⟨lo3,iG,iH,iI,iJ,iK,gX,rfl,hk3,rX⟩;have mg:=iF hk3 (Nat.lt_of_lt_of_le hzp fA.size);have fU:=fA.trans rX;unfold gK;refine hK.out _ _ ?acf (fun hHeld=>?_)
          case acf=>exact aaK.out _ fU
          clear hK K
          (try go_frame)
          refine HT.last rfl (by kernel_rfl) (fun K hK=>?_);have hbs:=au fU adA.out;obtain ⟨⟨z0,z1,z2,z3,z4⟩,y0,y1,y2,y3,y4⟩:=five hbs;have dU:=WH.out.trans fU;go_simp;refine hK.out _ _ ?_;clear hK K
          (try go_frame)
          refine HT.done (by kernel_rfl) ?_ _;clear z0 z1 z2 z3 z4 y0 y1 y2 y3 y4;generalize Ba:bodyPost Tryd.prog Tryd.f20 (sW R W most fin)=BP at *;go_wp2_with fail;rw [<-Ba];have hf:=eU wv2 (B+1+1) (.slice lo3 iG iH) (.int .i64 fin.next) (.int .i64 most) (.slice iI iJ iK) (.int .i64 gX);obtain ⟨⟨f0,f1,f2,f3,f4⟩,_⟩:=five (bV (a:=(.slice lo3 iG iH)) (b:=(.int .i64 fin.next)) (c:=(.int .i64 most)) (d:=(.slice iI iJ iK)) (e:=(.int .i64 gX)) hbs);change bodyPost _ _ _ _ _ (iD wv2 (B+1+1) (.slice lo3 iG iH) (.int .i64 fin.next) (.int .i64 most) (.slice iI iJ iK) (.int .i64 gX));have hend:=mV mg dU hf dV;generalize iD wv2 (B+1+1) (.slice lo3 iG iH) (.int .i64 fin.next) (.int .i64 most) (.slice iI iJ iK) (.int .i64 gX)=wf at *;refine bodyPost_ret (by simp [results,Tryd.results20,go_sem,f0,f1,f2,f3,f4]<;>rfl) rfl ?_;exact ⟨lo3,iG,iH,iI,iJ,iK,gX,by (first | rfl | (rw [HF2.out]<;>rfl)),by (first | exact hend.1 | (rw [HF2.out];exact hend.1)),hend.2⟩
         exact HT.bG.nil
        exact HT.bG.nil
   ·have t2:(h.k == 2)=false:=by rw [hk];rfl
    have t3:(h.k == 3)=false:=by rw [hk];rfl
    have t1:(h.k == 1)=false:=by rw [hk];rfl
    have t4:(h.k == 4)=false:=by rw [hk];rfl
    have t6:(h.k == 6)=false:=by rw [hk];rfl
    have t7:(h.k == 7)=false:=by rw [hk];rfl
    have t5:(h.k == 5)=false:=by rw [hk];rfl
    have t8:(h.k == 8)=false:=by rw [hk];rfl
    have t9:(h.k == 9)=true:=by rw [hk];rfl
    have HK:=hid hk;clear hk;obtain ⟨lf,hlf⟩:∃ lf,dmap (lq most ev) (dJ most ps) d1=lf:=⟨_,rfl⟩;have hre:(dP most (tv d.next) (5,0,jy (lf.1.map tv)) h.fr h.en lf.2).2=fin:=by
     rw [<-bF.out,iR Rt.out,<-HD1.out];unfold jM;rw [if_neg (by rw [HK.out];decide),if_neg (by rw [HK.out];decide),if_neg (by rw [HK.out];decide),if_neg (by rw [HK.out];decide),if_neg (by rw [HK.out];decide)]
     show _=((fF (dmap (lq most ev) (dJ most ps)) _) d1).2
     unfold fF;rw [hlf];dsimp only;rw [if_neg (by rw [HK.out];decide),if_neg (by rw [HK.out];decide),if_pos HK.out];rfl
    have MW:Hid (lf.2.next<=1000000):=by show _<=_;have k:=yM.out;rw [bF.out,<-hre] at k;simpa only [jJ] using k
    have HF3:=hid hre;have HF2:Hid (fin=fin):=rfl;clear hre;have HLF:=hid hlf;have hzz:B+1+1 < wr.heap.size:=WM;obtain ⟨vs,hvs⟩:∃ vs,dJ most ps=vs:=⟨_,rfl⟩;have Oi:=hid hvs;have F7:Hid (vs.length=l2):=by show _=_;rw [<-hvs,lY,HS2.out.1]
    have HST:Hid (Y4 R W B wr.heap.size most h o1 l1 c1 o2 l2 c2 (lq most ev) vs lf (.slice none 0 0) (.int .i64 0) wr):=by
     refine ⟨0,none,0,rfl,rfl,d1,[],[],lo,ln,lc,EC,ED,EF,inn,Nat.zero_le _,?_,?_,PR.nil _ _,HR0.out,PE.out,HR2.out,Bo DW.out,Az.out,Nat.le_refl _⟩
     ·rw [List.drop_zero,<-hvs,hlf];rfl
     ·rw [List.drop_zero,<-hvs,hlf]
    obtain ⟨zz,DY⟩:∃ zz,wr.heap.size=zz:=⟨_,rfl⟩;rw [DY] at HST hzz;clear hvs hlf DY;go_wp2_with fail;clear p0 p1 p2 p3 p4 a0 a1 a2 a3 a4 a5 a6 a7 a8;go_loopw [14,15] (fun p t wx=>Y4 R W B zz most h o1 l1 c1 o2 l2 c2 (lq most ev) vs lf p t wx) (fun _ t _=>l2-(intOf t).toNat)
    case atStart=>exact HST.out
    case round =>
     clear HST;rename World=>wx
     obtain ⟨i,po,pc,rfl,rfl,di,ns,xs,rU,rV,rW,vI,vJ,vK,qW,hiv,hf1,hf2,hpr,hb0,gB,hb2,hk5,hq5,hzw⟩:=hrel;have hil:i<=l2:=by rw [<-F7.out];exact hiv
     have pK:=hid hb0;have pO:=hid gB;have uz:=hid hb2;have Ky:=hid hk5;have qU:=hid hq5;have yK:=hid hpr;have hzx:B+1+1 < wx.heap.size:=lt_of_block hb2;clear hb0 gB hb2 hk5 hq5 hpr hiv;obtain ⟨⟨p0,p1,p2,p3,p4⟩,_⟩:=five pK.out;obtain ⟨a0,a1,a2,a3,a4,a5,a6,a7,a8⟩:=aA pO.out
     by_cases hlt:i < l2
     ·have hlt':(i:Int) < l2:=by omega
      obtain ⟨b9,aJ,u,qu,kS,kT,d1u,kU,kV,kW,rfl,_,gu,ru,cu,su,tu⟩:=HS2.out.nth hlt;have Bj:=hid cu;have AV:=hid su;have AX:=hid tu;have hou:=fO ps i u qu qO.out gu;have MX:en+qu.size<=100000:=by have:=To.dG ps i u qu gu;have:=Yd.out;omega
      have hmd:=qR (lq most ev) vs i _ di (show vs[i]?=some (dZ most u qu) by rw [<-Oi.out];exact oI most ps i u qu gu);rw [hmd] at hf1 hf2;have hnr:(dZ most u qu (lq most ev) di).2.next<=lf.2.next:=by
       rw [<-hf2];exact uQ (mY most ev) (us:=vs.drop (i+1)) (fun v hv=>by rw [<-Oi.out] at hv;exact nC most ps v (List.mem_of_mem_drop hv)) _
      obtain ⟨rt,hrt⟩:∃ rt,dZ most u qu (lq most ev) di=rt:=⟨_,rfl⟩;have hr1:rt.1=di.next:=by rw [<-hrt];exact kX _ _ _ _ _
      rw [hrt] at hf1 hf2 hnr;rw [hr1] at hf1;have VO:=hid (IH.out i u qu gu);have yN:=hid hrt;have QM:Hid (rt.2.next<=1000000):=Nat.le_trans hnr MW.out;have vO:=hid hf1;have MZ:=hid hf2;clear hf1 hf2 hrt hr1 hnr hmd cu su tu gu ru;go_wp2_with fail;refine (fZ _ _).mono ?_;rintro x w2 ⟨rfl,hq2⟩;have fC:=hid hq2;clear hq2 p0 p1 p2 p3 p4 a0 a1 a2 a3 a4 a5 a6 a7 a8;go_wp2_with (at_builtin;go_must (refine aX w2 rfl (.tmp 188) (.tmp 192) 23 rfl 25 _ 3 40 elemTy (.slice po i pc) i xs rfl (yK.out.stay fC.out).own #[.int .i64 1,.int .i64 di.next,.slice none 0 0] rfl rfl ?c1 (by unfold maxLen;omega) (by omega) ?_);(case c1=>simp [Value.oneCell']));intro g4 c4 w4 nM hf4 hg4;have hlow:∀ k,(Value.slice po i pc).ownBlock=some k->zz<=k:=yK.out.low;have pU:=hid ((yK.out.stay fC.out).snoc (o':=none) (c1:=0) (di.next) nM (Nat.le_trans hzw fC.out.size) hg4);have HK4:=hid (yH (Ky.out.stay fC.out) hf4 hg4 (n:=i+1) (c:=c4));have xk:=hid (aC hf4 (fun e=>by have:=hlow _ e;omega) (au fC.out pK.out));have xq:=hid (aC hf4 (fun e=>by have:=hlow _ e;omega) (au fC.out pO.out));have DZ:=hid (aC hf4 (fun e=>by have:=hlow _ e;omega) (au fC.out uz.out));have uI:Hid (ah W w4):=Fr.trans' (qU.out.trans fC.out) hf4 (fun j hj e=>by have:=hlow j e;omega);have Rx:B+1+1 < w4.heap.size:=lt_of_block DZ.out;have Na:zz<=w4.heap.size:=Nat.le_trans hzw (Nat.le_trans fC.out.size hf4.size);clear nM hf4 hg4 hlow;have nT:Hid (∀ W',ah w4 W'->Calls Tryd.prog 20 #[gK rU rV rW di.next most vI vJ vK qW,bP u kS kT d1u kU kV kW,.slice eo en ec] W' (sW (Iz R B (.slice (some ⟨g4,0,none⟩) (i+1) c4)) W' most rt.2)):=fun W' hq=>by
       have hq':=uI.out.trans hq;have k:=VO.out (Iz R B (.slice (some ⟨g4,0,none⟩) (i+1) c4)) W' di qW rU rV rW vI vJ vK kS kT d1u kU kV kW eo en ec ev (HK4.out.stay hq) (AV.out.fr hq' (nV dV pU.out.low (by omega))) (AX.out.fr hq' (nV dV pU.out.low (by omega))) (La.out.fr hq' (nV dV pU.out.low (by omega))) vW MX QL.out hou.1 hou.2 (by rw [yN.out];exact QM.out);rw [yN.out] at k;exact k
      unfold bP gK at nT;obtain ⟨⟨p0,p1,p2,p3,p4⟩,_⟩:=five xk.out;obtain ⟨a0,a1,a2,a3,a4,a5,a6,a7,a8⟩:=aA xq.out;go_upto_region 42 with fail
      clear p0 p1 p2 p3 p4 a0 a1 a2 a3 a4 a5 a6 a7 a8;have bK:Hid (∀ W',ah w4 W'->(fun (W':World)=>(A8 W' B (.slice rU rV rW) (.int .i64 di.next) (.int .i64 most) (.slice vI vJ vK) (.int .i64 qW))/\(qV W' (B+1) h o1 l1 c1 (some ⟨b9,aJ,none⟩) l2 c2)/\(ES W' b9 (aJ+i*9) u kS kT d1u kU kV kW)) W'):=fun W' hq=>by
       obtain ⟨k,_⟩:=five (au hq xk.out);exact ⟨k,aA (au hq xq.out),gG Bj.out (uI.out.trans hq)⟩
      refine dH 8 bK.out (by kernel_rfl) (fun hHeld=>?_)
      (try dsimp only at hHeld)
      have gq:=ah.drew w4;generalize w4.drew=wd at *;refine HT.tk 0 rfl ?_;go_frame;refine HT.tk 1 rfl ?_;go_frame;refine HT.tk 2 rfl ?_;go_frame;refine HT.tk 3 rfl ?_;go_frame;refine HT.tk 4 rfl ?_;go_frame;refine HT.tk 5 rfl ?_;go_frame;refine HT.tk 6 rfl ?_;go_frame;refine HT.branch (rs:=[7]) (by kernel_rfl) (by simp) ?_;refine HT.cn 7 rfl (fun K hK=>?_) ?_
      ·go_simp;go_at_call 20
       with_reducible refine Calls.mono (nT.out _ gq) ?_
       rintro e w9 ⟨RG,RH,RI,RJ,RP,RQ,Bc,rfl,hk9,oU⟩;have mg:=yI hk9 (Nat.lt_of_lt_of_le Rx gq.size) (fun k hk=>Nat.lt_of_lt_of_le (pU.out.lt k hk) gq.size);have hqe:=gq.trans oU;unfold gK;refine hK.out _ _ ?acg (fun hHeld=>?_)
       case acg=>exact bK.out _ hqe
       clear hK K
       (try go_frame)
       refine HT.last rfl (by kernel_rfl) (fun K hK=>?_);have hbs:=au hqe xk.out;obtain ⟨⟨p0,p1,p2,p3,p4⟩,y0,y1,y2,y3,y4⟩:=five hbs;have hend:=Bv Bc (by rw [F7.out];omega) (by rw [List.append_assoc];exact vO.out) MZ.out (pU.out.stay hqe) hbs (au hqe xq.out) (au hqe DZ.out) mg (uI.out.trans hqe) dV hzz (Nat.le_trans Na hqe.size);have zC:=hid hend;clear hend;go_simp;refine hK.out _ _ ?_;clear hK K
       (try go_frame)
       refine HT.done (by kernel_rfl) ?_ _;go_wp2_with fail;go_roundw
       case rel=>exact ⟨i+1,_,_,by go_num,rfl,zC.out⟩
       case measure=>simp [intOf];omega
      exact HT.bG.nil
     ·have hlt':¬ (i:Int) < l2:=by omega
      have hi2:l2=i:=by omega
      subst hi2;have hd:vs.drop l2=[]:=List.drop_eq_nil_of_le (by rw [F7.out];exact Nat.le_refl _);rw [hd] at hf1 hf2;have hns:ns=lf.1:=by rw [<-hf1];show ns=ns++[];simp
      have hdl:di=lf.2:=hf2;clear hf1 hf2 hd;obtain ⟨lf1,lf2⟩:=lf;dsimp only at hns hdl;subst hns hdl;obtain ⟨hpt,hpc⟩:=yK.out.at (R:=R) hzz (by unfold maxLen;omega);have hnl:=yK.out.len;have Ey:=hid hpt;have HKq:=hid (Bq Ky.out);clear hpt;have hl2:0<=l2:=Nat.zero_le _;have hzp:=hzx;have HSL:Hid (aB (RB R B) wx po l2 (jy (ns.map tv))):=by have k:=Ey.out.slc;rw [List.length_map,hnl] at k;exact k
      have hsz:(jy (ns.map tv)).size<=100000:=by rw [Gl];omega
      have bK:Hid (∀ W',ah wx W'->(fun (W':World)=>(A8 W' B (.slice rU rV rW) (.int .i64 di.next) (.int .i64 most) (.slice vI vJ vK) (.int .i64 qW))/\(qV W' (B+1) h o1 l1 c1 o2 l2 c2)) W'):=fun W' hq=>by
       obtain ⟨k,_⟩:=five (au hq pK.out);exact ⟨k,aA (au hq pO.out)⟩
      have gI:Hid (∀ W',ah wx W'->Calls Tryd.prog 31 #[gK rU rV rW di.next most vI vJ vK qW,.agg #[.int .i64 1,.int .i64 d.next,.slice none 0 0],.agg #[.int .i64 5,.int .i64 0,.slice po l2 pc],.agg #[.int .i64 h.fr,.int .i64 h.en]] W' (sW (RB R B) W' most fin)):=fun W' hq=>by
       have k:=add_any (o1:=none) (l1:=0) (c1:=0) (o2:=po) (l2:=l2) (c2:=pc) qW (HKq.out.stay hq) hm (tv d.next) ((5,0,jy (ns.map tv))) h.fr h.en (aB.nil _ _ _) (HSL.out.stay hq) (Nat.le_of_ble_eq_true rfl) hsz;rw [HF3.out] at k;exact k
      unfold gK at gI;go_upto_region 51 with fail
      clear p0 p1 p2 p3 p4 a0 a1 a2 a3 a4 a5 a6 a7 a8;refine dH 8 bK.out (by kernel_rfl) (fun hHeld=>?_)
      (try dsimp only at hHeld)
      have gq:=ah.drew wx;generalize wx.drew=wd at gq hHeld ⊢;refine HT.tk 0 rfl ?_;go_frame;refine HT.tk 1 rfl ?_;go_frame;refine HT.tk 3 rfl ?_;go_frame;refine HT.tk 4 rfl ?_;go_frame;refine HT.tk 5 rfl ?_;go_frame;refine HT.tk 6 rfl ?_;go_frame;refine HT.branch (rs:=[2]) (by kernel_rfl) (by simp) ?_;refine HT.cn 2 rfl (fun K hK=>?_) ?_
      ·go_simp;go_at_call 32
       with_reducible refine Calls.mono (fZ _ _) ?_
       rintro e wv1 ⟨rfl,pR⟩;have fA:=gq.trans pR;refine hK.out _ _ ?ach (fun hHeld=>?_)
       case ach=>exact bK.out _ fA
       clear hK K
       (try go_frame)
       refine HT.branch (rs:=[7]) (by kernel_rfl) (by simp) ?_;refine HT.cn 7 rfl (fun K hK=>?_) ?_
       ·go_simp;go_at_call 31
        with_reducible refine Calls.mono (gI.out _ fA) ?_
        rintro e wv2 ⟨lo3,iG,iH,iI,iJ,iK,gX,rfl,hk3,rX⟩;have mg:=iF hk3 (Nat.lt_of_lt_of_le hzp fA.size);have fU:=fA.trans rX;unfold gK;refine hK.out _ _ ?aci (fun hHeld=>?_)
        case aci=>exact bK.out _ fU
        clear hK K
        (try go_frame)
        refine HT.last rfl (by kernel_rfl) (fun K hK=>?_);have hbs:=au fU uz.out;obtain ⟨⟨z0,z1,z2,z3,z4⟩,y0,y1,y2,y3,y4⟩:=five hbs;have dU:=qU.out.trans fU;go_simp;refine hK.out _ _ ?_;clear hK K
        (try go_frame)
        refine HT.done (by kernel_rfl) ?_ _;clear z0 z1 z2 z3 z4 y0 y1 y2 y3 y4;generalize Ba:bodyPost Tryd.prog Tryd.f20 (sW R W most fin)=BP at *;go_wp2_with fail;rw [<-Ba];have hf:=eU wv2 (B+1+1) (.slice lo3 iG iH) (.int .i64 fin.next) (.int .i64 most) (.slice iI iJ iK) (.int .i64 gX);obtain ⟨⟨f0,f1,f2,f3,f4⟩,_⟩:=five (bV (a:=(.slice lo3 iG iH)) (b:=(.int .i64 fin.next)) (c:=(.int .i64 most)) (d:=(.slice iI iJ iK)) (e:=(.int .i64 gX)) hbs);change bodyPost _ _ _ _ _ (iD wv2 (B+1+1) (.slice lo3 iG iH) (.int .i64 fin.next) (.int .i64 most) (.slice iI iJ iK) (.int .i64 gX));have hend:=mV mg dU hf dV;generalize iD wv2 (B+1+1) (.slice lo3 iG iH) (.int .i64 fin.next) (.int .i64 most) (.slice iI iJ iK) (.int .i64 gX)=wf at *;refine bodyPost_ret (by simp [results,Tryd.results20,go_sem,f0,f1,f2,f3,f4]<;>rfl) rfl ?_;exact ⟨lo3,iG,iH,iI,iJ,iK,gX,by (first | rfl | (rw [HF2.out]<;>rfl)),by (first | exact hend.1 | (rw [HF2.out];exact hend.1)),hend.2⟩
       exact HT.bG.nil
      exact HT.bG.nil
   ·have t2:(h.k == 2)=false:=by rw [hk];rfl
    have t3:(h.k == 3)=false:=by rw [hk];rfl
    have t1:(h.k == 1)=false:=by rw [hk];rfl
    have t4:(h.k == 4)=false:=by rw [hk];rfl
    have t6:(h.k == 6)=false:=by rw [hk];rfl
    have t7:(h.k == 7)=false:=by rw [hk];rfl
    have t5:(h.k == 5)=false:=by rw [hk];rfl
    have t8:(h.k == 8)=false:=by rw [hk];rfl
    have t9:(h.k == 9)=false:=by rw [hk];rfl
    have t10:(h.k == 10)=true:=by rw [hk];rfl
    have HK:=hid hk;clear hk;obtain ⟨lf,hlf⟩:∃ lf,dmap (lq most ev) (dJ most ps) d1=lf:=⟨_,rfl⟩;have hre:(dP most (tv d.next) (h.tk,h.tn,h.tp) h.fr h.en (dP most (jP lf.1 0) (h.tk,h.tn,h.tp) (aH ps 0).1 (aH ps 0).2 lf.2).2).2=fin:=by
     rw [<-bF.out,iR Rt.out,<-HD1.out];unfold jM;rw [if_neg (by rw [HK.out];decide),if_neg (by rw [HK.out];decide),if_neg (by rw [HK.out];decide),if_neg (by rw [HK.out];decide),if_neg (by rw [HK.out];decide)]
     show _=((fF (dmap (lq most ev) (dJ most ps)) _) d1).2
     unfold fF;rw [hlf];dsimp only;rw [if_neg (by rw [HK.out];decide),if_neg (by rw [HK.out];decide),if_neg (by rw [HK.out];decide),if_pos HK.out];rfl
    have MW:Hid (lf.2.next<=1000000):=by show _<=_;have k:=yM.out;rw [bF.out,<-hre] at k;simpa only [jJ] using k
    have HF3:=hid hre;have HF2:Hid (fin=fin):=rfl;clear hre;have HLF:=hid hlf;have hzz:B+1+1 < wr.heap.size:=WM;obtain ⟨vs,hvs⟩:∃ vs,dJ most ps=vs:=⟨_,rfl⟩;have Oi:=hid hvs;have F7:Hid (vs.length=l2):=by show _=_;rw [<-hvs,lY,HS2.out.1]
    have HST:Hid (Y4 R W B wr.heap.size most h o1 l1 c1 o2 l2 c2 (lq most ev) vs lf (.slice none 0 0) (.int .i64 0) wr):=by
     refine ⟨0,none,0,rfl,rfl,d1,[],[],lo,ln,lc,EC,ED,EF,inn,Nat.zero_le _,?_,?_,PR.nil _ _,HR0.out,PE.out,HR2.out,Bo DW.out,Az.out,Nat.le_refl _⟩
     ·rw [List.drop_zero,<-hvs,hlf];rfl
     ·rw [List.drop_zero,<-hvs,hlf]
    obtain ⟨zz,DY⟩:∃ zz,wr.heap.size=zz:=⟨_,rfl⟩;rw [DY] at HST hzz;clear hvs hlf DY;go_wp2_with fail;clear p0 p1 p2 p3 p4 a0 a1 a2 a3 a4 a5 a6 a7 a8;go_loopw [14,15] (fun p t wx=>Y4 R W B zz most h o1 l1 c1 o2 l2 c2 (lq most ev) vs lf p t wx) (fun _ t _=>l2-(intOf t).toNat)
    case atStart=>exact HST.out
    case round =>
     clear HST;rename World=>wx
     obtain ⟨i,po,pc,rfl,rfl,di,ns,xs,rU,rV,rW,vI,vJ,vK,qW,hiv,hf1,hf2,hpr,hb0,gB,hb2,hk5,hq5,hzw⟩:=hrel;have hil:i<=l2:=by rw [<-F7.out];exact hiv
     have pK:=hid hb0;have pO:=hid gB;have uz:=hid hb2;have Ky:=hid hk5;have qU:=hid hq5;have yK:=hid hpr;have hzx:B+1+1 < wx.heap.size:=lt_of_block hb2;clear hb0 gB hb2 hk5 hq5 hpr hiv;obtain ⟨⟨p0,p1,p2,p3,p4⟩,_⟩:=five pK.out;obtain ⟨a0,a1,a2,a3,a4,a5,a6,a7,a8⟩:=aA pO.out
     by_cases hlt:i < l2
     ·have hlt':(i:Int) < l2:=by omega
      obtain ⟨b9,aJ,u,qu,kS,kT,d1u,kU,kV,kW,rfl,_,gu,ru,cu,su,tu⟩:=HS2.out.nth hlt;have Bj:=hid cu;have AV:=hid su;have AX:=hid tu;have hou:=fO ps i u qu qO.out gu;have MX:en+qu.size<=100000:=by have:=To.dG ps i u qu gu;have:=Yd.out;omega
      have hmd:=qR (lq most ev) vs i _ di (show vs[i]?=some (dZ most u qu) by rw [<-Oi.out];exact oI most ps i u qu gu);rw [hmd] at hf1 hf2;have hnr:(dZ most u qu (lq most ev) di).2.next<=lf.2.next:=by
       rw [<-hf2];exact uQ (mY most ev) (us:=vs.drop (i+1)) (fun v hv=>by rw [<-Oi.out] at hv;exact nC most ps v (List.mem_of_mem_drop hv)) _
      obtain ⟨rt,hrt⟩:∃ rt,dZ most u qu (lq most ev) di=rt:=⟨_,rfl⟩;have hr1:rt.1=di.next:=by rw [<-hrt];exact kX _ _ _ _ _
      rw [hrt] at hf1 hf2 hnr;rw [hr1] at hf1;have VO:=hid (IH.out i u qu gu);have yN:=hid hrt;have QM:Hid (rt.2.next<=1000000):=Nat.le_trans hnr MW.out;have vO:=hid hf1;have MZ:=hid hf2;clear hf1 hf2 hrt hr1 hnr hmd cu su tu gu ru;go_wp2_with fail;refine (fZ _ _).mono ?_;rintro x w2 ⟨rfl,hq2⟩;have fC:=hid hq2;clear hq2 p0 p1 p2 p3 p4 a0 a1 a2 a3 a4 a5 a6 a7 a8;go_wp2_with (at_builtin;go_must (refine aX w2 rfl (.tmp 188) (.tmp 192) 23 rfl 25 _ 3 40 elemTy (.slice po i pc) i xs rfl (yK.out.stay fC.out).own #[.int .i64 1,.int .i64 di.next,.slice none 0 0] rfl rfl ?c1 (by unfold maxLen;omega) (by omega) ?_);(case c1=>simp [Value.oneCell']));intro g4 c4 w4 nM hf4 hg4;have hlow:∀ k,(Value.slice po i pc).ownBlock=some k->zz<=k:=yK.out.low;have pU:=hid ((yK.out.stay fC.out).snoc (o':=none) (c1:=0) (di.next) nM (Nat.le_trans hzw fC.out.size) hg4);have HK4:=hid (yH (Ky.out.stay fC.out) hf4 hg4 (n:=i+1) (c:=c4));have xk:=hid (aC hf4 (fun e=>by have:=hlow _ e;omega) (au fC.out pK.out));have xq:=hid (aC hf4 (fun e=>by have:=hlow _ e;omega) (au fC.out pO.out));have DZ:=hid (aC hf4 (fun e=>by have:=hlow _ e;omega) (au fC.out uz.out));have uI:Hid (ah W w4):=Fr.trans' (qU.out.trans fC.out) hf4 (fun j hj e=>by have:=hlow j e;omega);have Rx:B+1+1 < w4.heap.size:=lt_of_block DZ.out;have Na:zz<=w4.heap.size:=Nat.le_trans hzw (Nat.le_trans fC.out.size hf4.size);clear nM hf4 hg4 hlow;have nT:Hid (∀ W',ah w4 W'->Calls Tryd.prog 20 #[gK rU rV rW di.next most vI vJ vK qW,bP u kS kT d1u kU kV kW,.slice eo en ec] W' (sW (Iz R B (.slice (some ⟨g4,0,none⟩) (i+1) c4)) W' most rt.2)):=fun W' hq=>by
       have hq':=uI.out.trans hq;have k:=VO.out (Iz R B (.slice (some ⟨g4,0,none⟩) (i+1) c4)) W' di qW rU rV rW vI vJ vK kS kT d1u kU kV kW eo en ec ev (HK4.out.stay hq) (AV.out.fr hq' (nV dV pU.out.low (by omega))) (AX.out.fr hq' (nV dV pU.out.low (by omega))) (La.out.fr hq' (nV dV pU.out.low (by omega))) vW MX QL.out hou.1 hou.2 (by rw [yN.out];exact QM.out);rw [yN.out] at k;exact k
      unfold bP gK at nT;obtain ⟨⟨p0,p1,p2,p3,p4⟩,_⟩:=five xk.out;obtain ⟨a0,a1,a2,a3,a4,a5,a6,a7,a8⟩:=aA xq.out;go_upto_region 42 with fail
      clear p0 p1 p2 p3 p4 a0 a1 a2 a3 a4 a5 a6 a7 a8;have bK:Hid (∀ W',ah w4 W'->(fun (W':World)=>(A8 W' B (.slice rU rV rW) (.int .i64 di.next) (.int .i64 most) (.slice vI vJ vK) (.int .i64 qW))/\(qV W' (B+1) h o1 l1 c1 (some ⟨b9,aJ,none⟩) l2 c2)/\(ES W' b9 (aJ+i*9) u kS kT d1u kU kV kW)) W'):=fun W' hq=>by
       obtain ⟨k,_⟩:=five (au hq xk.out);exact ⟨k,aA (au hq xq.out),gG Bj.out (uI.out.trans hq)⟩
      refine dH 8 bK.out (by kernel_rfl) (fun hHeld=>?_)
      (try dsimp only at hHeld)
      have gq:=ah.drew w4;generalize w4.drew=wd at *;refine HT.tk 0 rfl ?_;go_frame;refine HT.tk 1 rfl ?_;go_frame;refine HT.tk 2 rfl ?_;go_frame;refine HT.tk 3 rfl ?_;go_frame;refine HT.tk 4 rfl ?_;go_frame;refine HT.tk 5 rfl ?_;go_frame;refine HT.tk 6 rfl ?_;go_frame;refine HT.branch (rs:=[7]) (by kernel_rfl) (by simp) ?_;refine HT.cn 7 rfl (fun K hK=>?_) ?_
      ·go_simp;go_at_call 20
       with_reducible refine Calls.mono (nT.out _ gq) ?_
       rintro e w9 ⟨RG,RH,RI,RJ,RP,RQ,Bc,rfl,hk9,oU⟩;have mg:=yI hk9 (Nat.lt_of_lt_of_le Rx gq.size) (fun k hk=>Nat.lt_of_lt_of_le (pU.out.lt k hk) gq.size);have hqe:=gq.trans oU;unfold gK;refine hK.out _ _ ?acj (fun hHeld=>?_)
       case acj=>exact bK.out _ hqe
       clear hK K
       (try go_frame)
       refine HT.last rfl (by kernel_rfl) (fun K hK=>?_);have hbs:=au hqe xk.out;obtain ⟨⟨p0,p1,p2,p3,p4⟩,y0,y1,y2,y3,y4⟩:=five hbs;have hend:=Bv Bc (by rw [F7.out];omega) (by rw [List.append_assoc];exact vO.out) MZ.out (pU.out.stay hqe) hbs (au hqe xq.out) (au hqe DZ.out) mg (uI.out.trans hqe) dV hzz (Nat.le_trans Na hqe.size);have zC:=hid hend;clear hend;go_simp;refine hK.out _ _ ?_;clear hK K
       (try go_frame)
       refine HT.done (by kernel_rfl) ?_ _;go_wp2_with fail;go_roundw
       case rel=>exact ⟨i+1,_,_,by go_num,rfl,zC.out⟩
       case measure=>simp [intOf];omega
      exact HT.bG.nil
     ·have hlt':¬ (i:Int) < l2:=by omega
      have hi2:l2=i:=by omega
      subst hi2;have hd:vs.drop l2=[]:=List.drop_eq_nil_of_le (by rw [F7.out];exact Nat.le_refl _);rw [hd] at hf1 hf2;have hns:ns=lf.1:=by rw [<-hf1];show ns=ns++[];simp
      have hdl:di=lf.2:=hf2;clear hf1 hf2 hd;obtain ⟨lf1,lf2⟩:=lf;dsimp only at hns hdl;subst hns hdl;obtain ⟨hpt,hpc⟩:=yK.out.at (R:=R) hzz (by unfold maxLen;omega);have hnl:=yK.out.len;have Ey:=hid hpt;have HKq:=hid (Bq Ky.out);clear hpt;have hl2:1<=l2:=by rw [HS2.out.1];exact xA.out.2.2.2.2.2.2.1 HK.out
      obtain ⟨b9,aJ,u,qu,_,_,_,_,_,_,rfl,_,gu,_,cu,_,_⟩:=HS2.out.nth (i:=0) (by omega);have VP:aH ps 0=(u.fr,u.en):=by unfold aH;rw [gu]
      obtain ⟨_,_,_,_,_,_,_,u7,u8⟩:=cu
      (try simp only [Nat.zero_mul,Nat.add_zero] at u7 u8)
      obtain ⟨gp,n0,wU,n0c,rfl,IW,DJ,n01,n02⟩:=Ey.out.get (i:=0) (by rw [List.length_map,hnl];omega);obtain ⟨dA,hdA⟩:∃ dA,(dP most (tv n0) (h.tk,h.tn,h.tp) u.fr u.en di).2=dA:=⟨_,rfl⟩;have HA:=hid hdA;have MC:Hid ((dP most (tv d.next) (h.tk,h.tn,h.tp) h.fr h.en dA).2=fin):=by show _=_;rw [<-HF3.out,<-hdA,VP,<-IW]
      have htz:h.tp.size<=100000:=xA.out.2.2.2.2.2.2.2;have HU7:=hid u7;have HU8:=hid u8;have hi0:(0:Int) < l2:=by omega
      have hj0:0 < l2:=by omega
      clear IW hdA VP gu u7 u8;have hzp:=hzx;have bK:Hid (∀ W',ah wx W'->(fun (W':World)=>(A8 W' B (.slice rU rV rW) (.int .i64 di.next) (.int .i64 most) (.slice vI vJ vK) (.int .i64 qW))/\(qV W' (B+1) h o1 l1 c1 (some ⟨b9,aJ,none⟩) l2 c2)/\(yB W' gp (.int .i64 1) (.int .i64 n0) (.slice wU 0 n0c))/\(W'.cell? ⟨b9,aJ+7,none⟩=some (.int .i64 u.fr)/\W'.cell? ⟨b9,aJ+8,none⟩=some (.int .i64 u.en))) W'):=fun W' hq=>by
       obtain ⟨k,_⟩:=five (au hq pK.out);exact ⟨k,aA (au hq pO.out),⟨hq.at DJ,hq.at n01,hq.at n02⟩,⟨(qU.out.trans hq).at HU7.out,(qU.out.trans hq).at HU8.out⟩⟩
      have gI:Hid (∀ W',ah wx W'->Calls Tryd.prog 31 #[gK rU rV rW di.next most vI vJ vK qW,.agg #[.int .i64 1,.int .i64 n0,.slice wU 0 n0c],.agg #[.int .i64 h.tk,.int .i64 h.tn,.slice o1 l1 c1],.agg #[.int .i64 u.fr,.int .i64 u.en]] W' (sW (RB R B) W' most dA)):=fun W' hq=>by
       have k:=add_any (o1:=wU) (l1:=0) (c1:=n0c) (o2:=o1) (l2:=l1) (c2:=c1) qW (HKq.out.stay hq) hm (tv n0) ((h.tk,h.tn,h.tp)) u.fr u.en (aB.nil _ _ _) (nH.out.fr (qU.out.trans hq) (jG dV)) (Nat.le_of_ble_eq_true rfl) htz;rw [HA.out] at k;exact k
      unfold gK at gI;go_upto_region 52 with fail
      clear p0 p1 p2 p3 p4 a0 a1 a2 a3 a4 a5 a6 a7 a8 DJ n01 n02;go_cut [] from 266 to 277 (fun wy=>TmC R W B dA most h o1 l1 c1 (some ⟨b9,aJ,none⟩) l2 c2 wy)
      case first =>
       refine dH 12 bK.out (by kernel_rfl) (fun hHeld=>?_)
       (try dsimp only at hHeld)
       have gq:=ah.drew wx;generalize wx.drew=wd at gq hHeld ⊢;refine HT.tk 0 rfl ?_;go_frame;refine HT.tk 1 rfl ?_;go_frame;refine HT.tk 2 rfl ?_;go_frame;refine HT.tk 3 rfl ?_;go_frame;refine HT.tk 4 rfl ?_;go_frame;refine HT.tk 5 rfl ?_;go_frame;refine HT.tk 6 rfl ?_;go_frame;refine HT.tk 7 rfl ?_;go_frame;refine HT.tk 8 rfl ?_;go_frame;refine HT.tk 9 rfl ?_;go_frame;refine HT.tk 10 rfl ?_;go_frame;refine HT.branch (rs:=[11]) (by kernel_rfl) (by simp) ?_;refine HT.cn 11 rfl (fun K hK=>?_) ?_
       ·go_simp;go_at_call 31
        with_reducible refine Calls.mono (gI.out _ gq) ?_
        rintro e wv1 ⟨lo3,iG,iH,iI,iJ,iK,gX,rfl,hk3,pR⟩;have mg:=iF hk3 (Nat.lt_of_lt_of_le hzp gq.size);have fA:=gq.trans pR;unfold gK;refine hK.out _ _ ?acn (fun hHeld=>?_)
        case acn=>exact bK.out _ fA
        clear hK K
        (try go_frame)
        refine HT.last rfl (by kernel_rfl) (fun K hK=>?_);have hbs:=au fA pK.out;obtain ⟨⟨p0,p1,p2,p3,p4⟩,y0,y1,y2,y3,y4⟩:=five hbs;have hend:=jX gX hbs (au fA pO.out) (au fA uz.out) mg (qU.out.trans fA) dV;go_simp;refine hK.out _ _ ?_;clear hK K
        (try go_frame)
        refine HT.done (by kernel_rfl) ?_ _;go_wp2_with fail;go_meet;exact hend
       exact HT.bG.nil
      case rest =>
       rename World=>RU
       obtain ⟨lo7,ln7,lc7,oo7,on7,oc7,in7,hb0,gB,hb2,hk7,hq7⟩:=hcut;have Yg:=hid hb0;have Yh:=hid gB;have aaJ:=hid hb2;have HK7:=hid hk7;have WB:=hid hq7;clear hzp;have hzp:B+1+1 < RU.heap.size:=lt_of_block hb2;clear hb0 gB hb2 hk7 hq7;have Nb:Hid (∀ W',ah RU W'->(fun (W':World)=>(A8 W' B (.slice lo7 ln7 lc7) (.int .i64 dA.next) (.int .i64 most) (.slice oo7 on7 oc7) (.int .i64 in7))/\(qV W' (B+1) h o1 l1 c1 (some ⟨b9,aJ,none⟩) l2 c2)) W'):=fun W' hq=>by
        obtain ⟨k,_⟩:=five (au hq Yg.out);exact ⟨k,aA (au hq Yh.out)⟩
       clear gI;have gI:Hid (∀ W',ah RU W'->Calls Tryd.prog 31 #[gK lo7 ln7 lc7 dA.next most oo7 on7 oc7 in7,.agg #[.int .i64 1,.int .i64 d.next,.slice none 0 0],.agg #[.int .i64 h.tk,.int .i64 h.tn,.slice o1 l1 c1],.agg #[.int .i64 h.fr,.int .i64 h.en]] W' (sW (RB R B) W' most fin)):=fun W' hq=>by
        have k:=add_any (o1:=none) (l1:=0) (c1:=0) (o2:=o1) (l2:=l1) (c2:=c1) in7 (HK7.out.stay hq) hm (tv d.next) ((h.tk,h.tn,h.tp)) h.fr h.en (aB.nil _ _ _) (nH.out.fr (WB.out.trans hq) (jG dV)) (Nat.le_of_ble_eq_true rfl) htz;rw [MC.out] at k;exact k
       unfold gK at gI;go_upto_region 53 with fail
       refine dH 8 Nb.out (by kernel_rfl) (fun hHeld=>?_)
       (try dsimp only at hHeld)
       have gq:=ah.drew RU;generalize RU.drew=wd at gq hHeld ⊢;refine HT.tk 0 rfl ?_;go_frame;refine HT.tk 1 rfl ?_;go_frame;refine HT.tk 3 rfl ?_;go_frame;refine HT.tk 4 rfl ?_;go_frame;refine HT.tk 5 rfl ?_;go_frame;refine HT.tk 6 rfl ?_;go_frame;refine HT.branch (rs:=[2]) (by kernel_rfl) (by simp) ?_;refine HT.cn 2 rfl (fun K hK=>?_) ?_
       ·go_simp;go_at_call 32
        with_reducible refine Calls.mono (fZ _ _) ?_
        rintro e wv1 ⟨rfl,pR⟩;have fA:=gq.trans pR;refine hK.out _ _ ?aco (fun hHeld=>?_)
        case aco=>exact Nb.out _ fA
        clear hK K
        (try go_frame)
        refine HT.branch (rs:=[7]) (by kernel_rfl) (by simp) ?_;refine HT.cn 7 rfl (fun K hK=>?_) ?_
        ·go_simp;go_at_call 31
         with_reducible refine Calls.mono (gI.out _ fA) ?_
         rintro e wv2 ⟨lo3,iG,iH,iI,iJ,iK,gX,rfl,hk3,rX⟩;have mg:=iF hk3 (Nat.lt_of_lt_of_le hzp fA.size);have fU:=fA.trans rX;unfold gK;refine hK.out _ _ ?acp (fun hHeld=>?_)
         case acp=>exact Nb.out _ fU
         clear hK K
         (try go_frame)
         refine HT.last rfl (by kernel_rfl) (fun K hK=>?_);have hbs:=au fU aaJ.out;obtain ⟨⟨z0,z1,z2,z3,z4⟩,y0,y1,y2,y3,y4⟩:=five hbs;have dU:=WB.out.trans fU;go_simp;refine hK.out _ _ ?_;clear hK K
         (try go_frame)
         refine HT.done (by kernel_rfl) ?_ _;clear z0 z1 z2 z3 z4 y0 y1 y2 y3 y4;generalize Ba:bodyPost Tryd.prog Tryd.f20 (sW R W most fin)=BP at *;go_wp2_with fail;rw [<-Ba];have hf:=eU wv2 (B+1+1) (.slice lo3 iG iH) (.int .i64 fin.next) (.int .i64 most) (.slice iI iJ iK) (.int .i64 gX);obtain ⟨⟨f0,f1,f2,f3,f4⟩,_⟩:=five (bV (a:=(.slice lo3 iG iH)) (b:=(.int .i64 fin.next)) (c:=(.int .i64 most)) (d:=(.slice iI iJ iK)) (e:=(.int .i64 gX)) hbs);change bodyPost _ _ _ _ _ (iD wv2 (B+1+1) (.slice lo3 iG iH) (.int .i64 fin.next) (.int .i64 most) (.slice iI iJ iK) (.int .i64 gX));have hend:=mV mg dU hf dV;generalize iD wv2 (B+1+1) (.slice lo3 iG iH) (.int .i64 fin.next) (.int .i64 most) (.slice iI iJ iK) (.int .i64 gX)=wf at *;refine bodyPost_ret (by simp [results,Tryd.results20,go_sem,f0,f1,f2,f3,f4]<;>rfl) rfl ?_;exact ⟨lo3,iG,iH,iI,iJ,iK,gX,by (first | rfl | (rw [HF2.out]<;>rfl)),by (first | exact hend.1 | (rw [HF2.out];exact hend.1)),hend.2⟩
        exact HT.bG.nil
       exact HT.bG.nil
theorem Yi {most:Nat} (hm:most<=4000) (h:Nd) (ps:To):iU most h ps:=To.uY (T:=iU most) (VH hm) h ps
theorem rk0 (R:Nat->Prop) (w:World) (most:Nat):fH R w most ⟨[],0⟩ none 0 0 none 0 0 :=
 ⟨rfl,Nat.le_refl _,⟨Nat.zero_le _,fun t ht=>(by cases ht),.inl rfl⟩,Nat.zero_le _,.inl rfl,Nat.zero_le _,Nat.le_refl _⟩
theorem QS {most : Nat} (hm : most <= 4000) (h : Nd) (ps : To) {R : Nat -> Prop} {w : World} {o1 : Option Addr} {l1 c1 : Nat} {o2 : Option Addr} {l2 c2 : Nat} (hs1 : aB R w o1 l1 h.tp) (hs : bC R w o2 l2 ps) (hz : ps.size <= 100000) (hok : KU h ps.length) (kF : rH ps) (hnb : (dZ most h ps [] ⟨[], 0⟩).2.next <= 1000000) :
    Calls Tryd.prog 20 #[.agg #[.slice none 0 0,.int .i64 0,.int .i64 most,.slice none 0 0,.int .i64 0],bP h o1 l1 c1 o2 l2 c2,.slice none 0 0] w (sW R w most (dZ most h ps [] ⟨[],0⟩).2) :=
 Yi hm h ps R w ⟨[],0⟩ 0 none 0 0 none 0 0 o1 l1 c1 o2 l2 c2 none 0 0 .nil (rk0 R w most) hs1 hs (EvS.nil _ _ _) (Nat.le_refl _) (by omega) trivial hok kF hnb
end Em
end
end Go.Proofs.YtcninopmelmajaaDoor
