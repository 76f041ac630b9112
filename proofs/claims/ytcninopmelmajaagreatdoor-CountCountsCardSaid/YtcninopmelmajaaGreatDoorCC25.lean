/-
  Texts laid together (RqOne): laws and walks, with their conditions.
-/
import Derived.Test.YtcninopmelmajaaGreatDoorCC24
set_option maxHeartbeats 8000000
set_option maxRecDepth 1000000
namespace Go.Proofs.YtcninopmelmajaaGreatDoor
open Go.Lib (hid)
section
open Go.RowKit
namespace Em
theorem Ul {most:Nat} (hm:most<=4000) (h:Nd) (ps:To) (ih:∀ i g qs,ps.get i=some (g,qs)->jL most g qs):jL most h ps:=by
 intro R W d inn lo ln lc oo on oc o1 l1 c1 o2 l2 c2 eo en ec ev hrk hs1 hs2 hev yj hez hgd hok mF hnb
 have IH:=hid ih
 have WZ:=hid hez
 have JF:=hid hev.1
 have hlz:l2<=100000:=by have:=To.length_le ps;have:=hs2.1;omega
 clear ih
 obtain ⟨W0,hW0⟩:∃ W0,W0=(((W.alloc (.cells (r5 lo ln lc d.next most oo on oc inn) 70)).alloc (.cells (cells9 h o1 l1 c1 o2 l2 c2) 29)).alloc (.cells (#[.slice none 0 0,.int .i64 0,.int .i64 0,.slice none 0 0,.int .i64 0]) 70)):=⟨_,rfl⟩
 have uS:ah W W0:=by rw [hW0];exact ((ah.alloc _ _).trans (ah.alloc _ _)).trans (ah.alloc _ _)
 have xH:(W.alloc (.cells (r5 lo ln lc d.next most oo on oc inn) 70)).heap.size=W.heap.size+1:=by simp
 have xI:((W.alloc (.cells (r5 lo ln lc d.next most oo on oc inn) 70)).alloc (.cells (cells9 h o1 l1 c1 o2 l2 c2) 29)).heap.size=W.heap.size+1+1:=by simp
 have xJ:W0.heap[W.heap.size]?=some (.cells (r5 lo ln lc d.next most oo on oc inn) 70 (0,0)):=by
  rw [hW0]
  have k:=heap_alloc_new W (.cells (r5 lo ln lc d.next most oo on oc inn) 70)
  exact ak ((ah.alloc _ _).trans (ah.alloc _ _)) k
 have xK:W0.heap[W.heap.size+1]?=some (.cells (cells9 h o1 l1 c1 o2 l2 c2) 29 (0,0)):=by
  rw [hW0]
  have k:=heap_alloc_new (W.alloc (.cells (r5 lo ln lc d.next most oo on oc inn) 70)) (.cells (cells9 h o1 l1 c1 o2 l2 c2) 29)
  rw [xH] at k
  exact ak (ah.alloc _ _) k
 have uf:W0.heap[W.heap.size+1+1]?=some (.cells (#[.slice none 0 0,.int .i64 0,.int .i64 0,.slice none 0 0,.int .i64 0]) 70 (0,0)):=by
  rw [hW0]
  have k:=heap_alloc_new ((W.alloc (.cells (r5 lo ln lc d.next most oo on oc inn) 70)).alloc (.cells (cells9 h o1 l1 c1 o2 l2 c2) 29)) (.cells (#[.slice none 0 0,.int .i64 0,.int .i64 0,.slice none 0 0,.int .i64 0]) 70)
  rw [xI] at k
  exact k
 clear xH xI
 have hz0:W.heap.size+1+1 < W0.heap.size:=lt_of_block uf
 have aK:=hid uS
 have HB0:=hid xJ
 have HB1:=hid xK
 have HB2:=hid uf
 have HRK:=hid hrk
 have nH:=hid hs1
 have HS2:=hid hs2
 have JE:=hid hev
 have JC:=hid hgd
 have Vw:=hid hok
 have nX:=hid mF
 have MZ:=hid hnb
 have hnx:=xM most h ps (mJ most ev) d
 have hn1:d.next+1<=1000000:=Nat.le_trans hnx hnb
 have hn0:d.next<=1000000:=by omega
 have hnw:IntKind.i64.wrap ((d.next:Int)+1)=((d.next+1:Nat):Int):=by rw [IntWalk.i64_in _ (by omega)];omega
 have adw:=hrk.onl
 obtain ⟨fin,hfin⟩:∃ fin,(dP most h ps (kY most ev) d).2=fin:=⟨_,rfl⟩
 have bJ:=hid hfin
 rw [hfin]
 clear hez hrk hs1 hs2 hev hgd hok mF hnb uS xJ xK uf hnx hfin
 unfold bC gZ
 go_enter Tryz.func37,Tryz.ntmps37
 generalize eX:W.heap.size=B at *
 go_upto_region 1 with fail
 rw [<-hW0]
 clear hW0
 obtain ⟨⟨p0,p1,p2,p3,p4⟩,y0,y1,y2,y3,y4⟩:=five HB0.out
 go_upto_region 3 with fail
 obtain ⟨d1,hd1⟩:∃ d1:Dk,d1={ d with next:=d.next+1 }:=⟨_,rfl⟩
 have hdn:d1.next=d.next+1:=by rw [hd1]
 have hdL:d1.L=d.L:=by rw [hd1]
 rw [show ((d.next:Int)+1)=(d1.next:Int) from by omega]
 clear hnw
 clear p0 p1 p2 p3 p4 y0 y1 y2 y3 y4
 have hs:=Fr.setCell (fun i=>i=B) W0 ⟨B,1,none⟩ (.int .i64 d1.next) rfl
 obtain ⟨w1,hw1⟩:∃ w1,w1=W0.setCell ⟨B,1,none⟩ (.int .i64 d1.next):=⟨_,rfl⟩
 rw [<-hw1] at hs ⊢
 have hb0:w1.heap[B]?=some (.cells (r5 lo ln lc d1.next most oo on oc inn) 70 (0,0)):=by rw [hw1];exact aB (i:=1) HB0.out
 have hb1:=ay hs (by intro h;have h':B+1=B:=h;omega) HB1.out
 have hb2:=ay hs (by intro h;have h':B+1+1=B:=h;omega) HB2.out
 have hq1:ah W w1:=Fr.trans' aK.out hs (fun i hi e=>by have e':i=B:=e;omega)
 have hR1:∀ k,k < W.heap.size->R k->RB R B k/\¬ False:=fun k hk hr=>⟨.inl ⟨hr,by omega⟩,fun h=>h⟩
 have hk1:=HRK.out.fr hq1 hR1
 replace hk1:fJ (RB R B) w1 most d1 lo ln lc oo on oc:=⟨by rw [hdL];exact hk1.len,hk1.cap,by rw [hdL];exact hk1.eqs,by rw [hdL];exact hk1.few,hk1.own,by rw [hdn];exact Nat.le_succ_of_le hk1.onl,hk1.onc⟩
 have HD1:=hid hd1
 have HDN:=hid hdn
 have HDL:=hid hdL
 clear hd1 hdn hdL
 have Um:=hid hb0
 have aa4:=hid hb1
 have aa5:=hid hb2
 have bI:=hid hq1
 have Oh:=hid hk1
 have hz1:B+1+1 < w1.heap.size:=lt_of_block hb2
 clear hs hw1 hb0 hb1 hb2 hq1 hR1 hk1 hz0
 obtain ⟨⟨p0,p1,p2,p3,p4⟩,y0,y1,y2,y3,y4⟩:=five Um.out
 go_upto_if 24 with fail
 go_cut [] from 22 to 32 (fun wx=>TmS R W B d1 most h o1 l1 c1 o2 l2 c2 lo ln lc inn wx)
 case first =>
  by_cases hin:inn=0
  ·have hib:(inn == 0)=true:=by simp [hin]
   clear hin
   obtain ⟨vl,hvl,hvc⟩:∃ vl:List Int,vl.length=on/\∀ (W':World),ah w1 W'->∀ (j:Nat) (u:Value),(vl.map (Value.int .i64))[j]?=some u->∃ a,oo=some a/\W'.cell? (a.add j)=some u:=by
    rcases Oh.out.own with e | ⟨b,off,e,hb,vl,h1,h2⟩
    ·exact ⟨[],e.symm,fun W' _ j u hj=>by simp at hj⟩
    ·refine ⟨vl,h1,fun W' hq j u hj=>?_⟩
     rw [List.getElem?_map] at hj
     obtain ⟨x,hx,rfl⟩:=Option.map_eq_some_iff.1 hj
     exact ⟨_,e,by rw [Addr.add_lit];exact hq.at (h2 j x hx)⟩
   have Vx:=hid hvc
   clear hvc
   clear p0 p1 p2 p3 p4 y0 y1 y2 y3 y4
   obtain ⟨⟨p0,p1,p2,p3,p4⟩,y0,y1,y2,y3,y4⟩:=five (ak (ah.alloc w1 (.cells #[] 3)) Um.out)
   have Yu:=hid (gB (size:=1) (heap_alloc_new w1 (.cells #[] 3)))
   go_wp2_with (first
    | (at_builtin;(refine gK (w1.alloc (.cells #[] 3)) rfl (.tmp 25) (.tmp 27) 35 rfl 3 _ 1 8 jH (.slice (some ⟨w1.heap.size,0,none⟩) 0 0) 0 [] rfl Yu.out oo on oc (vl.map (Value.int .i64)) rfl (by simp [hvl]) (Vx.out _ (ah.alloc _ _)) (by intro u hu;obtain ⟨z,_,rfl⟩:=List.mem_map.1 hu;rfl) (by unfold maxLen;omega) (by omega) ?_);intro o3 c3 w3 ho3 hf3 fE hnil3;simp only [Nat.zero_add,List.nil_append] at ho3 fE hnil3 ⊢;(have hq3:ah w1 w3:=Fr.trans' (ah.alloc w1 _) hf3 (fun i hi e=>by simp [Value.ownBlock] at e;omega)))
    | (at_builtin;(refine aP w3 rfl (.tmp 28) (.tmp 30) 35 rfl 3 _ 1 8 jH (.slice o3 on c3) on (vl.map (Value.int .i64)) rfl ho3 #[.int .i64 (d.next:Int)] rfl rfl (by simp [Value.oneCell']) (by unfold maxLen;omega) (by omega) ?_);intro g4 c4 w4 kX hf4 hg4;(obtain ⟨hq4,hgg⟩:=WT hz1 hq3 fE hf4 hg4);clear p0 p1 p2 p3 p4 y0 y1 y2 y3 y4;obtain ⟨⟨p0,p1,p2,p3,p4⟩,y0,y1,y2,y3,y4⟩:=five (ak hq4 Um.out)))
   go_meet
   exact WU (own:=d.next) Oh.out (by have k:=HDN.out;omega) bI.out hq4 eX Um.out aa4.out aa5.out kX hvl hgg
  ·have hib:(inn == 0)=false:=by simp [hin]
   clear hin
   go_wp2_with fail
   go_meet
   exact ⟨oo,on,oc,Um.out,aa4.out,aa5.out,Oh.out,bI.out⟩
 case rest =>
  rename World=>wr
  clear p0 p1 p2 p3 p4 y0 y1 y2 y3 y4
  obtain ⟨AA,DK,yF,hr0,hr1,hr2,hrk,hqr⟩:=hcut
  have HR0:=hid hr0
  have HR2:=hid hr2
  have Dc:=hid hrk
  have zV:=hid hqr
  have X7:B+1+1 < wr.heap.size:=lt_of_block hr2
  have Ae:=hid hrk.len
  obtain ⟨⟨p0,p1,p2,p3,p4⟩,y0,y1,y2,y3,y4⟩:=five hr0
  obtain ⟨a0,a1,a2,a3,a4,a5,a6,a7,a8⟩:=aA hr1
  have O5:=hid hr1
  clear hr0 hr1 hr2 hrk hqr
  by_cases hov:most < ln
  ·have acV:(most:Int) < ln:=by omega
   have HF2:Hid (fin=d1):=by show _=_;rw [<-bJ.out,La (by rw [<-HDL.out,<-Ae.out];exact hov),HD1.out]
   obtain ⟨⟨d0,d1,d2,d3,d4⟩,e0,e1,e2,e3,e4⟩:=five HR2.out
   generalize Ag:bodyPost Tryz.prog Tryz.f37 (sH R W most fin)=BP at *
   go_wp2_with fail
   rw [<-Ag]
   clear d0 d1 d2 d3 d4 e0 e1 e2 e3 e4
   have hf:=eP wr (B+1+1) (.slice lo ln lc) (.int .i64 d1.next) (.int .i64 most) (.slice AA DK yF) (.int .i64 inn)
   obtain ⟨⟨f0,f1,f2,f3,f4⟩,_⟩:=five (bQ (a:=(.slice lo ln lc)) (b:=(.int .i64 d1.next)) (c:=(.int .i64 most)) (d:=(.slice AA DK yF)) (e:=(.int .i64 inn)) HR2.out)
   change bodyPost _ _ _ _ _ (iK wr (B+1+1) (.slice lo ln lc) (.int .i64 d1.next) (.int .i64 most) (.slice AA DK yF) (.int .i64 inn))
   have hend:=mD Dc.out zV.out hf eX
   generalize iK wr (B+1+1) (.slice lo ln lc) (.int .i64 d1.next) (.int .i64 most) (.slice AA DK yF) (.int .i64 inn)=wf at *
   refine bodyPost_ret (by simp [results,Tryz.results37,go_sem,f0,f1,f2,f3,f4]<;>rfl) rfl ?_
   exact ⟨lo,ln,lc,AA,DK,yF,inn,by (first | rfl | (rw [HF2.out]<;>rfl)),by (first | exact hend.1 | (rw [HF2.out];exact hend.1)),hend.2⟩
  ·have acV:¬ (most:Int) < ln:=by omega
   have QJ:Hid (¬ most < d.L.length):=by show ¬ _;rw [<-HDL.out,<-Ae.out];exact hov
   clear y0 y1 y2 y3 y4
   have hkk:h.k=1∨h.k=2∨h.k=3∨h.k=4∨h.k=5∨(h.k=6∨h.k=7)∨h.k=8∨h.k=9∨h.k=10:=by have:=Vw.out.1;omega
   rcases hkk with hk | hk | hk | hk | hk | X8 | hk | hk | hk
   ·have t2:(h.k == 2)=false:=by rw [hk];rfl
    have t3:(h.k == 3)=false:=by rw [hk];rfl
    have t1:(h.k == 1)=true:=by rw [hk];rfl
    have HK:=hid hk
    clear hk
    have hez:=WZ.out
    have JF:=hid JE.out.1
    have adx:en<=100000:=by omega
    obtain ⟨aL,haL⟩:∃ a,rF ev h.nm en0=a:=⟨_,rfl⟩
    obtain ⟨kd,hkd⟩:∃ kd,ND most aL d1=kd:=⟨_,rfl⟩
    have hre:(dK most (tv d.next) (tv kd.1) h.fr h.en kd.2).2=fin:=by
     rw [<-bJ.out,jc QJ.out,<-HD1.out]
     unfold kP
     rw [if_neg (by rw [HK.out];decide),if_neg (by rw [HK.out];decide),if_pos HK.out,Lc,haL]
     unfold fH jG
     dsimp only
     rw [hkd]
    have hkn:kd.2.next<=1000000:=by have k:=MZ.out;rw [bJ.out,<-hre,jJ] at k;exact k
    have Y3:=hid hkd
    have HKN:=hid hkn
    have HAL:=hid haL
    have HF3:=hid hre
    have HF2:Hid (fin=fin):=rfl
    clear hre hkd hkn haL
    go_wp2_with fail
    obtain ⟨wl,hwl⟩:∃ wl,wl=wr.alloc (.cells (WW en0 none 0 0 none 0 0 none 0 0) 108):=⟨_,rfl⟩
    have hql:ah wr wl:=by rw [hwl];exact ah.alloc _ _
    have hbl:wl.heap[wr.heap.size]?=some (.cells (WW en0 none 0 0 none 0 0 none 0 0) 108 (0,0)):=by rw [hwl];exact heap_alloc_new wr _
    obtain ⟨Bm,hBm⟩:∃ Bm,wr.heap.size=Bm:=⟨_,rfl⟩
    rw [hBm] at hbl
    have HBM:=hid hBm
    have HBL:=hid hbl
    have HQL:=hid hql
    have hzm:B+1+1 < Bm:=by rw [<-hBm];exact X7
    clear p0 p1 p2 p3 p4 a0 a1 a2 a3 a4 a5 a6 a7 a8
    change Code.wp _ _ _ _ (wr.alloc (.cells (WW en0 none 0 0 none 0 0 none 0 0) 108))
    rw [<-hwl]
    simp only [hBm]
    clear hwl hbl hql hBm
    go_loopw [9] (fun t wx=>∃ i:Nat,t=.int .i64 i/\i<=en/\ah wr wx/\aa1 R W most ev h.nm Bm i wx) (fun t _=>en - (intOf t).toNat)
    case atStart=>exact ⟨0,rfl,Nat.zero_le _,HQL.out,en0,none,0,0,none,0,0,none,0,0,HBL.out,by rw [Ev.drop_zero],Ua most,Zv R W⟩
    case round =>
     rename World=>wx
     obtain ⟨i,rfl,hi,jQ,hvl⟩:=hrel
     have qP:=hid jQ
     obtain ⟨a,o1',l1',c1',o2',l2',c2',ao',an',ac',hbm,hla,hga,hin⟩:=hvl
     have rY:=hid hbm
     have X9:=hid hla
     have HGA:=hid hga
     have kR:=hid hin
     clear jQ hbm hla hga hin
     obtain ⟨⟨p0,p1,p2,p3,p4⟩,_⟩:=five (ak qP.out HR0.out)
     obtain ⟨a0,a1,a2,a3,a4,a5,a6,a7,a8⟩:=aA (ak qP.out O5.out)
     by_cases hlt:i < en
     ·have hlt':(i:Int) < en:=by omega
      obtain ⟨b,off,nm,v,ag,hh,pps,ar,o1x,l1x,c1x,o2x,l2x,c2x,aox,anx,acx,rfl,hdr,hce,hsx,htx,hex,hlx,hrb⟩:=JE.out.nth hlt
      have HDR:=hid hdr
      have HSX:=hid hsx
      have HTX:=hid htx
      have HEX:=hid hex
      have Vq:=hid (hce.fr (zV.out.trans qP.out) (fun h=>h))
      obtain ⟨u0,u1,u2,u3,u4,u5,u6,u7,u8,u9,u10,u11,u12⟩:=Vq.out
      clear hdr hsx htx hex hce
      cases hx:(nm.toList == h.nm.toList)
      ·go_upto_region 17 with fail
       go_quiet (fail)
       have Ob:=ah.drewN wx nq
       have HQY:=hid (qP.out.trans Ob)
       have HBY:=hid (ak Ob rY.out)
       clear Ob p0 p1 p2 p3 p4 a0 a1 a2 a3 a4 a5 a6 a7 a8 u0 u1 u2 u3 u4 u5 u6 u7 u8 u9 u10 u11 u12
       generalize wx.drewN nq=wy at *
       go_wp2_with fail
       go_roundw
       case rel=>exact ⟨i+1,by go_num,by omega,HQY.out,a,o1',l1',c1',o2',l2',c2',ao',an',ac',HBY.out,by
        have k:=X9.out
        rw [HDR.out] at k
        rw [zN] at k
        rw [if_neg (fun e=>by rw [Sc.str_eq.2 e] at hx;cases hx)] at k
        exact k,HGA.out,kR.out⟩
       case measure=>simp [intOf];omega
      ·go_upto_region 17 with fail
       go_quiet (fail)
       have Ob:=ah.drewN wx nq
       have HQY:=hid (qP.out.trans Ob)
       have HBY:=hid (ak Ob rY.out)
       have HCY:=hid (Vq.out.fr Ob (fun h=>h))
       clear Ob p0 p1 p2 p3 p4 a0 a1 a2 a3 a4 a5 a6 a7 a8 u0 u1 u2 u3 u4 u5 u6 u7 u8 u9 u10 u11 u12
       generalize wx.drewN nq=wy at *
       obtain ⟨⟨k0,k1,k2,k3,k4,k5,k6,k7,k8,k9,k10,k11,k12⟩,z0,z1,z2,z3,z4,z5,z6,z7,z8,z9,z10,z11,z12⟩:=thirteen HBY.out
       obtain ⟨u0,u1,u2,u3,u4,u5,u6,u7,u8,u9,u10,u11,u12⟩:=HCY.out
       have hend:ah wr (aO wy Bm (.string nm) (.int .i64 v) (.bool ag) (.int .i64 hh.k) (.string hh.nm) (.int .i64 hh.n) (.int .i64 hh.tk) (.int .i64 hh.tn) (.slice o1x l1x c1x) (.slice o2x l2x c2x) (.int .i64 hh.fr) (.int .i64 hh.en) (.slice aox anx acx))/\aa1 R W most ev h.nm Bm (i+1) (aO wy Bm (.string nm) (.int .i64 v) (.bool ag) (.int .i64 hh.k) (.string hh.nm) (.int .i64 hh.n) (.int .i64 hh.tk) (.int .i64 hh.tn) (.slice o1x l1x c1x) (.slice o2x l2x c2x) (.int .i64 hh.fr) (.int .i64 hh.en) (.slice aox anx acx)):=by
        have hf:=bf wy Bm (.string nm) (.int .i64 v) (.bool ag) (.int .i64 hh.k) (.string hh.nm) (.int .i64 hh.n) (.int .i64 hh.tk) (.int .i64 hh.tn) (.slice o1x l1x c1x) (.slice o2x l2x c2x) (.int .i64 hh.fr) (.int .i64 hh.en) (.slice aox anx acx)
        refine ⟨Fr.trans' HQY.out hf (fun i hi e=>by have e':i=Bm:=e;have:=HBM.out;omega),(nm,v,ag,hh,pps,ar),o1x,l1x,c1x,o2x,l2x,c2x,aox,anx,acx,aN HBY.out,?_,?_,HSX.out,HTX.out,HEX.out,hlx⟩
        ·have k:=X9.out
         rw [HDR.out] at k
         rw [zN] at k
         rw [if_pos (Sc.str_eq.1 hx)] at k
         exact k
        ·have k:=JC.out.drop i
         rw [HDR.out] at k
         exact k.1
       have wQ:=hid hend
       clear hend
       go_wp2_with fail
       clear k0 k1 k2 k3 k4 k5 k6 k7 k8 k9 k10 k11 k12 u0 u1 u2 u3 u4 u5 u6 u7 u8 u9 u10 u11 u12 z0 z1 z2 z3 z4 z5 z6 z7 z8 z9 z10 z11 z12
       go_roundw
       case rel=>exact ⟨i+1,by go_num,by omega,wQ.out⟩
       case measure=>simp [intOf];omega
     ·have hlt':¬ (i:Int) < en:=by omega
      have hal:a=aL:=by
       have k:=X9.out
       rw [show i=ev.length from by have:=JF.out;omega,Ev.Jf,HAL.out] at k
       exact k
      subst hal
      clear X9 HAL
      obtain ⟨nm',v',ag',h',ps',XZ⟩:=a
      have HIS:=hid kR.out.1
      have HIT:=hid kR.out.2.1
      have HIE:=hid kR.out.2.2.1
      have hil:an'<=ac':=kR.out.2.2.2
      have Un:=ak qP.out HR0.out
      have Xa:=ak qP.out O5.out
      have Uo:=ak qP.out HR2.out
      obtain ⟨⟨k0,k1,k2,k3,k4,k5,k6,k7,k8,k9,k10,k11,k12⟩,_⟩:=thirteen rY.out
      clear kR
      dsimp only at HIS HIT HIE k0 k1 k2 k3 k4 k5 k6 k7 k8 k9 k10 k11 k12
      cases ag'
      ·have hkd:kd=(v',d1):=by rw [<-Y3.out];rfl
       subst hkd
       have acW:=hid Un
       have acX:=hid Xa
       have acY:=hid Uo
       have HKx:=hid (Dc.out.stay qP.out)
       have xR:=hid (zV.out.trans qP.out)
       have hzp:B+1+1 < wx.heap.size:=lt_of_block Uo
       clear Un Xa Uo
       go_upto_region 24 with fail
       clear p0 p1 p2 p3 p4 a0 a1 a2 a3 a4 a5 a6 a7 a8 k0 k1 k2 k3 k4 k5 k6 k7 k8 k9 k10 k11 k12
       have dL:Hid (∀ W',ah wx W'->(fun (W':World)=>(W'.cell? ⟨B,0,none⟩=some (.slice lo ln lc)/\W'.cell? ⟨B,1,none⟩=some (.int .i64 d1.next)/\W'.cell? ⟨B,2,none⟩=some (.int .i64 most)/\W'.cell? ⟨B,3,none⟩=some (.slice AA DK yF)/\W'.cell? ⟨B,4,none⟩=some (.int .i64 inn))/\(W'.cell? ⟨B+1,0,none⟩=some (.int .i64 h.k)/\W'.cell? ⟨B+1,1,none⟩=some (.string h.nm)/\W'.cell? ⟨B+1,2,none⟩=some (.int .i64 h.n)/\W'.cell? ⟨B+1,3,none⟩=some (.int .i64 h.tk)/\W'.cell? ⟨B+1,4,none⟩=some (.int .i64 h.tn)/\W'.cell? ⟨B+1,5,none⟩=some (.slice o1 l1 c1)/\W'.cell? ⟨B+1,6,none⟩=some (.slice o2 l2 c2)/\W'.cell? ⟨B+1,7,none⟩=some (.int .i64 h.fr)/\W'.cell? ⟨B+1,8,none⟩=some (.int .i64 h.en))) W'):=fun W' hq=>by
        obtain ⟨k,_⟩:=five (ak hq acW.out)
        exact ⟨k,aA (ak hq acX.out)⟩
       have gX:Hid (∀ W',ah wx W'->Calls Tryz.prog 58 #[gZ lo ln lc d1.next most AA DK yF inn,.agg #[.int .i64 1,.int .i64 d.next,.slice none 0 0],.agg #[.int .i64 1,.int .i64 v',.slice none 0 0],.agg #[.int .i64 h.fr,.int .i64 h.en]] W' (sH (RB R B) W' most fin)):=fun W' hq=>by
        have k:=add_any (o1:=none) (l1:=0) (c1:=0) (o2:=none) (l2:=0) (c2:=0) inn (HKx.out.stay hq) hm (tv d.next) (tv v') h.fr h.en (aC.nil _ _ _) (aC.nil _ _ _) (by show Fo.nil.size<=_;decide) (by show Fo.nil.size<=_;decide)
        have e:=HF3.out
        dsimp only at e
        rw [e] at k
        exact k
       unfold gZ at gX
       refine bZ 8 dL.out (by kernel_rfl) (fun hHeld=>?_)
       (try dsimp only at hHeld)
       have gI:=ah.drew wx
       generalize wx.drew=wd at gI hHeld ⊢
       refine HT.tk 0 rfl ?_
       go_frame
       refine HT.tk 1 rfl ?_
       go_frame
       refine HT.tk 3 rfl ?_
       go_frame
       refine HT.tk 5 rfl ?_
       go_frame
       refine HT.tk 6 rfl ?_
       go_frame
       refine HT.branch (rs:=[2]) (by kernel_rfl) (by simp) ?_
       refine HT.rU (fun K hK=>?_) ?_
       ·go_simp
        go_at_call 59
        with_reducible refine Calls.mono (gy _ _) ?_
        rintro e wv1 ⟨rfl,pz⟩
        have fA:=gI.trans pz
        refine hK.out _ _ ?Zy (fun hHeld=>?_)
        case Zy=>exact dL.out _ fA
        clear hK K
        (try go_frame)
        refine HT.branch (rs:=[4]) (by kernel_rfl) (by simp) ?_
        refine HT.ET (fun K hK=>?_) ?_
        ·go_simp
         go_at_call 59
         with_reducible refine Calls.mono (gy _ _) ?_
         rintro e wv2 ⟨rfl,rG⟩
         have fZ:=fA.trans rG
         refine hK.out _ _ ?TQ (fun hHeld=>?_)
         case TQ=>exact dL.out _ fZ
         clear hK K
         (try go_frame)
         refine HT.branch (rs:=[7]) (by kernel_rfl) (by simp) ?_
         refine HT.jV (fun K hK=>?_) ?_
         ·go_simp
          go_at_call 58
          with_reducible refine Calls.mono (gX.out _ fZ) ?_
          rintro e DJ ⟨lo3,iP,iQ,iR,iU,iV,iy,rfl,hk3,C9⟩
          have lT:=iO hk3 (Nat.lt_of_lt_of_le hzp fZ.size)
          have nV:=fZ.trans C9
          unfold gZ
          refine hK.out _ _ ?ZA (fun hHeld=>?_)
          case ZA=>exact dL.out _ nV
          clear hK K
          (try go_frame)
          refine HT.xG (by kernel_rfl) (fun K hK=>?_)
          have hbs:=ak nV acY.out
          obtain ⟨⟨z0,z1,z2,z3,z4⟩,y0,y1,y2,y3,y4⟩:=five hbs
          have dN:=xR.out.trans nV
          go_simp
          refine hK.out _ _ ?_
          clear hK K
          (try go_frame)
          refine HT.done (by kernel_rfl) ?_ _
          clear z0 z1 z2 z3 z4 y0 y1 y2 y3 y4
          generalize Ag:bodyPost Tryz.prog Tryz.f37 (sH R W most fin)=BP at *
          go_wp2_with fail
          rw [<-Ag]
          have hf:=eP DJ (B+1+1) (.slice lo3 iP iQ) (.int .i64 fin.next) (.int .i64 most) (.slice iR iU iV) (.int .i64 iy)
          obtain ⟨⟨f0,f1,f2,f3,f4⟩,_⟩:=five (bQ (a:=(.slice lo3 iP iQ)) (b:=(.int .i64 fin.next)) (c:=(.int .i64 most)) (d:=(.slice iR iU iV)) (e:=(.int .i64 iy)) hbs)
          change bodyPost _ _ _ _ _ (iK DJ (B+1+1) (.slice lo3 iP iQ) (.int .i64 fin.next) (.int .i64 most) (.slice iR iU iV) (.int .i64 iy))
          have hend:=mD lT dN hf eX
          generalize iK DJ (B+1+1) (.slice lo3 iP iQ) (.int .i64 fin.next) (.int .i64 most) (.slice iR iU iV) (.int .i64 iy)=wf at *
          refine bodyPost_ret (by simp [results,Tryz.results37,go_sem,f0,f1,f2,f3,f4]<;>rfl) rfl ?_
          exact ⟨lo3,iP,iQ,iR,iU,iV,iy,by (first | rfl | (rw [HF2.out]<;>rfl)),by (first | exact hend.1 | (rw [HF2.out];exact hend.1)),hend.2⟩
         exact HT.aU.nil
        exact HT.aU.nil
       exact HT.aU.nil
      ·have hkd:jM most h' (dD most ps') (kY most XZ) d1=kd:=by rw [<-Y3.out];rfl
       have aa6:=hid hkd
       obtain ⟨in2,hin2⟩:∃ x,IntKind.i64.wrap (inn+1)=x:=⟨_,rfl⟩
       clear hkd p0 p1 p2 p3 p4
       obtain ⟨⟨p0,p1,p2,p3,p4⟩,y0,y1,y2,y3,y4⟩:=five Un
       go_upto_region 22 with fail
       obtain ⟨w2,hw2⟩:∃ w2,w2=wx.setCell ⟨B,4,none⟩ (.int .i64 in2):=⟨_,rfl⟩
       rw [<-hw2]
       obtain ⟨hb0,kF,hb2,hk2,hq2,hf2⟩:=NI hw2 Un Xa Uo (Dc.out.stay qP.out) (zV.out.trans qP.out) eX
       have aa7:=ay hf2 (by intro e;have e':Bm=B:=e;omega) rY.out
       clear p0 p1 p2 p3 p4 y0 y1 y2 y3 y4 a0 a1 a2 a3 a4 a5 a6 a7 a8 k0 k1 k2 k3 k4 k5 k6 k7 k8 k9 k10 k11 k12 hw2 hf2 hin2 Un Xa Uo
       have HKC:Hid (Calls Tryz.prog 60 #[gZ lo ln lc d1.next most AA DK yF in2,bC h' o1' l1' c1' o2' l2' c2',.slice ao' an' ac'] w2 (KpQ (RB R B) w2 most kd)):=by
        have k:=HGA.out rfl (RB R B) w2 d1 in2 lo ln lc AA DK yF o1' l1' c1' o2' l2' c2' ao' an' ac' hk2 (HIS.out.fr hq2 (jF eX)) (HIT.out.fr hq2 (jF eX)) (HIE.out.fr hq2 (jF eX)) hil (by show (jM most h' (dD most ps') (kY most XZ) d1).2.next<=_;rw [aa6.out];exact HKN.out)
        change Calls _ _ _ _ (KpQ _ _ _ (jM most h' (dD most ps') (kY most XZ) d1)) at k
        rw [aa6.out] at k
        exact k
       have HZ0:=hid hb0
       have HZ9:=hid kF
       have HZ2:=hid hb2
       have HZQ:=hid hq2
       have hz2:B+1+1 < w2.heap.size:=lt_of_block hb2
       clear hb0 kF hb2 hk2 hq2
       unfold bC gZ at HKC
       obtain ⟨⟨k0,k1,k2,k3,k4,k5,k6,k7,k8,k9,k10,k11,k12⟩,_⟩:=thirteen aa7
       dsimp only at k0 k1 k2 k3 k4 k5 k6 k7 k8 k9 k10 k11 k12
       obtain ⟨⟨p0,p1,p2,p3,p4⟩,_⟩:=five HZ0.out
       clear aa7
       go_wp2_with fail
       refine HKC.out.mono ?_;rintro x w3 ⟨lo6,ln6,lc6,oo6,on6,oc6,iy,rfl,hk3,hq3⟩
       clear p0 p1 p2 p3 p4 k0 k1 k2 k3 k4 k5 k6 k7 k8 k9 k10 k11 k12
       have hb0:=ak hq3 HZ0.out
       obtain ⟨⟨p0,p1,p2,p3,p4⟩,y0,y1,y2,y3,y4⟩:=five hb0
       obtain ⟨in4,acZ⟩:∃ x,IntKind.i64.wrap (iy - 1)=x:=⟨_,rfl⟩
       unfold gZ
       go_upto_region 24 with fail
       clear p0 p1 p2 p3 p4 y0 y1 y2 y3 y4 acZ
       obtain ⟨w4,hw4⟩:∃ w4,w4=iK w3 B (.slice lo6 ln6 lc6) (.int .i64 kd.2.next) (.int .i64 most) (.slice oo6 on6 oc6) (.int .i64 iy):=⟨_,rfl⟩
       change Code.wp _ _ _ _ ((iK w3 B (.slice lo6 ln6 lc6) (.int .i64 kd.2.next) (.int .i64 most) (.slice oo6 on6 oc6) (.int .i64 iy)).setCell ⟨B,4,none⟩ (.int .i64 in4))
       rw [<-hw4]
       obtain ⟨wp,hwp⟩:∃ wp,wp=w4.setCell ⟨B,4,none⟩ (.int .i64 in4):=⟨_,rfl⟩
       rw [<-hwp]
       obtain ⟨hb0,kF,hb2,hkp,PX⟩:=Je hw4 hb0 (ak hq3 HZ9.out) (ak hq3 HZ2.out) (iO hk3 hz2) (HZQ.out.trans hq3) eX
       obtain ⟨hb0,kF,hb2,hkp,PX,_⟩:=NI hwp hb0 kF hb2 hkp PX eX
       clear hk3 hq3
       have JG:=hid hb0
       have uT:=hid kF
       have zl:=hid hb2
       have Zz:=hid hkp
       have sD:=hid PX
       have hzp:B+1+1 < wp.heap.size:=lt_of_block hb2
       clear hwp hw4 hb0 kF hb2 hkp PX
       have dL:Hid (∀ W',ah wp W'->(fun (W':World)=>(W'.cell? ⟨B,0,none⟩=some (.slice lo6 ln6 lc6)/\W'.cell? ⟨B,1,none⟩=some (.int .i64 kd.2.next)/\W'.cell? ⟨B,2,none⟩=some (.int .i64 most)/\W'.cell? ⟨B,3,none⟩=some (.slice oo6 on6 oc6)/\W'.cell? ⟨B,4,none⟩=some (.int .i64 in4))/\(W'.cell? ⟨B+1,0,none⟩=some (.int .i64 h.k)/\W'.cell? ⟨B+1,1,none⟩=some (.string h.nm)/\W'.cell? ⟨B+1,2,none⟩=some (.int .i64 h.n)/\W'.cell? ⟨B+1,3,none⟩=some (.int .i64 h.tk)/\W'.cell? ⟨B+1,4,none⟩=some (.int .i64 h.tn)/\W'.cell? ⟨B+1,5,none⟩=some (.slice o1 l1 c1)/\W'.cell? ⟨B+1,6,none⟩=some (.slice o2 l2 c2)/\W'.cell? ⟨B+1,7,none⟩=some (.int .i64 h.fr)/\W'.cell? ⟨B+1,8,none⟩=some (.int .i64 h.en))) W'):=fun W' hq=>by
        obtain ⟨k,_⟩:=five (ak hq JG.out)
        exact ⟨k,aA (ak hq uT.out)⟩
       have gX:Hid (∀ W',ah wp W'->Calls Tryz.prog 58 #[gZ lo6 ln6 lc6 kd.2.next most oo6 on6 oc6 in4,.agg #[.int .i64 1,.int .i64 d.next,.slice none 0 0],.agg #[.int .i64 1,.int .i64 kd.1,.slice none 0 0],.agg #[.int .i64 h.fr,.int .i64 h.en]] W' (sH (RB R B) W' most fin)):=fun W' hq=>by
        have k:=add_any (o1:=none) (l1:=0) (c1:=0) (o2:=none) (l2:=0) (c2:=0) in4 (Zz.out.stay hq) hm (tv d.next) (tv kd.1) h.fr h.en (aC.nil _ _ _) (aC.nil _ _ _) (by show Fo.nil.size<=_;decide) (by show Fo.nil.size<=_;decide)
        rw [HF3.out] at k
        exact k
       unfold gZ at gX
       refine bZ 8 dL.out (by kernel_rfl) (fun hHeld=>?_)
       (try dsimp only at hHeld)
       have gI:=ah.drew wp
       generalize wp.drew=wd at gI hHeld ⊢
       refine HT.tk 0 rfl ?_
       go_frame
       refine HT.tk 1 rfl ?_
       go_frame
       refine HT.tk 3 rfl ?_
       go_frame
       refine HT.tk 5 rfl ?_
       go_frame
       refine HT.tk 6 rfl ?_
       go_frame
       refine HT.branch (rs:=[2]) (by kernel_rfl) (by simp) ?_
       refine HT.rU (fun K hK=>?_) ?_
       ·go_simp
        go_at_call 59
        with_reducible refine Calls.mono (gy _ _) ?_
        rintro e wv1 ⟨rfl,pz⟩
        have fA:=gI.trans pz
        refine hK.out _ _ ?Zq (fun hHeld=>?_)
        case Zq=>exact dL.out _ fA
        clear hK K
        (try go_frame)
        refine HT.branch (rs:=[4]) (by kernel_rfl) (by simp) ?_
        refine HT.ET (fun K hK=>?_) ?_
        ·go_simp
         go_at_call 59
         with_reducible refine Calls.mono (gy _ _) ?_
         rintro e wv2 ⟨rfl,rG⟩
         have fZ:=fA.trans rG
         refine hK.out _ _ ?TR (fun hHeld=>?_)
         case TR=>exact dL.out _ fZ
         clear hK K
         (try go_frame)
         refine HT.branch (rs:=[7]) (by kernel_rfl) (by simp) ?_
         refine HT.jV (fun K hK=>?_) ?_
         ·go_simp
          go_at_call 58
          with_reducible refine Calls.mono (gX.out _ fZ) ?_
          rintro e DJ ⟨lo3,iP,iQ,iR,iU,iV,iy,rfl,hk3,C9⟩
          have lT:=iO hk3 (Nat.lt_of_lt_of_le hzp fZ.size)
          have nV:=fZ.trans C9
          unfold gZ
          refine hK.out _ _ ?TS (fun hHeld=>?_)
          case TS=>exact dL.out _ nV
          clear hK K
          (try go_frame)
          refine HT.xG (by kernel_rfl) (fun K hK=>?_)
          have hbs:=ak nV zl.out
          obtain ⟨⟨z0,z1,z2,z3,z4⟩,y0,y1,y2,y3,y4⟩:=five hbs
          have dN:=sD.out.trans nV
          go_simp
          refine hK.out _ _ ?_
          clear hK K
          (try go_frame)
          refine HT.done (by kernel_rfl) ?_ _
          clear z0 z1 z2 z3 z4 y0 y1 y2 y3 y4
          generalize Ag:bodyPost Tryz.prog Tryz.f37 (sH R W most fin)=BP at *
          go_wp2_with fail
          rw [<-Ag]
          have hf:=eP DJ (B+1+1) (.slice lo3 iP iQ) (.int .i64 fin.next) (.int .i64 most) (.slice iR iU iV) (.int .i64 iy)
          obtain ⟨⟨f0,f1,f2,f3,f4⟩,_⟩:=five (bQ (a:=(.slice lo3 iP iQ)) (b:=(.int .i64 fin.next)) (c:=(.int .i64 most)) (d:=(.slice iR iU iV)) (e:=(.int .i64 iy)) hbs)
          change bodyPost _ _ _ _ _ (iK DJ (B+1+1) (.slice lo3 iP iQ) (.int .i64 fin.next) (.int .i64 most) (.slice iR iU iV) (.int .i64 iy))
          have hend:=mD lT dN hf eX
          generalize iK DJ (B+1+1) (.slice lo3 iP iQ) (.int .i64 fin.next) (.int .i64 most) (.slice iR iU iV) (.int .i64 iy)=wf at *
          refine bodyPost_ret (by simp [results,Tryz.results37,go_sem,f0,f1,f2,f3,f4]<;>rfl) rfl ?_
          exact ⟨lo3,iP,iQ,iR,iU,iV,iy,by (first | rfl | (rw [HF2.out]<;>rfl)),by (first | exact hend.1 | (rw [HF2.out];exact hend.1)),hend.2⟩
         exact HT.aU.nil
        exact HT.aU.nil
       exact HT.aU.nil
   ·have t2:(h.k == 2)=true:=by rw [hk];rfl
    have HK:=hid hk
    clear hk
    have HF3:Hid ((dK most (tv d.next) (2,0,.nil) h.fr h.en d1).2=fin):=by
     show _=_
     rw [<-bJ.out,jc QJ.out,HD1.out]
     unfold kP
     rw [if_pos HK.out]
     rfl
    have HF2:Hid (fin=fin):=rfl
    have gX:Hid (∀ W',ah wr W'->Calls Tryz.prog 58 #[gZ lo ln lc d1.next most AA DK yF inn,.agg #[.int .i64 1,.int .i64 d.next,.slice none 0 0],.agg #[.int .i64 2,.int .i64 0,.slice none 0 0],.agg #[.int .i64 h.fr,.int .i64 h.en]] W' (sH (RB R B) W' most fin)):=fun W' hq=>by
     have k:=add_any (o1:=none) (l1:=0) (c1:=0) (o2:=none) (l2:=0) (c2:=0) inn (Dc.out.stay hq) hm (tv d.next) (2,0,.nil) h.fr h.en (aC.nil _ _ _) (aC.nil _ _ _) (by show Fo.nil.size<=_;decide) (by show Fo.nil.size<=_;decide)
     rw [HF3.out] at k
     exact k
    unfold gZ at gX
    go_upto_region 9 with fail
    have dL:Hid (∀ W',ah wr W'->(fun (W':World)=>(W'.cell? ⟨B,0,none⟩=some (.slice lo ln lc)/\W'.cell? ⟨B,1,none⟩=some (.int .i64 d1.next)/\W'.cell? ⟨B,2,none⟩=some (.int .i64 most)/\W'.cell? ⟨B,3,none⟩=some (.slice AA DK yF)/\W'.cell? ⟨B,4,none⟩=some (.int .i64 inn))/\(W'.cell? ⟨B+1,7,none⟩=some (.int .i64 h.fr)/\W'.cell? ⟨B+1,8,none⟩=some (.int .i64 h.en))) W'):=fun W' hq=>by
     obtain ⟨k,_⟩:=five (ak hq HR0.out)
     obtain ⟨_,_,_,_,_,_,_,k7,k8⟩:=aA (ak hq O5.out)
     exact ⟨k,k7,k8⟩
    clear p0 p1 p2 p3 p4 a0 a1 a2 a3 a4 a5 a6 a7 a8
    refine bZ 7 dL.out (by kernel_rfl) (fun hHeld=>?_)
    (try dsimp only at hHeld)
    have gI:=ah.drew wr
    generalize wr.drew=wd at *
    refine HT.tk 0 rfl ?_
    go_frame
    refine HT.tk 1 rfl ?_
    go_frame
    refine HT.tk 3 rfl ?_
    go_frame
    refine HT.tk 4 rfl ?_
    go_frame
    refine HT.tk 5 rfl ?_
    go_frame
    refine HT.branch (rs:=[2]) (by kernel_rfl) (by simp) ?_
    refine HT.rU (fun K hK=>?_) ?_
    ·go_simp
     go_at_call 59
     with_reducible refine Calls.mono (gy _ _) ?_
     rintro e w2 ⟨rfl,hq2⟩
     have hqa:=gI.trans hq2
     refine hK.out _ _ ?TT (fun hHeld=>?_)
     case TT=>exact dL.out _ hqa
     clear hK K
     (try go_frame)
     refine HT.branch (rs:=[6]) (by kernel_rfl) (by simp) ?_
     refine HT.I4 (fun K hK=>?_) ?_
     ·go_simp
      go_at_call 58
      with_reducible refine Calls.mono (gX.out _ hqa) ?_
      rintro e w3 ⟨lo3,iP,iQ,iR,iU,iV,iy,rfl,hk3,hq3⟩
      have pR:=hqa.trans hq3
      unfold gZ
      refine hK.out _ _ ?ZB (fun hHeld=>?_)
      case ZB=>exact dL.out _ pR
      clear hK K
      (try go_frame)
      refine HT.X0 (by kernel_rfl) (fun K hK=>?_)
      have hbs:=ak pR HR2.out
      obtain ⟨⟨d0,d1,d2,d3,d4⟩,y0,y1,y2,y3,y4⟩:=five hbs
      have lT:=iO hk3 (Nat.lt_of_lt_of_le X7 hqa.size)
      have dN:=zV.out.trans pR
      go_simp
      refine hK.out _ _ ?_
      clear hK K
      (try go_frame)
      refine HT.done (by kernel_rfl) ?_ _
      generalize Ag:bodyPost Tryz.prog Tryz.f37 (sH R W most fin)=BP
      go_wp2_with fail
      rw [<-Ag]
      have hf:=eP w3 (B+1+1) (.slice lo3 iP iQ) (.int .i64 fin.next) (.int .i64 most) (.slice iR iU iV) (.int .i64 iy)
      obtain ⟨⟨f0,f1,f2,f3,f4⟩,_⟩:=five (bQ (a:=(.slice lo3 iP iQ)) (b:=(.int .i64 fin.next)) (c:=(.int .i64 most)) (d:=(.slice iR iU iV)) (e:=(.int .i64 iy)) hbs)
      change bodyPost _ _ _ _ _ (iK w3 (B+1+1) (.slice lo3 iP iQ) (.int .i64 fin.next) (.int .i64 most) (.slice iR iU iV) (.int .i64 iy))
      have hend:=mD lT dN hf eX
      generalize iK w3 (B+1+1) (.slice lo3 iP iQ) (.int .i64 fin.next) (.int .i64 most) (.slice iR iU iV) (.int .i64 iy)=wf at *
      refine bodyPost_ret (by simp [results,Tryz.results37,go_sem,f0,f1,f2,f3,f4]<;>rfl) rfl ?_
      exact ⟨lo3,iP,iQ,iR,iU,iV,iy,by (first | rfl | (rw [HF2.out]<;>rfl)),by (first | exact hend.1 | (rw [HF2.out];exact hend.1)),hend.2⟩
     exact HT.aU.nil
    exact HT.aU.nil
   ·have t2:(h.k == 2)=false:=by rw [hk];rfl
    have t3:(h.k == 3)=true:=by rw [hk];rfl
    have HK:=hid hk
    clear hk
    have HF3:Hid ((dK most (tv d.next) (3,0,.nil) h.fr h.en d1).2=fin):=by
     show _=_
     rw [<-bJ.out,jc QJ.out,HD1.out]
     unfold kP
     rw [if_neg (by rw [HK.out];decide),if_pos HK.out]
     rfl
    have HF2:Hid (fin=fin):=rfl
    have gX:Hid (∀ W',ah wr W'->Calls Tryz.prog 58 #[gZ lo ln lc d1.next most AA DK yF inn,.agg #[.int .i64 1,.int .i64 d.next,.slice none 0 0],.agg #[.int .i64 3,.int .i64 0,.slice none 0 0],.agg #[.int .i64 h.fr,.int .i64 h.en]] W' (sH (RB R B) W' most fin)):=fun W' hq=>by
     have k:=add_any (o1:=none) (l1:=0) (c1:=0) (o2:=none) (l2:=0) (c2:=0) inn (Dc.out.stay hq) hm (tv d.next) (3,0,.nil) h.fr h.en (aC.nil _ _ _) (aC.nil _ _ _) (by show Fo.nil.size<=_;decide) (by show Fo.nil.size<=_;decide)
     rw [HF3.out] at k
     exact k
    unfold gZ at gX
    go_upto_region 11 with fail
    have dL:Hid (∀ W',ah wr W'->(fun (W':World)=>(W'.cell? ⟨B,0,none⟩=some (.slice lo ln lc)/\W'.cell? ⟨B,1,none⟩=some (.int .i64 d1.next)/\W'.cell? ⟨B,2,none⟩=some (.int .i64 most)/\W'.cell? ⟨B,3,none⟩=some (.slice AA DK yF)/\W'.cell? ⟨B,4,none⟩=some (.int .i64 inn))/\(W'.cell? ⟨B+1,7,none⟩=some (.int .i64 h.fr)/\W'.cell? ⟨B+1,8,none⟩=some (.int .i64 h.en))) W'):=fun W' hq=>by
     obtain ⟨k,_⟩:=five (ak hq HR0.out)
     obtain ⟨_,_,_,_,_,_,_,k7,k8⟩:=aA (ak hq O5.out)
     exact ⟨k,k7,k8⟩
    clear p0 p1 p2 p3 p4 a0 a1 a2 a3 a4 a5 a6 a7 a8
    refine bZ 7 dL.out (by kernel_rfl) (fun hHeld=>?_)
    (try dsimp only at hHeld)
    have gI:=ah.drew wr
    generalize wr.drew=wd at *
    refine HT.tk 0 rfl ?_
    go_frame
    refine HT.tk 1 rfl ?_
    go_frame
    refine HT.tk 3 rfl ?_
    go_frame
    refine HT.tk 4 rfl ?_
    go_frame
    refine HT.tk 5 rfl ?_
    go_frame
    refine HT.branch (rs:=[2]) (by kernel_rfl) (by simp) ?_
    refine HT.rU (fun K hK=>?_) ?_
    ·go_simp
     go_at_call 59
     with_reducible refine Calls.mono (gy _ _) ?_
     rintro e w2 ⟨rfl,hq2⟩
     have hqa:=gI.trans hq2
     refine hK.out _ _ ?TU (fun hHeld=>?_)
     case TU=>exact dL.out _ hqa
     clear hK K
     (try go_frame)
     refine HT.branch (rs:=[6]) (by kernel_rfl) (by simp) ?_
     refine HT.I4 (fun K hK=>?_) ?_
     ·go_simp
      go_at_call 58
      with_reducible refine Calls.mono (gX.out _ hqa) ?_
      rintro e w3 ⟨lo3,iP,iQ,iR,iU,iV,iy,rfl,hk3,hq3⟩
      have pR:=hqa.trans hq3
      unfold gZ
      refine hK.out _ _ ?TV (fun hHeld=>?_)
      case TV=>exact dL.out _ pR
      clear hK K
      (try go_frame)
      refine HT.X0 (by kernel_rfl) (fun K hK=>?_)
      have hbs:=ak pR HR2.out
      obtain ⟨⟨d0,d1,d2,d3,d4⟩,y0,y1,y2,y3,y4⟩:=five hbs
      have lT:=iO hk3 (Nat.lt_of_lt_of_le X7 hqa.size)
      have dN:=zV.out.trans pR
      go_simp
      refine hK.out _ _ ?_
      clear hK K
      (try go_frame)
      refine HT.done (by kernel_rfl) ?_ _
      generalize Ag:bodyPost Tryz.prog Tryz.f37 (sH R W most fin)=BP
      go_wp2_with fail
      rw [<-Ag]
      have hf:=eP w3 (B+1+1) (.slice lo3 iP iQ) (.int .i64 fin.next) (.int .i64 most) (.slice iR iU iV) (.int .i64 iy)
      obtain ⟨⟨f0,f1,f2,f3,f4⟩,_⟩:=five (bQ (a:=(.slice lo3 iP iQ)) (b:=(.int .i64 fin.next)) (c:=(.int .i64 most)) (d:=(.slice iR iU iV)) (e:=(.int .i64 iy)) hbs)
      change bodyPost _ _ _ _ _ (iK w3 (B+1+1) (.slice lo3 iP iQ) (.int .i64 fin.next) (.int .i64 most) (.slice iR iU iV) (.int .i64 iy))
      have hend:=mD lT dN hf eX
      generalize iK w3 (B+1+1) (.slice lo3 iP iQ) (.int .i64 fin.next) (.int .i64 most) (.slice iR iU iV) (.int .i64 iy)=wf at *
      refine bodyPost_ret (by simp [results,Tryz.results37,go_sem,f0,f1,f2,f3,f4]<;>rfl) rfl ?_
      exact ⟨lo3,iP,iQ,iR,iU,iV,iy,by (first | rfl | (rw [HF2.out]<;>rfl)),by (first | exact hend.1 | (rw [HF2.out];exact hend.1)),hend.2⟩
     exact HT.aU.nil
    exact HT.aU.nil
   ·have t2:(h.k == 2)=false:=by rw [hk];rfl
    have t3:(h.k == 3)=false:=by rw [hk];rfl
    have t1:(h.k == 1)=false:=by rw [hk];rfl
    have t4:(h.k == 4)=true:=by rw [hk];rfl
    have HK:=hid hk
    have hl2:1<=l2:=by rw [HS2.out.1];exact Vw.out.2.1 hk
    clear hk
    obtain ⟨b9,aH,v0,qv0,r1v,n1v,e1v,r2v,n2v,e2v,e9,_⟩:=HS2.out.nth (i:=0) (by omega)
    subst e9
    obtain ⟨b9',aa8,u,qu,kS,kT,d1u,kU,kV,kW,e9,_,gu,ru,cu,su,tu⟩:=HS2.out.nth (i:=0) (by omega)
    injection e9 with e9
    injection e9 with e9 e9'
    subst e9 e9'
    simp only [Nat.zero_mul,Nat.add_zero] at cu
    have OA:=hid (IH.out 0 u qu gu)
    have HGU:=hid gu
    have vO:=hid cu
    have Ld:=hid su
    have H9:=hid tu
    have hzu:=To.bV ps 0 u qu gu
    have hou:=lG ps 0 u qu nX.out gu
    have hlz:en+1+qu.size<=100000:=by have:=WZ.out;omega
    have hi0:(0:Int) < l2:=by omega
    have hj0:0 < l2:=by omega
    clear gu ru cu su tu hzu
    obtain ⟨d2,hd2⟩:∃ d2:Dk,d2={ d1 with next:=d1.next+1 }:=⟨_,rfl⟩
    have hdn:d2.next=d1.next+1:=by rw [hd2]
    obtain ⟨rt,hrt⟩:∃ rt,dP most u qu (kY most (ev.snoc h.nm d1.next false nd0 .nil .nil)) d2=rt:=⟨_,rfl⟩
    have hre:(dK most (tv d.next) (pO (tv d1.next) (tv d2.next)) h.fr h.en rt.2).2=fin:=by
     have e1:rt.1=d2.next:=by rw [<-hrt];exact kQ _ _ _ _ _
     rw [<-bJ.out,jc QJ.out,<-HD1.out,<-e1,<-hrt,NJ,hd2]
     unfold kP
     rw [if_neg (by rw [HK.out];decide),if_neg (by rw [HK.out];decide),if_neg (by rw [HK.out];decide),if_pos HK.out]
     unfold fH kN jG
     dsimp only
     rw [Ar HGU.out]
     all_goals rfl
    have hnt:rt.2.next<=1000000:=by have k:=MZ.out;rw [bJ.out,<-hre,jJ] at k;exact k
    have hnx:d2.next+1<=rt.2.next:=by rw [<-hrt];exact xM most u qu (mJ most _) d2
    have hnw:IntKind.i64.wrap ((d1.next:Int)+1)=((d1.next+1:Nat):Int):=by rw [IntWalk.i64_in _ (by omega)];omega
    have yh:=hid hrt
    have PW:=hid hnt
    have HD2:=hid hd2
    have ac0:=hid hdn
    have HF3:=hid hre
    have HF2:Hid (fin=fin):=rfl
    clear hre hrt hnt hnx hd2 hdn
    clear p0 p1 p2 p3 p4
    obtain ⟨⟨p0,p1,p2,p3,p4⟩,y0,y1,y2,y3,y4⟩:=five HR0.out
    go_upto_region 29 with fail
    rw [show ((d1.next:Int)+1)=(d2.next:Int) from by have:=ac0.out;omega]
    clear p0 p1 p2 p3 p4 y0 y1 y2 y3 y4 a0 a1 a2 a3 a4 a5 a6 a7 a8
    obtain ⟨wp,hwp⟩:∃ wp,wp=wr.setCell ⟨B,1,none⟩ (.int .i64 d2.next):=⟨_,rfl⟩
    rw [<-hwp]
    obtain ⟨hb0,kF,hb2,hkp,PX⟩:=NH HD2.out hwp HR0.out O5.out HR2.out Dc.out zV.out eX
    have JG:=hid hb0
    have uT:=hid kF
    have zl:=hid hb2
    have Zz:=hid hkp
    have sD:=hid PX
    have hzp:B+1+1 < wp.heap.size:=lt_of_block hb2
    clear hwp hb0 kF hb2 hkp PX
    clear hnw
    obtain ⟨xs,hrow,hxl,hxo,hxc⟩:=JE.out.row
    have KZ:=hid hxc
    have lS:=hid hrow
    clear hrow hxc
    have xO:Hid (∀ W' o c,ah wp W'->EvS (RB R B) W' o (en+1) (ev.snoc h.nm d1.next false nd0 .nil .nil)->en+1<=c->Calls Tryz.prog 37 #[gZ lo ln lc d2.next most AA DK yF inn,bC u kS kT d1u kU kV kW,.slice o (en+1) c] W' (sH (RB R B) W' most rt.2)):=fun W' o c hq he hc=>by
     have hq':=sD.out.trans hq
     have k:=OA.out (RB R B) W' d2 inn lo ln lc AA DK yF kS kT d1u kU kV kW o (en+1) c _ (Zz.out.stay hq) (Ld.out.fr hq' (jF eX)) (H9.out.fr hq' (jF eX)) he hc hlz (Good.snoc (fun e=>by cases e) JC.out) hou.1 hou.2 (by rw [yh.out];exact PW.out)
     rw [yh.out] at k
     exact k
    unfold bC gZ at xO
    have dL:Hid (∀ W',ah wp W'->(fun (W':World)=>(W'.cell? ⟨B,0,none⟩=some (.slice lo ln lc)/\W'.cell? ⟨B,1,none⟩=some (.int .i64 d2.next)/\W'.cell? ⟨B,2,none⟩=some (.int .i64 most)/\W'.cell? ⟨B,3,none⟩=some (.slice AA DK yF)/\W'.cell? ⟨B,4,none⟩=some (.int .i64 inn))/\(W'.cell? ⟨B+1,0,none⟩=some (.int .i64 h.k)/\W'.cell? ⟨B+1,1,none⟩=some (.string h.nm)/\W'.cell? ⟨B+1,2,none⟩=some (.int .i64 h.n)/\W'.cell? ⟨B+1,3,none⟩=some (.int .i64 h.tk)/\W'.cell? ⟨B+1,4,none⟩=some (.int .i64 h.tn)/\W'.cell? ⟨B+1,5,none⟩=some (.slice o1 l1 c1)/\W'.cell? ⟨B+1,6,none⟩=some (.slice (some ⟨b9,aH,none⟩) l2 c2)/\W'.cell? ⟨B+1,7,none⟩=some (.int .i64 h.fr)/\W'.cell? ⟨B+1,8,none⟩=some (.int .i64 h.en))/\(W'.cell? ⟨b9,aH,none⟩=some (.int .i64 u.k)/\W'.cell? ⟨b9,aH+1,none⟩=some (.string u.nm)/\W'.cell? ⟨b9,aH+2,none⟩=some (.int .i64 u.n)/\W'.cell? ⟨b9,aH+3,none⟩=some (.int .i64 u.tk)/\W'.cell? ⟨b9,aH+4,none⟩=some (.int .i64 u.tn)/\W'.cell? ⟨b9,aH+5,none⟩=some (.slice kS kT d1u)/\W'.cell? ⟨b9,aH+6,none⟩=some (.slice kU kV kW)/\W'.cell? ⟨b9,aH+7,none⟩=some (.int .i64 u.fr)/\W'.cell? ⟨b9,aH+8,none⟩=some (.int .i64 u.en))) W'):=fun W' hq=>by
     obtain ⟨k,_⟩:=five (ak hq JG.out)
     exact ⟨k,aA (ak hq uT.out),gW vO.out (sD.out.trans hq)⟩
    go_cut [] from 119 to 133 (fun wx=>Zw R W B rt.2 most h o1 l1 c1 (some ⟨b9,aH,none⟩) l2 c2 wx)
    case first =>
     refine bZ 15 dL.out (by kernel_rfl) (fun hHeld=>?_)
     (try dsimp only at hHeld)
     have gI:=ah.drew wp
     generalize wp.drew=wd at gI hHeld ⊢
     refine HT.tk 0 rfl ?_
     go_frame
     refine HT.tk 1 rfl ?_
     go_frame
     refine HT.tk 2 rfl ?_
     go_frame
     refine HT.tk 3 rfl ?_
     go_frame
     refine HT.tk 4 rfl ?_
     go_frame
     refine HT.tk 6 rfl ?_
     go_frame
     refine HT.tk 8 rfl ?_
     go_frame
     refine HT.tk 9 rfl ?_
     go_frame
     refine HT.tk 10 rfl ?_
     go_frame
     refine HT.tk 11 rfl ?_
     go_frame
     refine HT.branch (rs:=[5,12]) (by kernel_rfl) (by simp) ?_
     refine HT.CO (fun K hK=>?_) ?_
     ·go_simp
      obtain ⟨qy,qZ⟩:∃ wa,wa=wd.alloc (.cells #[] 108):=⟨_,rfl⟩
      have hqa:ah wd qy:=by rw [qZ];exact ah.alloc _ _
      have hown:=gB (size:=13) (show qy.heap[wd.heap.size]?=some (.cells #[] 108 (0,0)) by rw [qZ];exact heap_alloc_new wd _)
      have hgl:wp.heap.size<=wd.heap.size:=(gI).size
      have mg:=(gI).trans hqa
      rw [<-qZ]
      clear qZ
      generalize wd.heap.size=ga at hown hgl ⊢
      refine hK.out _ _ ?Jb (fun hHeld=>?_)
      case Jb=>exact dL.out _ mg
      clear hK K
      (try go_frame)
      refine HT.branch (rs:=[7,12]) (by kernel_rfl) (by simp) ?_
      refine HT.jV (fun K hK=>?_) ?_
      ·refine aJ qy rfl (.tmp 124) (.tmp 125) 105 rfl 108 _ 13 168 jk (.slice (some ⟨ga,0,none⟩) 0 0) 0 [] rfl hown eo en ec xs rfl hxl ?ZF hxo (by unfold maxLen;omega) (by omega) ?_
       case ZF=>(intro j u hj;obtain ⟨b,off,e,hc⟩:=KZ.out j u hj;subst e;exact ⟨_,rfl,by rw [Addr.add_lit];exact (sD.out.trans (mg)).at hc⟩)
       intro o3 c3 jE ho3 hf3 fE hnil3
       simp only [Nat.zero_add,List.nil_append] at ho3 fE hnil3 ⊢
       have oN:ah wp jE:=Fr.trans' (mg) hf3 (fun i hi e=>by simp [Value.ownBlock] at e;omega)
       have iL:∀ k,(Value.slice o3 en c3).ownBlock=some k->wp.heap.size<=k:=fun k hk=>by
        rcases fE with e | e
        ·rw [e] at hk;simp [Value.ownBlock] at hk;omega
        ·rw [e] at hk;cases hk;exact ((mg)).size
       refine hK.out _ _ ?Ue (fun hHeld=>?_)
       case Ue=>exact dL.out _ oN
       clear hK K
       (try go_frame)
       refine HT.branch (rs:=[12]) (by kernel_rfl) (by simp) ?_
       refine HT.tY (fun K hK=>?_) ?_
       ·go_simp
        obtain ⟨lI,hwb⟩:∃ wb,wb=jE.alloc (.cells (eY h.nm d1.next false nd0 none 0 0 none 0 0 none 0 0) 108):=⟨_,rfl⟩
        have pR:ah jE lI:=by rw [hwb];exact ah.alloc _ _
        have hb8:lI.heap[jE.heap.size]?=some (.cells (eY h.nm d1.next false nd0 none 0 0 none 0 0 none 0 0) 108 (0,0)):=by rw [hwb];exact heap_alloc_new jE _
        have BL:wp.heap.size<=jE.heap.size:=(oN).size
        have kG:=(oN).trans pR
        have oO:=lt_of_block hb8
        change K _ (jE.alloc (.cells (eY h.nm d1.next false nd0 none 0 0 none 0 0 none 0 0) 108))
        rw [<-hwb]
        clear hwb
        replace ho3:=aZ ho3 pR (fun _ _ h=>h)
        generalize jE.heap.size=g8 at hb8 BL oO ⊢
        refine hK.out _ _ ?Jc (fun hHeld=>?_)
        case Jc=>exact dL.out _ kG
        clear hK K
        (try go_frame)
        refine HT.branch (rs:=[13]) (by kernel_rfl) (by simp) ?_
        refine HT.qp (fun K hK=>?_) ?_
        ·have hc8:∀ j u,(eY h.nm d1.next false nd0 none 0 0 none 0 0 none 0 0).toList[j]?=some u->∃ a,some (⟨g8,0,none⟩:Addr)=some a/\lI.cell? (a.add j)=some u:=fun j u hj=>⟨_,rfl,by rw [Addr.add_lit,Nat.zero_add,cell_of_row _ _ _ _ _ (0,0) hb8];simpa using hj⟩
         refine aJ lI rfl (.tmp 126) (.tmp 131) 105 rfl 108 _ 13 168 jk (.slice o3 en c3) en xs rfl ho3 (some ⟨g8,0,none⟩) 1 1 (eY h.nm d1.next false nd0 none 0 0 none 0 0 none 0 0).toList rfl rfl hc8 (by simp [Value.oneCell']) (by unfold maxLen;omega) (by omega) ?_
         intro o4 c4 vZ kX hf4 oP ug
         have dQ:ah wp vZ:=Fr.trans' (kG) hf4 (fun i hi e=>by have:=iL i e;omega)
         have oQ:∀ k,(Value.slice o4 (en+1) c4).ownBlock=some k->B+1+1 < k:=fun k hk=>by
          rcases oP with e | e
          ·rw [e] at hk;have:=iL k hk;omega
          ·rw [e] at hk;cases hk;have:=((kG)).size;omega
         refine hK.out _ _ ?Jd (fun hHeld=>?_)
         case Jd=>exact dL.out _ dQ
         clear hK K
         (try go_frame)
         refine HT.branch (rs:=[14]) (by kernel_rfl) (by simp) ?_
         refine HT.qw (fun K hK=>?_) ?_
         ·obtain ⟨uj,um⟩:=lM (h:=nd0) (ps:=.nil) (ar:=.nil) (ag:=false) (o1:=none) (l1:=0) (c1:=0) (o2:=none) (l2:=0) (c2:=0) (ao:=none) (an:=0) (ac:=0) lS.out JF.out (sD.out.trans (dQ)) eX (aC.nil _ _ _) (aY.nil _ _ _) (EvS.nil _ _ _) (Nat.le_refl _) kX (by omega) oQ
          go_simp
          go_at_call 37
          with_reducible refine Calls.mono (xO.out _ _ _ (dQ) uj um) ?_
          rintro e w9 ⟨QD,QE,QF,QG,QH,QI,Ah,rfl,hk9,qI⟩
          have lT:=iO hk9 (Nat.lt_of_lt_of_le hzp (dQ).size)
          have dY:=(dQ).trans qI
          unfold gZ
          refine hK.out _ _ ?aa9 (fun hHeld=>?_)
          case aa9=>exact dL.out _ dY
          clear hK K
          (try go_frame)
          refine HT.zi (by kernel_rfl) (fun K hK=>?_)
          have hbs:=ak dY JG.out
          obtain ⟨⟨p0,p1,p2,p3,p4⟩,y0,y1,y2,y3,y4⟩:=five hbs
          have hend:=jX Ah hbs (ak dY uT.out) (ak dY zl.out) lT (sD.out.trans dY) eX
          go_simp
          refine hK.out _ _ ?_
          clear hK K
          (try go_frame)
          refine HT.done (by kernel_rfl) ?_ _
          go_wp2_with fail
          go_meet
          exact hend
         exact HT.aU.nil
        exact HT.aU.nil
       exact HT.aU.nil
      refine HT.tY (fun K hK=>?_) ?_
      ·go_simp
       obtain ⟨wu,hwb⟩:∃ wb,wb=qy.alloc (.cells (eY h.nm d1.next false nd0 none 0 0 none 0 0 none 0 0) 108):=⟨_,rfl⟩
       have pR:ah qy wu:=by rw [hwb];exact ah.alloc _ _
       have hb8:wu.heap[qy.heap.size]?=some (.cells (eY h.nm d1.next false nd0 none 0 0 none 0 0 none 0 0) 108 (0,0)):=by rw [hwb];exact heap_alloc_new qy _
       have BL:wp.heap.size<=qy.heap.size:=(mg).size
       have lJ:=(mg).trans pR
       have oO:=lt_of_block hb8
       change K _ (qy.alloc (.cells (eY h.nm d1.next false nd0 none 0 0 none 0 0 none 0 0) 108))
       rw [<-hwb]
       clear hwb
       have PS:=(hown.lt ga rfl).2
       replace hown:=aZ hown pR (fun _ _ h=>h)
       generalize qy.heap.size=g8 at hb8 BL oO PS ⊢
       refine hK.out _ _ ?Uf (fun hHeld=>?_)
       case Uf=>exact dL.out _ lJ
       clear hK K
       (try go_frame)
       refine HT.branch (rs:=[7]) (by kernel_rfl) (by simp) ?_
       refine HT.jV (fun K hK=>?_) ?_
       ·refine aJ wu rfl (.tmp 124) (.tmp 125) 105 rfl 108 _ 13 168 jk (.slice (some ⟨ga,0,none⟩) 0 0) 0 [] rfl hown eo en ec xs rfl hxl ?ZG hxo (by unfold maxLen;omega) (by omega) ?_
        case ZG=>(intro j u hj;obtain ⟨b,off,e,hc⟩:=KZ.out j u hj;subst e;exact ⟨_,rfl,by rw [Addr.add_lit];exact (sD.out.trans (lJ)).at hc⟩)
        intro o3 c3 oU ho3 hf3 fE hnil3
        simp only [Nat.zero_add,List.nil_append] at ho3 fE hnil3 ⊢
        have kH:ah wp oU:=Fr.trans' (lJ) hf3 (fun i hi e=>by simp [Value.ownBlock] at e;omega)
        have iL:∀ k,(Value.slice o3 en c3).ownBlock=some k->wp.heap.size<=k:=fun k hk=>by
         rcases fE with e | e
         ·rw [e] at hk;simp [Value.ownBlock] at hk;omega
         ·rw [e] at hk;cases hk;exact ((lJ)).size
        refine hK.out _ _ ?Ug (fun hHeld=>?_)
        case Ug=>exact dL.out _ kH
        clear hK K
        (try go_frame)
        replace hb8:=ay hf3 (fun e=>by simp [Value.ownBlock] at e;omega) hb8
        refine HT.branch (rs:=[13]) (by kernel_rfl) (by simp) ?_
        refine HT.qp (fun K hK=>?_) ?_
        ·have hc8:∀ j u,(eY h.nm d1.next false nd0 none 0 0 none 0 0 none 0 0).toList[j]?=some u->∃ a,some (⟨g8,0,none⟩:Addr)=some a/\oU.cell? (a.add j)=some u:=fun j u hj=>⟨_,rfl,by rw [Addr.add_lit,Nat.zero_add,cell_of_row _ _ _ _ _ (0,0) hb8];simpa using hj⟩
         refine aJ oU rfl (.tmp 126) (.tmp 131) 105 rfl 108 _ 13 168 jk (.slice o3 en c3) en xs rfl ho3 (some ⟨g8,0,none⟩) 1 1 (eY h.nm d1.next false nd0 none 0 0 none 0 0 none 0 0).toList rfl rfl hc8 (by simp [Value.oneCell']) (by unfold maxLen;omega) (by omega) ?_
         intro o4 c4 wz kX hf4 oP ug
         have dR:ah wp wz:=Fr.trans' (kH) hf4 (fun i hi e=>by have:=iL i e;omega)
         have oQ:∀ k,(Value.slice o4 (en+1) c4).ownBlock=some k->B+1+1 < k:=fun k hk=>by
          rcases oP with e | e
          ·rw [e] at hk;have:=iL k hk;omega
          ·rw [e] at hk;cases hk;have:=((kH)).size;omega
         refine hK.out _ _ ?Uh (fun hHeld=>?_)
         case Uh=>exact dL.out _ dR
         clear hK K
         (try go_frame)
         refine HT.branch (rs:=[14]) (by kernel_rfl) (by simp) ?_
         refine HT.qw (fun K hK=>?_) ?_
         ·obtain ⟨uj,um⟩:=lM (h:=nd0) (ps:=.nil) (ar:=.nil) (ag:=false) (o1:=none) (l1:=0) (c1:=0) (o2:=none) (l2:=0) (c2:=0) (ao:=none) (an:=0) (ac:=0) lS.out JF.out (sD.out.trans (dR)) eX (aC.nil _ _ _) (aY.nil _ _ _) (EvS.nil _ _ _) (Nat.le_refl _) kX (by omega) oQ
          go_simp
          go_at_call 37
          with_reducible refine Calls.mono (xO.out _ _ _ (dR) uj um) ?_
          rintro e w9 ⟨QD,QE,QF,QG,QH,QI,Ah,rfl,hk9,qI⟩
          have lT:=iO hk9 (Nat.lt_of_lt_of_le hzp (dR).size)
          have dZ:=(dR).trans qI
          unfold gZ
          refine hK.out _ _ ?Ui (fun hHeld=>?_)
          case Ui=>exact dL.out _ dZ
          clear hK K
          (try go_frame)
          refine HT.zi (by kernel_rfl) (fun K hK=>?_)
          have hbs:=ak dZ JG.out
          obtain ⟨⟨p0,p1,p2,p3,p4⟩,y0,y1,y2,y3,y4⟩:=five hbs
          have hend:=jX Ah hbs (ak dZ uT.out) (ak dZ zl.out) lT (sD.out.trans dZ) eX
          go_simp
          refine hK.out _ _ ?_
          clear hK K
          (try go_frame)
          refine HT.done (by kernel_rfl) ?_ _
          go_wp2_with fail
          go_meet
          exact hend
         exact HT.aU.nil
        exact HT.aU.nil
       exact HT.aU.nil
      exact HT.aU.nil
     refine HT.tY (fun K hK=>?_) ?_
     ·go_simp
      obtain ⟨uh,hwb⟩:∃ wb,wb=wd.alloc (.cells (eY h.nm d1.next false nd0 none 0 0 none 0 0 none 0 0) 108):=⟨_,rfl⟩
      have pR:ah wd uh:=by rw [hwb];exact ah.alloc _ _
      have hb8:uh.heap[wd.heap.size]?=some (.cells (eY h.nm d1.next false nd0 none 0 0 none 0 0 none 0 0) 108 (0,0)):=by rw [hwb];exact heap_alloc_new wd _
      have BL:wp.heap.size<=wd.heap.size:=(gI).size
      have wB:=(gI).trans pR
      have oO:=lt_of_block hb8
      change K _ (wd.alloc (.cells (eY h.nm d1.next false nd0 none 0 0 none 0 0 none 0 0) 108))
      rw [<-hwb]
      clear hwb
      generalize wd.heap.size=g8 at hb8 BL oO ⊢
      refine hK.out _ _ ?Uj (fun hHeld=>?_)
      case Uj=>exact dL.out _ wB
      clear hK K
      (try go_frame)
      refine HT.branch (rs:=[5]) (by kernel_rfl) (by simp) ?_
      refine HT.CO (fun K hK=>?_) ?_
      ·go_simp
       obtain ⟨wC,qZ⟩:∃ wa,wa=uh.alloc (.cells #[] 108):=⟨_,rfl⟩
       have hqa:ah uh wC:=by rw [qZ];exact ah.alloc _ _
       have hown:=gB (size:=13) (show wC.heap[uh.heap.size]?=some (.cells #[] 108 (0,0)) by rw [qZ];exact heap_alloc_new uh _)
       have hgl:wp.heap.size<=uh.heap.size:=(wB).size
       have lK:=(wB).trans hqa
       rw [<-qZ]
       clear qZ
       generalize uh.heap.size=ga at hown hgl oO ⊢
       refine hK.out _ _ ?Uk (fun hHeld=>?_)
       case Uk=>exact dL.out _ lK
       clear hK K
       (try go_frame)
       replace hb8:=ak hqa hb8
       refine HT.branch (rs:=[7]) (by kernel_rfl) (by simp) ?_
       refine HT.jV (fun K hK=>?_) ?_
       ·refine aJ wC rfl (.tmp 124) (.tmp 125) 105 rfl 108 _ 13 168 jk (.slice (some ⟨ga,0,none⟩) 0 0) 0 [] rfl hown eo en ec xs rfl hxl ?ZH hxo (by unfold maxLen;omega) (by omega) ?_
        case ZH=>(intro j u hj;obtain ⟨b,off,e,hc⟩:=KZ.out j u hj;subst e;exact ⟨_,rfl,by rw [Addr.add_lit];exact (sD.out.trans (lK)).at hc⟩)
        intro o3 c3 oW ho3 hf3 fE hnil3
        simp only [Nat.zero_add,List.nil_append] at ho3 fE hnil3 ⊢
        have kJ:ah wp oW:=Fr.trans' (lK) hf3 (fun i hi e=>by simp [Value.ownBlock] at e;omega)
        have iL:∀ k,(Value.slice o3 en c3).ownBlock=some k->wp.heap.size<=k:=fun k hk=>by
         rcases fE with e | e
         ·rw [e] at hk;simp [Value.ownBlock] at hk;omega
         ·rw [e] at hk;cases hk;exact ((lK)).size
        refine hK.out _ _ ?abb (fun hHeld=>?_)
        case abb=>exact dL.out _ kJ
        clear hK K
        (try go_frame)
        replace hb8:=ay hf3 (fun e=>by simp [Value.ownBlock] at e;omega) hb8
        refine HT.branch (rs:=[13]) (by kernel_rfl) (by simp) ?_
        refine HT.qp (fun K hK=>?_) ?_
        ·have hc8:∀ j u,(eY h.nm d1.next false nd0 none 0 0 none 0 0 none 0 0).toList[j]?=some u->∃ a,some (⟨g8,0,none⟩:Addr)=some a/\oW.cell? (a.add j)=some u:=fun j u hj=>⟨_,rfl,by rw [Addr.add_lit,Nat.zero_add,cell_of_row _ _ _ _ _ (0,0) hb8];simpa using hj⟩
         refine aJ oW rfl (.tmp 126) (.tmp 131) 105 rfl 108 _ 13 168 jk (.slice o3 en c3) en xs rfl ho3 (some ⟨g8,0,none⟩) 1 1 (eY h.nm d1.next false nd0 none 0 0 none 0 0 none 0 0).toList rfl rfl hc8 (by simp [Value.oneCell']) (by unfold maxLen;omega) (by omega) ?_
         intro o4 c4 wE kX hf4 oP ug
         have dS:ah wp wE:=Fr.trans' (kJ) hf4 (fun i hi e=>by have:=iL i e;omega)
         have oQ:∀ k,(Value.slice o4 (en+1) c4).ownBlock=some k->B+1+1 < k:=fun k hk=>by
          rcases oP with e | e
          ·rw [e] at hk;have:=iL k hk;omega
          ·rw [e] at hk;cases hk;have:=((kJ)).size;omega
         refine hK.out _ _ ?abd (fun hHeld=>?_)
         case abd=>exact dL.out _ dS
         clear hK K
         (try go_frame)
         refine HT.branch (rs:=[14]) (by kernel_rfl) (by simp) ?_
         refine HT.qw (fun K hK=>?_) ?_
         ·obtain ⟨uj,um⟩:=lM (h:=nd0) (ps:=.nil) (ar:=.nil) (ag:=false) (o1:=none) (l1:=0) (c1:=0) (o2:=none) (l2:=0) (c2:=0) (ao:=none) (an:=0) (ac:=0) lS.out JF.out (sD.out.trans (dS)) eX (aC.nil _ _ _) (aY.nil _ _ _) (EvS.nil _ _ _) (Nat.le_refl _) kX (by omega) oQ
          go_simp
          go_at_call 37
          with_reducible refine Calls.mono (xO.out _ _ _ (dS) uj um) ?_
          rintro e w9 ⟨QD,QE,QF,QG,QH,QI,Ah,rfl,hk9,qI⟩
          have lT:=iO hk9 (Nat.lt_of_lt_of_le hzp (dS).size)
          have eu:=(dS).trans qI
          unfold gZ
          refine hK.out _ _ ?abe (fun hHeld=>?_)
          case abe=>exact dL.out _ eu
          clear hK K
          (try go_frame)
          refine HT.zi (by kernel_rfl) (fun K hK=>?_)
          have hbs:=ak eu JG.out
          obtain ⟨⟨p0,p1,p2,p3,p4⟩,y0,y1,y2,y3,y4⟩:=five hbs
          have hend:=jX Ah hbs (ak eu uT.out) (ak eu zl.out) lT (sD.out.trans eu) eX
          go_simp
          refine hK.out _ _ ?_
          clear hK K
          (try go_frame)
          refine HT.done (by kernel_rfl) ?_ _
          go_wp2_with fail
          go_meet
          exact hend
         exact HT.aU.nil
        exact HT.aU.nil
       exact HT.aU.nil
      exact HT.aU.nil
     exact HT.aU.nil
    case rest =>
     rename World=>wq
     obtain ⟨rC,rD,rE,uU,uV,uX,qN,hb0,kF,hb2,hk5,hq5⟩:=hcut
     have oZ:=hid hb0
     have pq:=hid kF
     have uo:=hid hb2
     have Jg:=hid hk5
     have qM:=hid hq5
     clear hzp
     have hzp:B+1+1 < wq.heap.size:=lt_of_block hb2
     clear hb0 kF hb2 hk5 hq5
     have Df:Hid (∀ W',ah wq W'->(fun (W':World)=>(W'.cell? ⟨B,0,none⟩=some (.slice rC rD rE)/\W'.cell? ⟨B,1,none⟩=some (.int .i64 rt.2.next)/\W'.cell? ⟨B,2,none⟩=some (.int .i64 most)/\W'.cell? ⟨B,3,none⟩=some (.slice uU uV uX)/\W'.cell? ⟨B,4,none⟩=some (.int .i64 qN))/\(W'.cell? ⟨B+1,0,none⟩=some (.int .i64 h.k)/\W'.cell? ⟨B+1,1,none⟩=some (.string h.nm)/\W'.cell? ⟨B+1,2,none⟩=some (.int .i64 h.n)/\W'.cell? ⟨B+1,3,none⟩=some (.int .i64 h.tk)/\W'.cell? ⟨B+1,4,none⟩=some (.int .i64 h.tn)/\W'.cell? ⟨B+1,5,none⟩=some (.slice o1 l1 c1)/\W'.cell? ⟨B+1,6,none⟩=some (.slice (some ⟨b9,aH,none⟩) l2 c2)/\W'.cell? ⟨B+1,7,none⟩=some (.int .i64 h.fr)/\W'.cell? ⟨B+1,8,none⟩=some (.int .i64 h.en))) W'):=fun W' hq=>by
      obtain ⟨k,_⟩:=five (ak hq oZ.out)
      exact ⟨k,aA (ak hq pq.out)⟩
     have gX:Hid (∀ W' oA cA,ah wq W'->aC (RB R B) W' oA 2 (pO (tv d1.next) (tv d2.next)).2.2->Calls Tryz.prog 58 #[gZ rC rD rE rt.2.next most uU uV uX qN,.agg #[.int .i64 1,.int .i64 d.next,.slice none 0 0],.agg #[.int .i64 4,.int .i64 0,.slice oA 2 cA],.agg #[.int .i64 h.fr,.int .i64 h.en]] W' (sH (RB R B) W' most fin)):=fun W' oA cA hq hs=>by
      have k:=add_any (o1:=none) (l1:=0) (c1:=0) (c2:=cA) qN (Jg.out.stay hq) hm (tv d.next) (pO (tv d1.next) (tv d2.next)) h.fr h.en (aC.nil _ _ _) hs (by show Fo.nil.size<=_;decide) (Nat.le_of_ble_eq_true rfl)
      rw [HF3.out] at k
      exact k
     unfold gZ at gX
     go_upto_region 30 with fail
     refine bZ 11 Df.out (by kernel_rfl) (fun hHeld=>?_)
     (try dsimp only at hHeld)
     have gI:=ah.drew wq
     generalize wq.drew=wd at gI hHeld ⊢
     refine HT.tk 0 rfl ?_
     go_frame
     refine HT.tk 1 rfl ?_
     go_frame
     refine HT.tk 3 rfl ?_
     go_frame
     refine HT.tk 5 rfl ?_
     go_frame
     refine HT.tk 8 rfl ?_
     go_frame
     refine HT.tk 9 rfl ?_
     go_frame
     refine HT.branch (rs:=[2]) (by kernel_rfl) (by simp) ?_
     refine HT.rU (fun K hK=>?_) ?_
     ·go_simp
      go_at_call 59
      with_reducible refine Calls.mono (gy _ _) ?_
      rintro e wv1 ⟨rfl,pz⟩
      have fA:=gI.trans pz
      refine hK.out _ _ ?abf (fun hHeld=>?_)
      case abf=>exact Df.out _ fA
      clear hK K
      (try go_frame)
      refine HT.branch (rs:=[4]) (by kernel_rfl) (by simp) ?_
      refine HT.ET (fun K hK=>?_) ?_
      ·go_simp
       go_at_call 59
       with_reducible refine Calls.mono (gy _ _) ?_
       rintro e wv2 ⟨rfl,rG⟩
       have fZ:=fA.trans rG
       refine hK.out _ _ ?abg (fun hHeld=>?_)
       case abg=>exact Df.out _ fZ
       clear hK K
       (try go_frame)
       refine HT.branch (rs:=[6]) (by kernel_rfl) (by simp) ?_
       refine HT.I4 (fun K hK=>?_) ?_
       ·go_simp
        go_at_call 59
        with_reducible refine Calls.mono (gy _ _) ?_
        rintro e DJ ⟨rfl,C9⟩
        have nV:=fZ.trans C9
        refine hK.out _ _ ?abh (fun hHeld=>?_)
        case abh=>exact Df.out _ nV
        clear hK K
        (try go_frame)
        refine HT.branch (rs:=[7]) (by kernel_rfl) (by simp) ?_
        refine HT.jV (fun K hK=>?_) ?_
        ·go_simp
         go_at_call 61
         with_reducible refine Calls.mono (zM _ _) ?_
         rintro e wv4 ⟨oA,cA,rfl,hs4,ac1⟩
         have hzA:wq.heap.size<=DJ.heap.size:=nV.size
         replace hs4:=hs4.mono (T:=RB R B) (fun k _ hk=>.inr (by have hk':DJ.heap.size<=k:=hk;omega))
         have Xb:=nV.trans ac1
         refine hK.out _ _ ?abj (fun hHeld=>?_)
         case abj=>exact Df.out _ Xb
         clear hK K
         (try go_frame)
         refine HT.branch (rs:=[10]) (by kernel_rfl) (by simp) ?_
         refine HT.KW (fun K hK=>?_) ?_
         ·go_simp
          go_at_call 58
          with_reducible refine Calls.mono (gX.out _ _ _ Xb hs4) ?_
          rintro e wv5 ⟨lo3,iP,iQ,iR,iU,iV,iy,rfl,hk3,ac2⟩
          have lT:=iO hk3 (Nat.lt_of_lt_of_le hzp Xb.size)
          have ZI:=Xb.trans ac2
          unfold gZ
          refine hK.out _ _ ?abk (fun hHeld=>?_)
          case abk=>exact Df.out _ ZI
          clear hK K
          (try go_frame)
          refine HT.CX (by kernel_rfl) (fun K hK=>?_)
          have hbs:=ak ZI uo.out
          obtain ⟨⟨z0,z1,z2,z3,z4⟩,y0,y1,y2,y3,y4⟩:=five hbs
          have dN:=qM.out.trans ZI
          go_simp
          refine hK.out _ _ ?_
          clear hK K
          (try go_frame)
          refine HT.done (by kernel_rfl) ?_ _
          clear z0 z1 z2 z3 z4 y0 y1 y2 y3 y4
          generalize Ag:bodyPost Tryz.prog Tryz.f37 (sH R W most fin)=BP at *
          go_wp2_with fail
          rw [<-Ag]
          have hf:=eP wv5 (B+1+1) (.slice lo3 iP iQ) (.int .i64 fin.next) (.int .i64 most) (.slice iR iU iV) (.int .i64 iy)
          obtain ⟨⟨f0,f1,f2,f3,f4⟩,_⟩:=five (bQ (a:=(.slice lo3 iP iQ)) (b:=(.int .i64 fin.next)) (c:=(.int .i64 most)) (d:=(.slice iR iU iV)) (e:=(.int .i64 iy)) hbs)
          change bodyPost _ _ _ _ _ (iK wv5 (B+1+1) (.slice lo3 iP iQ) (.int .i64 fin.next) (.int .i64 most) (.slice iR iU iV) (.int .i64 iy))
          have hend:=mD lT dN hf eX
          generalize iK wv5 (B+1+1) (.slice lo3 iP iQ) (.int .i64 fin.next) (.int .i64 most) (.slice iR iU iV) (.int .i64 iy)=wf at *
          refine bodyPost_ret (by simp [results,Tryz.results37,go_sem,f0,f1,f2,f3,f4]<;>rfl) rfl ?_
          exact ⟨lo3,iP,iQ,iR,iU,iV,iy,by (first | rfl | (rw [HF2.out]<;>rfl)),by (first | exact hend.1 | (rw [HF2.out];exact hend.1)),hend.2⟩
         exact HT.aU.nil
        exact HT.aU.nil
       exact HT.aU.nil
      exact HT.aU.nil
     exact HT.aU.nil
   ·have t2:(h.k == 2)=false:=by rw [hk];rfl
    have t3:(h.k == 3)=false:=by rw [hk];rfl
    have t1:(h.k == 1)=false:=by rw [hk];rfl
    have t4:(h.k == 4)=false:=by rw [hk];rfl
    have t6:(h.k == 6)=false:=by rw [hk];rfl
    have t7:(h.k == 7)=false:=by rw [hk];rfl
    have t5:(h.k == 5)=true:=by rw [hk];rfl
    have HK:=hid hk
    clear hk
    obtain ⟨lf,hlf⟩:∃ lf,dmap (kY most ev) (dD most ps) d1=lf:=⟨_,rfl⟩
    have hre:(dK most (jP lf.1 0) (pO (jP lf.1 1) (tv d.next)) h.fr h.en lf.2).2=fin:=by
     rw [<-bJ.out,jc QJ.out,<-HD1.out]
     unfold kP
     rw [if_neg (by rw [HK.out];decide),if_neg (by rw [HK.out];decide),if_neg (by rw [HK.out];decide),if_neg (by rw [HK.out];decide),if_neg (by rw [HK.out];decide)]
     show _=((fH (dmap (kY most ev) (dD most ps)) _) d1).2
     unfold fH
     rw [hlf]
     dsimp only
     rw [if_pos HK.out]
     rfl
    have Le:Hid (lf.2.next<=1000000):=by show _<=_;have k:=MZ.out;rw [bJ.out,<-hre] at k;simpa only [jJ] using k
    have HF3:=hid hre
    have HF2:Hid (fin=fin):=rfl
    clear hre
    have HLF:=hid hlf
    have hzz:B+1+1 < wr.heap.size:=X7
    obtain ⟨vs,hvs⟩:∃ vs,dD most ps=vs:=⟨_,rfl⟩
    have Ur:=hid hvs
    have Lh:Hid (vs.length=l2):=by show _=_;rw [<-hvs,lN,HS2.out.1]
    have HST:Hid (X6 R W B wr.heap.size most h o1 l1 c1 o2 l2 c2 (kY most ev) vs lf (.slice none 0 0) (.int .i64 0) wr):=by
     refine ⟨0,none,0,rfl,rfl,d1,[],[],lo,ln,lc,AA,DK,yF,inn,Nat.zero_le _,?_,?_,PR.nil _ _,HR0.out,O5.out,HR2.out,Au Dc.out,zV.out,Nat.le_refl _⟩
     ·rw [List.drop_zero,<-hvs,hlf];rfl
     ·rw [List.drop_zero,<-hvs,hlf]
    obtain ⟨zz,Dh⟩:∃ zz,wr.heap.size=zz:=⟨_,rfl⟩
    rw [Dh] at HST hzz
    clear hvs hlf Dh
    go_wp2_with fail
    clear p0 p1 p2 p3 p4 a0 a1 a2 a3 a4 a5 a6 a7 a8
    go_loopw [14,15] (fun p t wx=>X6 R W B zz most h o1 l1 c1 o2 l2 c2 (kY most ev) vs lf p t wx) (fun _ t _=>l2 - (intOf t).toNat)
    case atStart=>exact HST.out
    case round =>
     clear HST
     rename World=>wx
     obtain ⟨i,po,pc,rfl,rfl,di,ns,xs,rC,rD,rE,uU,uV,uX,qN,hiv,hf1,hf2,hpr,hb0,kF,hb2,hk5,hq5,hzw⟩:=hrel
     have hil:i<=l2:=by rw [<-Lh.out];exact hiv
     have oZ:=hid hb0
     have pq:=hid kF
     have uo:=hid hb2
     have Jg:=hid hk5
     have qM:=hid hq5
     have vN:=hid hpr
     have hzx:B+1+1 < wx.heap.size:=lt_of_block hb2
     clear hb0 kF hb2 hk5 hq5 hpr hiv
     obtain ⟨⟨p0,p1,p2,p3,p4⟩,_⟩:=five oZ.out
     obtain ⟨a0,a1,a2,a3,a4,a5,a6,a7,a8⟩:=aA pq.out
     by_cases hlt:i < l2
     ·have hlt':(i:Int) < l2:=by omega
      obtain ⟨b9,aH,u,qu,kS,kT,d1u,kU,kV,kW,rfl,_,gu,ru,cu,su,tu⟩:=HS2.out.nth hlt
      have vO:=hid cu
      have Ld:=hid su
      have H9:=hid tu
      have hou:=lG ps i u qu nX.out gu
      have Lj:en+qu.size<=100000:=by have:=To.bV ps i u qu gu;have:=WZ.out;omega
      have hmd:=qL (kY most ev) vs i _ di (show vs[i]?=some (dP most u qu) by rw [<-Ur.out];exact nZ most ps i u qu gu)
      rw [hmd] at hf1 hf2
      have hnr:(dP most u qu (kY most ev) di).2.next<=lf.2.next:=by
       rw [<-hf2]
       exact uD (mJ most ev) (us:=vs.drop (i+1)) (fun v hv=>by rw [<-Ur.out] at hv;exact ng most ps v (List.mem_of_mem_drop hv)) _
      obtain ⟨rt,hrt⟩:∃ rt,dP most u qu (kY most ev) di=rt:=⟨_,rfl⟩
      have hr1:rt.1=di.next:=by rw [<-hrt];exact kQ _ _ _ _ _
      rw [hrt] at hf1 hf2 hnr
      rw [hr1] at hf1
      have OA:=hid (IH.out i u qu gu)
      have yh:=hid hrt
      have PW:Hid (rt.2.next<=1000000):=Nat.le_trans hnr Le.out
      have xU:=hid hf1
      have Ll:=hid hf2
      clear hf1 hf2 hrt hr1 hnr hmd cu su tu gu ru
      go_wp2_with fail
      refine (gy _ _).mono ?_;rintro x w2 ⟨rfl,hq2⟩
      have dO:=hid hq2
      clear hq2 p0 p1 p2 p3 p4 a0 a1 a2 a3 a4 a5 a6 a7 a8
      go_wp2_with (at_builtin;go_must (refine aP w2 rfl (.tmp 188) (.tmp 192) 22 rfl 24 _ 3 40 elemTy (.slice po i pc) i xs rfl (vN.out.stay dO.out).own #[.int .i64 1,.int .i64 di.next,.slice none 0 0] rfl rfl ?c1 (by unfold maxLen;omega) (by omega) ?_);(case c1=>simp [Value.oneCell']))
      intro g4 c4 w4 kX hf4 hg4
      have hlow:∀ k,(Value.slice po i pc).ownBlock=some k->zz<=k:=vN.out.low
      have pF:=hid ((vN.out.stay dO.out).snoc (o':=none) (c1:=0) (di.next) kX (Nat.le_trans hzw dO.out.size) hg4)
      have ZJ:=hid (xP (Jg.out.stay dO.out) hf4 hg4 (n:=i+1) (c:=c4))
      have wF:=hid (ay hf4 (fun e=>by have:=hlow _ e;omega) (ak dO.out oZ.out))
      have wG:=hid (ay hf4 (fun e=>by have:=hlow _ e;omega) (ak dO.out pq.out))
      have Di:=hid (ay hf4 (fun e=>by have:=hlow _ e;omega) (ak dO.out uo.out))
      have gY:Hid (ah W w4):=Fr.trans' (qM.out.trans dO.out) hf4 (fun j hj e=>by have:=hlow j e;omega)
      have Ov:B+1+1 < w4.heap.size:=lt_of_block Di.out
      have Lm:zz<=w4.heap.size:=Nat.le_trans hzw (Nat.le_trans dO.out.size hf4.size)
      clear kX hf4 hg4 hlow
      have xO:Hid (∀ W',ah w4 W'->Calls Tryz.prog 37 #[gZ rC rD rE di.next most uU uV uX qN,bC u kS kT d1u kU kV kW,.slice eo en ec] W' (sH (Gy R B (.slice (some ⟨g4,0,none⟩) (i+1) c4)) W' most rt.2)):=fun W' hq=>by
       have hq':=gY.out.trans hq
       have k:=OA.out (Gy R B (.slice (some ⟨g4,0,none⟩) (i+1) c4)) W' di qN rC rD rE uU uV uX kS kT d1u kU kV kW eo en ec ev (ZJ.out.stay hq) (Ld.out.fr hq' (nG eX pF.out.low (by omega))) (H9.out.fr hq' (nG eX pF.out.low (by omega))) (JE.out.fr hq' (nG eX pF.out.low (by omega))) yj Lj JC.out hou.1 hou.2 (by rw [yh.out];exact PW.out)
       rw [yh.out] at k
       exact k
      unfold bC gZ at xO
      obtain ⟨⟨p0,p1,p2,p3,p4⟩,_⟩:=five wF.out
      obtain ⟨a0,a1,a2,a3,a4,a5,a6,a7,a8⟩:=aA wG.out
      go_upto_region 42 with fail
      clear p0 p1 p2 p3 p4 a0 a1 a2 a3 a4 a5 a6 a7 a8
      have dL:Hid (∀ W',ah w4 W'->(fun (W':World)=>(W'.cell? ⟨B,0,none⟩=some (.slice rC rD rE)/\W'.cell? ⟨B,1,none⟩=some (.int .i64 di.next)/\W'.cell? ⟨B,2,none⟩=some (.int .i64 most)/\W'.cell? ⟨B,3,none⟩=some (.slice uU uV uX)/\W'.cell? ⟨B,4,none⟩=some (.int .i64 qN))/\(W'.cell? ⟨B+1,0,none⟩=some (.int .i64 h.k)/\W'.cell? ⟨B+1,1,none⟩=some (.string h.nm)/\W'.cell? ⟨B+1,2,none⟩=some (.int .i64 h.n)/\W'.cell? ⟨B+1,3,none⟩=some (.int .i64 h.tk)/\W'.cell? ⟨B+1,4,none⟩=some (.int .i64 h.tn)/\W'.cell? ⟨B+1,5,none⟩=some (.slice o1 l1 c1)/\W'.cell? ⟨B+1,6,none⟩=some (.slice (some ⟨b9,aH,none⟩) l2 c2)/\W'.cell? ⟨B+1,7,none⟩=some (.int .i64 h.fr)/\W'.cell? ⟨B+1,8,none⟩=some (.int .i64 h.en))/\(W'.cell? ⟨b9,aH+i * 9,none⟩=some (.int .i64 u.k)/\W'.cell? ⟨b9,aH+i * 9+1,none⟩=some (.string u.nm)/\W'.cell? ⟨b9,aH+i * 9+2,none⟩=some (.int .i64 u.n)/\W'.cell? ⟨b9,aH+i * 9+3,none⟩=some (.int .i64 u.tk)/\W'.cell? ⟨b9,aH+i * 9+4,none⟩=some (.int .i64 u.tn)/\W'.cell? ⟨b9,aH+i * 9+5,none⟩=some (.slice kS kT d1u)/\W'.cell? ⟨b9,aH+i * 9+6,none⟩=some (.slice kU kV kW)/\W'.cell? ⟨b9,aH+i * 9+7,none⟩=some (.int .i64 u.fr)/\W'.cell? ⟨b9,aH+i * 9+8,none⟩=some (.int .i64 u.en))) W'):=fun W' hq=>by
       obtain ⟨k,_⟩:=five (ak hq wF.out)
       exact ⟨k,aA (ak hq wG.out),gW vO.out (gY.out.trans hq)⟩
      refine bZ 8 dL.out (by kernel_rfl) (fun hHeld=>?_)
      (try dsimp only at hHeld)
      have gI:=ah.drew w4
      generalize w4.drew=wd at *
      refine HT.tk 0 rfl ?_
      go_frame
      refine HT.tk 1 rfl ?_
      go_frame
      refine HT.tk 2 rfl ?_
      go_frame
      refine HT.tk 3 rfl ?_
      go_frame
      refine HT.tk 4 rfl ?_
      go_frame
      refine HT.tk 5 rfl ?_
      go_frame
      refine HT.tk 6 rfl ?_
      go_frame
      refine HT.branch (rs:=[7]) (by kernel_rfl) (by simp) ?_
      refine HT.jV (fun K hK=>?_) ?_
      ·go_simp
       go_at_call 37
       with_reducible refine Calls.mono (xO.out _ gI) ?_
       rintro e w9 ⟨QD,QE,QF,QG,QH,QI,Ah,rfl,hk9,qI⟩
       have lT:=xQ hk9 (Nat.lt_of_lt_of_le Ov gI.size) (fun k hk=>Nat.lt_of_lt_of_le (pF.out.lt k hk) gI.size)
       have hqe:=gI.trans qI
       unfold gZ
       refine hK.out _ _ ?abl (fun hHeld=>?_)
       case abl=>exact dL.out _ hqe
       clear hK K
       (try go_frame)
       refine HT.xG (by kernel_rfl) (fun K hK=>?_)
       have hbs:=ak hqe wF.out
       obtain ⟨⟨p0,p1,p2,p3,p4⟩,y0,y1,y2,y3,y4⟩:=five hbs
       have hend:=Az Ah (by rw [Lh.out];omega) (by rw [List.append_assoc];exact xU.out) Ll.out (pF.out.stay hqe) hbs (ak hqe wG.out) (ak hqe Di.out) lT (gY.out.trans hqe) eX hzz (Nat.le_trans Lm hqe.size)
       have wQ:=hid hend
       clear hend
       go_simp
       refine hK.out _ _ ?_
       clear hK K
       (try go_frame)
       refine HT.done (by kernel_rfl) ?_ _
       go_wp2_with fail
       go_roundw
       case rel=>exact ⟨i+1,_,_,by go_num,rfl,wQ.out⟩
       case measure=>simp [intOf];omega
      exact HT.aU.nil
     ·have hlt':¬ (i:Int) < l2:=by omega
      have hi2:l2=i:=by omega
      subst hi2
      have hd:vs.drop l2=[]:=List.drop_eq_nil_of_le (by rw [Lh.out];exact Nat.le_refl _)
      rw [hd] at hf1 hf2
      have hns:ns=lf.1:=by rw [<-hf1];show ns=ns++[];simp
      have hdl:di=lf.2:=hf2
      clear hf1 hf2 hd
      obtain ⟨lf1,lf2⟩:=lf
      dsimp only at hns hdl
      subst hns hdl
      obtain ⟨hpt,hpc⟩:=vN.out.at (R:=R) hzz (by unfold maxLen;omega)
      have hnl:=vN.out.len
      have Vy:=hid hpt
      have ZK:=hid (Aw Jg.out)
      clear hpt
      have hl2:2<=l2:=by rw [HS2.out.1];exact Vw.out.2.2.1 HK.out
      obtain ⟨gp,n0,Us,n0c,rfl,Ya,Yb,n01,n02⟩:=Vy.out.get (i:=0) (by rw [List.length_map,hnl];omega)
      obtain ⟨gp1,n1,n1o,n1c,eg,n1t,n10,n11,n12⟩:=Vy.out.get (i:=1) (by rw [List.length_map,hnl];omega)
      obtain rfl:gp=gp1:=by cases eg;rfl
      have QK:Hid ((dK most (tv n0) (pO (tv n1) (tv d.next)) h.fr h.en di).2=fin):=by show _=_;rw [<-HF3.out,<-Ya,<-n1t]
      have hi0:(0:Int) < l2:=by omega
      have hj0:0 < l2:=by omega
      have hi1:(1:Int) < l2:=by omega
      have hj1:1 < l2:=by omega
      clear Ya n1t
      have hzp:=hzx
      have dL:Hid (∀ W',ah wx W'->(fun (W':World)=>(W'.cell? ⟨B,0,none⟩=some (.slice rC rD rE)/\W'.cell? ⟨B,1,none⟩=some (.int .i64 di.next)/\W'.cell? ⟨B,2,none⟩=some (.int .i64 most)/\W'.cell? ⟨B,3,none⟩=some (.slice uU uV uX)/\W'.cell? ⟨B,4,none⟩=some (.int .i64 qN))/\(W'.cell? ⟨B+1,0,none⟩=some (.int .i64 h.k)/\W'.cell? ⟨B+1,1,none⟩=some (.string h.nm)/\W'.cell? ⟨B+1,2,none⟩=some (.int .i64 h.n)/\W'.cell? ⟨B+1,3,none⟩=some (.int .i64 h.tk)/\W'.cell? ⟨B+1,4,none⟩=some (.int .i64 h.tn)/\W'.cell? ⟨B+1,5,none⟩=some (.slice o1 l1 c1)/\W'.cell? ⟨B+1,6,none⟩=some (.slice o2 l2 c2)/\W'.cell? ⟨B+1,7,none⟩=some (.int .i64 h.fr)/\W'.cell? ⟨B+1,8,none⟩=some (.int .i64 h.en))/\(W'.cell? ⟨gp,0,none⟩=some (.int .i64 1)/\W'.cell? ⟨gp,1,none⟩=some (.int .i64 n0)/\W'.cell? ⟨gp,2,none⟩=some (.slice Us 0 n0c))/\(W'.cell? ⟨gp,3,none⟩=some (.int .i64 1)/\W'.cell? ⟨gp,4,none⟩=some (.int .i64 n1)/\W'.cell? ⟨gp,5,none⟩=some (.slice n1o 0 n1c))) W'):=fun W' hq=>by
       obtain ⟨k,_⟩:=five (ak hq oZ.out)
       exact ⟨k,aA (ak hq pq.out),⟨hq.at Yb,hq.at n01,hq.at n02⟩,⟨hq.at n10,hq.at n11,hq.at n12⟩⟩
      have gX:Hid (∀ W' oA cA,ah wx W'->aC (RB R B) W' oA 2 (pO (tv n1) (tv d.next)).2.2->Calls Tryz.prog 58 #[gZ rC rD rE di.next most uU uV uX qN,.agg #[.int .i64 1,.int .i64 n0,.slice Us 0 n0c],.agg #[.int .i64 4,.int .i64 0,.slice oA 2 cA],.agg #[.int .i64 h.fr,.int .i64 h.en]] W' (sH (RB R B) W' most fin)):=fun W' oA cA hq hs=>by
       have k:=add_any (o1:=Us) (l1:=0) (c1:=n0c) (c2:=cA) qN (ZK.out.stay hq) hm (tv n0) (pO (tv n1) (tv d.next)) h.fr h.en (aC.nil _ _ _) hs (Nat.le_of_ble_eq_true rfl) (Nat.le_of_ble_eq_true rfl)
       rw [QK.out] at k
       exact k
      unfold gZ at gX
      go_upto_region 45 with fail
      clear p0 p1 p2 p3 p4 a0 a1 a2 a3 a4 a5 a6 a7 a8 Yb n01 n02 n10 n11 n12
      refine bZ 13 dL.out (by kernel_rfl) (fun hHeld=>?_)
      (try dsimp only at hHeld)
      have gI:=ah.drew wx
      generalize wx.drew=wd at gI hHeld ⊢
      refine HT.tk 0 rfl ?_
      go_frame
      refine HT.tk 1 rfl ?_
      go_frame
      refine HT.tk 2 rfl ?_
      go_frame
      refine HT.tk 3 rfl ?_
      go_frame
      refine HT.tk 4 rfl ?_
      go_frame
      refine HT.tk 5 rfl ?_
      go_frame
      refine HT.tk 6 rfl ?_
      go_frame
      refine HT.tk 7 rfl ?_
      go_frame
      refine HT.tk 10 rfl ?_
      go_frame
      refine HT.tk 11 rfl ?_
      go_frame
      refine HT.branch (rs:=[8]) (by kernel_rfl) (by simp) ?_
      refine HT.EU (fun K hK=>?_) ?_
      ·go_simp
       go_at_call 59
       with_reducible refine Calls.mono (gy _ _) ?_
       rintro e wv1 ⟨rfl,pz⟩
       have fA:=gI.trans pz
       refine hK.out _ _ ?abm (fun hHeld=>?_)
       case abm=>exact dL.out _ fA
       clear hK K
       (try go_frame)
       refine HT.branch (rs:=[9]) (by kernel_rfl) (by simp) ?_
       refine HT.EW (fun K hK=>?_) ?_
       ·go_simp
        go_at_call 61
        with_reducible refine Calls.mono (zM _ _) ?_
        rintro e wv2 ⟨oA,cA,rfl,hs4,rG⟩
        have hzA:wx.heap.size<=wv1.heap.size:=fA.size
        replace hs4:=hs4.mono (T:=RB R B) (fun k _ hk=>.inr (by have hk':wv1.heap.size<=k:=hk;omega))
        have fZ:=fA.trans rG
        refine hK.out _ _ ?abn (fun hHeld=>?_)
        case abn=>exact dL.out _ fZ
        clear hK K
        (try go_frame)
        refine HT.branch (rs:=[12]) (by kernel_rfl) (by simp) ?_
        refine HT.tY (fun K hK=>?_) ?_
        ·go_simp
         go_at_call 58
         with_reducible refine Calls.mono (gX.out _ _ _ fZ hs4) ?_
         rintro e DJ ⟨lo3,iP,iQ,iR,iU,iV,iy,rfl,hk3,C9⟩
         have lT:=iO hk3 (Nat.lt_of_lt_of_le hzp fZ.size)
         have nV:=fZ.trans C9
         unfold gZ
         refine hK.out _ _ ?abo (fun hHeld=>?_)
         case abo=>exact dL.out _ nV
         clear hK K
         (try go_frame)
         refine HT.Zn (by kernel_rfl) (fun K hK=>?_)
         have hbs:=ak nV uo.out
         obtain ⟨⟨z0,z1,z2,z3,z4⟩,y0,y1,y2,y3,y4⟩:=five hbs
         have dN:=qM.out.trans nV
         go_simp
         refine hK.out _ _ ?_
         clear hK K
         (try go_frame)
         refine HT.done (by kernel_rfl) ?_ _
         clear z0 z1 z2 z3 z4 y0 y1 y2 y3 y4
         generalize Ag:bodyPost Tryz.prog Tryz.f37 (sH R W most fin)=BP at *
         go_wp2_with fail
         rw [<-Ag]
         have hf:=eP DJ (B+1+1) (.slice lo3 iP iQ) (.int .i64 fin.next) (.int .i64 most) (.slice iR iU iV) (.int .i64 iy)
         obtain ⟨⟨f0,f1,f2,f3,f4⟩,_⟩:=five (bQ (a:=(.slice lo3 iP iQ)) (b:=(.int .i64 fin.next)) (c:=(.int .i64 most)) (d:=(.slice iR iU iV)) (e:=(.int .i64 iy)) hbs)
         change bodyPost _ _ _ _ _ (iK DJ (B+1+1) (.slice lo3 iP iQ) (.int .i64 fin.next) (.int .i64 most) (.slice iR iU iV) (.int .i64 iy))
         have hend:=mD lT dN hf eX
         generalize iK DJ (B+1+1) (.slice lo3 iP iQ) (.int .i64 fin.next) (.int .i64 most) (.slice iR iU iV) (.int .i64 iy)=wf at *
         refine bodyPost_ret (by simp [results,Tryz.results37,go_sem,f0,f1,f2,f3,f4]<;>rfl) rfl ?_
         exact ⟨lo3,iP,iQ,iR,iU,iV,iy,by (first | rfl | (rw [HF2.out]<;>rfl)),by (first | exact hend.1 | (rw [HF2.out];exact hend.1)),hend.2⟩
        exact HT.aU.nil
       exact HT.aU.nil
      exact HT.aU.nil
   ·have t2:(h.k == 2)=false:=by rcases X8 with k | k<;>rw [k]<;>rfl
    have t3:(h.k == 3)=false:=by rcases X8 with k | k<;>rw [k]<;>rfl
    have t1:(h.k == 1)=false:=by rcases X8 with k | k<;>rw [k]<;>rfl
    have t4:(h.k == 4)=false:=by rcases X8 with k | k<;>rw [k]<;>rfl
    have PY:=hid X8
    have hl2:2<=l2:=by rw [HS2.out.1];rcases X8 with k | k;exact Vw.out.2.2.2.1 k;exact Vw.out.2.2.2.2.1 k
    have PZ:Hid (Zu most h ps ev):=by
     show Zu most h ps ev
     rcases X8 with k | k
     ·exact Ub hm h ps IH.out k ev (by have:=JF.out;have:=WZ.out;omega) JC.out Vw.out nX.out
     ·exact Ud hm h ps IH.out k ev (by have:=JF.out;have:=WZ.out;omega) JC.out Vw.out nX.out
    clear X8
    obtain ⟨b9,aH,v0,qv0,r1v,n1v,e1v,r2v,n2v,e2v,e9,_⟩:=HS2.out.nth (i:=0) (by omega)
    subst e9
    obtain ⟨b9',aa8,u,qu,kS,kT,d1u,kU,kV,kW,e9,_,gu,ru,cu,su,tu⟩:=HS2.out.nth (i:=1) (by omega)
    injection e9 with e9
    injection e9 with e9 e9'
    subst e9 e9'
    simp only [Nat.one_mul] at cu
    have OA:=hid (IH.out 1 u qu gu)
    have HGU:=hid gu
    have vO:=hid cu
    have Ld:=hid su
    have H9:=hid tu
    have hzu:=To.bV ps 1 u qu gu
    have hou:=lG ps 1 u qu nX.out gu
    have hlz:en+1+qu.size<=100000:=by have:=WZ.out;omega
    have hi1:(1:Int) < l2:=by omega
    have hj1:1 < l2:=by omega
    clear gu ru cu su tu hzu
    obtain ⟨kd,hkd⟩:∃ kd,jM most h (dD most ps) (kY most ev) d1=kd:=⟨_,rfl⟩
    obtain ⟨rt,hrt⟩:∃ rt,dP most u qu (kY most (ev.snoc h.nm 0 true h ps ev)) kd.2=rt:=⟨_,rfl⟩
    have hre:(dK most (tv d.next) (tv kd.2.next) h.fr h.en rt.2).2=fin:=by
     have e1:rt.1=kd.2.next:=by rw [<-hrt];exact kQ _ _ _ _ _
     rw [<-bJ.out,jc QJ.out,<-HD1.out,<-e1,<-hrt,PV,<-hkd]
     unfold kP
     rw [if_neg (by rcases PY.out with k | k<;>rw [k]<;>decide),if_neg (by rcases PY.out with k | k<;>rw [k]<;>decide),if_neg (by rcases PY.out with k | k<;>rw [k]<;>decide),if_neg (by rcases PY.out with k | k<;>rw [k]<;>decide),if_pos PY.out]
     unfold fH jG
     dsimp only
     rw [Ar HGU.out]
     all_goals rfl
    have hnt:rt.2.next<=1000000:=by have k:=MZ.out;rw [bJ.out,<-hre,jJ] at k;exact k
    have hnx:kd.2.next+1<=rt.2.next:=by rw [<-hrt];exact xM most u qu (mJ most _) kd.2
    have yh:=hid hrt
    have PW:=hid hnt
    have Y3:=hid hkd
    have hkn:kd.2.next<=1000000:=by omega
    have HF3:=hid hre
    have HF2:Hid (fin=fin):=rfl
    clear hre hrt hnt hnx hkd
    have HKC:Hid (Calls Tryz.prog 60 #[gZ lo ln lc d1.next most AA DK yF inn,bC h o1 l1 c1 (some ⟨b9,aH,none⟩) l2 c2,.slice eo en ec] wr (KpQ (RB R B) wr most kd)):=by
     have k:=PZ.out (RB R B) wr d1 inn lo ln lc AA DK yF o1 l1 c1 (some ⟨b9,aH,none⟩) l2 c2 eo en ec Dc.out (nH.out.fr zV.out (jF eX)) (HS2.out.fr zV.out (jF eX)) (JE.out.fr zV.out (jF eX)) yj (by rw [Y3.out];exact hkn)
     rw [Y3.out] at k
     exact k
    unfold bC gZ at HKC
    clear p0 p1 p2 p3 p4
    obtain ⟨⟨p0,p1,p2,p3,p4⟩,y0,y1,y2,y3,y4⟩:=five HR0.out
    go_upto_if 145 with fail
    go_cut [145] from 145 to 147 (fun v wx=>v=.bool true/\wr=wx)
    case first =>
     rcases PY.out with hk | hk
     ·have t6:(h.k == 6)=true:=by rw [hk];rfl
      have t7:(h.k == 7)=false:=by rw [hk];rfl
      clear hk
      go_wp2_with fail
      go_meet
      exact ⟨by first | rfl | (rw [t6]) | (rw [t7]),rfl⟩
     ·have t6:(h.k == 6)=false:=by rw [hk];rfl
      have t7:(h.k == 7)=true:=by rw [hk];rfl
      clear hk
      go_wp2_with fail
      go_meet
      exact ⟨by first | rfl | (rw [t6]) | (rw [t7]),rfl⟩
    case rest =>
     obtain ⟨hv,hw⟩:=hcut
     subst hv hw
     go_upto_region 33 with fail
     go_wp2_with fail
     refine HKC.out.mono ?_;rintro x w3 ⟨lo3,iP,iQ,iR,iU,iV,iy,rfl,hk3,hq3⟩
     have hb0:=ak hq3 HR0.out
     clear p0 p1 p2 p3 p4 y0 y1 y2 y3 y4
     obtain ⟨⟨p0,p1,p2,p3,p4⟩,y0,y1,y2,y3,y4⟩:=five hb0
     unfold gZ
     go_upto_region 35 with fail
     clear p0 p1 p2 p3 p4 y0 y1 y2 y3 y4 a0 a1 a2 a3 a4 a5 a6 a7 a8
     obtain ⟨wp,hwp⟩:∃ wp,wp=iK w3 B (.slice lo3 iP iQ) (.int .i64 kd.2.next) (.int .i64 most) (.slice iR iU iV) (.int .i64 iy):=⟨_,rfl⟩
     change Code.wp _ _ _ _ (iK w3 B (.slice lo3 iP iQ) (.int .i64 kd.2.next) (.int .i64 most) (.slice iR iU iV) (.int .i64 iy))
     rw [<-hwp]
     obtain ⟨hb0,kF,hb2,hkp,PX⟩:=Je hwp hb0 (ak hq3 O5.out) (ak hq3 HR2.out) (iO hk3 X7) (zV.out.trans hq3) eX
     clear hk3 hq3
     have JG:=hid hb0
     have uT:=hid kF
     have zl:=hid hb2
     have Zz:=hid hkp
     have sD:=hid PX
     have hzp:B+1+1 < wp.heap.size:=lt_of_block hb2
     clear hwp hb0 kF hb2 hkp PX
     obtain ⟨xs,hrow,hxl,hxo,hxc⟩:=JE.out.row
     have KZ:=hid hxc
     have lS:=hid hrow
     clear hrow hxc
     have xO:Hid (∀ W' o c,ah wp W'->EvS (RB R B) W' o (en+1) (ev.snoc h.nm 0 true h ps ev)->en+1<=c->Calls Tryz.prog 37 #[gZ lo3 iP iQ kd.2.next most iR iU iV iy,bC u kS kT d1u kU kV kW,.slice o (en+1) c] W' (sH (RB R B) W' most rt.2)):=fun W' o c hq he hc=>by
      have hq':=sD.out.trans hq
      have k:=OA.out (RB R B) W' kd.2 iy lo3 iP iQ iR iU iV kS kT d1u kU kV kW o (en+1) c _ (Zz.out.stay hq) (Ld.out.fr hq' (jF eX)) (H9.out.fr hq' (jF eX)) he hc hlz (Good.snoc (fun _=>PZ.out) JC.out) hou.1 hou.2 (by rw [yh.out];exact PW.out)
      rw [yh.out] at k
      exact k
     unfold bC gZ at xO
     have dL:Hid (∀ W',ah wp W'->(fun (W':World)=>(W'.cell? ⟨B,0,none⟩=some (.slice lo3 iP iQ)/\W'.cell? ⟨B,1,none⟩=some (.int .i64 kd.2.next)/\W'.cell? ⟨B,2,none⟩=some (.int .i64 most)/\W'.cell? ⟨B,3,none⟩=some (.slice iR iU iV)/\W'.cell? ⟨B,4,none⟩=some (.int .i64 iy))/\(W'.cell? ⟨B+1,0,none⟩=some (.int .i64 h.k)/\W'.cell? ⟨B+1,1,none⟩=some (.string h.nm)/\W'.cell? ⟨B+1,2,none⟩=some (.int .i64 h.n)/\W'.cell? ⟨B+1,3,none⟩=some (.int .i64 h.tk)/\W'.cell? ⟨B+1,4,none⟩=some (.int .i64 h.tn)/\W'.cell? ⟨B+1,5,none⟩=some (.slice o1 l1 c1)/\W'.cell? ⟨B+1,6,none⟩=some (.slice (some ⟨b9,aH,none⟩) l2 c2)/\W'.cell? ⟨B+1,7,none⟩=some (.int .i64 h.fr)/\W'.cell? ⟨B+1,8,none⟩=some (.int .i64 h.en))/\(W'.cell? ⟨b9,aH+9,none⟩=some (.int .i64 u.k)/\W'.cell? ⟨b9,aH+9+1,none⟩=some (.string u.nm)/\W'.cell? ⟨b9,aH+9+2,none⟩=some (.int .i64 u.n)/\W'.cell? ⟨b9,aH+9+3,none⟩=some (.int .i64 u.tk)/\W'.cell? ⟨b9,aH+9+4,none⟩=some (.int .i64 u.tn)/\W'.cell? ⟨b9,aH+9+5,none⟩=some (.slice kS kT d1u)/\W'.cell? ⟨b9,aH+9+6,none⟩=some (.slice kU kV kW)/\W'.cell? ⟨b9,aH+9+7,none⟩=some (.int .i64 u.fr)/\W'.cell? ⟨b9,aH+9+8,none⟩=some (.int .i64 u.en))) W'):=fun W' hq=>by
      obtain ⟨k,_⟩:=five (ak hq JG.out)
      exact ⟨k,aA (ak hq uT.out),gW vO.out (sD.out.trans hq)⟩
     go_cut [] from 157 to 172 (fun wx=>Zw R W B rt.2 most h o1 l1 c1 (some ⟨b9,aH,none⟩) l2 c2 wx)
     case first =>
      refine bZ 16 dL.out (by kernel_rfl) (fun hHeld=>?_)
      (try dsimp only at hHeld)
      have gI:=ah.drew wp
      generalize wp.drew=wd at gI hHeld ⊢
      refine HT.tk 0 rfl ?_
      go_frame
      refine HT.tk 1 rfl ?_
      go_frame
      refine HT.tk 2 rfl ?_
      go_frame
      refine HT.tk 3 rfl ?_
      go_frame
      refine HT.tk 4 rfl ?_
      go_frame
      refine HT.tk 6 rfl ?_
      go_frame
      refine HT.tk 8 rfl ?_
      go_frame
      refine HT.tk 9 rfl ?_
      go_frame
      refine HT.tk 10 rfl ?_
      go_frame
      refine HT.tk 11 rfl ?_
      go_frame
      refine HT.tk 12 rfl ?_
      go_frame
      refine HT.branch (rs:=[5,13]) (by kernel_rfl) (by simp) ?_
      refine HT.CO (fun K hK=>?_) ?_
      ·go_simp
       obtain ⟨qy,qZ⟩:∃ wa,wa=wd.alloc (.cells #[] 108):=⟨_,rfl⟩
       have hqa:ah wd qy:=by rw [qZ];exact ah.alloc _ _
       have hown:=gB (size:=13) (show qy.heap[wd.heap.size]?=some (.cells #[] 108 (0,0)) by rw [qZ];exact heap_alloc_new wd _)
       have hgl:wp.heap.size<=wd.heap.size:=(gI).size
       have mg:=(gI).trans hqa
       rw [<-qZ]
       clear qZ
       generalize wd.heap.size=ga at hown hgl ⊢
       refine hK.out _ _ ?abp (fun hHeld=>?_)
       case abp=>exact dL.out _ mg
       clear hK K
       (try go_frame)
       refine HT.branch (rs:=[7,13]) (by kernel_rfl) (by simp) ?_
       refine HT.jV (fun K hK=>?_) ?_
       ·refine aJ qy rfl (.tmp 162) (.tmp 163) 105 rfl 108 _ 13 168 jk (.slice (some ⟨ga,0,none⟩) 0 0) 0 [] rfl hown eo en ec xs rfl hxl ?ZL hxo (by unfold maxLen;omega) (by omega) ?_
        case ZL=>(intro j u hj;obtain ⟨b,off,e,hc⟩:=KZ.out j u hj;subst e;exact ⟨_,rfl,by rw [Addr.add_lit];exact (sD.out.trans (mg)).at hc⟩)
        intro o3 c3 jE ho3 hf3 fE hnil3
        simp only [Nat.zero_add,List.nil_append] at ho3 fE hnil3 ⊢
        have oN:ah wp jE:=Fr.trans' (mg) hf3 (fun i hi e=>by simp [Value.ownBlock] at e;omega)
        have iL:∀ k,(Value.slice o3 en c3).ownBlock=some k->wp.heap.size<=k:=fun k hk=>by
         rcases fE with e | e
         ·rw [e] at hk;simp [Value.ownBlock] at hk;omega
         ·rw [e] at hk;cases hk;exact ((mg)).size
        refine hK.out _ _ ?abq (fun hHeld=>?_)
        case abq=>exact dL.out _ oN
        clear hK K
        (try go_frame)
        refine HT.branch (rs:=[13]) (by kernel_rfl) (by simp) ?_
        refine HT.qp (fun K hK=>?_) ?_
        ·go_simp
         obtain ⟨lI,hwb⟩:∃ wb,wb=jE.alloc (.cells (eY h.nm 0 true h o1 l1 c1 (some ⟨b9,aH,none⟩) l2 c2 eo en ec) 108):=⟨_,rfl⟩
         have pR:ah jE lI:=by rw [hwb];exact ah.alloc _ _
         have hb8:lI.heap[jE.heap.size]?=some (.cells (eY h.nm 0 true h o1 l1 c1 (some ⟨b9,aH,none⟩) l2 c2 eo en ec) 108 (0,0)):=by rw [hwb];exact heap_alloc_new jE _
         have BL:wp.heap.size<=jE.heap.size:=(oN).size
         have kG:=(oN).trans pR
         have oO:=lt_of_block hb8
         change K _ (jE.alloc (.cells (eY h.nm 0 true h o1 l1 c1 (some ⟨b9,aH,none⟩) l2 c2 eo en ec) 108))
         rw [<-hwb]
         clear hwb
         replace ho3:=aZ ho3 pR (fun _ _ h=>h)
         generalize jE.heap.size=g8 at hb8 BL oO ⊢
         refine hK.out _ _ ?abr (fun hHeld=>?_)
         case abr=>exact dL.out _ kG
         clear hK K
         (try go_frame)
         refine HT.branch (rs:=[14]) (by kernel_rfl) (by simp) ?_
         refine HT.qw (fun K hK=>?_) ?_
         ·have hc8:∀ j u,(eY h.nm 0 true h o1 l1 c1 (some ⟨b9,aH,none⟩) l2 c2 eo en ec).toList[j]?=some u->∃ a,some (⟨g8,0,none⟩:Addr)=some a/\lI.cell? (a.add j)=some u:=fun j u hj=>⟨_,rfl,by rw [Addr.add_lit,Nat.zero_add,cell_of_row _ _ _ _ _ (0,0) hb8];simpa using hj⟩
          refine aJ lI rfl (.tmp 164) (.tmp 170) 105 rfl 108 _ 13 168 jk (.slice o3 en c3) en xs rfl ho3 (some ⟨g8,0,none⟩) 1 1 (eY h.nm 0 true h o1 l1 c1 (some ⟨b9,aH,none⟩) l2 c2 eo en ec).toList rfl rfl hc8 (by simp [Value.oneCell']) (by unfold maxLen;omega) (by omega) ?_
          intro o4 c4 vZ kX hf4 oP ug
          have dQ:ah wp vZ:=Fr.trans' (kG) hf4 (fun i hi e=>by have:=iL i e;omega)
          have oQ:∀ k,(Value.slice o4 (en+1) c4).ownBlock=some k->B+1+1 < k:=fun k hk=>by
           rcases oP with e | e
           ·rw [e] at hk;have:=iL k hk;omega
           ·rw [e] at hk;cases hk;have:=((kG)).size;omega
          refine hK.out _ _ ?abt (fun hHeld=>?_)
          case abt=>exact dL.out _ dQ
          clear hK K
          (try go_frame)
          refine HT.branch (rs:=[15]) (by kernel_rfl) (by simp) ?_
          refine HT.Gw (fun K hK=>?_) ?_
          ·obtain ⟨uj,um⟩:=lM (h:=h) (ps:=ps) (ar:=ev) (v:=0) (ag:=true) (c1:=c1) (c2:=c2) lS.out JF.out (sD.out.trans (dQ)) eX nH.out HS2.out JE.out yj kX (by omega) oQ
           go_simp
           go_at_call 37
           with_reducible refine Calls.mono (xO.out _ _ _ (dQ) uj um) ?_
           rintro e w9 ⟨QD,QE,QF,QG,QH,QI,Ah,rfl,hk9,qI⟩
           have lT:=iO hk9 (Nat.lt_of_lt_of_le hzp (dQ).size)
           have dY:=(dQ).trans qI
           unfold gZ
           refine hK.out _ _ ?abu (fun hHeld=>?_)
           case abu=>exact dL.out _ dY
           clear hK K
           (try go_frame)
           refine HT.KY (by kernel_rfl) (fun K hK=>?_)
           have hbs:=ak dY JG.out
           obtain ⟨⟨p0,p1,p2,p3,p4⟩,y0,y1,y2,y3,y4⟩:=five hbs
           have hend:=jX Ah hbs (ak dY uT.out) (ak dY zl.out) lT (sD.out.trans dY) eX
           go_simp
           refine hK.out _ _ ?_
           clear hK K
           (try go_frame)
           refine HT.done (by kernel_rfl) ?_ _
           go_wp2_with fail
           go_meet
           exact hend
          exact HT.aU.nil
         exact HT.aU.nil
        exact HT.aU.nil
       refine HT.qp (fun K hK=>?_) ?_
       ·go_simp
        obtain ⟨wu,hwb⟩:∃ wb,wb=qy.alloc (.cells (eY h.nm 0 true h o1 l1 c1 (some ⟨b9,aH,none⟩) l2 c2 eo en ec) 108):=⟨_,rfl⟩
        have pR:ah qy wu:=by rw [hwb];exact ah.alloc _ _
        have hb8:wu.heap[qy.heap.size]?=some (.cells (eY h.nm 0 true h o1 l1 c1 (some ⟨b9,aH,none⟩) l2 c2 eo en ec) 108 (0,0)):=by rw [hwb];exact heap_alloc_new qy _
        have BL:wp.heap.size<=qy.heap.size:=(mg).size
        have lJ:=(mg).trans pR
        have oO:=lt_of_block hb8
        change K _ (qy.alloc (.cells (eY h.nm 0 true h o1 l1 c1 (some ⟨b9,aH,none⟩) l2 c2 eo en ec) 108))
        rw [<-hwb]
        clear hwb
        have PS:=(hown.lt ga rfl).2
        replace hown:=aZ hown pR (fun _ _ h=>h)
        generalize qy.heap.size=g8 at hb8 BL oO PS ⊢
        refine hK.out _ _ ?abv (fun hHeld=>?_)
        case abv=>exact dL.out _ lJ
        clear hK K
        (try go_frame)
        refine HT.branch (rs:=[7]) (by kernel_rfl) (by simp) ?_
        refine HT.jV (fun K hK=>?_) ?_
        ·refine aJ wu rfl (.tmp 162) (.tmp 163) 105 rfl 108 _ 13 168 jk (.slice (some ⟨ga,0,none⟩) 0 0) 0 [] rfl hown eo en ec xs rfl hxl ?ZM hxo (by unfold maxLen;omega) (by omega) ?_
         case ZM=>(intro j u hj;obtain ⟨b,off,e,hc⟩:=KZ.out j u hj;subst e;exact ⟨_,rfl,by rw [Addr.add_lit];exact (sD.out.trans (lJ)).at hc⟩)
         intro o3 c3 oU ho3 hf3 fE hnil3
         simp only [Nat.zero_add,List.nil_append] at ho3 fE hnil3 ⊢
         have kH:ah wp oU:=Fr.trans' (lJ) hf3 (fun i hi e=>by simp [Value.ownBlock] at e;omega)
         have iL:∀ k,(Value.slice o3 en c3).ownBlock=some k->wp.heap.size<=k:=fun k hk=>by
          rcases fE with e | e
          ·rw [e] at hk;simp [Value.ownBlock] at hk;omega
          ·rw [e] at hk;cases hk;exact ((lJ)).size
         refine hK.out _ _ ?abw (fun hHeld=>?_)
         case abw=>exact dL.out _ kH
         clear hK K
         (try go_frame)
         replace hb8:=ay hf3 (fun e=>by simp [Value.ownBlock] at e;omega) hb8
         refine HT.branch (rs:=[14]) (by kernel_rfl) (by simp) ?_
         refine HT.qw (fun K hK=>?_) ?_
         ·have hc8:∀ j u,(eY h.nm 0 true h o1 l1 c1 (some ⟨b9,aH,none⟩) l2 c2 eo en ec).toList[j]?=some u->∃ a,some (⟨g8,0,none⟩:Addr)=some a/\oU.cell? (a.add j)=some u:=fun j u hj=>⟨_,rfl,by rw [Addr.add_lit,Nat.zero_add,cell_of_row _ _ _ _ _ (0,0) hb8];simpa using hj⟩
          refine aJ oU rfl (.tmp 164) (.tmp 170) 105 rfl 108 _ 13 168 jk (.slice o3 en c3) en xs rfl ho3 (some ⟨g8,0,none⟩) 1 1 (eY h.nm 0 true h o1 l1 c1 (some ⟨b9,aH,none⟩) l2 c2 eo en ec).toList rfl rfl hc8 (by simp [Value.oneCell']) (by unfold maxLen;omega) (by omega) ?_
          intro o4 c4 wz kX hf4 oP ug
          have dR:ah wp wz:=Fr.trans' (kH) hf4 (fun i hi e=>by have:=iL i e;omega)
          have oQ:∀ k,(Value.slice o4 (en+1) c4).ownBlock=some k->B+1+1 < k:=fun k hk=>by
           rcases oP with e | e
           ·rw [e] at hk;have:=iL k hk;omega
           ·rw [e] at hk;cases hk;have:=((kH)).size;omega
          refine hK.out _ _ ?abx (fun hHeld=>?_)
          case abx=>exact dL.out _ dR
          clear hK K
          (try go_frame)
          refine HT.branch (rs:=[15]) (by kernel_rfl) (by simp) ?_
          refine HT.Gw (fun K hK=>?_) ?_
          ·obtain ⟨uj,um⟩:=lM (h:=h) (ps:=ps) (ar:=ev) (v:=0) (ag:=true) (c1:=c1) (c2:=c2) lS.out JF.out (sD.out.trans (dR)) eX nH.out HS2.out JE.out yj kX (by omega) oQ
           go_simp
           go_at_call 37
           with_reducible refine Calls.mono (xO.out _ _ _ (dR) uj um) ?_
           rintro e w9 ⟨QD,QE,QF,QG,QH,QI,Ah,rfl,hk9,qI⟩
           have lT:=iO hk9 (Nat.lt_of_lt_of_le hzp (dR).size)
           have dZ:=(dR).trans qI
           unfold gZ
           refine hK.out _ _ ?aby (fun hHeld=>?_)
           case aby=>exact dL.out _ dZ
           clear hK K
           (try go_frame)
           refine HT.KY (by kernel_rfl) (fun K hK=>?_)
           have hbs:=ak dZ JG.out
           obtain ⟨⟨p0,p1,p2,p3,p4⟩,y0,y1,y2,y3,y4⟩:=five hbs
           have hend:=jX Ah hbs (ak dZ uT.out) (ak dZ zl.out) lT (sD.out.trans dZ) eX
           go_simp
           refine hK.out _ _ ?_
           clear hK K
           (try go_frame)
           refine HT.done (by kernel_rfl) ?_ _
           go_wp2_with fail
           go_meet
           exact hend
          exact HT.aU.nil
         exact HT.aU.nil
        exact HT.aU.nil
       exact HT.aU.nil
      refine HT.qp (fun K hK=>?_) ?_
      ·go_simp
       obtain ⟨uh,hwb⟩:∃ wb,wb=wd.alloc (.cells (eY h.nm 0 true h o1 l1 c1 (some ⟨b9,aH,none⟩) l2 c2 eo en ec) 108):=⟨_,rfl⟩
       have pR:ah wd uh:=by rw [hwb];exact ah.alloc _ _
       have hb8:uh.heap[wd.heap.size]?=some (.cells (eY h.nm 0 true h o1 l1 c1 (some ⟨b9,aH,none⟩) l2 c2 eo en ec) 108 (0,0)):=by rw [hwb];exact heap_alloc_new wd _
       have BL:wp.heap.size<=wd.heap.size:=(gI).size
       have wB:=(gI).trans pR
       have oO:=lt_of_block hb8
       change K _ (wd.alloc (.cells (eY h.nm 0 true h o1 l1 c1 (some ⟨b9,aH,none⟩) l2 c2 eo en ec) 108))
       rw [<-hwb]
       clear hwb
       generalize wd.heap.size=g8 at hb8 BL oO ⊢
       refine hK.out _ _ ?abz (fun hHeld=>?_)
       case abz=>exact dL.out _ wB
       clear hK K
       (try go_frame)
       refine HT.branch (rs:=[5]) (by kernel_rfl) (by simp) ?_
       refine HT.CO (fun K hK=>?_) ?_
       ·go_simp
        obtain ⟨wC,qZ⟩:∃ wa,wa=uh.alloc (.cells #[] 108):=⟨_,rfl⟩
        have hqa:ah uh wC:=by rw [qZ];exact ah.alloc _ _
        have hown:=gB (size:=13) (show wC.heap[uh.heap.size]?=some (.cells #[] 108 (0,0)) by rw [qZ];exact heap_alloc_new uh _)
        have hgl:wp.heap.size<=uh.heap.size:=(wB).size
        have lK:=(wB).trans hqa
        rw [<-qZ]
        clear qZ
        generalize uh.heap.size=ga at hown hgl oO ⊢
        refine hK.out _ _ ?abA (fun hHeld=>?_)
        case abA=>exact dL.out _ lK
        clear hK K
        (try go_frame)
        replace hb8:=ak hqa hb8
        refine HT.branch (rs:=[7]) (by kernel_rfl) (by simp) ?_
        refine HT.jV (fun K hK=>?_) ?_
        ·refine aJ wC rfl (.tmp 162) (.tmp 163) 105 rfl 108 _ 13 168 jk (.slice (some ⟨ga,0,none⟩) 0 0) 0 [] rfl hown eo en ec xs rfl hxl ?ZN hxo (by unfold maxLen;omega) (by omega) ?_
         case ZN=>(intro j u hj;obtain ⟨b,off,e,hc⟩:=KZ.out j u hj;subst e;exact ⟨_,rfl,by rw [Addr.add_lit];exact (sD.out.trans (lK)).at hc⟩)
         intro o3 c3 oW ho3 hf3 fE hnil3
         simp only [Nat.zero_add,List.nil_append] at ho3 fE hnil3 ⊢
         have kJ:ah wp oW:=Fr.trans' (lK) hf3 (fun i hi e=>by simp [Value.ownBlock] at e;omega)
         have iL:∀ k,(Value.slice o3 en c3).ownBlock=some k->wp.heap.size<=k:=fun k hk=>by
          rcases fE with e | e
          ·rw [e] at hk;simp [Value.ownBlock] at hk;omega
          ·rw [e] at hk;cases hk;exact ((lK)).size
         refine hK.out _ _ ?abB (fun hHeld=>?_)
         case abB=>exact dL.out _ kJ
         clear hK K
         (try go_frame)
         replace hb8:=ay hf3 (fun e=>by simp [Value.ownBlock] at e;omega) hb8
         refine HT.branch (rs:=[14]) (by kernel_rfl) (by simp) ?_
         refine HT.qw (fun K hK=>?_) ?_
         ·have hc8:∀ j u,(eY h.nm 0 true h o1 l1 c1 (some ⟨b9,aH,none⟩) l2 c2 eo en ec).toList[j]?=some u->∃ a,some (⟨g8,0,none⟩:Addr)=some a/\oW.cell? (a.add j)=some u:=fun j u hj=>⟨_,rfl,by rw [Addr.add_lit,Nat.zero_add,cell_of_row _ _ _ _ _ (0,0) hb8];simpa using hj⟩
          refine aJ oW rfl (.tmp 164) (.tmp 170) 105 rfl 108 _ 13 168 jk (.slice o3 en c3) en xs rfl ho3 (some ⟨g8,0,none⟩) 1 1 (eY h.nm 0 true h o1 l1 c1 (some ⟨b9,aH,none⟩) l2 c2 eo en ec).toList rfl rfl hc8 (by simp [Value.oneCell']) (by unfold maxLen;omega) (by omega) ?_
          intro o4 c4 wE kX hf4 oP ug
          have dS:ah wp wE:=Fr.trans' (kJ) hf4 (fun i hi e=>by have:=iL i e;omega)
          have oQ:∀ k,(Value.slice o4 (en+1) c4).ownBlock=some k->B+1+1 < k:=fun k hk=>by
           rcases oP with e | e
           ·rw [e] at hk;have:=iL k hk;omega
           ·rw [e] at hk;cases hk;have:=((kJ)).size;omega
          refine hK.out _ _ ?abC (fun hHeld=>?_)
          case abC=>exact dL.out _ dS
          clear hK K
          (try go_frame)
          refine HT.branch (rs:=[15]) (by kernel_rfl) (by simp) ?_
          refine HT.Gw (fun K hK=>?_) ?_
          ·obtain ⟨uj,um⟩:=lM (h:=h) (ps:=ps) (ar:=ev) (v:=0) (ag:=true) (c1:=c1) (c2:=c2) lS.out JF.out (sD.out.trans (dS)) eX nH.out HS2.out JE.out yj kX (by omega) oQ
           go_simp
           go_at_call 37
           with_reducible refine Calls.mono (xO.out _ _ _ (dS) uj um) ?_
           rintro e w9 ⟨QD,QE,QF,QG,QH,QI,Ah,rfl,hk9,qI⟩
           have lT:=iO hk9 (Nat.lt_of_lt_of_le hzp (dS).size)
           have eu:=(dS).trans qI
           unfold gZ
           refine hK.out _ _ ?abD (fun hHeld=>?_)
           case abD=>exact dL.out _ eu
           clear hK K
           (try go_frame)
           refine HT.KY (by kernel_rfl) (fun K hK=>?_)
           have hbs:=ak eu JG.out
           obtain ⟨⟨p0,p1,p2,p3,p4⟩,y0,y1,y2,y3,y4⟩:=five hbs
           have hend:=jX Ah hbs (ak eu uT.out) (ak eu zl.out) lT (sD.out.trans eu) eX
           go_simp
           refine hK.out _ _ ?_
           clear hK K
           (try go_frame)
           refine HT.done (by kernel_rfl) ?_ _
           go_wp2_with fail
           go_meet
           exact hend
          exact HT.aU.nil
         exact HT.aU.nil
        exact HT.aU.nil
       exact HT.aU.nil
      exact HT.aU.nil
     case rest =>
      rename World=>wq
      obtain ⟨rC,rD,rE,uU,uV,uX,qN,hb0,kF,hb2,hk5,hq5⟩:=hcut
      have oZ:=hid hb0
      have pq:=hid kF
      have uo:=hid hb2
      have Jg:=hid hk5
      have qM:=hid hq5
      clear hzp
      have hzp:B+1+1 < wq.heap.size:=lt_of_block hb2
      clear hb0 kF hb2 hk5 hq5
      have Df:Hid (∀ W',ah wq W'->(fun (W':World)=>(W'.cell? ⟨B,0,none⟩=some (.slice rC rD rE)/\W'.cell? ⟨B,1,none⟩=some (.int .i64 rt.2.next)/\W'.cell? ⟨B,2,none⟩=some (.int .i64 most)/\W'.cell? ⟨B,3,none⟩=some (.slice uU uV uX)/\W'.cell? ⟨B,4,none⟩=some (.int .i64 qN))/\(W'.cell? ⟨B+1,0,none⟩=some (.int .i64 h.k)/\W'.cell? ⟨B+1,1,none⟩=some (.string h.nm)/\W'.cell? ⟨B+1,2,none⟩=some (.int .i64 h.n)/\W'.cell? ⟨B+1,3,none⟩=some (.int .i64 h.tk)/\W'.cell? ⟨B+1,4,none⟩=some (.int .i64 h.tn)/\W'.cell? ⟨B+1,5,none⟩=some (.slice o1 l1 c1)/\W'.cell? ⟨B+1,6,none⟩=some (.slice (some ⟨b9,aH,none⟩) l2 c2)/\W'.cell? ⟨B+1,7,none⟩=some (.int .i64 h.fr)/\W'.cell? ⟨B+1,8,none⟩=some (.int .i64 h.en))) W'):=fun W' hq=>by
       obtain ⟨k,_⟩:=five (ak hq oZ.out)
       exact ⟨k,aA (ak hq pq.out)⟩
      have gX:Hid (∀ W',ah wq W'->Calls Tryz.prog 58 #[gZ rC rD rE rt.2.next most uU uV uX qN,.agg #[.int .i64 1,.int .i64 d.next,.slice none 0 0],.agg #[.int .i64 1,.int .i64 kd.2.next,.slice none 0 0],.agg #[.int .i64 h.fr,.int .i64 h.en]] W' (sH (RB R B) W' most fin)):=fun W' hq=>by
       have k:=add_any (o1:=none) (l1:=0) (c1:=0) (o2:=none) (l2:=0) (c2:=0) qN (Jg.out.stay hq) hm (tv d.next) (tv kd.2.next) h.fr h.en (aC.nil _ _ _) (aC.nil _ _ _) (by show Fo.nil.size<=_;decide) (by show Fo.nil.size<=_;decide)
       rw [HF3.out] at k
       exact k
      unfold gZ at gX
      go_upto_region 36 with fail
      refine bZ 8 Df.out (by kernel_rfl) (fun hHeld=>?_)
      (try dsimp only at hHeld)
      have gI:=ah.drew wq
      generalize wq.drew=wd at gI hHeld ⊢
      refine HT.tk 0 rfl ?_
      go_frame
      refine HT.tk 1 rfl ?_
      go_frame
      refine HT.tk 3 rfl ?_
      go_frame
      refine HT.tk 5 rfl ?_
      go_frame
      refine HT.tk 6 rfl ?_
      go_frame
      refine HT.branch (rs:=[2]) (by kernel_rfl) (by simp) ?_
      refine HT.rU (fun K hK=>?_) ?_
      ·go_simp
       go_at_call 59
       with_reducible refine Calls.mono (gy _ _) ?_
       rintro e wv1 ⟨rfl,pz⟩
       have fA:=gI.trans pz
       refine hK.out _ _ ?abE (fun hHeld=>?_)
       case abE=>exact Df.out _ fA
       clear hK K
       (try go_frame)
       refine HT.branch (rs:=[4]) (by kernel_rfl) (by simp) ?_
       refine HT.ET (fun K hK=>?_) ?_
       ·go_simp
        go_at_call 59
        with_reducible refine Calls.mono (gy _ _) ?_
        rintro e wv2 ⟨rfl,rG⟩
        have fZ:=fA.trans rG
        refine hK.out _ _ ?abG (fun hHeld=>?_)
        case abG=>exact Df.out _ fZ
        clear hK K
        (try go_frame)
        refine HT.branch (rs:=[7]) (by kernel_rfl) (by simp) ?_
        refine HT.jV (fun K hK=>?_) ?_
        ·go_simp
         go_at_call 58
         with_reducible refine Calls.mono (gX.out _ fZ) ?_
         rintro e DJ ⟨lo3,iP,iQ,iR,iU,iV,iy,rfl,hk3,C9⟩
         have lT:=iO hk3 (Nat.lt_of_lt_of_le hzp fZ.size)
         have nV:=fZ.trans C9
         unfold gZ
         refine hK.out _ _ ?abH (fun hHeld=>?_)
         case abH=>exact Df.out _ nV
         clear hK K
         (try go_frame)
         refine HT.xG (by kernel_rfl) (fun K hK=>?_)
         have hbs:=ak nV uo.out
         obtain ⟨⟨z0,z1,z2,z3,z4⟩,y0,y1,y2,y3,y4⟩:=five hbs
         have dN:=qM.out.trans nV
         go_simp
         refine hK.out _ _ ?_
         clear hK K
         (try go_frame)
         refine HT.done (by kernel_rfl) ?_ _
         clear z0 z1 z2 z3 z4 y0 y1 y2 y3 y4
         generalize Ag:bodyPost Tryz.prog Tryz.f37 (sH R W most fin)=BP at *
         go_wp2_with fail
         rw [<-Ag]
         have hf:=eP DJ (B+1+1) (.slice lo3 iP iQ) (.int .i64 fin.next) (.int .i64 most) (.slice iR iU iV) (.int .i64 iy)
         obtain ⟨⟨f0,f1,f2,f3,f4⟩,_⟩:=five (bQ (a:=(.slice lo3 iP iQ)) (b:=(.int .i64 fin.next)) (c:=(.int .i64 most)) (d:=(.slice iR iU iV)) (e:=(.int .i64 iy)) hbs)
         change bodyPost _ _ _ _ _ (iK DJ (B+1+1) (.slice lo3 iP iQ) (.int .i64 fin.next) (.int .i64 most) (.slice iR iU iV) (.int .i64 iy))
         have hend:=mD lT dN hf eX
         generalize iK DJ (B+1+1) (.slice lo3 iP iQ) (.int .i64 fin.next) (.int .i64 most) (.slice iR iU iV) (.int .i64 iy)=wf at *
         refine bodyPost_ret (by simp [results,Tryz.results37,go_sem,f0,f1,f2,f3,f4]<;>rfl) rfl ?_
         exact ⟨lo3,iP,iQ,iR,iU,iV,iy,by (first | rfl | (rw [HF2.out]<;>rfl)),by (first | exact hend.1 | (rw [HF2.out];exact hend.1)),hend.2⟩
        exact HT.aU.nil
       exact HT.aU.nil
      exact HT.aU.nil
   ·have t2:(h.k == 2)=false:=by rw [hk];rfl
    have t3:(h.k == 3)=false:=by rw [hk];rfl
    have t1:(h.k == 1)=false:=by rw [hk];rfl
    have t4:(h.k == 4)=false:=by rw [hk];rfl
    have t6:(h.k == 6)=false:=by rw [hk];rfl
    have t7:(h.k == 7)=false:=by rw [hk];rfl
    have t5:(h.k == 5)=false:=by rw [hk];rfl
    have t8:(h.k == 8)=true:=by rw [hk];rfl
    have HK:=hid hk
    clear hk
    obtain ⟨lf,hlf⟩:∃ lf,dmap (kY most ev) (dD most ps) d1=lf:=⟨_,rfl⟩
    have hre:(dK most (tv d.next) (jP lf.1 2) (aX ps 2).1 (aX ps 2).2 (dK most (tv d.next) (jP lf.1 1) (aX ps 1).1 (aX ps 1).2 (dK most (jP lf.1 0) (3,0,.nil) (aX ps 0).1 (aX ps 0).2 lf.2).2).2).2=fin:=by
     rw [<-bJ.out,jc QJ.out,<-HD1.out]
     unfold kP
     rw [if_neg (by rw [HK.out];decide),if_neg (by rw [HK.out];decide),if_neg (by rw [HK.out];decide),if_neg (by rw [HK.out];decide),if_neg (by rw [HK.out];decide)]
     show _=((fH (dmap (kY most ev) (dD most ps)) _) d1).2
     unfold fH
     rw [hlf]
     dsimp only
     rw [if_neg (by rw [HK.out];decide),if_pos HK.out]
     rfl
    have Le:Hid (lf.2.next<=1000000):=by show _<=_;have k:=MZ.out;rw [bJ.out,<-hre] at k;simpa only [jJ] using k
    have HF3:=hid hre
    have HF2:Hid (fin=fin):=rfl
    clear hre
    have HLF:=hid hlf
    have hzz:B+1+1 < wr.heap.size:=X7
    obtain ⟨vs,hvs⟩:∃ vs,dD most ps=vs:=⟨_,rfl⟩
    have Ur:=hid hvs
    have Lh:Hid (vs.length=l2):=by show _=_;rw [<-hvs,lN,HS2.out.1]
    have HST:Hid (X6 R W B wr.heap.size most h o1 l1 c1 o2 l2 c2 (kY most ev) vs lf (.slice none 0 0) (.int .i64 0) wr):=by
     refine ⟨0,none,0,rfl,rfl,d1,[],[],lo,ln,lc,AA,DK,yF,inn,Nat.zero_le _,?_,?_,PR.nil _ _,HR0.out,O5.out,HR2.out,Au Dc.out,zV.out,Nat.le_refl _⟩
     ·rw [List.drop_zero,<-hvs,hlf];rfl
     ·rw [List.drop_zero,<-hvs,hlf]
    obtain ⟨zz,Dh⟩:∃ zz,wr.heap.size=zz:=⟨_,rfl⟩
    rw [Dh] at HST hzz
    clear hvs hlf Dh
    go_wp2_with fail
    clear p0 p1 p2 p3 p4 a0 a1 a2 a3 a4 a5 a6 a7 a8
    go_loopw [14,15] (fun p t wx=>X6 R W B zz most h o1 l1 c1 o2 l2 c2 (kY most ev) vs lf p t wx) (fun _ t _=>l2 - (intOf t).toNat)
    case atStart=>exact HST.out
    case round =>
     clear HST
     rename World=>wx
     obtain ⟨i,po,pc,rfl,rfl,di,ns,xs,rC,rD,rE,uU,uV,uX,qN,hiv,hf1,hf2,hpr,hb0,kF,hb2,hk5,hq5,hzw⟩:=hrel
     have hil:i<=l2:=by rw [<-Lh.out];exact hiv
     have oZ:=hid hb0
     have pq:=hid kF
     have uo:=hid hb2
     have Jg:=hid hk5
     have qM:=hid hq5
     have vN:=hid hpr
     have hzx:B+1+1 < wx.heap.size:=lt_of_block hb2
     clear hb0 kF hb2 hk5 hq5 hpr hiv
     obtain ⟨⟨p0,p1,p2,p3,p4⟩,_⟩:=five oZ.out
     obtain ⟨a0,a1,a2,a3,a4,a5,a6,a7,a8⟩:=aA pq.out
     by_cases hlt:i < l2
     ·have hlt':(i:Int) < l2:=by omega
      obtain ⟨b9,aH,u,qu,kS,kT,d1u,kU,kV,kW,rfl,_,gu,ru,cu,su,tu⟩:=HS2.out.nth hlt
      have vO:=hid cu
      have Ld:=hid su
      have H9:=hid tu
      have hou:=lG ps i u qu nX.out gu
      have Lj:en+qu.size<=100000:=by have:=To.bV ps i u qu gu;have:=WZ.out;omega
      have hmd:=qL (kY most ev) vs i _ di (show vs[i]?=some (dP most u qu) by rw [<-Ur.out];exact nZ most ps i u qu gu)
      rw [hmd] at hf1 hf2
      have hnr:(dP most u qu (kY most ev) di).2.next<=lf.2.next:=by
       rw [<-hf2]
       exact uD (mJ most ev) (us:=vs.drop (i+1)) (fun v hv=>by rw [<-Ur.out] at hv;exact ng most ps v (List.mem_of_mem_drop hv)) _
      obtain ⟨rt,hrt⟩:∃ rt,dP most u qu (kY most ev) di=rt:=⟨_,rfl⟩
      have hr1:rt.1=di.next:=by rw [<-hrt];exact kQ _ _ _ _ _
      rw [hrt] at hf1 hf2 hnr
      rw [hr1] at hf1
      have OA:=hid (IH.out i u qu gu)
      have yh:=hid hrt
      have PW:Hid (rt.2.next<=1000000):=Nat.le_trans hnr Le.out
      have xU:=hid hf1
      have Ll:=hid hf2
      clear hf1 hf2 hrt hr1 hnr hmd cu su tu gu ru
      go_wp2_with fail
      refine (gy _ _).mono ?_;rintro x w2 ⟨rfl,hq2⟩
      have dO:=hid hq2
      clear hq2 p0 p1 p2 p3 p4 a0 a1 a2 a3 a4 a5 a6 a7 a8
      go_wp2_with (at_builtin;go_must (refine aP w2 rfl (.tmp 188) (.tmp 192) 22 rfl 24 _ 3 40 elemTy (.slice po i pc) i xs rfl (vN.out.stay dO.out).own #[.int .i64 1,.int .i64 di.next,.slice none 0 0] rfl rfl ?c1 (by unfold maxLen;omega) (by omega) ?_);(case c1=>simp [Value.oneCell']))
      intro g4 c4 w4 kX hf4 hg4
      have hlow:∀ k,(Value.slice po i pc).ownBlock=some k->zz<=k:=vN.out.low
      have pF:=hid ((vN.out.stay dO.out).snoc (o':=none) (c1:=0) (di.next) kX (Nat.le_trans hzw dO.out.size) hg4)
      have ZJ:=hid (xP (Jg.out.stay dO.out) hf4 hg4 (n:=i+1) (c:=c4))
      have wF:=hid (ay hf4 (fun e=>by have:=hlow _ e;omega) (ak dO.out oZ.out))
      have wG:=hid (ay hf4 (fun e=>by have:=hlow _ e;omega) (ak dO.out pq.out))
      have Di:=hid (ay hf4 (fun e=>by have:=hlow _ e;omega) (ak dO.out uo.out))
      have gY:Hid (ah W w4):=Fr.trans' (qM.out.trans dO.out) hf4 (fun j hj e=>by have:=hlow j e;omega)
      have Ov:B+1+1 < w4.heap.size:=lt_of_block Di.out
      have Lm:zz<=w4.heap.size:=Nat.le_trans hzw (Nat.le_trans dO.out.size hf4.size)
      clear kX hf4 hg4 hlow
      have xO:Hid (∀ W',ah w4 W'->Calls Tryz.prog 37 #[gZ rC rD rE di.next most uU uV uX qN,bC u kS kT d1u kU kV kW,.slice eo en ec] W' (sH (Gy R B (.slice (some ⟨g4,0,none⟩) (i+1) c4)) W' most rt.2)):=fun W' hq=>by
       have hq':=gY.out.trans hq
       have k:=OA.out (Gy R B (.slice (some ⟨g4,0,none⟩) (i+1) c4)) W' di qN rC rD rE uU uV uX kS kT d1u kU kV kW eo en ec ev (ZJ.out.stay hq) (Ld.out.fr hq' (nG eX pF.out.low (by omega))) (H9.out.fr hq' (nG eX pF.out.low (by omega))) (JE.out.fr hq' (nG eX pF.out.low (by omega))) yj Lj JC.out hou.1 hou.2 (by rw [yh.out];exact PW.out)
       rw [yh.out] at k
       exact k
      unfold bC gZ at xO
      obtain ⟨⟨p0,p1,p2,p3,p4⟩,_⟩:=five wF.out
      obtain ⟨a0,a1,a2,a3,a4,a5,a6,a7,a8⟩:=aA wG.out
      go_upto_region 42 with fail
      clear p0 p1 p2 p3 p4 a0 a1 a2 a3 a4 a5 a6 a7 a8
      have dL:Hid (∀ W',ah w4 W'->(fun (W':World)=>(W'.cell? ⟨B,0,none⟩=some (.slice rC rD rE)/\W'.cell? ⟨B,1,none⟩=some (.int .i64 di.next)/\W'.cell? ⟨B,2,none⟩=some (.int .i64 most)/\W'.cell? ⟨B,3,none⟩=some (.slice uU uV uX)/\W'.cell? ⟨B,4,none⟩=some (.int .i64 qN))/\(W'.cell? ⟨B+1,0,none⟩=some (.int .i64 h.k)/\W'.cell? ⟨B+1,1,none⟩=some (.string h.nm)/\W'.cell? ⟨B+1,2,none⟩=some (.int .i64 h.n)/\W'.cell? ⟨B+1,3,none⟩=some (.int .i64 h.tk)/\W'.cell? ⟨B+1,4,none⟩=some (.int .i64 h.tn)/\W'.cell? ⟨B+1,5,none⟩=some (.slice o1 l1 c1)/\W'.cell? ⟨B+1,6,none⟩=some (.slice (some ⟨b9,aH,none⟩) l2 c2)/\W'.cell? ⟨B+1,7,none⟩=some (.int .i64 h.fr)/\W'.cell? ⟨B+1,8,none⟩=some (.int .i64 h.en))/\(W'.cell? ⟨b9,aH+i * 9,none⟩=some (.int .i64 u.k)/\W'.cell? ⟨b9,aH+i * 9+1,none⟩=some (.string u.nm)/\W'.cell? ⟨b9,aH+i * 9+2,none⟩=some (.int .i64 u.n)/\W'.cell? ⟨b9,aH+i * 9+3,none⟩=some (.int .i64 u.tk)/\W'.cell? ⟨b9,aH+i * 9+4,none⟩=some (.int .i64 u.tn)/\W'.cell? ⟨b9,aH+i * 9+5,none⟩=some (.slice kS kT d1u)/\W'.cell? ⟨b9,aH+i * 9+6,none⟩=some (.slice kU kV kW)/\W'.cell? ⟨b9,aH+i * 9+7,none⟩=some (.int .i64 u.fr)/\W'.cell? ⟨b9,aH+i * 9+8,none⟩=some (.int .i64 u.en))) W'):=fun W' hq=>by
       obtain ⟨k,_⟩:=five (ak hq wF.out)
       exact ⟨k,aA (ak hq wG.out),gW vO.out (gY.out.trans hq)⟩
      refine bZ 8 dL.out (by kernel_rfl) (fun hHeld=>?_)
      (try dsimp only at hHeld)
      have gI:=ah.drew w4
      generalize w4.drew=wd at *
      refine HT.tk 0 rfl ?_
      go_frame
      refine HT.tk 1 rfl ?_
      go_frame
      refine HT.tk 2 rfl ?_
      go_frame
      refine HT.tk 3 rfl ?_
      go_frame
      refine HT.tk 4 rfl ?_
      go_frame
      refine HT.tk 5 rfl ?_
      go_frame
      refine HT.tk 6 rfl ?_
      go_frame
      refine HT.branch (rs:=[7]) (by kernel_rfl) (by simp) ?_
      refine HT.jV (fun K hK=>?_) ?_
      ·go_simp
       go_at_call 37
       with_reducible refine Calls.mono (xO.out _ gI) ?_
       rintro e w9 ⟨QD,QE,QF,QG,QH,QI,Ah,rfl,hk9,qI⟩
       have lT:=xQ hk9 (Nat.lt_of_lt_of_le Ov gI.size) (fun k hk=>Nat.lt_of_lt_of_le (pF.out.lt k hk) gI.size)
       have hqe:=gI.trans qI
       unfold gZ
       refine hK.out _ _ ?abI (fun hHeld=>?_)
       case abI=>exact dL.out _ hqe
       clear hK K
       (try go_frame)
       refine HT.xG (by kernel_rfl) (fun K hK=>?_)
       have hbs:=ak hqe wF.out
       obtain ⟨⟨p0,p1,p2,p3,p4⟩,y0,y1,y2,y3,y4⟩:=five hbs
       have hend:=Az Ah (by rw [Lh.out];omega) (by rw [List.append_assoc];exact xU.out) Ll.out (pF.out.stay hqe) hbs (ak hqe wG.out) (ak hqe Di.out) lT (gY.out.trans hqe) eX hzz (Nat.le_trans Lm hqe.size)
       have wQ:=hid hend
       clear hend
       go_simp
       refine hK.out _ _ ?_
       clear hK K
       (try go_frame)
       refine HT.done (by kernel_rfl) ?_ _
       go_wp2_with fail
       go_roundw
       case rel=>exact ⟨i+1,_,_,by go_num,rfl,wQ.out⟩
       case measure=>simp [intOf];omega
      exact HT.aU.nil
     ·have hlt':¬ (i:Int) < l2:=by omega
      have hi2:l2=i:=by omega
      subst hi2
      have hd:vs.drop l2=[]:=List.drop_eq_nil_of_le (by rw [Lh.out];exact Nat.le_refl _)
      rw [hd] at hf1 hf2
      have hns:ns=lf.1:=by rw [<-hf1];show ns=ns++[];simp
      have hdl:di=lf.2:=hf2
      clear hf1 hf2 hd
      obtain ⟨lf1,lf2⟩:=lf
      dsimp only at hns hdl
      subst hns hdl
      obtain ⟨hpt,hpc⟩:=vN.out.at (R:=R) hzz (by unfold maxLen;omega)
      have hnl:=vN.out.len
      have Vy:=hid hpt
      have ZK:=hid (Aw Jg.out)
      clear hpt
      have hl2:3<=l2:=by rw [HS2.out.1];exact Vw.out.2.2.2.2.2.1 HK.out
      obtain ⟨b9,aH,u,qu,_,_,_,_,_,_,rfl,_,gu,_,cu,_,_⟩:=HS2.out.nth (i:=0) (by omega)
      have Ut:aX ps 0=(u.fr,u.en):=by unfold aX;rw [gu]
      obtain ⟨_,_,_,_,_,_,_,u7,u8⟩:=cu
      (try simp only [Nat.zero_mul,Nat.add_zero] at u7 u8)
      obtain ⟨b9x,Uu,v,qv,_,_,_,_,_,_,e9x,_,gv,_,cv,_,_⟩:=HS2.out.nth (i:=1) (by omega)
      obtain ⟨rfl,rfl⟩:b9=b9x/\aH=Uu:=by cases e9x;exact ⟨rfl,rfl⟩
      have hsp1:aX ps 1=(v.fr,v.en):=by unfold aX;rw [gv]
      obtain ⟨_,_,_,_,_,_,_,v7,v8⟩:=cv
      (try simp only [Nat.one_mul] at v7 v8)
      obtain ⟨b9x,Uu,x,qx,_,_,_,_,_,_,e9x,_,gx,_,cx,_,_⟩:=HS2.out.nth (i:=2) (by omega)
      obtain ⟨rfl,rfl⟩:b9=b9x/\aH=Uu:=by cases e9x;exact ⟨rfl,rfl⟩
      have hsp2:aX ps 2=(x.fr,x.en):=by unfold aX;rw [gx]
      obtain ⟨_,_,_,_,_,_,_,x7,x8⟩:=cx
      (try simp only [Nat.zero_mul,Nat.one_mul,Nat.add_zero] at x7 x8)
      obtain ⟨gp,n0,Us,n0c,rfl,Ya,Yb,n01,n02⟩:=Vy.out.get (i:=0) (by rw [List.length_map,hnl];omega)
      obtain ⟨gp1,n1,n1o,n1c,eg,n1t,n10,n11,n12⟩:=Vy.out.get (i:=1) (by rw [List.length_map,hnl];omega)
      obtain rfl:gp=gp1:=by cases eg;rfl
      obtain ⟨gp2,n2,n2o,n2c,eg,n2t,n20,n21,n22⟩:=Vy.out.get (i:=2) (by rw [List.length_map,hnl];omega)
      obtain rfl:gp=gp2:=by cases eg;rfl
      obtain ⟨dA,hdA⟩:∃ dA,(dK most (tv n0) (3,0,.nil) u.fr u.en di).2=dA:=⟨_,rfl⟩
      obtain ⟨dB,hdB⟩:∃ dB,(dK most (tv d.next) (tv n1) v.fr v.en dA).2=dB:=⟨_,rfl⟩
      have HA:=hid hdA
      have uZ:=hid hdB
      have QK:Hid ((dK most (tv d.next) (tv n2) x.fr x.en dB).2=fin):=by show _=_;rw [<-HF3.out,<-hdB,<-hdA,Ut,hsp1,hsp2,<-Ya,<-n1t,<-n2t]
      have Hu7:=hid u7
      have Hu8:=hid u8
      have Hv7:=hid v7
      have Hv8:=hid v8
      have Hx7:=hid x7
      have Hx8:=hid x8
      have hi0:(0:Int) < l2:=by omega
      have hj0:0 < l2:=by omega
      have hi1:(1:Int) < l2:=by omega
      have hj1:1 < l2:=by omega
      have hi2:(2:Int) < l2:=by omega
      have hj2:2 < l2:=by omega
      have Hn0:=hid (And.intro Yb (And.intro n01 n02))
      have Hn1:=hid (And.intro n10 (And.intro n11 n12))
      have Hn2:=hid (And.intro n20 (And.intro n21 n22))
      clear Ya n1t n2t hdA hdB Ut hsp1 hsp2 gu gv gx u7 u8 v7 v8 x7 x8 Yb n01 n02 n10 n11 n12 n20 n21 n22
      have hzp:=hzx
      have dL:Hid (∀ W',ah wx W'->(fun (W':World)=>(W'.cell? ⟨B,0,none⟩=some (.slice rC rD rE)/\W'.cell? ⟨B,1,none⟩=some (.int .i64 di.next)/\W'.cell? ⟨B,2,none⟩=some (.int .i64 most)/\W'.cell? ⟨B,3,none⟩=some (.slice uU uV uX)/\W'.cell? ⟨B,4,none⟩=some (.int .i64 qN))/\(W'.cell? ⟨B+1,0,none⟩=some (.int .i64 h.k)/\W'.cell? ⟨B+1,1,none⟩=some (.string h.nm)/\W'.cell? ⟨B+1,2,none⟩=some (.int .i64 h.n)/\W'.cell? ⟨B+1,3,none⟩=some (.int .i64 h.tk)/\W'.cell? ⟨B+1,4,none⟩=some (.int .i64 h.tn)/\W'.cell? ⟨B+1,5,none⟩=some (.slice o1 l1 c1)/\W'.cell? ⟨B+1,6,none⟩=some (.slice (some ⟨b9,aH,none⟩) l2 c2)/\W'.cell? ⟨B+1,7,none⟩=some (.int .i64 h.fr)/\W'.cell? ⟨B+1,8,none⟩=some (.int .i64 h.en))/\(W'.cell? ⟨gp,0,none⟩=some (.int .i64 1)/\W'.cell? ⟨gp,1,none⟩=some (.int .i64 n0)/\W'.cell? ⟨gp,2,none⟩=some (.slice Us 0 n0c))/\(W'.cell? ⟨b9,aH+7,none⟩=some (.int .i64 u.fr)/\W'.cell? ⟨b9,aH+8,none⟩=some (.int .i64 u.en))) W'):=fun W' hq=>by
       obtain ⟨k,_⟩:=five (ak hq oZ.out)
       exact ⟨k,aA (ak hq pq.out),⟨hq.at Hn0.out.1,hq.at Hn0.out.2.1,hq.at Hn0.out.2.2⟩,⟨(qM.out.trans hq).at Hu7.out,(qM.out.trans hq).at Hu8.out⟩⟩
      have gX:Hid (∀ W',ah wx W'->Calls Tryz.prog 58 #[gZ rC rD rE di.next most uU uV uX qN,.agg #[.int .i64 1,.int .i64 n0,.slice Us 0 n0c],.agg #[.int .i64 3,.int .i64 0,.slice none 0 0],.agg #[.int .i64 u.fr,.int .i64 u.en]] W' (sH (RB R B) W' most dA)):=fun W' hq=>by
       have k:=add_any (o1:=Us) (l1:=0) (c1:=n0c) (o2:=none) (l2:=0) (c2:=0) qN (ZK.out.stay hq) hm (tv n0) ((3,0,.nil)) u.fr u.en (aC.nil _ _ _) (aC.nil _ _ _) (Nat.le_of_ble_eq_true rfl) (Nat.le_of_ble_eq_true rfl)
       rw [HA.out] at k
       exact k
      unfold gZ at gX
      have GY:¬ gp=B:=by have:=vN.out.low gp rfl;omega
      go_upto_region 47 with fail
      clear p0 p1 p2 p3 p4 a0 a1 a2 a3 a4 a5 a6 a7 a8
      go_cut [] from 221 to 231 (fun wy=>Zw R W B dA most h o1 l1 c1 (some ⟨b9,aH,none⟩) l2 c2 wy/\Fr (fun k=>k=B) wx wy)
      case first =>
       refine bZ 11 dL.out (by kernel_rfl) (fun hHeld=>?_)
       (try dsimp only at hHeld)
       have gI:=ah.drew wx
       generalize wx.drew=wd at gI hHeld ⊢
       refine HT.tk 0 rfl ?_
       go_frame
       refine HT.tk 1 rfl ?_
       go_frame
       refine HT.tk 2 rfl ?_
       go_frame
       refine HT.tk 3 rfl ?_
       go_frame
       refine HT.tk 4 rfl ?_
       go_frame
       refine HT.tk 5 rfl ?_
       go_frame
       refine HT.tk 6 rfl ?_
       go_frame
       refine HT.tk 7 rfl ?_
       go_frame
       refine HT.tk 8 rfl ?_
       go_frame
       refine HT.tk 9 rfl ?_
       go_frame
       refine HT.branch (rs:=[10]) (by kernel_rfl) (by simp) ?_
       refine HT.KW (fun K hK=>?_) ?_
       ·go_simp
        go_at_call 58
        with_reducible refine Calls.mono (gX.out _ gI) ?_
        rintro e wv1 ⟨lo3,iP,iQ,iR,iU,iV,iy,rfl,hk3,pz⟩
        have lT:=iO hk3 (Nat.lt_of_lt_of_le hzp gI.size)
        have fA:=gI.trans pz
        unfold gZ
        refine hK.out _ _ ?abJ (fun hHeld=>?_)
        case abJ=>exact dL.out _ fA
        clear hK K
        (try go_frame)
        refine HT.CX (by kernel_rfl) (fun K hK=>?_)
        have hbs:=ak fA oZ.out
        obtain ⟨⟨p0,p1,p2,p3,p4⟩,y0,y1,y2,y3,y4⟩:=five hbs
        have hend:=jX iy hbs (ak fA pq.out) (ak fA uo.out) lT (qM.out.trans fA) eX
        go_simp
        refine hK.out _ _ ?_
        clear hK K
        (try go_frame)
        refine HT.done (by kernel_rfl) ?_ _
        go_wp2_with fail
        go_meet
        exact ⟨hend,(Fr.mono fA (fun _ _ h=>h.elim)).trans (eP _ _ _ _ _ _ _)⟩
       exact HT.aU.nil
      case rest =>
       rename World=>QL
       obtain ⟨⟨lo7,ln7,lc7,oo7,on7,oc7,in7,hb0,kF,hb2,hk7,hq7⟩,DT⟩:=hcut
       have Xc:=hid hb0
       have Xd:=hid kF
       have ZO:=hid hb2
       have HK7:=hid hk7
       have Qy:=hid hq7
       clear hzp
       have hzp:B+1+1 < QL.heap.size:=lt_of_block hb2
       clear hb0 kF hb2 hk7 hq7
       have Uw:=hid (And.intro ((DT.bG (World.block_lt_of_cell? _ _ Hn1.out.1) GY).trans Hn1.out.1) (And.intro ((DT.bG (World.block_lt_of_cell? _ _ Hn1.out.2.1) GY).trans Hn1.out.2.1) ((DT.bG (World.block_lt_of_cell? _ _ Hn1.out.2.2) GY).trans Hn1.out.2.2)))
       have Fa:=hid (And.intro ((DT.bG (World.block_lt_of_cell? _ _ Hn2.out.1) GY).trans Hn2.out.1) (And.intro ((DT.bG (World.block_lt_of_cell? _ _ Hn2.out.2.1) GY).trans Hn2.out.2.1) ((DT.bG (World.block_lt_of_cell? _ _ Hn2.out.2.2) GY).trans Hn2.out.2.2)))
       clear DT gX
       have Lp:Hid (∀ W',ah QL W'->(fun (W':World)=>(W'.cell? ⟨B,0,none⟩=some (.slice lo7 ln7 lc7)/\W'.cell? ⟨B,1,none⟩=some (.int .i64 dA.next)/\W'.cell? ⟨B,2,none⟩=some (.int .i64 most)/\W'.cell? ⟨B,3,none⟩=some (.slice oo7 on7 oc7)/\W'.cell? ⟨B,4,none⟩=some (.int .i64 in7))/\(W'.cell? ⟨B+1,0,none⟩=some (.int .i64 h.k)/\W'.cell? ⟨B+1,1,none⟩=some (.string h.nm)/\W'.cell? ⟨B+1,2,none⟩=some (.int .i64 h.n)/\W'.cell? ⟨B+1,3,none⟩=some (.int .i64 h.tk)/\W'.cell? ⟨B+1,4,none⟩=some (.int .i64 h.tn)/\W'.cell? ⟨B+1,5,none⟩=some (.slice o1 l1 c1)/\W'.cell? ⟨B+1,6,none⟩=some (.slice (some ⟨b9,aH,none⟩) l2 c2)/\W'.cell? ⟨B+1,7,none⟩=some (.int .i64 h.fr)/\W'.cell? ⟨B+1,8,none⟩=some (.int .i64 h.en))/\(W'.cell? ⟨gp,3,none⟩=some (.int .i64 1)/\W'.cell? ⟨gp,4,none⟩=some (.int .i64 n1)/\W'.cell? ⟨gp,5,none⟩=some (.slice n1o 0 n1c))/\(W'.cell? ⟨b9,aH+16,none⟩=some (.int .i64 v.fr)/\W'.cell? ⟨b9,aH+17,none⟩=some (.int .i64 v.en))) W'):=fun W' hq=>by
        obtain ⟨k,_⟩:=five (ak hq Xc.out)
        exact ⟨k,aA (ak hq Xd.out),⟨hq.at Uw.out.1,hq.at Uw.out.2.1,hq.at Uw.out.2.2⟩,⟨(Qy.out.trans hq).at Hv7.out,(Qy.out.trans hq).at Hv8.out⟩⟩
       have gX:Hid (∀ W',ah QL W'->Calls Tryz.prog 58 #[gZ lo7 ln7 lc7 dA.next most oo7 on7 oc7 in7,.agg #[.int .i64 1,.int .i64 d.next,.slice none 0 0],.agg #[.int .i64 1,.int .i64 n1,.slice n1o 0 n1c],.agg #[.int .i64 v.fr,.int .i64 v.en]] W' (sH (RB R B) W' most dB)):=fun W' hq=>by
        have k:=add_any (o1:=none) (l1:=0) (c1:=0) (o2:=n1o) (l2:=0) (c2:=n1c) in7 (HK7.out.stay hq) hm (tv d.next) (tv n1) v.fr v.en (aC.nil _ _ _) (aC.nil _ _ _) (Nat.le_of_ble_eq_true rfl) (Nat.le_of_ble_eq_true rfl)
        rw [uZ.out] at k
        exact k
       unfold gZ at gX
       go_upto_region 48 with fail
       go_cut [] from 232 to 243 (fun wy=>Zw R W B dB most h o1 l1 c1 (some ⟨b9,aH,none⟩) l2 c2 wy/\Fr (fun k=>k=B) QL wy)
       case first =>
        refine bZ 12 Lp.out (by kernel_rfl) (fun hHeld=>?_)
        (try dsimp only at hHeld)
        have gI:=ah.drew QL
        generalize QL.drew=wd at gI hHeld ⊢
        refine HT.tk 0 rfl ?_
        go_frame
        refine HT.tk 1 rfl ?_
        go_frame
        refine HT.tk 3 rfl ?_
        go_frame
        refine HT.tk 4 rfl ?_
        go_frame
        refine HT.tk 5 rfl ?_
        go_frame
        refine HT.tk 6 rfl ?_
        go_frame
        refine HT.tk 7 rfl ?_
        go_frame
        refine HT.tk 8 rfl ?_
        go_frame
        refine HT.tk 9 rfl ?_
        go_frame
        refine HT.tk 10 rfl ?_
        go_frame
        refine HT.branch (rs:=[2]) (by kernel_rfl) (by simp) ?_
        refine HT.rU (fun K hK=>?_) ?_
        ·go_simp
         go_at_call 59
         with_reducible refine Calls.mono (gy _ _) ?_
         rintro e wv1 ⟨rfl,pz⟩
         have fA:=gI.trans pz
         refine hK.out _ _ ?abK (fun hHeld=>?_)
         case abK=>exact Lp.out _ fA
         clear hK K
         (try go_frame)
         refine HT.branch (rs:=[11]) (by kernel_rfl) (by simp) ?_
         refine HT.Gv (fun K hK=>?_) ?_
         ·go_simp
          go_at_call 58
          with_reducible refine Calls.mono (gX.out _ fA) ?_
          rintro e wv2 ⟨lo3,iP,iQ,iR,iU,iV,iy,rfl,hk3,rG⟩
          have lT:=iO hk3 (Nat.lt_of_lt_of_le hzp fA.size)
          have fZ:=fA.trans rG
          unfold gZ
          refine hK.out _ _ ?abL (fun hHeld=>?_)
          case abL=>exact Lp.out _ fZ
          clear hK K
          (try go_frame)
          refine HT.KX (by kernel_rfl) (fun K hK=>?_)
          have hbs:=ak fZ Xc.out
          obtain ⟨⟨p0,p1,p2,p3,p4⟩,y0,y1,y2,y3,y4⟩:=five hbs
          have hend:=jX iy hbs (ak fZ Xd.out) (ak fZ ZO.out) lT (Qy.out.trans fZ) eX
          go_simp
          refine hK.out _ _ ?_
          clear hK K
          (try go_frame)
          refine HT.done (by kernel_rfl) ?_ _
          go_wp2_with fail
          go_meet
          exact ⟨hend,(Fr.mono fZ (fun _ _ h=>h.elim)).trans (eP _ _ _ _ _ _ _)⟩
         exact HT.aU.nil
        exact HT.aU.nil
       case rest =>
        rename World=>wq8
        obtain ⟨⟨lo8,ln8,lc8,oo8,on8,oc8,in8,hb0,kF,hb2,hk8,hq8⟩,DT⟩:=hcut
        have ac3:=hid hb0
        have ac4:=hid kF
        have ac5:=hid hb2
        have HK8:=hid hk8
        have Pg:=hid hq8
        clear hzp
        have hzp:B+1+1 < wq8.heap.size:=lt_of_block hb2
        clear hb0 kF hb2 hk8 hq8
        have Ux:=hid (And.intro ((DT.bG (World.block_lt_of_cell? _ _ Fa.out.1) GY).trans Fa.out.1) (And.intro ((DT.bG (World.block_lt_of_cell? _ _ Fa.out.2.1) GY).trans Fa.out.2.1) ((DT.bG (World.block_lt_of_cell? _ _ Fa.out.2.2) GY).trans Fa.out.2.2)))
        clear DT gX
        have ZP:Hid (∀ W',ah wq8 W'->(fun (W':World)=>(W'.cell? ⟨B,0,none⟩=some (.slice lo8 ln8 lc8)/\W'.cell? ⟨B,1,none⟩=some (.int .i64 dB.next)/\W'.cell? ⟨B,2,none⟩=some (.int .i64 most)/\W'.cell? ⟨B,3,none⟩=some (.slice oo8 on8 oc8)/\W'.cell? ⟨B,4,none⟩=some (.int .i64 in8))/\(W'.cell? ⟨B+1,0,none⟩=some (.int .i64 h.k)/\W'.cell? ⟨B+1,1,none⟩=some (.string h.nm)/\W'.cell? ⟨B+1,2,none⟩=some (.int .i64 h.n)/\W'.cell? ⟨B+1,3,none⟩=some (.int .i64 h.tk)/\W'.cell? ⟨B+1,4,none⟩=some (.int .i64 h.tn)/\W'.cell? ⟨B+1,5,none⟩=some (.slice o1 l1 c1)/\W'.cell? ⟨B+1,6,none⟩=some (.slice (some ⟨b9,aH,none⟩) l2 c2)/\W'.cell? ⟨B+1,7,none⟩=some (.int .i64 h.fr)/\W'.cell? ⟨B+1,8,none⟩=some (.int .i64 h.en))/\(W'.cell? ⟨gp,6,none⟩=some (.int .i64 1)/\W'.cell? ⟨gp,7,none⟩=some (.int .i64 n2)/\W'.cell? ⟨gp,8,none⟩=some (.slice n2o 0 n2c))/\(W'.cell? ⟨b9,aH+25,none⟩=some (.int .i64 x.fr)/\W'.cell? ⟨b9,aH+26,none⟩=some (.int .i64 x.en))) W'):=fun W' hq=>by
         obtain ⟨k,_⟩:=five (ak hq ac3.out)
         exact ⟨k,aA (ak hq ac4.out),⟨hq.at Ux.out.1,hq.at Ux.out.2.1,hq.at Ux.out.2.2⟩,⟨(Pg.out.trans hq).at Hx7.out,(Pg.out.trans hq).at Hx8.out⟩⟩
        have gX:Hid (∀ W',ah wq8 W'->Calls Tryz.prog 58 #[gZ lo8 ln8 lc8 dB.next most oo8 on8 oc8 in8,.agg #[.int .i64 1,.int .i64 d.next,.slice none 0 0],.agg #[.int .i64 1,.int .i64 n2,.slice n2o 0 n2c],.agg #[.int .i64 x.fr,.int .i64 x.en]] W' (sH (RB R B) W' most fin)):=fun W' hq=>by
         have k:=add_any (o1:=none) (l1:=0) (c1:=0) (o2:=n2o) (l2:=0) (c2:=n2c) in8 (HK8.out.stay hq) hm (tv d.next) (tv n2) x.fr x.en (aC.nil _ _ _) (aC.nil _ _ _) (Nat.le_of_ble_eq_true rfl) (Nat.le_of_ble_eq_true rfl)
         rw [QK.out] at k
         exact k
        unfold gZ at gX
        go_upto_region 49 with fail
        refine bZ 12 ZP.out (by kernel_rfl) (fun hHeld=>?_)
        (try dsimp only at hHeld)
        have gI:=ah.drew wq8
        generalize wq8.drew=wd at gI hHeld ⊢
        refine HT.tk 0 rfl ?_
        go_frame
        refine HT.tk 1 rfl ?_
        go_frame
        refine HT.tk 3 rfl ?_
        go_frame
        refine HT.tk 4 rfl ?_
        go_frame
        refine HT.tk 5 rfl ?_
        go_frame
        refine HT.tk 6 rfl ?_
        go_frame
        refine HT.tk 7 rfl ?_
        go_frame
        refine HT.tk 8 rfl ?_
        go_frame
        refine HT.tk 9 rfl ?_
        go_frame
        refine HT.tk 10 rfl ?_
        go_frame
        refine HT.branch (rs:=[2]) (by kernel_rfl) (by simp) ?_
        refine HT.rU (fun K hK=>?_) ?_
        ·go_simp
         go_at_call 59
         with_reducible refine Calls.mono (gy _ _) ?_
         rintro e wv1 ⟨rfl,pz⟩
         have fA:=gI.trans pz
         refine hK.out _ _ ?abM (fun hHeld=>?_)
         case abM=>exact ZP.out _ fA
         clear hK K
         (try go_frame)
         refine HT.branch (rs:=[11]) (by kernel_rfl) (by simp) ?_
         refine HT.Gv (fun K hK=>?_) ?_
         ·go_simp
          go_at_call 58
          with_reducible refine Calls.mono (gX.out _ fA) ?_
          rintro e wv2 ⟨lo3,iP,iQ,iR,iU,iV,iy,rfl,hk3,rG⟩
          have lT:=iO hk3 (Nat.lt_of_lt_of_le hzp fA.size)
          have fZ:=fA.trans rG
          unfold gZ
          refine hK.out _ _ ?abN (fun hHeld=>?_)
          case abN=>exact ZP.out _ fZ
          clear hK K
          (try go_frame)
          refine HT.KX (by kernel_rfl) (fun K hK=>?_)
          have hbs:=ak fZ ac5.out
          obtain ⟨⟨z0,z1,z2,z3,z4⟩,y0,y1,y2,y3,y4⟩:=five hbs
          have dN:=Pg.out.trans fZ
          go_simp
          refine hK.out _ _ ?_
          clear hK K
          (try go_frame)
          refine HT.done (by kernel_rfl) ?_ _
          clear z0 z1 z2 z3 z4 y0 y1 y2 y3 y4
          generalize Ag:bodyPost Tryz.prog Tryz.f37 (sH R W most fin)=BP at *
          go_wp2_with fail
          rw [<-Ag]
          have hf:=eP wv2 (B+1+1) (.slice lo3 iP iQ) (.int .i64 fin.next) (.int .i64 most) (.slice iR iU iV) (.int .i64 iy)
          obtain ⟨⟨f0,f1,f2,f3,f4⟩,_⟩:=five (bQ (a:=(.slice lo3 iP iQ)) (b:=(.int .i64 fin.next)) (c:=(.int .i64 most)) (d:=(.slice iR iU iV)) (e:=(.int .i64 iy)) hbs)
          change bodyPost _ _ _ _ _ (iK wv2 (B+1+1) (.slice lo3 iP iQ) (.int .i64 fin.next) (.int .i64 most) (.slice iR iU iV) (.int .i64 iy))
          have hend:=mD lT dN hf eX
          generalize iK wv2 (B+1+1) (.slice lo3 iP iQ) (.int .i64 fin.next) (.int .i64 most) (.slice iR iU iV) (.int .i64 iy)=wf at *
          refine bodyPost_ret (by simp [results,Tryz.results37,go_sem,f0,f1,f2,f3,f4]<;>rfl) rfl ?_
          exact ⟨lo3,iP,iQ,iR,iU,iV,iy,by (first | rfl | (rw [HF2.out]<;>rfl)),by (first | exact hend.1 | (rw [HF2.out];exact hend.1)),hend.2⟩
         exact HT.aU.nil
        exact HT.aU.nil
   ·have t2:(h.k == 2)=false:=by rw [hk];rfl
    have t3:(h.k == 3)=false:=by rw [hk];rfl
    have t1:(h.k == 1)=false:=by rw [hk];rfl
    have t4:(h.k == 4)=false:=by rw [hk];rfl
    have t6:(h.k == 6)=false:=by rw [hk];rfl
    have t7:(h.k == 7)=false:=by rw [hk];rfl
    have t5:(h.k == 5)=false:=by rw [hk];rfl
    have t8:(h.k == 8)=false:=by rw [hk];rfl
    have t9:(h.k == 9)=true:=by rw [hk];rfl
    have HK:=hid hk
    clear hk
    obtain ⟨lf,hlf⟩:∃ lf,dmap (kY most ev) (dD most ps) d1=lf:=⟨_,rfl⟩
    have hre:(dK most (tv d.next) (5,0,oL (lf.1.map tv)) h.fr h.en lf.2).2=fin:=by
     rw [<-bJ.out,jc QJ.out,<-HD1.out]
     unfold kP
     rw [if_neg (by rw [HK.out];decide),if_neg (by rw [HK.out];decide),if_neg (by rw [HK.out];decide),if_neg (by rw [HK.out];decide),if_neg (by rw [HK.out];decide)]
     show _=((fH (dmap (kY most ev) (dD most ps)) _) d1).2
     unfold fH
     rw [hlf]
     dsimp only
     rw [if_neg (by rw [HK.out];decide),if_neg (by rw [HK.out];decide),if_pos HK.out]
     rfl
    have Le:Hid (lf.2.next<=1000000):=by show _<=_;have k:=MZ.out;rw [bJ.out,<-hre] at k;simpa only [jJ] using k
    have HF3:=hid hre
    have HF2:Hid (fin=fin):=rfl
    clear hre
    have HLF:=hid hlf
    have hzz:B+1+1 < wr.heap.size:=X7
    obtain ⟨vs,hvs⟩:∃ vs,dD most ps=vs:=⟨_,rfl⟩
    have Ur:=hid hvs
    have Lh:Hid (vs.length=l2):=by show _=_;rw [<-hvs,lN,HS2.out.1]
    have HST:Hid (X6 R W B wr.heap.size most h o1 l1 c1 o2 l2 c2 (kY most ev) vs lf (.slice none 0 0) (.int .i64 0) wr):=by
     refine ⟨0,none,0,rfl,rfl,d1,[],[],lo,ln,lc,AA,DK,yF,inn,Nat.zero_le _,?_,?_,PR.nil _ _,HR0.out,O5.out,HR2.out,Au Dc.out,zV.out,Nat.le_refl _⟩
     ·rw [List.drop_zero,<-hvs,hlf];rfl
     ·rw [List.drop_zero,<-hvs,hlf]
    obtain ⟨zz,Dh⟩:∃ zz,wr.heap.size=zz:=⟨_,rfl⟩
    rw [Dh] at HST hzz
    clear hvs hlf Dh
    go_wp2_with fail
    clear p0 p1 p2 p3 p4 a0 a1 a2 a3 a4 a5 a6 a7 a8
    go_loopw [14,15] (fun p t wx=>X6 R W B zz most h o1 l1 c1 o2 l2 c2 (kY most ev) vs lf p t wx) (fun _ t _=>l2 - (intOf t).toNat)
    case atStart=>exact HST.out
    case round =>
     clear HST
     rename World=>wx
     obtain ⟨i,po,pc,rfl,rfl,di,ns,xs,rC,rD,rE,uU,uV,uX,qN,hiv,hf1,hf2,hpr,hb0,kF,hb2,hk5,hq5,hzw⟩:=hrel
     have hil:i<=l2:=by rw [<-Lh.out];exact hiv
     have oZ:=hid hb0
     have pq:=hid kF
     have uo:=hid hb2
     have Jg:=hid hk5
     have qM:=hid hq5
     have vN:=hid hpr
     have hzx:B+1+1 < wx.heap.size:=lt_of_block hb2
     clear hb0 kF hb2 hk5 hq5 hpr hiv
     obtain ⟨⟨p0,p1,p2,p3,p4⟩,_⟩:=five oZ.out
     obtain ⟨a0,a1,a2,a3,a4,a5,a6,a7,a8⟩:=aA pq.out
     by_cases hlt:i < l2
     ·have hlt':(i:Int) < l2:=by omega
      obtain ⟨b9,aH,u,qu,kS,kT,d1u,kU,kV,kW,rfl,_,gu,ru,cu,su,tu⟩:=HS2.out.nth hlt
      have vO:=hid cu
      have Ld:=hid su
      have H9:=hid tu
      have hou:=lG ps i u qu nX.out gu
      have Lj:en+qu.size<=100000:=by have:=To.bV ps i u qu gu;have:=WZ.out;omega
      have hmd:=qL (kY most ev) vs i _ di (show vs[i]?=some (dP most u qu) by rw [<-Ur.out];exact nZ most ps i u qu gu)
      rw [hmd] at hf1 hf2
      have hnr:(dP most u qu (kY most ev) di).2.next<=lf.2.next:=by
       rw [<-hf2]
       exact uD (mJ most ev) (us:=vs.drop (i+1)) (fun v hv=>by rw [<-Ur.out] at hv;exact ng most ps v (List.mem_of_mem_drop hv)) _
      obtain ⟨rt,hrt⟩:∃ rt,dP most u qu (kY most ev) di=rt:=⟨_,rfl⟩
      have hr1:rt.1=di.next:=by rw [<-hrt];exact kQ _ _ _ _ _
      rw [hrt] at hf1 hf2 hnr
      rw [hr1] at hf1
      have OA:=hid (IH.out i u qu gu)
      have yh:=hid hrt
      have PW:Hid (rt.2.next<=1000000):=Nat.le_trans hnr Le.out
      have xU:=hid hf1
      have Ll:=hid hf2
      clear hf1 hf2 hrt hr1 hnr hmd cu su tu gu ru
      go_wp2_with fail
      refine (gy _ _).mono ?_;rintro x w2 ⟨rfl,hq2⟩
      have dO:=hid hq2
      clear hq2 p0 p1 p2 p3 p4 a0 a1 a2 a3 a4 a5 a6 a7 a8
      go_wp2_with (at_builtin;go_must (refine aP w2 rfl (.tmp 188) (.tmp 192) 22 rfl 24 _ 3 40 elemTy (.slice po i pc) i xs rfl (vN.out.stay dO.out).own #[.int .i64 1,.int .i64 di.next,.slice none 0 0] rfl rfl ?c1 (by unfold maxLen;omega) (by omega) ?_);(case c1=>simp [Value.oneCell']))
      intro g4 c4 w4 kX hf4 hg4
      have hlow:∀ k,(Value.slice po i pc).ownBlock=some k->zz<=k:=vN.out.low
      have pF:=hid ((vN.out.stay dO.out).snoc (o':=none) (c1:=0) (di.next) kX (Nat.le_trans hzw dO.out.size) hg4)
      have ZJ:=hid (xP (Jg.out.stay dO.out) hf4 hg4 (n:=i+1) (c:=c4))
      have wF:=hid (ay hf4 (fun e=>by have:=hlow _ e;omega) (ak dO.out oZ.out))
      have wG:=hid (ay hf4 (fun e=>by have:=hlow _ e;omega) (ak dO.out pq.out))
      have Di:=hid (ay hf4 (fun e=>by have:=hlow _ e;omega) (ak dO.out uo.out))
      have gY:Hid (ah W w4):=Fr.trans' (qM.out.trans dO.out) hf4 (fun j hj e=>by have:=hlow j e;omega)
      have Ov:B+1+1 < w4.heap.size:=lt_of_block Di.out
      have Lm:zz<=w4.heap.size:=Nat.le_trans hzw (Nat.le_trans dO.out.size hf4.size)
      clear kX hf4 hg4 hlow
      have xO:Hid (∀ W',ah w4 W'->Calls Tryz.prog 37 #[gZ rC rD rE di.next most uU uV uX qN,bC u kS kT d1u kU kV kW,.slice eo en ec] W' (sH (Gy R B (.slice (some ⟨g4,0,none⟩) (i+1) c4)) W' most rt.2)):=fun W' hq=>by
       have hq':=gY.out.trans hq
       have k:=OA.out (Gy R B (.slice (some ⟨g4,0,none⟩) (i+1) c4)) W' di qN rC rD rE uU uV uX kS kT d1u kU kV kW eo en ec ev (ZJ.out.stay hq) (Ld.out.fr hq' (nG eX pF.out.low (by omega))) (H9.out.fr hq' (nG eX pF.out.low (by omega))) (JE.out.fr hq' (nG eX pF.out.low (by omega))) yj Lj JC.out hou.1 hou.2 (by rw [yh.out];exact PW.out)
       rw [yh.out] at k
       exact k
      unfold bC gZ at xO
      obtain ⟨⟨p0,p1,p2,p3,p4⟩,_⟩:=five wF.out
      obtain ⟨a0,a1,a2,a3,a4,a5,a6,a7,a8⟩:=aA wG.out
      go_upto_region 42 with fail
      clear p0 p1 p2 p3 p4 a0 a1 a2 a3 a4 a5 a6 a7 a8
      have dL:Hid (∀ W',ah w4 W'->(fun (W':World)=>(W'.cell? ⟨B,0,none⟩=some (.slice rC rD rE)/\W'.cell? ⟨B,1,none⟩=some (.int .i64 di.next)/\W'.cell? ⟨B,2,none⟩=some (.int .i64 most)/\W'.cell? ⟨B,3,none⟩=some (.slice uU uV uX)/\W'.cell? ⟨B,4,none⟩=some (.int .i64 qN))/\(W'.cell? ⟨B+1,0,none⟩=some (.int .i64 h.k)/\W'.cell? ⟨B+1,1,none⟩=some (.string h.nm)/\W'.cell? ⟨B+1,2,none⟩=some (.int .i64 h.n)/\W'.cell? ⟨B+1,3,none⟩=some (.int .i64 h.tk)/\W'.cell? ⟨B+1,4,none⟩=some (.int .i64 h.tn)/\W'.cell? ⟨B+1,5,none⟩=some (.slice o1 l1 c1)/\W'.cell? ⟨B+1,6,none⟩=some (.slice (some ⟨b9,aH,none⟩) l2 c2)/\W'.cell? ⟨B+1,7,none⟩=some (.int .i64 h.fr)/\W'.cell? ⟨B+1,8,none⟩=some (.int .i64 h.en))/\(W'.cell? ⟨b9,aH+i * 9,none⟩=some (.int .i64 u.k)/\W'.cell? ⟨b9,aH+i * 9+1,none⟩=some (.string u.nm)/\W'.cell? ⟨b9,aH+i * 9+2,none⟩=some (.int .i64 u.n)/\W'.cell? ⟨b9,aH+i * 9+3,none⟩=some (.int .i64 u.tk)/\W'.cell? ⟨b9,aH+i * 9+4,none⟩=some (.int .i64 u.tn)/\W'.cell? ⟨b9,aH+i * 9+5,none⟩=some (.slice kS kT d1u)/\W'.cell? ⟨b9,aH+i * 9+6,none⟩=some (.slice kU kV kW)/\W'.cell? ⟨b9,aH+i * 9+7,none⟩=some (.int .i64 u.fr)/\W'.cell? ⟨b9,aH+i * 9+8,none⟩=some (.int .i64 u.en))) W'):=fun W' hq=>by
       obtain ⟨k,_⟩:=five (ak hq wF.out)
       exact ⟨k,aA (ak hq wG.out),gW vO.out (gY.out.trans hq)⟩
      refine bZ 8 dL.out (by kernel_rfl) (fun hHeld=>?_)
      (try dsimp only at hHeld)
      have gI:=ah.drew w4
      generalize w4.drew=wd at *
      refine HT.tk 0 rfl ?_
      go_frame
      refine HT.tk 1 rfl ?_
      go_frame
      refine HT.tk 2 rfl ?_
      go_frame
      refine HT.tk 3 rfl ?_
      go_frame
      refine HT.tk 4 rfl ?_
      go_frame
      refine HT.tk 5 rfl ?_
      go_frame
      refine HT.tk 6 rfl ?_
      go_frame
      refine HT.branch (rs:=[7]) (by kernel_rfl) (by simp) ?_
      refine HT.jV (fun K hK=>?_) ?_
      ·go_simp
       go_at_call 37
       with_reducible refine Calls.mono (xO.out _ gI) ?_
       rintro e w9 ⟨QD,QE,QF,QG,QH,QI,Ah,rfl,hk9,qI⟩
       have lT:=xQ hk9 (Nat.lt_of_lt_of_le Ov gI.size) (fun k hk=>Nat.lt_of_lt_of_le (pF.out.lt k hk) gI.size)
       have hqe:=gI.trans qI
       unfold gZ
       refine hK.out _ _ ?abO (fun hHeld=>?_)
       case abO=>exact dL.out _ hqe
       clear hK K
       (try go_frame)
       refine HT.xG (by kernel_rfl) (fun K hK=>?_)
       have hbs:=ak hqe wF.out
       obtain ⟨⟨p0,p1,p2,p3,p4⟩,y0,y1,y2,y3,y4⟩:=five hbs
       have hend:=Az Ah (by rw [Lh.out];omega) (by rw [List.append_assoc];exact xU.out) Ll.out (pF.out.stay hqe) hbs (ak hqe wG.out) (ak hqe Di.out) lT (gY.out.trans hqe) eX hzz (Nat.le_trans Lm hqe.size)
       have wQ:=hid hend
       clear hend
       go_simp
       refine hK.out _ _ ?_
       clear hK K
       (try go_frame)
       refine HT.done (by kernel_rfl) ?_ _
       go_wp2_with fail
       go_roundw
       case rel=>exact ⟨i+1,_,_,by go_num,rfl,wQ.out⟩
       case measure=>simp [intOf];omega
      exact HT.aU.nil
     ·have hlt':¬ (i:Int) < l2:=by omega
      have hi2:l2=i:=by omega
      subst hi2
      have hd:vs.drop l2=[]:=List.drop_eq_nil_of_le (by rw [Lh.out];exact Nat.le_refl _)
      rw [hd] at hf1 hf2
      have hns:ns=lf.1:=by rw [<-hf1];show ns=ns++[];simp
      have hdl:di=lf.2:=hf2
      clear hf1 hf2 hd
      obtain ⟨lf1,lf2⟩:=lf
      dsimp only at hns hdl
      subst hns hdl
      obtain ⟨hpt,hpc⟩:=vN.out.at (R:=R) hzz (by unfold maxLen;omega)
      have hnl:=vN.out.len
      have Vy:=hid hpt
      have ZK:=hid (Aw Jg.out)
      clear hpt
      have hl2:0<=l2:=Nat.zero_le _
      have hzp:=hzx
      have HSL:Hid (aC (RB R B) wx po l2 (oL (ns.map tv))):=by have k:=Vy.out.slc;rw [List.length_map,hnl] at k;exact k
      have hsz:(oL (ns.map tv)).size<=100000:=by rw [E8];omega
      have dL:Hid (∀ W',ah wx W'->(fun (W':World)=>(W'.cell? ⟨B,0,none⟩=some (.slice rC rD rE)/\W'.cell? ⟨B,1,none⟩=some (.int .i64 di.next)/\W'.cell? ⟨B,2,none⟩=some (.int .i64 most)/\W'.cell? ⟨B,3,none⟩=some (.slice uU uV uX)/\W'.cell? ⟨B,4,none⟩=some (.int .i64 qN))/\(W'.cell? ⟨B+1,0,none⟩=some (.int .i64 h.k)/\W'.cell? ⟨B+1,1,none⟩=some (.string h.nm)/\W'.cell? ⟨B+1,2,none⟩=some (.int .i64 h.n)/\W'.cell? ⟨B+1,3,none⟩=some (.int .i64 h.tk)/\W'.cell? ⟨B+1,4,none⟩=some (.int .i64 h.tn)/\W'.cell? ⟨B+1,5,none⟩=some (.slice o1 l1 c1)/\W'.cell? ⟨B+1,6,none⟩=some (.slice o2 l2 c2)/\W'.cell? ⟨B+1,7,none⟩=some (.int .i64 h.fr)/\W'.cell? ⟨B+1,8,none⟩=some (.int .i64 h.en))) W'):=fun W' hq=>by
       obtain ⟨k,_⟩:=five (ak hq oZ.out)
       exact ⟨k,aA (ak hq pq.out)⟩
      have gX:Hid (∀ W',ah wx W'->Calls Tryz.prog 58 #[gZ rC rD rE di.next most uU uV uX qN,.agg #[.int .i64 1,.int .i64 d.next,.slice none 0 0],.agg #[.int .i64 5,.int .i64 0,.slice po l2 pc],.agg #[.int .i64 h.fr,.int .i64 h.en]] W' (sH (RB R B) W' most fin)):=fun W' hq=>by
       have k:=add_any (o1:=none) (l1:=0) (c1:=0) (o2:=po) (l2:=l2) (c2:=pc) qN (ZK.out.stay hq) hm (tv d.next) ((5,0,oL (ns.map tv))) h.fr h.en (aC.nil _ _ _) (HSL.out.stay hq) (Nat.le_of_ble_eq_true rfl) hsz
       rw [HF3.out] at k
       exact k
      unfold gZ at gX
      go_upto_region 51 with fail
      clear p0 p1 p2 p3 p4 a0 a1 a2 a3 a4 a5 a6 a7 a8
      refine bZ 8 dL.out (by kernel_rfl) (fun hHeld=>?_)
      (try dsimp only at hHeld)
      have gI:=ah.drew wx
      generalize wx.drew=wd at gI hHeld ⊢
      refine HT.tk 0 rfl ?_
      go_frame
      refine HT.tk 1 rfl ?_
      go_frame
      refine HT.tk 3 rfl ?_
      go_frame
      refine HT.tk 4 rfl ?_
      go_frame
      refine HT.tk 5 rfl ?_
      go_frame
      refine HT.tk 6 rfl ?_
      go_frame
      refine HT.branch (rs:=[2]) (by kernel_rfl) (by simp) ?_
      refine HT.rU (fun K hK=>?_) ?_
      ·go_simp
       go_at_call 59
       with_reducible refine Calls.mono (gy _ _) ?_
       rintro e wv1 ⟨rfl,pz⟩
       have fA:=gI.trans pz
       refine hK.out _ _ ?abP (fun hHeld=>?_)
       case abP=>exact dL.out _ fA
       clear hK K
       (try go_frame)
       refine HT.branch (rs:=[7]) (by kernel_rfl) (by simp) ?_
       refine HT.jV (fun K hK=>?_) ?_
       ·go_simp
        go_at_call 58
        with_reducible refine Calls.mono (gX.out _ fA) ?_
        rintro e wv2 ⟨lo3,iP,iQ,iR,iU,iV,iy,rfl,hk3,rG⟩
        have lT:=iO hk3 (Nat.lt_of_lt_of_le hzp fA.size)
        have fZ:=fA.trans rG
        unfold gZ
        refine hK.out _ _ ?abQ (fun hHeld=>?_)
        case abQ=>exact dL.out _ fZ
        clear hK K
        (try go_frame)
        refine HT.xG (by kernel_rfl) (fun K hK=>?_)
        have hbs:=ak fZ uo.out
        obtain ⟨⟨z0,z1,z2,z3,z4⟩,y0,y1,y2,y3,y4⟩:=five hbs
        have dN:=qM.out.trans fZ
        go_simp
        refine hK.out _ _ ?_
        clear hK K
        (try go_frame)
        refine HT.done (by kernel_rfl) ?_ _
        clear z0 z1 z2 z3 z4 y0 y1 y2 y3 y4
        generalize Ag:bodyPost Tryz.prog Tryz.f37 (sH R W most fin)=BP at *
        go_wp2_with fail
        rw [<-Ag]
        have hf:=eP wv2 (B+1+1) (.slice lo3 iP iQ) (.int .i64 fin.next) (.int .i64 most) (.slice iR iU iV) (.int .i64 iy)
        obtain ⟨⟨f0,f1,f2,f3,f4⟩,_⟩:=five (bQ (a:=(.slice lo3 iP iQ)) (b:=(.int .i64 fin.next)) (c:=(.int .i64 most)) (d:=(.slice iR iU iV)) (e:=(.int .i64 iy)) hbs)
        change bodyPost _ _ _ _ _ (iK wv2 (B+1+1) (.slice lo3 iP iQ) (.int .i64 fin.next) (.int .i64 most) (.slice iR iU iV) (.int .i64 iy))
        have hend:=mD lT dN hf eX
        generalize iK wv2 (B+1+1) (.slice lo3 iP iQ) (.int .i64 fin.next) (.int .i64 most) (.slice iR iU iV) (.int .i64 iy)=wf at *
        refine bodyPost_ret (by simp [results,Tryz.results37,go_sem,f0,f1,f2,f3,f4]<;>rfl) rfl ?_
        exact ⟨lo3,iP,iQ,iR,iU,iV,iy,by (first | rfl | (rw [HF2.out]<;>rfl)),by (first | exact hend.1 | (rw [HF2.out];exact hend.1)),hend.2⟩
       exact HT.aU.nil
      exact HT.aU.nil
   ·have t2:(h.k == 2)=false:=by rw [hk];rfl
    have t3:(h.k == 3)=false:=by rw [hk];rfl
    have t1:(h.k == 1)=false:=by rw [hk];rfl
    have t4:(h.k == 4)=false:=by rw [hk];rfl
    have t6:(h.k == 6)=false:=by rw [hk];rfl
    have t7:(h.k == 7)=false:=by rw [hk];rfl
    have t5:(h.k == 5)=false:=by rw [hk];rfl
    have t8:(h.k == 8)=false:=by rw [hk];rfl
    have t9:(h.k == 9)=false:=by rw [hk];rfl
    have t10:(h.k == 10)=true:=by rw [hk];rfl
    have HK:=hid hk
    clear hk
    obtain ⟨lf,hlf⟩:∃ lf,dmap (kY most ev) (dD most ps) d1=lf:=⟨_,rfl⟩
    have hre:(dK most (tv d.next) (h.tk,h.tn,h.tp) h.fr h.en (dK most (jP lf.1 0) (h.tk,h.tn,h.tp) (aX ps 0).1 (aX ps 0).2 lf.2).2).2=fin:=by
     rw [<-bJ.out,jc QJ.out,<-HD1.out]
     unfold kP
     rw [if_neg (by rw [HK.out];decide),if_neg (by rw [HK.out];decide),if_neg (by rw [HK.out];decide),if_neg (by rw [HK.out];decide),if_neg (by rw [HK.out];decide)]
     show _=((fH (dmap (kY most ev) (dD most ps)) _) d1).2
     unfold fH
     rw [hlf]
     dsimp only
     rw [if_neg (by rw [HK.out];decide),if_neg (by rw [HK.out];decide),if_neg (by rw [HK.out];decide),if_pos HK.out]
     rfl
    have Le:Hid (lf.2.next<=1000000):=by show _<=_;have k:=MZ.out;rw [bJ.out,<-hre] at k;simpa only [jJ] using k
    have HF3:=hid hre
    have HF2:Hid (fin=fin):=rfl
    clear hre
    have HLF:=hid hlf
    have hzz:B+1+1 < wr.heap.size:=X7
    obtain ⟨vs,hvs⟩:∃ vs,dD most ps=vs:=⟨_,rfl⟩
    have Ur:=hid hvs
    have Lh:Hid (vs.length=l2):=by show _=_;rw [<-hvs,lN,HS2.out.1]
    have HST:Hid (X6 R W B wr.heap.size most h o1 l1 c1 o2 l2 c2 (kY most ev) vs lf (.slice none 0 0) (.int .i64 0) wr):=by
     refine ⟨0,none,0,rfl,rfl,d1,[],[],lo,ln,lc,AA,DK,yF,inn,Nat.zero_le _,?_,?_,PR.nil _ _,HR0.out,O5.out,HR2.out,Au Dc.out,zV.out,Nat.le_refl _⟩
     ·rw [List.drop_zero,<-hvs,hlf];rfl
     ·rw [List.drop_zero,<-hvs,hlf]
    obtain ⟨zz,Dh⟩:∃ zz,wr.heap.size=zz:=⟨_,rfl⟩
    rw [Dh] at HST hzz
    clear hvs hlf Dh
    go_wp2_with fail
    clear p0 p1 p2 p3 p4 a0 a1 a2 a3 a4 a5 a6 a7 a8
    go_loopw [14,15] (fun p t wx=>X6 R W B zz most h o1 l1 c1 o2 l2 c2 (kY most ev) vs lf p t wx) (fun _ t _=>l2 - (intOf t).toNat)
    case atStart=>exact HST.out
    case round =>
     clear HST
     rename World=>wx
     obtain ⟨i,po,pc,rfl,rfl,di,ns,xs,rC,rD,rE,uU,uV,uX,qN,hiv,hf1,hf2,hpr,hb0,kF,hb2,hk5,hq5,hzw⟩:=hrel
     have hil:i<=l2:=by rw [<-Lh.out];exact hiv
     have oZ:=hid hb0
     have pq:=hid kF
     have uo:=hid hb2
     have Jg:=hid hk5
     have qM:=hid hq5
     have vN:=hid hpr
     have hzx:B+1+1 < wx.heap.size:=lt_of_block hb2
     clear hb0 kF hb2 hk5 hq5 hpr hiv
     obtain ⟨⟨p0,p1,p2,p3,p4⟩,_⟩:=five oZ.out
     obtain ⟨a0,a1,a2,a3,a4,a5,a6,a7,a8⟩:=aA pq.out
     by_cases hlt:i < l2
     ·have hlt':(i:Int) < l2:=by omega
      obtain ⟨b9,aH,u,qu,kS,kT,d1u,kU,kV,kW,rfl,_,gu,ru,cu,su,tu⟩:=HS2.out.nth hlt
      have vO:=hid cu
      have Ld:=hid su
      have H9:=hid tu
      have hou:=lG ps i u qu nX.out gu
      have Lj:en+qu.size<=100000:=by have:=To.bV ps i u qu gu;have:=WZ.out;omega
      have hmd:=qL (kY most ev) vs i _ di (show vs[i]?=some (dP most u qu) by rw [<-Ur.out];exact nZ most ps i u qu gu)
      rw [hmd] at hf1 hf2
      have hnr:(dP most u qu (kY most ev) di).2.next<=lf.2.next:=by
       rw [<-hf2]
       exact uD (mJ most ev) (us:=vs.drop (i+1)) (fun v hv=>by rw [<-Ur.out] at hv;exact ng most ps v (List.mem_of_mem_drop hv)) _
      obtain ⟨rt,hrt⟩:∃ rt,dP most u qu (kY most ev) di=rt:=⟨_,rfl⟩
      have hr1:rt.1=di.next:=by rw [<-hrt];exact kQ _ _ _ _ _
      rw [hrt] at hf1 hf2 hnr
      rw [hr1] at hf1
      have OA:=hid (IH.out i u qu gu)
      have yh:=hid hrt
      have PW:Hid (rt.2.next<=1000000):=Nat.le_trans hnr Le.out
      have xU:=hid hf1
      have Ll:=hid hf2
      clear hf1 hf2 hrt hr1 hnr hmd cu su tu gu ru
      go_wp2_with fail
      refine (gy _ _).mono ?_;rintro x w2 ⟨rfl,hq2⟩
      have dO:=hid hq2
      clear hq2 p0 p1 p2 p3 p4 a0 a1 a2 a3 a4 a5 a6 a7 a8
      go_wp2_with (at_builtin;go_must (refine aP w2 rfl (.tmp 188) (.tmp 192) 22 rfl 24 _ 3 40 elemTy (.slice po i pc) i xs rfl (vN.out.stay dO.out).own #[.int .i64 1,.int .i64 di.next,.slice none 0 0] rfl rfl ?c1 (by unfold maxLen;omega) (by omega) ?_);(case c1=>simp [Value.oneCell']))
      intro g4 c4 w4 kX hf4 hg4
      have hlow:∀ k,(Value.slice po i pc).ownBlock=some k->zz<=k:=vN.out.low
      have pF:=hid ((vN.out.stay dO.out).snoc (o':=none) (c1:=0) (di.next) kX (Nat.le_trans hzw dO.out.size) hg4)
      have ZJ:=hid (xP (Jg.out.stay dO.out) hf4 hg4 (n:=i+1) (c:=c4))
      have wF:=hid (ay hf4 (fun e=>by have:=hlow _ e;omega) (ak dO.out oZ.out))
      have wG:=hid (ay hf4 (fun e=>by have:=hlow _ e;omega) (ak dO.out pq.out))
      have Di:=hid (ay hf4 (fun e=>by have:=hlow _ e;omega) (ak dO.out uo.out))
      have gY:Hid (ah W w4):=Fr.trans' (qM.out.trans dO.out) hf4 (fun j hj e=>by have:=hlow j e;omega)
      have Ov:B+1+1 < w4.heap.size:=lt_of_block Di.out
      have Lm:zz<=w4.heap.size:=Nat.le_trans hzw (Nat.le_trans dO.out.size hf4.size)
      clear kX hf4 hg4 hlow
      have xO:Hid (∀ W',ah w4 W'->Calls Tryz.prog 37 #[gZ rC rD rE di.next most uU uV uX qN,bC u kS kT d1u kU kV kW,.slice eo en ec] W' (sH (Gy R B (.slice (some ⟨g4,0,none⟩) (i+1) c4)) W' most rt.2)):=fun W' hq=>by
       have hq':=gY.out.trans hq
       have k:=OA.out (Gy R B (.slice (some ⟨g4,0,none⟩) (i+1) c4)) W' di qN rC rD rE uU uV uX kS kT d1u kU kV kW eo en ec ev (ZJ.out.stay hq) (Ld.out.fr hq' (nG eX pF.out.low (by omega))) (H9.out.fr hq' (nG eX pF.out.low (by omega))) (JE.out.fr hq' (nG eX pF.out.low (by omega))) yj Lj JC.out hou.1 hou.2 (by rw [yh.out];exact PW.out)
       rw [yh.out] at k
       exact k
      unfold bC gZ at xO
      obtain ⟨⟨p0,p1,p2,p3,p4⟩,_⟩:=five wF.out
      obtain ⟨a0,a1,a2,a3,a4,a5,a6,a7,a8⟩:=aA wG.out
      go_upto_region 42 with fail
      clear p0 p1 p2 p3 p4 a0 a1 a2 a3 a4 a5 a6 a7 a8
      have dL:Hid (∀ W',ah w4 W'->(fun (W':World)=>(W'.cell? ⟨B,0,none⟩=some (.slice rC rD rE)/\W'.cell? ⟨B,1,none⟩=some (.int .i64 di.next)/\W'.cell? ⟨B,2,none⟩=some (.int .i64 most)/\W'.cell? ⟨B,3,none⟩=some (.slice uU uV uX)/\W'.cell? ⟨B,4,none⟩=some (.int .i64 qN))/\(W'.cell? ⟨B+1,0,none⟩=some (.int .i64 h.k)/\W'.cell? ⟨B+1,1,none⟩=some (.string h.nm)/\W'.cell? ⟨B+1,2,none⟩=some (.int .i64 h.n)/\W'.cell? ⟨B+1,3,none⟩=some (.int .i64 h.tk)/\W'.cell? ⟨B+1,4,none⟩=some (.int .i64 h.tn)/\W'.cell? ⟨B+1,5,none⟩=some (.slice o1 l1 c1)/\W'.cell? ⟨B+1,6,none⟩=some (.slice (some ⟨b9,aH,none⟩) l2 c2)/\W'.cell? ⟨B+1,7,none⟩=some (.int .i64 h.fr)/\W'.cell? ⟨B+1,8,none⟩=some (.int .i64 h.en))/\(W'.cell? ⟨b9,aH+i * 9,none⟩=some (.int .i64 u.k)/\W'.cell? ⟨b9,aH+i * 9+1,none⟩=some (.string u.nm)/\W'.cell? ⟨b9,aH+i * 9+2,none⟩=some (.int .i64 u.n)/\W'.cell? ⟨b9,aH+i * 9+3,none⟩=some (.int .i64 u.tk)/\W'.cell? ⟨b9,aH+i * 9+4,none⟩=some (.int .i64 u.tn)/\W'.cell? ⟨b9,aH+i * 9+5,none⟩=some (.slice kS kT d1u)/\W'.cell? ⟨b9,aH+i * 9+6,none⟩=some (.slice kU kV kW)/\W'.cell? ⟨b9,aH+i * 9+7,none⟩=some (.int .i64 u.fr)/\W'.cell? ⟨b9,aH+i * 9+8,none⟩=some (.int .i64 u.en))) W'):=fun W' hq=>by
       obtain ⟨k,_⟩:=five (ak hq wF.out)
       exact ⟨k,aA (ak hq wG.out),gW vO.out (gY.out.trans hq)⟩
      refine bZ 8 dL.out (by kernel_rfl) (fun hHeld=>?_)
      (try dsimp only at hHeld)
      have gI:=ah.drew w4
      generalize w4.drew=wd at *
      refine HT.tk 0 rfl ?_
      go_frame
      refine HT.tk 1 rfl ?_
      go_frame
      refine HT.tk 2 rfl ?_
      go_frame
      refine HT.tk 3 rfl ?_
      go_frame
      refine HT.tk 4 rfl ?_
      go_frame
      refine HT.tk 5 rfl ?_
      go_frame
      refine HT.tk 6 rfl ?_
      go_frame
      refine HT.branch (rs:=[7]) (by kernel_rfl) (by simp) ?_
      refine HT.jV (fun K hK=>?_) ?_
      ·go_simp
       go_at_call 37
       with_reducible refine Calls.mono (xO.out _ gI) ?_
       rintro e w9 ⟨QD,QE,QF,QG,QH,QI,Ah,rfl,hk9,qI⟩
       have lT:=xQ hk9 (Nat.lt_of_lt_of_le Ov gI.size) (fun k hk=>Nat.lt_of_lt_of_le (pF.out.lt k hk) gI.size)
       have hqe:=gI.trans qI
       unfold gZ
       refine hK.out _ _ ?abR (fun hHeld=>?_)
       case abR=>exact dL.out _ hqe
       clear hK K
       (try go_frame)
       refine HT.xG (by kernel_rfl) (fun K hK=>?_)
       have hbs:=ak hqe wF.out
       obtain ⟨⟨p0,p1,p2,p3,p4⟩,y0,y1,y2,y3,y4⟩:=five hbs
       have hend:=Az Ah (by rw [Lh.out];omega) (by rw [List.append_assoc];exact xU.out) Ll.out (pF.out.stay hqe) hbs (ak hqe wG.out) (ak hqe Di.out) lT (gY.out.trans hqe) eX hzz (Nat.le_trans Lm hqe.size)
       have wQ:=hid hend
       clear hend
       go_simp
       refine hK.out _ _ ?_
       clear hK K
       (try go_frame)
       refine HT.done (by kernel_rfl) ?_ _
       go_wp2_with fail
       go_roundw
       case rel=>exact ⟨i+1,_,_,by go_num,rfl,wQ.out⟩
       case measure=>simp [intOf];omega
      exact HT.aU.nil
     ·have hlt':¬ (i:Int) < l2:=by omega
      have hi2:l2=i:=by omega
      subst hi2
      have hd:vs.drop l2=[]:=List.drop_eq_nil_of_le (by rw [Lh.out];exact Nat.le_refl _)
      rw [hd] at hf1 hf2
      have hns:ns=lf.1:=by rw [<-hf1];show ns=ns++[];simp
      have hdl:di=lf.2:=hf2
      clear hf1 hf2 hd
      obtain ⟨lf1,lf2⟩:=lf
      dsimp only at hns hdl
      subst hns hdl
      obtain ⟨hpt,hpc⟩:=vN.out.at (R:=R) hzz (by unfold maxLen;omega)
      have hnl:=vN.out.len
      have Vy:=hid hpt
      have ZK:=hid (Aw Jg.out)
      clear hpt
      have hl2:1<=l2:=by rw [HS2.out.1];exact Vw.out.2.2.2.2.2.2.1 HK.out
      obtain ⟨b9,aH,u,qu,_,_,_,_,_,_,rfl,_,gu,_,cu,_,_⟩:=HS2.out.nth (i:=0) (by omega)
      have Ut:aX ps 0=(u.fr,u.en):=by unfold aX;rw [gu]
      obtain ⟨_,_,_,_,_,_,_,u7,u8⟩:=cu
      (try simp only [Nat.zero_mul,Nat.add_zero] at u7 u8)
      obtain ⟨gp,n0,Us,n0c,rfl,Ya,Yb,n01,n02⟩:=Vy.out.get (i:=0) (by rw [List.length_map,hnl];omega)
      obtain ⟨dA,hdA⟩:∃ dA,(dK most (tv n0) (h.tk,h.tn,h.tp) u.fr u.en di).2=dA:=⟨_,rfl⟩
      have HA:=hid hdA
      have QK:Hid ((dK most (tv d.next) (h.tk,h.tn,h.tp) h.fr h.en dA).2=fin):=by show _=_;rw [<-HF3.out,<-hdA,Ut,<-Ya]
      have htz:h.tp.size<=100000:=Vw.out.2.2.2.2.2.2.2
      have HU7:=hid u7
      have HU8:=hid u8
      have hi0:(0:Int) < l2:=by omega
      have hj0:0 < l2:=by omega
      clear Ya hdA Ut gu u7 u8
      have hzp:=hzx
      have dL:Hid (∀ W',ah wx W'->(fun (W':World)=>(W'.cell? ⟨B,0,none⟩=some (.slice rC rD rE)/\W'.cell? ⟨B,1,none⟩=some (.int .i64 di.next)/\W'.cell? ⟨B,2,none⟩=some (.int .i64 most)/\W'.cell? ⟨B,3,none⟩=some (.slice uU uV uX)/\W'.cell? ⟨B,4,none⟩=some (.int .i64 qN))/\(W'.cell? ⟨B+1,0,none⟩=some (.int .i64 h.k)/\W'.cell? ⟨B+1,1,none⟩=some (.string h.nm)/\W'.cell? ⟨B+1,2,none⟩=some (.int .i64 h.n)/\W'.cell? ⟨B+1,3,none⟩=some (.int .i64 h.tk)/\W'.cell? ⟨B+1,4,none⟩=some (.int .i64 h.tn)/\W'.cell? ⟨B+1,5,none⟩=some (.slice o1 l1 c1)/\W'.cell? ⟨B+1,6,none⟩=some (.slice (some ⟨b9,aH,none⟩) l2 c2)/\W'.cell? ⟨B+1,7,none⟩=some (.int .i64 h.fr)/\W'.cell? ⟨B+1,8,none⟩=some (.int .i64 h.en))/\(W'.cell? ⟨gp,0,none⟩=some (.int .i64 1)/\W'.cell? ⟨gp,1,none⟩=some (.int .i64 n0)/\W'.cell? ⟨gp,2,none⟩=some (.slice Us 0 n0c))/\(W'.cell? ⟨b9,aH+7,none⟩=some (.int .i64 u.fr)/\W'.cell? ⟨b9,aH+8,none⟩=some (.int .i64 u.en))) W'):=fun W' hq=>by
       obtain ⟨k,_⟩:=five (ak hq oZ.out)
       exact ⟨k,aA (ak hq pq.out),⟨hq.at Yb,hq.at n01,hq.at n02⟩,⟨(qM.out.trans hq).at HU7.out,(qM.out.trans hq).at HU8.out⟩⟩
      have gX:Hid (∀ W',ah wx W'->Calls Tryz.prog 58 #[gZ rC rD rE di.next most uU uV uX qN,.agg #[.int .i64 1,.int .i64 n0,.slice Us 0 n0c],.agg #[.int .i64 h.tk,.int .i64 h.tn,.slice o1 l1 c1],.agg #[.int .i64 u.fr,.int .i64 u.en]] W' (sH (RB R B) W' most dA)):=fun W' hq=>by
       have k:=add_any (o1:=Us) (l1:=0) (c1:=n0c) (o2:=o1) (l2:=l1) (c2:=c1) qN (ZK.out.stay hq) hm (tv n0) ((h.tk,h.tn,h.tp)) u.fr u.en (aC.nil _ _ _) (nH.out.fr (qM.out.trans hq) (jF eX)) (Nat.le_of_ble_eq_true rfl) htz
       rw [HA.out] at k
       exact k
      unfold gZ at gX
      go_upto_region 52 with fail
      clear p0 p1 p2 p3 p4 a0 a1 a2 a3 a4 a5 a6 a7 a8 Yb n01 n02
      go_cut [] from 266 to 277 (fun wy=>Zw R W B dA most h o1 l1 c1 (some ⟨b9,aH,none⟩) l2 c2 wy)
      case first =>
       refine bZ 12 dL.out (by kernel_rfl) (fun hHeld=>?_)
       (try dsimp only at hHeld)
       have gI:=ah.drew wx
       generalize wx.drew=wd at gI hHeld ⊢
       refine HT.tk 0 rfl ?_
       go_frame
       refine HT.tk 1 rfl ?_
       go_frame
       refine HT.tk 2 rfl ?_
       go_frame
       refine HT.tk 3 rfl ?_
       go_frame
       refine HT.tk 4 rfl ?_
       go_frame
       refine HT.tk 5 rfl ?_
       go_frame
       refine HT.tk 6 rfl ?_
       go_frame
       refine HT.tk 7 rfl ?_
       go_frame
       refine HT.tk 8 rfl ?_
       go_frame
       refine HT.tk 9 rfl ?_
       go_frame
       refine HT.tk 10 rfl ?_
       go_frame
       refine HT.branch (rs:=[11]) (by kernel_rfl) (by simp) ?_
       refine HT.Gv (fun K hK=>?_) ?_
       ·go_simp
        go_at_call 58
        with_reducible refine Calls.mono (gX.out _ gI) ?_
        rintro e wv1 ⟨lo3,iP,iQ,iR,iU,iV,iy,rfl,hk3,pz⟩
        have lT:=iO hk3 (Nat.lt_of_lt_of_le hzp gI.size)
        have fA:=gI.trans pz
        unfold gZ
        refine hK.out _ _ ?abS (fun hHeld=>?_)
        case abS=>exact dL.out _ fA
        clear hK K
        (try go_frame)
        refine HT.KX (by kernel_rfl) (fun K hK=>?_)
        have hbs:=ak fA oZ.out
        obtain ⟨⟨p0,p1,p2,p3,p4⟩,y0,y1,y2,y3,y4⟩:=five hbs
        have hend:=jX iy hbs (ak fA pq.out) (ak fA uo.out) lT (qM.out.trans fA) eX
        go_simp
        refine hK.out _ _ ?_
        clear hK K
        (try go_frame)
        refine HT.done (by kernel_rfl) ?_ _
        go_wp2_with fail
        go_meet
        exact hend
       exact HT.aU.nil
      case rest =>
       rename World=>QL
       obtain ⟨lo7,ln7,lc7,oo7,on7,oc7,in7,hb0,kF,hb2,hk7,hq7⟩:=hcut
       have Xc:=hid hb0
       have Xd:=hid kF
       have ZO:=hid hb2
       have HK7:=hid hk7
       have Qy:=hid hq7
       clear hzp
       have hzp:B+1+1 < QL.heap.size:=lt_of_block hb2
       clear hb0 kF hb2 hk7 hq7
       have Lp:Hid (∀ W',ah QL W'->(fun (W':World)=>(W'.cell? ⟨B,0,none⟩=some (.slice lo7 ln7 lc7)/\W'.cell? ⟨B,1,none⟩=some (.int .i64 dA.next)/\W'.cell? ⟨B,2,none⟩=some (.int .i64 most)/\W'.cell? ⟨B,3,none⟩=some (.slice oo7 on7 oc7)/\W'.cell? ⟨B,4,none⟩=some (.int .i64 in7))/\(W'.cell? ⟨B+1,0,none⟩=some (.int .i64 h.k)/\W'.cell? ⟨B+1,1,none⟩=some (.string h.nm)/\W'.cell? ⟨B+1,2,none⟩=some (.int .i64 h.n)/\W'.cell? ⟨B+1,3,none⟩=some (.int .i64 h.tk)/\W'.cell? ⟨B+1,4,none⟩=some (.int .i64 h.tn)/\W'.cell? ⟨B+1,5,none⟩=some (.slice o1 l1 c1)/\W'.cell? ⟨B+1,6,none⟩=some (.slice (some ⟨b9,aH,none⟩) l2 c2)/\W'.cell? ⟨B+1,7,none⟩=some (.int .i64 h.fr)/\W'.cell? ⟨B+1,8,none⟩=some (.int .i64 h.en))) W'):=fun W' hq=>by
        obtain ⟨k,_⟩:=five (ak hq Xc.out)
        exact ⟨k,aA (ak hq Xd.out)⟩
       clear gX
       have gX:Hid (∀ W',ah QL W'->Calls Tryz.prog 58 #[gZ lo7 ln7 lc7 dA.next most oo7 on7 oc7 in7,.agg #[.int .i64 1,.int .i64 d.next,.slice none 0 0],.agg #[.int .i64 h.tk,.int .i64 h.tn,.slice o1 l1 c1],.agg #[.int .i64 h.fr,.int .i64 h.en]] W' (sH (RB R B) W' most fin)):=fun W' hq=>by
        have k:=add_any (o1:=none) (l1:=0) (c1:=0) (o2:=o1) (l2:=l1) (c2:=c1) in7 (HK7.out.stay hq) hm (tv d.next) ((h.tk,h.tn,h.tp)) h.fr h.en (aC.nil _ _ _) (nH.out.fr (Qy.out.trans hq) (jF eX)) (Nat.le_of_ble_eq_true rfl) htz
        rw [QK.out] at k
        exact k
       unfold gZ at gX
       go_upto_region 53 with fail
       refine bZ 8 Lp.out (by kernel_rfl) (fun hHeld=>?_)
       (try dsimp only at hHeld)
       have gI:=ah.drew QL
       generalize QL.drew=wd at gI hHeld ⊢
       refine HT.tk 0 rfl ?_
       go_frame
       refine HT.tk 1 rfl ?_
       go_frame
       refine HT.tk 3 rfl ?_
       go_frame
       refine HT.tk 4 rfl ?_
       go_frame
       refine HT.tk 5 rfl ?_
       go_frame
       refine HT.tk 6 rfl ?_
       go_frame
       refine HT.branch (rs:=[2]) (by kernel_rfl) (by simp) ?_
       refine HT.rU (fun K hK=>?_) ?_
       ·go_simp
        go_at_call 59
        with_reducible refine Calls.mono (gy _ _) ?_
        rintro e wv1 ⟨rfl,pz⟩
        have fA:=gI.trans pz
        refine hK.out _ _ ?abT (fun hHeld=>?_)
        case abT=>exact Lp.out _ fA
        clear hK K
        (try go_frame)
        refine HT.branch (rs:=[7]) (by kernel_rfl) (by simp) ?_
        refine HT.jV (fun K hK=>?_) ?_
        ·go_simp
         go_at_call 58
         with_reducible refine Calls.mono (gX.out _ fA) ?_
         rintro e wv2 ⟨lo3,iP,iQ,iR,iU,iV,iy,rfl,hk3,rG⟩
         have lT:=iO hk3 (Nat.lt_of_lt_of_le hzp fA.size)
         have fZ:=fA.trans rG
         unfold gZ
         refine hK.out _ _ ?abU (fun hHeld=>?_)
         case abU=>exact Lp.out _ fZ
         clear hK K
         (try go_frame)
         refine HT.xG (by kernel_rfl) (fun K hK=>?_)
         have hbs:=ak fZ ZO.out
         obtain ⟨⟨z0,z1,z2,z3,z4⟩,y0,y1,y2,y3,y4⟩:=five hbs
         have dN:=Qy.out.trans fZ
         go_simp
         refine hK.out _ _ ?_
         clear hK K
         (try go_frame)
         refine HT.done (by kernel_rfl) ?_ _
         clear z0 z1 z2 z3 z4 y0 y1 y2 y3 y4
         generalize Ag:bodyPost Tryz.prog Tryz.f37 (sH R W most fin)=BP at *
         go_wp2_with fail
         rw [<-Ag]
         have hf:=eP wv2 (B+1+1) (.slice lo3 iP iQ) (.int .i64 fin.next) (.int .i64 most) (.slice iR iU iV) (.int .i64 iy)
         obtain ⟨⟨f0,f1,f2,f3,f4⟩,_⟩:=five (bQ (a:=(.slice lo3 iP iQ)) (b:=(.int .i64 fin.next)) (c:=(.int .i64 most)) (d:=(.slice iR iU iV)) (e:=(.int .i64 iy)) hbs)
         change bodyPost _ _ _ _ _ (iK wv2 (B+1+1) (.slice lo3 iP iQ) (.int .i64 fin.next) (.int .i64 most) (.slice iR iU iV) (.int .i64 iy))
         have hend:=mD lT dN hf eX
         generalize iK wv2 (B+1+1) (.slice lo3 iP iQ) (.int .i64 fin.next) (.int .i64 most) (.slice iR iU iV) (.int .i64 iy)=wf at *
         refine bodyPost_ret (by simp [results,Tryz.results37,go_sem,f0,f1,f2,f3,f4]<;>rfl) rfl ?_
         exact ⟨lo3,iP,iQ,iR,iU,iV,iy,by (first | rfl | (rw [HF2.out]<;>rfl)),by (first | exact hend.1 | (rw [HF2.out];exact hend.1)),hend.2⟩
        exact HT.aU.nil
       exact HT.aU.nil
theorem Xe {most:Nat} (hm:most<=4000) (h:Nd) (ps:To):jL most h ps:=To.qE (T:=jL most) (Ul hm) h ps
theorem rk0 (R:Nat->Prop) (w:World) (most:Nat):fJ R w most ⟨[],0⟩ none 0 0 none 0 0 :=
 ⟨rfl,Nat.le_refl _,⟨Nat.zero_le _,fun t ht=>(by cases ht),.inl rfl⟩,Nat.zero_le _,.inl rfl,Nat.zero_le _,Nat.le_refl _⟩
theorem P5 {most : Nat} (hm : most <= 4000) (h : Nd) (ps : To) {R : Nat -> Prop} {w : World} {o1 : Option Addr} {l1 c1 : Nat} {o2 : Option Addr} {l2 c2 : Nat} (hs1 : aC R w o1 l1 h.tp) (hs : aY R w o2 l2 ps) (hz : ps.size <= 100000) (hok : Zb h ps.length) (mF : D6 ps) (hnb : (dP most h ps [] ⟨[], 0⟩).2.next <= 1000000) :
    Calls Tryz.prog 37 #[.agg #[.slice none 0 0,.int .i64 0,.int .i64 most,.slice none 0 0,.int .i64 0],bC h o1 l1 c1 o2 l2 c2,.slice none 0 0] w (sH R w most (dP most h ps [] ⟨[],0⟩).2) :=
 Xe hm h ps R w ⟨[],0⟩ 0 none 0 0 none 0 0 o1 l1 c1 o2 l2 c2 none 0 0 .nil (rk0 R w most) hs1 hs (EvS.nil _ _ _) (Nat.le_refl _) (by omega) trivial hok mF hnb
end Em
end
end Go.Proofs.YtcninopmelmajaaGreatDoor
