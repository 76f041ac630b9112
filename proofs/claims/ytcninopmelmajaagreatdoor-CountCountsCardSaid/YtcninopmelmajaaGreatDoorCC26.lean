/-
  Texts laid together (RqOf, CnCntLaw, TeLaid): laws and walks, with their conditions.
-/
import Derived.LaidMore
import Derived.Stop.Joined
import Derived.LaidLaws
import Derived.Lib.LaidTab
import Derived.Stop.LaidErr
import Derived.Test.YtcninopmelmajaaGreatDoorCC25
set_option maxHeartbeats 8000000
set_option maxRecDepth 1000000
namespace Go.Proofs.YtcninopmelmajaaGreatDoor
open Go.Lib (hid)
section
open Go.RowKit
namespace Em
theorem Vt.at' {R:Nat->Prop} {w:World} {o:Option Addr} {l:List qK} (h:Vt R w o l):Nv w o l:=by
 have k:=h.fr (T:=fun _=>True) (Fr.refl (fun _=>False) w) (fun _ _ _=>⟨trivial,fun h=>h⟩)
 refine ⟨k.1,k.2.1,k.2.2.imp id ?_⟩
 rintro ⟨b,off,h1,_,h3⟩
 exact ⟨b,off,h1,h3⟩
theorem both_any {most : Nat} (hm : most <= 4000) (h : Nd) (ps : To) (w : World) (R : Nat -> Prop) (o1 : Option Addr) (l1 c1 : Nat) (o2 : Option Addr) (l2 c2 : Nat) (hs1 : aC R w o1 l1 h.tp) (hs : aY R w o2 l2 ps) (hz : ps.size <= 100000) (hok : Zb h ps.length) (mF : D6 ps) (hnb : (dP most h ps [] ⟨[], 0⟩).2.next <= 1000000) :
    Calls Tryz.prog 17 #[bC h o1 l1 c1 o2 l2 c2,.int .i64 most] w (fun e w'=>e=.returned (.tuple #[.int .i64 (dP most h ps [] ⟨[],0⟩).2.L.length,.int .i64 (dP most h ps [] ⟨[],0⟩).2.next,.bool (decide ((dP most h ps [] ⟨[],0⟩).2.L.length<=most))])/\ah w w'):=by
 obtain ⟨W0,hW0⟩:∃ W0,W0=w.alloc (.cells (cells9 h o1 l1 c1 o2 l2 c2) 29):=⟨_,rfl⟩
 have hq0:ah w W0:=by rw [hW0];exact ah.alloc _ _
 have HB0:Hid (W0.heap[w.heap.size]?=some (.cells (cells9 h o1 l1 c1 o2 l2 c2) 29 (0,0))):=by show _=_;rw [hW0];exact heap_alloc_new w _
 have HT:=hid (P5 hm h ps (c1:=c1) (c2:=c2) (hs1.stay hq0) (hs.stay hq0) hz hok mF hnb)
 have aK:=hid hq0
 generalize (dP most h ps [] ⟨[],0⟩).2=d at *
 clear hs1 hs hz hok mF hnb hq0
 unfold bC at HT ⊢
 go_enter Tryz.func17,Tryz.ntmps17
 go_upto_region 1 with fail
 rw [<-hW0]
 clear hW0
 obtain ⟨a0,a1,a2,a3,a4,a5,a6,a7,a8⟩:=aA HB0.out
 go_wp2_with fail
 refine HT.out.mono ?_;rintro x w3 ⟨lo,ln,lc,oo,on,oc,inn,rfl,hk,hq3⟩
 have HLEN:=hid hk.len
 have dG:=hid (aK.out.trans hq3)
 clear hk hq3 a0 a1 a2 a3 a4 a5 a6 a7 a8
 have hb:=heap_alloc_new w3 (.cells (r5 lo ln lc d.next most oo on oc inn) 70)
 have hqz:=ah.alloc w3 (.cells (r5 lo ln lc d.next most oo on oc inn) 70)
 unfold gZ
 go_upto_region 2 with fail
 change Code.wp _ _ _ _ (w3.alloc (.cells (r5 lo ln lc d.next most oo on oc inn) 70))
 have qM:=hid (dG.out.trans hqz)
 generalize w3.alloc (.cells (r5 lo ln lc d.next most oo on oc inn) 70)=W5 at *
 clear hqz
 generalize w3.heap.size=pb at *
 obtain ⟨⟨z0,z1,z2,z3,z4⟩,_⟩:=five hb
 clear hb
 have hdc:decide ((ln:Int)<=(most:Int))=decide (ln<=most):=by by_cases h:ln<=most<;>simp [h]
 go_quiet (fail)
 have Ob:=ah.drewN W5 nq
 go_wp2_with fail
 refine bodyPost_ret (by first | (simp [results,Tryz.results17,go_sem];done) | (simp [results,Tryz.results17,go_sem];rfl)) rfl ?_
 exact ⟨by rw [<-HLEN.out],qM.out.trans Ob⟩
end Em
end
section
open Go.RowKit Go.Shelf
namespace Cn
theorem Xf {h:Nd} {ps:To} (hr:Sc.RT h ps=false):mV h ps=(0,1)/\jy h ps=(0,1)/\jA h ps=[]:=by
 refine ⟨?_,?_,?_⟩
 ·unfold mV wL Sc.ni;rw [hr];rfl
 ·unfold jy wL Sc.ni;rw [hr];rfl
 ·unfold jA;rw [hr];rfl
theorem Uy {h:Nd} {ps:To} (hr:Sc.RT h ps=true) (hf:Sc.eG [] h ps≠[]):mV h ps=(0,5)/\jy h ps=(0,5):=by
 cases hc:Sc.eG [] h ps with
 | nil=>exact absurd hc hf
 | cons x r =>
  constructor
  ·unfold mV wL Sc.ni;rw [if_pos hr,hc];rfl
  ·unfold jy wL Sc.ni;rw [if_pos hr,hc];rfl
theorem ZQ {h : Nd} {ps : To} (hr : Sc.RT h ps = true) (hf : Sc.eG [] h ps = []) (hz : ps.size <= 1000) : ∃ n k : Int, mV h ps = (n, 0) /\ jy h ps = (k, 0) /\
    ((300 < (Em.nD 300 h ps).L.length/\300 < n)∨((Em.nD 300 h ps).L.length<=300/\(((Em.nD 300 h ps).L.length:Nat):Int)=n/\(((Em.nD 300 h ps).next:Nat):Int)=k)):=by
 have h0:=Em.TG hr hf
 have hd:=Em.WR h0 hz
 refine ⟨(mV h ps).1,(jy h ps).1,?_,?_,hd⟩
 ·unfold mV wL;rw [if_pos h0]
 ·unfold jy wL;rw [if_pos h0]
theorem Xg {h:Nd} {ps:To} {w W:World} {o1:Option Addr} {l1 c1:Nat} {o2:Option Addr} {l2 c2:Nat} (hp:Em.TK h ps w o1 l1 o2 l2) (hq:ah w W) (hg:fG h ps=false) (hr:Sc.RT h ps=true):Calls Tryz.prog 15 #[bC h o1 l1 c1 o2 l2 c2,.slice none 0 0,.slice none 0 0,.slice none 0 0] W (UrQ W (jA h ps)):=by
 have hsm:=Sc.fP (iZ hg) hp.2.2.1 hp.2.2.2.1
 have hz:=hsm.size
 have k:=Oy h ps W _ (fun _=>True) o1 l1 c1 o2 l2 c2 none 0 none 0 none 0 [] [] [] 0 (hp.2.1.stay hq) (Sc.iE.nil _ _ _) (fun j x hx=>by simp at hx) rfl (fun j x hx=>by simp at hx) (fun x hx=>by cases hx) (fun x hx=>by cases hx) (by simp;omega) (by simp;omega) (by omega)
 have e:jA h ps=iC h ps [] []:=by unfold jA;rw [if_pos hr]
 rw [e]
 exact k
theorem ZR {h:Nd} {ps:To} {w W:World} {o1:Option Addr} {l1 c1:Nat} {o2:Option Addr} {l2 c2:Nat} (hp:Em.TK h ps w o1 l1 o2 l2) (hq:ah w W) (hg:fG h ps=false) (hr:Sc.RT h ps=true) (hf:Sc.eG [] h ps=[]):Calls Tryz.prog 17 #[bC h o1 l1 c1 o2 l2 c2,.int .i64 300] W (fun e w'=>e=.returned (.tuple #[.int .i64 (Em.nD 300 h ps).L.length,.int .i64 (Em.nD 300 h ps).next,.bool (decide ((Em.nD 300 h ps).L.length<=300))])/\ah W w'):=by
 have hsm:=Sc.fP (iZ hg) hp.2.2.1 hp.2.2.2.1
 have hz:=hsm.size
 have hok:=Em.KU (.cons h ps .nil) hr hsm.good
 exact Em.both_any (most:=300) (by omega) h ps W _ o1 l1 c1 o2 l2 c2 (hp.1.stay hq) (hp.2.1.stay hq) (by omega) hok.1 hok.2.1 (Em.TP (Em.TG hr hf) (by omega) (by omega))
theorem Ai (h : Nd) (ps : To) (w : World) (o1 : Option Addr) (l1 c1 : Nat) (o2 : Option Addr) (l2 c2 : Nat) (hp : Em.TK h ps w o1 l1 o2 l2) :
    Calls Tryz.prog 3 #[bC h o1 l1 c1 o2 l2 c2] w fun e w'=>e=.returned (.bool true)/\ah w w':=by
 obtain ⟨W0,hW0⟩:∃ W0,W0=w.alloc (.cells (cells9 h o1 l1 c1 o2 l2 c2) 29):=⟨_,rfl⟩
 have hq0:ah w W0:=by rw [hW0];exact ah.alloc _ _
 have aK:=hid hq0
 have HB:Hid (∀ W,ah W0 W->(W.cell? ⟨w.heap.size,0,none⟩=some (.int .i64 h.k)/\W.cell? ⟨w.heap.size,1,none⟩=some (.string h.nm)/\W.cell? ⟨w.heap.size,2,none⟩=some (.int .i64 h.n)/\W.cell? ⟨w.heap.size,3,none⟩=some (.int .i64 h.tk)/\W.cell? ⟨w.heap.size,4,none⟩=some (.int .i64 h.tn)/\W.cell? ⟨w.heap.size,5,none⟩=some (.slice o1 l1 c1)/\W.cell? ⟨w.heap.size,6,none⟩=some (.slice o2 l2 c2)/\W.cell? ⟨w.heap.size,7,none⟩=some (.int .i64 h.fr)/\W.cell? ⟨w.heap.size,8,none⟩=some (.int .i64 h.en))):=by
  intro W hq;rw [hW0] at hq;exact FQ w h o1 l1 c1 o2 l2 c2 _ W hq
 have HG:Hid (∀ W,ah W0 W->Calls Tryz.prog 8 #[bC h o1 l1 c1 o2 l2 c2] W fun e w'=>e=.returned (.bool (fG h ps))/\ah W w'):=fun W hq=>Iw h ps w W o1 l1 c1 o2 l2 c2 hp.1 hp.2.1 hp.2.2.1 hp.2.2.2.1 (hq0.trans hq)
 have HA:Hid (∀ W,ah W0 W->Calls Tryz.prog 9 #[] W fun e w'=>e=.returned (.bool true)/\ah W w'):=fun W hq=>Ip W (hp.2.2.2.2.stay (hq0.trans hq))
 have HE:Hid (fG h ps=false->∀ W,ah W0 W->Calls Tryz.prog 10 #[bC h o1 l1 c1 o2 l2 c2] W fun e w'=>e=.returned (.tuple #[.int .i64 (mV h ps).1,.int .i64 (mV h ps).2])/\ah W w'):=fun hg W hq=>by
  have hsm:=Sc.fP (iZ hg) hp.2.2.1 hp.2.2.2.1
  exact Md h ps W _ o1 l1 c1 o2 l2 c2 (hp.1.stay (hq0.trans hq)) (hp.2.1.stay (hq0.trans hq)) (by have:=hsm.size;omega) hsm.good (hp.2.2.2.2.stay (hq0.trans hq))
 have HV:Hid (fG h ps=false->∀ W,ah W0 W->Calls Tryz.prog 11 #[bC h o1 l1 c1 o2 l2 c2] W fun e w'=>e=.returned (.tuple #[.int .i64 (jy h ps).1,.int .i64 (jy h ps).2])/\ah W w'):=fun hg W hq=>by
  have hsm:=Sc.fP (iZ hg) hp.2.2.1 hp.2.2.2.1
  exact AX h ps W _ o1 l1 c1 o2 l2 c2 (hp.1.stay (hq0.trans hq)) (hp.2.1.stay (hq0.trans hq)) (by have:=hsm.size;omega) hsm.good (hp.2.2.2.2.stay (hq0.trans hq))
 have HU:Hid (fG h ps=false->∀ W,ah W0 W->Calls Tryz.prog 12 #[bC h o1 l1 c1 o2 l2 c2] W (UrQ W (jA h ps))):=fun hg W hq=>by
  have hsm:=Sc.fP (iZ hg) hp.2.2.1 hp.2.2.2.1
  refine (Ol h ps W _ o1 l1 c1 o2 l2 c2 (hp.1.stay (hq0.trans hq)) (hp.2.1.stay (hq0.trans hq)) (by have:=hsm.size;omega) hsm.good (hp.2.2.2.2.stay (hq0.trans hq))).mono ?_
  rintro x w' ⟨oo,oc,rfl,ho,hq'⟩
  exact ⟨oo,oc,rfl,zD ho,hq'⟩
 have HR:Hid (fG h ps=false->∀ W,ah W0 W->Calls Tryz.prog 13 #[bC h o1 l1 c1 o2 l2 c2] W fun e w'=>e=.returned (.bool (Sc.RT h ps))/\ah W w'):=fun hg W hq=>Em.WJ hp (hq0.trans hq) hg
 have HF:Hid (fG h ps=false->Sc.RT h ps=true->∀ W,ah W0 W->Calls Tryz.prog 16 #[bC h o1 l1 c1 o2 l2 c2,.slice none 0 0] W (Em.FrQ W (Sc.eG [] h ps).length)):=fun hg hr W hq=>Em.Zj hp (hq0.trans hq) hg hr
 have HRU:Hid (fG h ps=false->Sc.RT h ps=true->∀ W,ah W0 W->Calls Tryz.prog 15 #[bC h o1 l1 c1 o2 l2 c2,.slice none 0 0,.slice none 0 0,.slice none 0 0] W (UrQ W (jA h ps))):=fun hg hr W hq=>Xg hp (hq0.trans hq) hg hr
 have kR:Hid (fG h ps=false->∀ W pa ca pb cb,dV W pa (jA h ps)->dV W pb (jA h ps)->Calls Tryz.prog 14 #[.slice pa (jA h ps).length ca,.slice pb (jA h ps).length cb] W fun e w'=>e=.returned (.bool true)/\ah W w'):=fun hg W pa ca pb cb k1 k2=>by
  have hsm:=Sc.fP (iZ hg) hp.2.2.1 hp.2.2.2.1
  have k:=Rj pa ca pb cb (jA h ps) (jA h ps) W k1 k2 (by have:=hsm.size;have:=Rk h ps;omega)
  rw [beq_self_eq_true] at k
  exact k
 have HBO:Hid (fG h ps=false->Sc.RT h ps=true->Sc.eG [] h ps=[]->∀ W,ah W0 W->Calls Tryz.prog 17 #[bC h o1 l1 c1 o2 l2 c2,.int .i64 300] W (fun e w'=>e=.returned (.tuple #[.int .i64 (Em.nD 300 h ps).L.length,.int .i64 (Em.nD 300 h ps).next,.bool (decide ((Em.nD 300 h ps).L.length<=300))])/\ah W w')):=fun hg hr hf W hq=>ZR hp (hq0.trans hq) hg hr hf
 have Xh:Hid (Sc.RT h ps=false->mV h ps=(0,1)/\jy h ps=(0,1)/\jA h ps=[]):=fun hr=>Xf hr
 have HP2:Hid (Sc.RT h ps=true->Sc.eG [] h ps≠[]->mV h ps=(0,5)/\jy h ps=(0,5)):=fun hr hf=>Uy hr hf
 have HP3:Hid (fG h ps=false->Sc.RT h ps=true->Sc.eG [] h ps=[]->∃ n k:Int,mV h ps=(n,0)/\jy h ps=(k,0)/\((300 < (Em.nD 300 h ps).L.length/\300 < n)∨((Em.nD 300 h ps).L.length<=300/\(((Em.nD 300 h ps).L.length:Nat):Int)=n/\(((Em.nD 300 h ps).next:Nat):Int)=k))):=fun hg hr hf=>by
  have hsm:=Sc.fP (iZ hg) hp.2.2.1 hp.2.2.2.1
  exact ZQ hr hf (by have:=hsm.size;omega)
 clear hp hq0
 unfold bC at HG HE HV HU HR HF HRU HBO ⊢
 generalize fG h ps=g at *
 generalize Sc.RT h ps=r at *
 generalize Sc.eG [] h ps=fl at *
 generalize mV h ps=ne at *
 generalize jy h ps=nv at *
 generalize jA h ps=us at *
 generalize (Em.nD 300 h ps).L.length=da at *
 generalize (Em.nD 300 h ps).next=db at *
 go_enter Tryz.func3,Tryz.ntmps3
 go_upto_region 1 with fail
 rw [<-hW0]
 clear hW0
 generalize eX:w.heap.size=B at *
 clear eX
 obtain ⟨a0,a1,a2,a3,a4,a5,a6,a7,a8⟩:=HB.out W0 (ah.refl _)
 go_wp2_with fail
 refine (HG.out _ (ah.refl _)).mono ?_;rintro x w1 ⟨rfl,hq1⟩
 have bI:=hid hq1
 clear hq1 a0 a1 a2 a3 a4 a5 a6 a7 a8
 cases g
 case true =>
  obtain ⟨a0,a1,a2,a3,a4,a5,a6,a7,a8⟩:=HB.out w1 bI.out
  go_wp2_with fail
  refine (HA.out _ bI.out).mono ?_;rintro x w2 ⟨rfl,hq2⟩
  have dO:=hid hq2
  clear hq2
  go_wp2_with fail
  go_ret
  exact ⟨rfl,aK.out.trans (bI.out.trans dO.out)⟩
 case false =>
  obtain ⟨a0,a1,a2,a3,a4,a5,a6,a7,a8⟩:=HB.out w1 bI.out
  go_wp2_with fail
  refine (HE.out (by trivial) _ bI.out).mono ?_;rintro x w2 ⟨rfl,hq2⟩
  have dO:=hid (bI.out.trans hq2)
  clear hq2 a0 a1 a2 a3 a4 a5 a6 a7 a8
  obtain ⟨a0,a1,a2,a3,a4,a5,a6,a7,a8⟩:=HB.out w2 dO.out
  go_wp2_with fail
  refine (HV.out (by trivial) _ dO.out).mono ?_;rintro x w3 ⟨rfl,hq3⟩
  have dG:=hid (dO.out.trans hq3)
  clear hq3 a0 a1 a2 a3 a4 a5 a6 a7 a8
  obtain ⟨a0,a1,a2,a3,a4,a5,a6,a7,a8⟩:=HB.out w3 dG.out
  go_wp2_with fail
  refine (HU.out (by trivial) _ dG.out).mono ?_;rintro x w4 ⟨u4,uc4,rfl,hi4,hq4⟩
  have gY:=hid (dG.out.trans hq4)
  have HI4:=hid hi4
  clear hi4
  clear hq4 a0 a1 a2 a3 a4 a5 a6 a7 a8
  obtain ⟨a0,a1,a2,a3,a4,a5,a6,a7,a8⟩:=HB.out w4 gY.out
  go_wp2_with fail
  refine (HR.out (by trivial) _ gY.out).mono ?_;rintro x w5 ⟨rfl,hq5⟩
  have qM:=hid (gY.out.trans hq5)
  have HI5:=hid (HI4.out.stay hq5)
  clear HI4
  clear hq5 a0 a1 a2 a3 a4 a5 a6 a7 a8
  cases r
  case false =>
   obtain ⟨e1,e2,e3⟩:=Xh.out (by trivial)
   subst e1 e2 e3
   clear Xh HP2 HP3 HI5
   dsimp only
   try rw [List.length_nil]
   go_wp2_with fail
   refine (HA.out _ qM.out).mono ?_;rintro x w6 ⟨rfl,hq6⟩
   have zG:=hid hq6
   clear hq6
   go_wp2_with fail
   go_ret
   exact ⟨rfl,aK.out.trans (qM.out.trans zG.out)⟩
  case true =>
   obtain ⟨a0,a1,a2,a3,a4,a5,a6,a7,a8⟩:=HB.out w5 qM.out
   go_wp2_with fail
   refine (HRU.out (by trivial) (by trivial) _ qM.out).mono ?_;rintro x w6 ⟨u6,uc6,rfl,hi6,hq6⟩
   have zG:=hid (qM.out.trans hq6)
   have HI6:=hid hi6
   have abV:=hid (HI5.out.stay hq6)
   clear hi6 HI5
   clear hq6 a0 a1 a2 a3 a4 a5 a6 a7 a8
   have Xi:=hid (kR.out (by trivial) w6 u4 uc4 u6 uc6 abV.out HI6.out)
   clear kR abV HI6
   go_wp2_with fail
   refine Xi.out.mono ?_;rintro x w7 ⟨rfl,hq7⟩
   have Qy:=hid (zG.out.trans hq7)
   clear hq7 Xi
   obtain ⟨a0,a1,a2,a3,a4,a5,a6,a7,a8⟩:=HB.out w7 Qy.out
   go_wp2_with fail
   refine (HF.out (by trivial) (by trivial) _ Qy.out).mono ?_;rintro x w8 ⟨fo,fc,rfl,hq8⟩
   have Pg:=hid (Qy.out.trans hq8)
   clear hq8 a0 a1 a2 a3 a4 a5 a6 a7 a8
   cases hfl:fl
   case cons f0 fr =>
    obtain ⟨e1,e2⟩:=HP2.out (by trivial) (by rw [hfl];exact fun e=>by cases e)
    subst e1 e2
    have hlen:(0:Int) < ((f0::fr).length:Nat):=by simp only [List.length_cons];omega
    generalize (f0::fr).length=fn at *
    have hlen2:0 < fn:=by omega
    clear Xh HP2 HP3
    dsimp only
    go_wp2_with fail
    refine (HA.out _ Pg.out).mono ?_;rintro x w9 ⟨rfl,qI⟩
    have HQ9:=hid qI
    clear qI
    go_wp2_with fail
    go_ret
    exact ⟨rfl,aK.out.trans (Pg.out.trans HQ9.out)⟩
   case nil =>
    obtain ⟨n,k,e1,e2,hc⟩:=HP3.out (by trivial) (by trivial) hfl
    have HBC:=hid (HBO.out (by trivial) (by trivial) hfl)
    subst e1 e2
    rw [List.length_nil]
    clear Xh HP2 HP3 HBO HF HR HG HE HV HU HRU
    dsimp only
    obtain ⟨a0,a1,a2,a3,a4,a5,a6,a7,a8⟩:=HB.out w8 Pg.out
    go_wp2_with fail
    refine (HBC.out _ Pg.out).mono ?_;rintro x w9 ⟨rfl,qI⟩
    have HQ9:=hid (Pg.out.trans qI)
    clear qI a0 a1 a2 a3 a4 a5 a6 a7 a8
    rcases hc with ⟨h1,h2⟩ | ⟨h1,h2,h3⟩
    ·have hd:decide (da<=300)=false:=by simp;omega
     rw [hd]
     go_wp2_with fail
     refine (HA.out _ HQ9.out).mono ?_;rintro x w10 ⟨rfl,hq10⟩
     have ZT:=hid hq10
     clear hq10
     go_wp2_with fail
     go_ret
     exact ⟨rfl,aK.out.trans (HQ9.out.trans ZT.out)⟩
    ·have hd:decide (da<=300)=true:=by simp;omega
     rw [hd]
     subst h2 h3
     go_wp2_with fail
     refine (HA.out _ HQ9.out).mono ?_;rintro x w10 ⟨rfl,hq10⟩
     have ZT:=hid hq10
     clear hq10
     go_wp2_with fail
     go_ret
     exact ⟨rfl,aK.out.trans (HQ9.out.trans ZT.out)⟩
end Cn
end
section
open Go.ChangeShapes Go.WideShapes Go.ChangeAt Go.RowKit
def Fb:Nat:=48
def Jh:List (String × DataW Unit):=[("unicode.White_Space",Rows.laid_unicode_White_Space),("strings.asciiSpace",Rows.laid_strings_asciiSpace)]
theorem Lr:(Rows.laid_strings_asciiSpace:DataW Unit)=Lib.tabData .u8 Lib.asciiSpaceTab:=by rfl
theorem door_met (os:Os) (args:Array Value):laidMetH Tryz.prog Jh ((World.doorLaid Tryz.prog Fb os).forCall (fun _ _=>0) ⟨#[],args,[]⟩).memory :=
 laidMetH_of_parts3 (fuel:=8) (laidMet_of_run' 8 (by kernel_rfl) (by kernel_rfl)) (by kernel_rfl) (by kernel_rfl)
theorem Dj {W:World} (h:laidMetH Tryz.prog Jh W):Lx.jO W:=by
 rw [MakeChecks.laidMetH_plain _ _ _ (by kernel_rfl)] at h
 have h2:=laidMet.tail h
 rw [Lr] at h2
 exact Lib.tabIs_of_head (g:=0) (n:=256) (by kernel_rfl) (by kernel_rfl) (t:=163) (e:=5) Tryz.underlying163 Tryz.underlying5 (by kernel_rfl) (by kernel_rfl) h2
end
end Go.Proofs.YtcninopmelmajaaGreatDoor
