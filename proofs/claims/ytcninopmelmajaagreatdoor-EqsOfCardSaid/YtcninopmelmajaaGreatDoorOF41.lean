/-
  Texts laid together (RqOf, EqOfLaw): laws and walks, with their conditions.
-/
import Derived.Test.YtcninopmelmajaaGreatDoorOF40
set_option maxHeartbeats 8000000
set_option maxRecDepth 1000000
namespace Go.Proofs.YtcninopmelmajaaGreatDoor
open Go.Lib (hid)
section
open Go.RowKit
namespace Em
def RoQ (w:World) (most:Nat) (d:Dk) (e:Ending) (w':World):Prop:=(most < d.L.length->e=.returned (.tuple #[.slice none 0 0,.bool false]))/\(¬ most < d.L.length->∃ o c,e=.returned (.tuple #[.slice o d.L.length c,.bool true])/\mG w' o d.L)/\ah w w'
theorem Wn.at' {R:Nat->Prop} {w:World} {o:Option Addr} {l:List mD} (h:Wn R w o l):mG w o l:=by
 have k:=h.fr (T:=fun _=>True) (Fr.refl (fun _=>False) w) (fun _ _ _=>⟨trivial,fun h=>h⟩);refine ⟨k.1,k.2.1,k.2.2.imp id ?_⟩;rintro ⟨b,off,h1,_,h3⟩;exact ⟨b,off,h1,h3⟩
theorem X8 {most : Nat} (hm : most <= 4000) (h : Nd) (ps : To) (w : World) (R : Nat -> Prop) (o1 : Option Addr) (l1 c1 : Nat) (o2 : Option Addr) (l2 c2 : Nat) (hs1 : aB R w o1 l1 h.tp) (hs : bD R w o2 l2 ps) (hz : ps.size <= 100000) (hok : Ri h ps.length) (mZ : vF ps) (hnb : (fH most h ps [] ⟨[], 0⟩).2.next <= 1000000) :
    Calls Tryz.prog 20 #[bI h o1 l1 c1 o2 l2 c2,.int .i64 most] w (RoQ w most (fH most h ps [] ⟨[],0⟩).2):=by
 obtain ⟨W0,hW0⟩:∃ W0,W0=w.alloc (.cells (cells9 h o1 l1 c1 o2 l2 c2) 29):=⟨_,rfl⟩;have hq0:ah w W0:=by rw [hW0];exact ah.alloc _ _
 have HB0:Hid (W0.heap[w.heap.size]?=some (.cells (cells9 h o1 l1 c1 o2 l2 c2) 29 (0,0))):=by show _=_;rw [hW0];exact heap_alloc_new w _
 have HT:=hid (QD hm h ps (c1:=c1) (c2:=c2) (hs1.stay hq0) (hs.stay hq0) hz hok mZ hnb);have aP:=hid hq0;generalize (fH most h ps [] ⟨[],0⟩).2=d at *;clear hs1 hs hz hok mZ hnb hq0;unfold bI at HT ⊢;go_enter Tryz.func20,Tryz.ntmps20;go_upto_region 1 with fail
 rw [<-hW0];clear hW0;obtain ⟨a0,a1,a2,a3,a4,a5,a6,a7,a8⟩:=aA HB0.out;go_wp2_with fail;refine HT.out.mono ?_;rintro x w3 ⟨lo,ln,lc,oo,on,oc,inn,rfl,hk,hq3⟩;have HLEN:=hid hk.len;have xG:=hid hk.eqs;have dU:=hid (aP.out.trans hq3);clear hk hq3 a0 a1 a2 a3 a4 a5 a6 a7 a8;have hb:=heap_alloc_new w3 (.cells (r5 lo ln lc d.next most oo on oc inn) 70);have hqz:=ah.alloc w3 (.cells (r5 lo ln lc d.next most oo on oc inn) 70);unfold iC;go_upto_region 2 with fail
 change Code.wp _ _ _ _ (w3.alloc (.cells (r5 lo ln lc d.next most oo on oc inn) 70));have nD:=hid (dU.out.trans hqz);have MF:=hid (xG.out.at'.stay hqz);generalize w3.alloc (.cells (r5 lo ln lc d.next most oo on oc inn) 70)=W5 at *;clear hqz;generalize w3.heap.size=pb at *;obtain ⟨⟨z0,z1,z2,z3,z4⟩,_⟩:=five hb;clear hb
 by_cases hov:most < ln
 ·have aau:(most:Int) < ln:=by omega
  go_wp2_with fail;refine bodyPost_ret (by first | (simp [results,Tryz.results20,go_sem];done) | (simp [results,Tryz.results20,go_sem];rfl)) rfl ?_;exact ⟨fun _=>rfl,fun h=>absurd (by rw [<-HLEN.out];exact hov) h,nD.out⟩
 ·have aau:¬ (most:Int) < ln:=by omega
  go_wp2_with fail;refine bodyPost_ret (by first | (simp [results,Tryz.results20,go_sem];done) | (simp [results,Tryz.results20,go_sem];rfl)) rfl ?_;exact ⟨fun h=>absurd (by rw [HLEN.out];exact h) hov,fun _=>⟨lo,lc,by rw [<-HLEN.out],MF.out⟩,nD.out⟩
end Em
end
section
open Go.RowKit Go.Shelf
namespace Em
theorem aaE {h:Nd} {ps:To} (hr:Sc.RT h ps=false) (most:Int):AB h ps most=([],1):=by
 unfold AB Sc.oI;rw [hr];rfl
theorem X9 {h:Nd} {ps:To} (hr:Sc.RT h ps=true) (hf:Sc.bP [] h ps≠[]) (most:Int):AB h ps most=([],5):=by
 unfold AB Sc.oI;rw [if_pos hr];cases hc:Sc.bP [] h ps with
 | nil=>exact absurd hc hf
 | cons x r=>rfl
theorem aco {h:Nd} {ps:To} {w W:World} {o1:Option Addr} {l1 c1:Nat} {o2:Option Addr} {l2 c2:Nat} (hp:U0 h ps w o1 l1 o2 l2) (hq:ah w W) (hg:Cn.jw h ps=false) (hr:Sc.RT h ps=true) (hf:Sc.bP [] h ps=[]) {m:Nat} (hm:m<=4000):Calls Tryz.prog 20 #[bI h o1 l1 c1 o2 l2 c2,.int .i64 m] W (RoQ W m (yA m h ps)):=by
 have hsm:=Sc.kC (Cn.rF hg) hp.2.2.1 hp.2.2.2.1;have hz:=hsm.size;have hok:=Ht (.cons h ps .nil) hr hsm.good;exact X8 hm h ps W _ o1 l1 c1 o2 l2 c2 (hp.1.stay hq) (hp.2.1.stay hq) (by omega) hok.1 hok.2.1 (U2 (UW hr hf) hm (by omega))
theorem QE (h : Nd) (ps : To) (w : World) (o1 : Option Addr) (l1 c1 : Nat) (o2 : Option Addr) (l2 c2 : Nat) (most : Int) (hp : U0 h ps w o1 l1 o2 l2) :
    Calls Tryz.prog 4 #[bI h o1 l1 c1 o2 l2 c2,.int .i64 most] w fun e w'=>e=.returned (.bool true)/\ah w w':=by
 obtain ⟨W0,hW0⟩:∃ W0,W0=w.alloc (.cells (cells9 h o1 l1 c1 o2 l2 c2) 29):=⟨_,rfl⟩;have hq0:ah w W0:=by rw [hW0];exact ah.alloc _ _
 have aP:=hid hq0;have HB:Hid (∀ W,ah W0 W->(qP W w.heap.size h o1 l1 c1 o2 l2 c2)):=by
  intro W hq;rw [hW0] at hq;exact IQ w h o1 l1 c1 o2 l2 c2 _ W hq
 have HG:Hid (∀ W,ah W0 W->Calls Tryz.prog 8 #[bI h o1 l1 c1 o2 l2 c2] W fun e w'=>e=.returned (.bool (Cn.jw h ps))/\ah W w'):=fun W hq=>Cn.Jk h ps w W o1 l1 c1 o2 l2 c2 hp.1 hp.2.1 hp.2.2.1 hp.2.2.2.1 (hq0.trans hq)
 have HA:Hid (∀ W,ah W0 W->Calls Tryz.prog 18 #[] W fun e w'=>e=.returned (.bool true)/\ah W w'):=fun W hq=>JI W (hp.2.2.2.2.stay (hq0.trans hq))
 have HR:Hid (Cn.jw h ps=false->∀ W,ah W0 W->Calls Tryz.prog 13 #[bI h o1 l1 c1 o2 l2 c2] W fun e w'=>e=.returned (.bool (Sc.RT h ps))/\ah W w'):=fun hg W hq=>XL hp (hq0.trans hq) hg
 have HF:Hid (Cn.jw h ps=false->Sc.RT h ps=true->∀ W,ah W0 W->Calls Tryz.prog 16 #[bI h o1 l1 c1 o2 l2 c2,.slice none 0 0] W (FrQ W (Sc.bP [] h ps).length)):=fun hg hr W hq=>aag hp (hq0.trans hq) hg hr
 have HO:Hid (Cn.jw h ps=false->∀ W,ah W0 W->Calls Tryz.prog 19 #[bI h o1 l1 c1 o2 l2 c2,.int .i64 most] W (OfQ W (AB h ps most))):=fun hg W hq=>adk hp (hq0.trans hq) hg most
 have Xn:Hid (Sc.RT h ps=false->AB h ps most=([],1)):=fun hr=>aaE hr most
 have HP2:Hid (Sc.RT h ps=true->Sc.bP [] h ps≠[]->AB h ps most=([],5)):=fun hr hf=>X9 hr hf most
 obtain ⟨m,hm⟩:∃ m:Nat,(m:Int)=max 0 (min most 300):=⟨(max 0 (min most 300)).toNat,by omega⟩;have ZG:Hid (Sc.RT h ps=true->Sc.bP [] h ps=[]->(m < (yA m h ps).L.length->300 < most∨AB h ps most=([],6))/\(¬ m < (yA m h ps).L.length->(most < 0->AB h ps most=([],6))/\(0<=most->AB h ps most=((yA m h ps).L,0)))):=fun hr hf=>aah (UW hr hf) most m hm
 have HRO:Hid (Cn.jw h ps=false->Sc.RT h ps=true->Sc.bP [] h ps=[]->∀ W,ah W0 W->Calls Tryz.prog 20 #[bI h o1 l1 c1 o2 l2 c2,.int .i64 m] W (RoQ W m (yA m h ps))):=fun hg hr hf W hq=>aco hp (hq0.trans hq) hg hr hf (by omega)
 have hmm:max 0 (min most 300)=(m:Int):=hm.symm;clear hp hq0 hm;unfold bI at HG HR HF HO HRO ⊢;generalize Cn.jw h ps=g at *;generalize Sc.RT h ps=r at *;generalize Sc.bP [] h ps=fl at *;generalize AB h ps most=on at *;generalize yA m h ps=dd at *;go_enter Tryz.func4,Tryz.ntmps4;go_upto_region 1 with fail
 rw [<-hW0];clear hW0;generalize dW:w.heap.size=B at *;clear dW;obtain ⟨a0,a1,a2,a3,a4,a5,a6,a7,a8⟩:=HB.out W0 (ah.refl _);go_wp2_with fail;refine (HG.out _ (ah.refl _)).mono ?_;rintro x w1 ⟨rfl,hq1⟩;have bU:=hid hq1;clear hq1;cases g
 case true =>
  clear a0 a1 a2 a3 a4 a5 a6 a7 a8;go_wp2_with fail;refine (HA.out _ bU.out).mono ?_;rintro x w2 ⟨rfl,hq2⟩;have eF:=hid hq2;clear hq2;go_wp2_with fail;go_ret;exact ⟨rfl,aP.out.trans (bU.out.trans eF.out)⟩
 case false =>
  clear a0 a1 a2 a3 a4 a5 a6 a7 a8;obtain ⟨a0,a1,a2,a3,a4,a5,a6,a7,a8⟩:=HB.out w1 bU.out;go_wp2_with fail;refine (HO.out (by trivial) _ bU.out).mono ?_;rintro x w2 ⟨p2,c2',rfl,hc2,he2,hq2⟩;have eF:=hid (bU.out.trans hq2);have HE2:=hid he2;clear hq2 he2;clear a0 a1 a2 a3 a4 a5 a6 a7 a8;obtain ⟨a0,a1,a2,a3,a4,a5,a6,a7,a8⟩:=HB.out w2 eF.out;go_wp2_with fail;refine (HR.out (by trivial) _ eF.out).mono ?_;rintro x w3 ⟨rfl,hq3⟩;have dU:=hid (eF.out.trans hq3);have HE3:=hid (HE2.out.stay hq3);clear hq3 HE2;cases r
  case false =>
   have hon:=Xn.out (by trivial);subst hon;clear a0 a1 a2 a3 a4 a5 a6 a7 a8 Xn HP2 ZG HE3;dsimp only;go_wp2_with fail;refine (HA.out _ dU.out).mono ?_;rintro x w4 ⟨rfl,hq4⟩;have fV:=hid hq4;clear hq4;go_wp2_with fail;go_ret;exact ⟨rfl,aP.out.trans (dU.out.trans fV.out)⟩
  case true =>
   clear a0 a1 a2 a3 a4 a5 a6 a7 a8;obtain ⟨a0,a1,a2,a3,a4,a5,a6,a7,a8⟩:=HB.out w3 dU.out;go_wp2_with fail;refine (HF.out (by trivial) (by trivial) _ dU.out).mono ?_;rintro x w4 ⟨fo,fc,rfl,hq4⟩;have fV:=hid (dU.out.trans hq4);have HE4:=hid (HE3.out.stay hq4);clear hq4 HE3;cases hfl:fl
   case cons f0 fr =>
    have hon:=HP2.out (by trivial) (by rw [hfl];exact fun e=>by cases e);subst hon;have hlen:(0:Int) < ((f0::fr).length:Nat):=by simp only [List.length_cons];omega
    generalize (f0::fr).length=fn at *;have hlen2:0 < fn:=by omega
    clear a0 a1 a2 a3 a4 a5 a6 a7 a8 Xn HP2 ZG HE4;dsimp only;go_wp2_with fail;refine (HA.out _ fV.out).mono ?_;rintro x w5 ⟨rfl,hq5⟩;have nD:=hid hq5;clear hq5;go_wp2_with fail;go_ret;exact ⟨rfl,aP.out.trans (fV.out.trans nD.out)⟩
   case nil =>
    have HP:=hid (ZG.out (by trivial) hfl);have Zw:=hid (HRO.out (by trivial) (by trivial) hfl);rw [List.length_nil];clear Xn HP2 ZG HRO HO HF HR HG;clear a0 a1 a2 a3 a4 a5 a6 a7 a8;obtain ⟨a0,a1,a2,a3,a4,a5,a6,a7,a8⟩:=HB.out w4 fV.out;rcases (show most < 0∨(0<=most/\most<=300)∨300 < most by omega) with hc | hc | hc
    ·obtain rfl:m=0:=by omega
     have hon:on=([],6):=by
      by_cases hov:0 < dd.L.length
      ·rcases HP.out.1 hov with h | h
       ·omega
       ·exact h
      ·exact (HP.out.2 hov).1 hc
     subst hon;have hmin:min most 300=most:=by omega
     rw [hmin] at hmm;dsimp only;go_wp2_with fail;refine (Zw.out _ fV.out).mono ?_;rintro x w5 ⟨hx1,hx2,hq5⟩;have jO:=hid hx1;have pq:=hid hx2;have nD:=hid (fV.out.trans hq5);have HE5:=hid (HE4.out.stay hq5);clear hx1 hx2 hq5 a0 a1 a2 a3 a4 a5 a6 a7 a8
     by_cases hov:0 < dd.L.length
     ·obtain rfl:=jO.out hov;go_wp2_with fail;refine (HA.out _ nD.out).mono ?_;rintro x w6 ⟨rfl,hq6⟩;have yK:=hid hq6;clear hq6;go_wp2_with fail;go_ret;exact ⟨rfl,aP.out.trans (nD.out.trans yK.out)⟩
     ·obtain ⟨o6,c6,rfl,_⟩:=pq.out hov;go_wp2_with fail;refine (HA.out _ nD.out).mono ?_;rintro x w6 ⟨rfl,hq6⟩;have yK:=hid hq6;clear hq6;go_wp2_with fail;go_ret;exact ⟨rfl,aP.out.trans (nD.out.trans yK.out)⟩
    ·obtain rfl:most=(m:Int):=by omega
     have hmin:min (m:Int) 300=m:=by omega
     have hmax:max 0 (m:Int)=m:=by omega
     have nR:¬ (300:Int) < m:=by omega
     have hm0:¬ (m:Int) < 0:=by omega
     clear hmm;go_wp2_with fail;refine (Zw.out _ fV.out).mono ?_;rintro x w5 ⟨hx1,hx2,hq5⟩;have jO:=hid hx1;have pq:=hid hx2;have nD:=hid (fV.out.trans hq5);have HE5:=hid (HE4.out.stay hq5);clear hx1 hx2 hq5 a0 a1 a2 a3 a4 a5 a6 a7 a8
     by_cases hov:m < dd.L.length
     ·obtain rfl:=jO.out hov;have hon:on=([],6):=by
       rcases HP.out.1 hov with h | h
       ·omega
       ·exact h
      subst hon;dsimp only;go_wp2_with fail;refine (HA.out _ nD.out).mono ?_;rintro x w6 ⟨rfl,hq6⟩;have yK:=hid hq6;clear hq6;go_wp2_with fail;go_ret;exact ⟨rfl,aP.out.trans (nD.out.trans yK.out)⟩
     ·obtain ⟨o6,c6,rfl,he6⟩:=pq.out hov;have hon:on=(dd.L,0):=(HP.out.2 hov).2 (by omega);subst hon;have HE6:=hid he6;have iK:Hid (∀ W pa ca pb cb,mG W pa dd.L->mG W pb dd.L->Calls Tryz.prog 21 #[.slice pa dd.L.length ca,.slice pb dd.L.length cb] W fun e w'=>e=.returned (.bool true)/\ah W w'):=fun W pa ca pb cb k1 k2=>FI dd.L W pa ca pb cb k1 k2
      dsimp only at HE5;dsimp only;clear jO pq HP he6 hov;generalize dd.L.length=ln at *;go_wp2_with fail;refine (iK.out w5 p2 c2' o6 c6 HE5.out HE6.out).mono ?_;rintro x w7 ⟨rfl,hq7⟩;have Ns:=hid (nD.out.trans hq7);clear hq7;go_wp2_with fail;refine (HA.out _ Ns.out).mono ?_;rintro x w8 ⟨rfl,hq8⟩;have Tv:=hid hq8;clear hq8;go_wp2_with fail;go_ret;exact ⟨rfl,aP.out.trans (Ns.out.trans Tv.out)⟩
    ·obtain rfl:m=300:=by omega
     have hmin:min most 300=300:=by omega
     have hmax:max 0 (300:Int)=300:=by omega
     have nR:(300:Int) < most:=hc;have hm0:¬ most < 0:=by omega
     clear hmm;go_wp2_with fail;refine (Zw.out _ fV.out).mono ?_;rintro x w5 ⟨hx1,hx2,hq5⟩;have jO:=hid hx1;have pq:=hid hx2;have nD:=hid (fV.out.trans hq5);have HE5:=hid (HE4.out.stay hq5);clear hx1 hx2 hq5 a0 a1 a2 a3 a4 a5 a6 a7 a8
     by_cases hov:300 < dd.L.length
     ·obtain rfl:=jO.out hov;go_wp2_with fail;refine (HA.out _ nD.out).mono ?_;rintro x w6 ⟨rfl,hq6⟩;have yK:=hid hq6;clear hq6;go_wp2_with fail;go_ret;exact ⟨rfl,aP.out.trans (nD.out.trans yK.out)⟩
     ·obtain ⟨o6,c6,rfl,he6⟩:=pq.out hov;have hon:on=(dd.L,0):=(HP.out.2 hov).2 (by omega);subst hon;have HE6:=hid he6;have iK:Hid (∀ W pa ca pb cb,mG W pa dd.L->mG W pb dd.L->Calls Tryz.prog 21 #[.slice pa dd.L.length ca,.slice pb dd.L.length cb] W fun e w'=>e=.returned (.bool true)/\ah W w'):=fun W pa ca pb cb k1 k2=>FI dd.L W pa ca pb cb k1 k2
      dsimp only at HE5;dsimp only;clear jO pq HP he6 hov;generalize dd.L.length=ln at *;go_wp2_with fail;refine (iK.out w5 p2 c2' o6 c6 HE5.out HE6.out).mono ?_;rintro x w7 ⟨rfl,hq7⟩;have Ns:=hid (nD.out.trans hq7);clear hq7;go_wp2_with fail;refine (HA.out _ Ns.out).mono ?_;rintro x w8 ⟨rfl,hq8⟩;have Tv:=hid hq8;clear hq8;go_wp2_with fail;go_ret;exact ⟨rfl,aP.out.trans (Ns.out.trans Tv.out)⟩
end Em
end
end Go.Proofs.YtcninopmelmajaaGreatDoor
