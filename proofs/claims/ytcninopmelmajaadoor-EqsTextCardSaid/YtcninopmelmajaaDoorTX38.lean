/-
  Texts laid together (RqOf, CnGreat, EqMany, EqTxt0, EqTxtLaw): laws and walks, with their conditions.
-/
import Derived.Test.YtcninopmelmajaaDoorTX37
set_option maxHeartbeats 8000000
set_option maxRecDepth 1000000
namespace Go.Proofs.YtcninopmelmajaaDoor
open Go.Lib (hid)
section
open Go.RowKit
namespace Em
def RoQ (w:World) (most:Nat) (d:Dk) (e:Ending) (w':World):Prop:=(most < d.L.length->e=.returned (.tuple #[.slice none 0 0,.bool false]))/\(¬ most < d.L.length->∃ o c,e=.returned (.tuple #[.slice o d.L.length c,.bool true])/\qw w' o d.L)/\ah w w'
theorem WQ.at' {R:Nat->Prop} {w:World} {o:Option Addr} {l:List lF} (h:WQ R w o l):qw w o l:=by
 have k:=h.fr (T:=fun _=>True) (Fr.refl (fun _=>False) w) (fun _ _ _=>⟨trivial,fun h=>h⟩);refine ⟨k.1,k.2.1,k.2.2.imp id ?_⟩;rintro ⟨b,off,h1,_,h3⟩;exact ⟨b,off,h1,h3⟩
theorem Yj {most : Nat} (hm : most <= 4000) (h : Nd) (ps : To) (w : World) (R : Nat -> Prop) (o1 : Option Addr) (l1 c1 : Nat) (o2 : Option Addr) (l2 c2 : Nat) (hs1 : aB R w o1 l1 h.tp) (hs : bC R w o2 l2 ps) (hz : ps.size <= 100000) (hok : KU h ps.length) (kF : rH ps) (hnb : (dZ most h ps [] ⟨[], 0⟩).2.next <= 1000000) :
    Calls Tryd.prog 8 #[bP h o1 l1 c1 o2 l2 c2,.int .i64 most] w (RoQ w most (dZ most h ps [] ⟨[],0⟩).2):=by
 obtain ⟨W0,hW0⟩:∃ W0,W0=w.alloc (.cells (cells9 h o1 l1 c1 o2 l2 c2) 30):=⟨_,rfl⟩;have hq0:ah w W0:=by rw [hW0];exact ah.alloc _ _
 have HB0:Hid (W0.heap[w.heap.size]?=some (.cells (cells9 h o1 l1 c1 o2 l2 c2) 30 (0,0))):=by show _=_;rw [hW0];exact heap_alloc_new w _
 have HT:=hid (QS hm h ps (c1:=c1) (c2:=c2) (hs1.stay hq0) (hs.stay hq0) hz hok kF hnb);have bD:=hid hq0;generalize (dZ most h ps [] ⟨[],0⟩).2=d at *;clear hs1 hs hz hok kF hnb hq0;unfold bP at HT ⊢;go_enter Tryd.func8,Tryd.ntmps8;go_upto_region 1 with fail
 rw [<-hW0];clear hW0;obtain ⟨a0,a1,a2,a3,a4,a5,a6,a7,a8⟩:=aA HB0.out;go_wp2_with fail;refine HT.out.mono ?_;rintro x w3 ⟨lo,ln,lc,oo,on,oc,inn,rfl,hk,hq3⟩;have HLEN:=hid hk.len;have xE:=hid hk.eqs;have qI:=hid (bD.out.trans hq3);clear hk hq3 a0 a1 a2 a3 a4 a5 a6 a7 a8;have hb:=heap_alloc_new w3 (.cells (r5 lo ln lc d.next most oo on oc inn) 61);have hqz:=ah.alloc w3 (.cells (r5 lo ln lc d.next most oo on oc inn) 61);unfold gK;go_upto_region 2 with fail
 change Code.wp _ _ _ _ (w3.alloc (.cells (r5 lo ln lc d.next most oo on oc inn) 61));have qU:=hid (qI.out.trans hqz);have MP:=hid (xE.out.at'.stay hqz);generalize w3.alloc (.cells (r5 lo ln lc d.next most oo on oc inn) 61)=W5 at *;clear hqz;generalize w3.heap.size=pb at *;obtain ⟨⟨z0,z1,z2,z3,z4⟩,_⟩:=five hb;clear hb
 by_cases hov:most < ln
 ·have aaB:(most:Int) < ln:=by omega
  go_wp2_with fail;refine bodyPost_ret (by first | (simp [results,Tryd.results8,go_sem];done) | (simp [results,Tryd.results8,go_sem];rfl)) rfl ?_;exact ⟨fun _=>rfl,fun h=>absurd (by rw [<-HLEN.out];exact hov) h,qU.out⟩
 ·have aaB:¬ (most:Int) < ln:=by omega
  go_wp2_with fail;refine bodyPost_ret (by first | (simp [results,Tryd.results8,go_sem];done) | (simp [results,Tryd.results8,go_sem];rfl)) rfl ?_;exact ⟨fun h=>absurd (by rw [HLEN.out];exact h) hov,fun _=>⟨lo,lc,by rw [<-HLEN.out],MP.out⟩,qU.out⟩
end Em
end
section
open Go.RowKit Go.Shelf
namespace Cn
def jY (h:Nd) (ps:To):Bool:=jW h ps || decide (60 < ps.size+1)
theorem Kz (h : Nd) (ps : To) (w W : World) (o1 : Option Addr) (l1 c1 : Nat) (o2 : Option Addr) (l2 c2 : Nat) (h1 : aB (Low w) w o1 l1 h.tp) (h2 : bC (Low w) w o2 l2 ps) (ho : Wy h) (hop : allT Wy ps) (hq : ah w W) :
    Calls Tryd.prog 6 #[bP h o1 l1 c1 o2 l2 c2] W fun e w'=>e=.returned (.bool (jY h ps))/\ah W w':=by
 obtain ⟨W0,hW0⟩:∃ W0,W0=W.alloc (.cells (cells9 h o1 l1 c1 o2 l2 c2) 30):=⟨_,rfl⟩;have hq0:ah W W0:=by rw [hW0];exact ah.alloc _ _
 have bD:=hid hq0;have HB:Hid (∀ V,ah W0 V->(qV V W.heap.size h o1 l1 c1 o2 l2 c2)):=by
  intro V hq;rw [hW0] at hq;exact PI W h o1 l1 c1 o2 l2 c2 _ V hq
 have HG:Hid (∀ V,ah W0 V->Calls Tryd.prog 17 #[bP h o1 l1 c1 o2 l2 c2] V fun e w'=>e=.returned (.bool (jW h ps))/\ah V w'):=fun V hv=>Sc.MH h ps w V o1 l1 c1 o2 l2 c2 h1 h2 ho hop (hq.trans (hq0.trans hv))
 have HL:Hid (jW h ps=false->∀ V,ah W0 V->Calls Tryd.prog 10 #[bP h o1 l1 c1 o2 l2 c2] V fun e w'=>∃ o c xs,e=.returned (.slice o (ps.size+1) c)/\ql V.heap.size w' o (ps.size+1) c xs/\ah V w'):=fun hg V hv=>Hg h ps V _ o1 l1 c1 o2 l2 c2 (h2.stay (hq.trans (hq0.trans hv))) (by have:=(Sc.lN hg ho hop).size;omega)
 clear h1 h2 ho hop hq0;unfold bP at HG HL ⊢;unfold jY;generalize jW h ps=g at *;go_enter Tryd.func6,Tryd.ntmps6;go_upto_region 1 with fail
 rw [<-hW0];clear hW0;generalize dV:W.heap.size=B at *;clear dV;obtain ⟨a0,a1,a2,a3,a4,a5,a6,a7,a8⟩:=HB.out W0 (ah.refl _);go_wp2_with fail;refine (HG.out _ (ah.refl _)).mono ?_;rintro x w1 ⟨rfl,hq1⟩;clear a0 a1 a2 a3 a4 a5 a6 a7 a8;obtain ⟨a0,a1,a2,a3,a4,a5,a6,a7,a8⟩:=HB.out w1 hq1;have fD:=hid hq1;clear hq1;cases g
 case true =>
  go_wp2_with fail;go_ret;exact ⟨by simp,bD.out.trans fD.out⟩
 case false =>
  go_wp2_with fail;refine (HL.out (by trivial) _ fD.out).mono ?_;rintro x w2 ⟨o,c,xs,rfl,_,hq2⟩;have fC:=hid hq2;clear hq2;go_wp2_with fail;go_ret;refine ⟨?_,bD.out.trans (fD.out.trans fC.out)⟩
  first | rfl | (congr 2;simp;omega) | (simp;omega)
theorem xu {h:Nd} {ps:To} (hg:jY h ps=false):jW h ps=false:=by
 unfold jY at hg;cases h1:jW h ps
 ·rfl
 ·rw [h1] at hg;exact hg
end Cn
end
section
open Go.RowKit Go.Shelf
namespace Em
def VU (h:Nd) (ps:To) (w:World) (o1:Option Addr) (l1:Nat) (o2:Option Addr) (l2:Nat):Prop:=aB (Low w) w o1 l1 h.tp/\bC (Low w) w o2 l2 ps/\Wy h/\allT Wy ps/\Lx.kD w
def FrQ (W:World) (n:Nat) (e:Ending) (w':World):Prop:=∃ o c,e=.returned (.slice o n c)/\ah W w'
theorem aaL {h:Nd} {ps:To} {w W:World} {o1:Option Addr} {l1 c1:Nat} {o2:Option Addr} {l2 c2:Nat} (hp:VU h ps w o1 l1 o2 l2) (hq:ah w W) (hg:Cn.jY h ps=false) (hr:Sc.RT h ps=true):Calls Tryd.prog 7 #[bP h o1 l1 c1 o2 l2 c2,.slice none 0 0] W (FrQ W (Sc.bM [] h ps).length):=by
 have hsm:=Sc.lN (Cn.xu hg) hp.2.2.1 hp.2.2.2.1;have hok:=Sc.YU hr;refine (Sc.Jy h ps W _ (fun _=>True) o1 l1 c1 o2 l2 c2 none 0 0 [] (hp.2.1.stay hq) (Sc.iY.nil _ _ _) (by have:=hsm.size;omega) hok.1 (Sc.yc _ hok.2.1)).mono ?_;rintro e w' ⟨o,c,xs,rfl,_,h3⟩;exact ⟨o,c,rfl,h3⟩
theorem adB {h:Nd} {ps:To} {w W:World} {o1:Option Addr} {l1 c1:Nat} {o2:Option Addr} {l2 c2:Nat} (hp:VU h ps w o1 l1 o2 l2) (hq:ah w W) (hg:Cn.jY h ps=false) (most:Int):Calls Tryd.prog 9 #[bP h o1 l1 c1 o2 l2 c2,.int .i64 most] W (OfQ W (IX h ps most)):=by
 have hsm:=Sc.lN (Cn.xu hg) hp.2.2.1 hp.2.2.2.1;exact Vf h ps most W _ o1 l1 c1 o2 l2 c2 (hp.1.stay hq) (hp.2.1.stay hq) (by have:=hsm.size;omega) hsm.good (hp.2.2.2.2.stay hq)
end Em
end
section
open Go.RowKit Go.Shelf Lx Pa
namespace Em
theorem Yk (k:Int):G9 k<=9223372036854775807:=by
 unfold G9
 repeat' split
 all_goals omega
theorem aaM {h:Nd} {m:Nat} (hg:sF h) (hs:fK h m=true):Wy h:=by
 have hn:0<=h.n/\h.n<=G9 h.k:=by
  unfold fK at hs;simp only [Bool.and_eq_true,decide_eq_true_eq] at hs;exact ⟨hs.1.1.1.2,hs.1.1.2⟩
 have ht:=Yk h.k;exact ⟨by have:=hg.1;unfold maxLen;omega,hg.2.2.1,hg.2.2.2,GK (by omega) (by omega)⟩
theorem IB:∀ f:To,allT sF f->Cc f=true->allT Wy f
 | .nil,_,_=>trivial
 | .cons h ps r,g,e=>by
  rw [oH,Bool.and_eq_true,Bool.and_eq_true] at e;exact ⟨aaM g.1 e.1.1,IB ps g.2.1 e.1.2,IB r g.2.2 e.2⟩
theorem Yl {s:ByteArray} {h:Nd} {ps:To} {R:Nat->Prop} {w:World} {o1:Option Addr} {l1:Nat} {o2:Option Addr} {l2:Nat} (hok:Sc.YV s h ps) (h1:aB R w o1 l1 h.tp) (h2:bC R w o2 l2 ps) (ht:Lx.kD w):VU h ps w o1 l1 o2 l2:=by
 have k:=IB (.cons h ps .nil) hok.good hok.right;exact ⟨h1.mono fun _ hl _=>hl,h2.mono fun _ hl _=>hl,k.1,k.2.1,ht⟩
theorem QT {α:Type} {p:α->Bool} {l:List α} {i:Nat} {x:α} (h:l[i]?=some x):(l.take (i+1)).any p=((l.take i).any p || p x):=by
 rw [List.take_add_one,h];simp
def Nc (a b:Int) (y:Nd):Bool:=decide (y.fr=a) && decide (y.en=b)
theorem VW {s:List UInt8} {f:Nat} {p:Pt} {er:Nat} (h:vT s f=.inr (p,er)):er≠0:=by
 unfold vT at h
 split at h
 ·next a e hw=>cases h;exact wG _ _ _ _ hw
 ·next ts hw =>
  split at h
  ·cases h
  ·next i e he =>
   cases h;exact (Fz (mJ hw).1 (mJ hw).2 f _ _ he).2
theorem zK:∀ f:To,spans f=(hds f).map fun h=>(h.fr,h.en)
 | .nil=>rfl
 | .cons h ps r=>by rw [Cb,spans,zK ps,zK r];simp
theorem Ym {h:Nd} {ps:To} (m:Nat) (hok:KU h ps.length) (kF:rH ps) {i:Nat} {t:lF} (ht:(vF m h ps).L[i]?=some t):∃ (k:Nat) (y:Nd),(h::hds ps)[k]?=some y/\y.fr=t.2.2.1/\y.en=t.2.2.2:=by
 have k:=J9 m h ps hok kF t (List.mem_of_getElem? ht);rw [zK,Cb] at k;obtain ⟨y,hy,he⟩:=List.mem_map.1 k;have hy':y∈h::hds ps:=by simpa [hds,To.flat] using hy
 obtain ⟨j,hj⟩:=List.getElem?_of_mem hy';injection he with e1 e2
 exact ⟨j,y,hj,e1,e2⟩
end Em
end
section
open Go.RowKit Go.Shelf Lx Pa
namespace Em
theorem acr {h:Nd} {ps:To} {w W:World} {o1:Option Addr} {l1 c1:Nat} {o2:Option Addr} {l2 c2:Nat} (hp:VU h ps w o1 l1 o2 l2) (hq:ah w W) (hg:Cn.jY h ps=false) (hr:Sc.RT h ps=true) (hf:Sc.bM [] h ps=[]) {m:Nat} (hm:m<=4000):Calls Tryd.prog 8 #[bP h o1 l1 c1 o2 l2 c2,.int .i64 m] W (RoQ W m (vF m h ps)):=by
 have hsm:=Sc.lN (Cn.xu hg) hp.2.2.1 hp.2.2.2.1;have hz:=hsm.size;have hok:=DL (.cons h ps .nil) hr hsm.good;exact Yj hm h ps W _ o1 l1 c1 o2 l2 c2 (hp.1.stay hq) (hp.2.1.stay hq) (by omega) hok.1 hok.2.1 (Vj (Ve hr hf) hm (by omega))
theorem KA (s : ByteArray) (w : World) (ht : Lx.kD w) :
    Calls Tryd.prog 3 #[.string s] w fun e w'=>e=.returned (.bool true)/\ah w w':=by
 have HA:Hid (∀ W,ah w W->Calls Tryd.prog 4 #[] W fun e w'=>e=.returned (.bool true)/\ah W w'):=fun W hq=>Ko W (ht.stay hq)
 by_cases hs:s.size<=200
 ·have h1:¬ (s.size:Int) > 200:=by omega
  have h1':¬ (200:Int) < s.size:=by omega
  have HC:=hid (Jm s (by omega) 1000 1000 rfl (by omega) (by omega) w);have HT:=hid ht;clear ht;cases hq:vT s.data.toList 1000 with
  | inr y =>
   obtain ⟨p,er⟩:=y;have hne:=VW hq;have hne2:((er:Int) != 0)=true:=by simp [hne]
   rw [hq] at HC;go_enter Tryd.func3,Tryd.ntmps3;go_wp2_with fail;refine HC.out.mono ?_;rintro x w1 ⟨rfl,hq1⟩;have fD:=hid hq1;clear hq1;go_wp2_with fail;refine (HA.out _ (fD.out.trans ((ah.alloc _ _).trans (ah.alloc _ _)))).mono ?_;rintro x w2 ⟨rfl,hq2⟩;have fC:=hid hq2;clear hq2;go_wp2_with fail;go_ret;exact ⟨rfl,(fD.out.trans ((ah.alloc _ _).trans (ah.alloc _ _))).trans fC.out⟩
  | inl y =>
   obtain ⟨h,ps⟩:=y;have hok:=Sc.ZP (by omega) hq;rw [hq] at HC;have hkt:=DL (.cons h ps .nil) hok.right hok.good;have Zr:Hid (∀ (i:Nat) (t:lF),(vF 300 h ps).L[i]?=some t->∃ (k:Nat) (y:Nd),(h::hds ps)[k]?=some y/\y.fr=t.2.2.1/\y.en=t.2.2.2):=fun i t hi=>Ym 300 hkt.1 hkt.2.1 hi
   have htz:(h::hds ps).length<=100000:=by have:=hok.size;rw [List.length_cons,wC];omega
   have xA:=hid hok;clear hok hq hkt;go_enter Tryd.func3,Tryd.ntmps3;go_wp2_with fail;refine HC.out.mono ?_;rintro x w1 ⟨o1,l1,c1,o2,l2,c2,rfl,hs1,hs2,hq1⟩;unfold bP;obtain ⟨W2,hW2⟩:∃ W2,W2=(w1.alloc (.cells (cells9 h o1 l1 c1 o2 l2 c2) 30)).alloc (.cells #[.int .i64 0,.int .i64 0] 28):=⟨_,rfl⟩;have hqa:ah w1 W2:=by rw [hW2];exact (ah.alloc _ _).trans (ah.alloc _ _)
   have hb2:W2.heap[w1.heap.size]?=some (.cells (cells9 h o1 l1 c1 o2 l2 c2) 30 (0,0)):=by
    rw [hW2,Below.heap_alloc _ _ _ (by simp)];exact heap_alloc_new w1 _
   have HB2:Hid (∀ W,ah W2 W->dL W w1.heap.size 0 h o1 l1 c1 o2 l2 c2):=fun W hq=>(aA hb2).fr hq (fun h=>h)
   have Yn:Hid (VU h ps W2 o1 l1 o2 l2):=Yl xA.out (hs1.stay hqa) (hs2.stay hqa) (HT.out.stay (hq1.trans hqa));have fC:=hid (hq1.trans hqa);go_upto_region 4 with fail
   change Code.wp _ _ _ _ ((w1.alloc (.cells (cells9 h o1 l1 c1 o2 l2 c2) 30)).alloc (.cells #[.int .i64 0,.int .i64 0] 28));rw [<-hW2];clear hW2 hqa hb2 hq1 hs1 hs2;generalize w1.heap.size=tb at *;have HG:Hid (∀ W,ah W2 W->Calls Tryd.prog 6 #[bP h o1 l1 c1 o2 l2 c2] W fun e w'=>e=.returned (.bool (Cn.jY h ps))/\ah W w'):=fun W hq=>Cn.Kz h ps W2 W o1 l1 c1 o2 l2 c2 Yn.out.1 Yn.out.2.1 Yn.out.2.2.1 Yn.out.2.2.2.1 hq
   have HF:Hid (Cn.jY h ps=false->∀ W,ah W2 W->Calls Tryd.prog 7 #[bP h o1 l1 c1 o2 l2 c2,.slice none 0 0] W (FrQ W (Sc.bM [] h ps).length)):=fun hg W hq=>aaL Yn.out hq hg xA.out.right
   have HO:Hid (Cn.jY h ps=false->∀ W,ah W2 W->Calls Tryd.prog 9 #[bP h o1 l1 c1 o2 l2 c2,.int .i64 300] W (OfQ W (IX h ps 300))):=fun hg W hq=>adB Yn.out hq hg 300
   have HRO:Hid (Cn.jY h ps=false->Sc.bM [] h ps=[]->∀ W,ah W2 W->Calls Tryd.prog 8 #[bP h o1 l1 c1 o2 l2 c2,.int .i64 300] W (RoQ W 300 (vF 300 h ps))):=fun hg hf W hq=>acr Yn.out hq hg xA.out.right hf (m:=300) (by omega)
   have acs:Hid (Sc.bM [] h ps=[]->(300 < (vF 300 h ps).L.length->IX h ps 300=([],6))/\(¬ 300 < (vF 300 h ps).L.length->IX h ps 300=((vF 300 h ps).L,0))):=fun hf=>by
    have k:=aap (Ve xA.out.right hf) 300 300 (by omega);exact ⟨fun h=>(k.1 h).resolve_left (by omega),fun h=>(k.2 h).2 (by omega)⟩
   have YZ:Hid (∀ W,ah W2 W->Calls Tryd.prog 10 #[bP h o1 l1 c1 o2 l2 c2] W (Ad W (h::hds ps))):=fun W hq=>He h ps W _ o1 l1 c1 o2 l2 c2 (Yn.out.2.1.stay hq) (by have:=xA.out.size;omega)
   clear Yn xA HT;unfold bP at HG HF HO HRO YZ;generalize Cn.jY h ps=g at *;generalize Sc.bM [] h ps=fl at *;generalize IX h ps 300=on at *;generalize vF 300 h ps=dd at *;generalize h::hds ps=tl at *;obtain ⟨a0,a1,a2,a3,a4,a5,a6,a7,a8⟩:=HB2.out W2 (ah.refl _);go_wp2_with fail;refine (HG.out _ (ah.refl _)).mono ?_;rintro x w3 ⟨rfl,hq3⟩;have qI:=hid hq3;clear hq3 a0 a1 a2 a3 a4 a5 a6 a7 a8;obtain ⟨a0,a1,a2,a3,a4,a5,a6,a7,a8⟩:=HB2.out w3 qI.out;cases g
   case true =>
    go_wp2_with fail;refine (HA.out _ (fC.out.trans qI.out)).mono ?_;rintro x w9 ⟨rfl,oU⟩;have HQ9:=hid (ah.trans (fC.out.trans qI.out) oU);clear oU;go_wp2_with fail;go_ret;exact ⟨rfl,HQ9.out⟩
   case false =>
    go_wp2_with fail;refine (HF.out (by trivial) _ qI.out).mono ?_;rintro x w4 ⟨fo,fc,rfl,hq4⟩;have uI:=hid (qI.out.trans hq4);clear hq4 a0 a1 a2 a3 a4 a5 a6 a7 a8;cases hfl:fl
    case cons f0 fr =>
     have hlen:(0:Int) < ((f0::fr).length:Nat):=by simp only [List.length_cons];omega
     generalize (f0::fr).length=fn at *;have hlen2:0 < fn:=by omega
     go_wp2_with fail;refine (HA.out _ (fC.out.trans uI.out)).mono ?_;rintro x w9 ⟨rfl,oU⟩;have HQ9:=hid (ah.trans (fC.out.trans uI.out) oU);clear oU;go_wp2_with fail;go_ret;exact ⟨rfl,HQ9.out⟩
    case nil =>
     have HP:=hid (acs.out hfl);have HRC:=hid (HRO.out (by trivial) hfl);have HOC:=hid (HO.out (by trivial));rw [List.length_nil];clear acs HRO HO HF HG;obtain ⟨a0,a1,a2,a3,a4,a5,a6,a7,a8⟩:=HB2.out w4 uI.out;go_wp2_with fail;refine (HRC.out _ uI.out).mono ?_;rintro x w5 ⟨hx1,hx2,hq5⟩;have jR:=hid hx1;have qE:=hid hx2;have qU:=hid (uI.out.trans hq5);clear hx1 hx2 hq5 a0 a1 a2 a3 a4 a5 a6 a7 a8;obtain ⟨a0,a1,a2,a3,a4,a5,a6,a7,a8⟩:=HB2.out w5 qU.out
     by_cases hov:300 < dd.L.length
     ·obtain rfl:=jR.out hov;have hon:on=([],6):=HP.out.1 hov;subst hon;go_wp2_with fail;refine (HOC.out _ qU.out).mono ?_;rintro x w6 ⟨p6,c6,rfl,_,_,hq6⟩;have yV:=hid (qU.out.trans hq6);clear hq6 a0 a1 a2 a3 a4 a5 a6 a7 a8;dsimp only;go_wp2_with fail;refine (HA.out _ (fC.out.trans yV.out)).mono ?_;rintro x w9 ⟨rfl,oU⟩;have HQ9:=hid (ah.trans (fC.out.trans yV.out) oU);clear oU;go_wp2_with fail;go_ret;exact ⟨rfl,HQ9.out⟩
     ·obtain ⟨o6,c6,rfl,he6⟩:=qE.out hov;have hon:on=(dd.L,0):=HP.out.2 hov;subst hon;have HE6:=hid he6;clear jR qE HP he6;go_wp2_with fail;refine (HOC.out _ qU.out).mono ?_;rintro x w6 ⟨p2,c2',rfl,hc2,he2,hq6⟩;have HE2:=hid he2;have acu:=hid (HE6.out.stay hq6);have yV:=hid (qU.out.trans hq6);clear hq6 he2 HE6 HOC a0 a1 a2 a3 a4 a5 a6 a7 a8;obtain ⟨a0,a1,a2,a3,a4,a5,a6,a7,a8⟩:=HB2.out w6 yV.out;dsimp only at HE2 hc2;dsimp only;go_upto_region 10 with fail
      go_wp2_with fail;refine (YZ.out _ yV.out).mono ?_;rintro x w7 ⟨lo,lc,ys,rfl,hln,hq7⟩;have Xg:=hid hln.heads;have Hw:=hid (HE2.out.stay hq7);have HER:=hid (acu.out.stay hq7);have WB:=hid (yV.out.trans hq7);have EW:Hid (∀ W,ah w7 W->Calls Tryd.prog 11 #[.slice p2 dd.L.length c2',.slice o6 dd.L.length c6] W fun e w'=>e=.returned (.bool true)/\ah W w'):=fun W hq=>QF dd.L W p2 c2' o6 c6 (Hw.out.stay hq) (HER.out.stay hq)
      clear hln hq7 HE2 acu YZ a0 a1 a2 a3 a4 a5 a6 a7 a8;generalize hL:dd.L=L at *;have hlz:L.length<=300:=by omega
      clear hL hov;obtain ⟨ln,hln⟩:∃ ln,L.length=ln:=⟨_,rfl⟩;obtain ⟨tn,htn⟩:∃ tn,tl.length=tn:=⟨_,rfl⟩;rw [hln] at EW hlz hc2 ⊢;rw [htn] at htz ⊢;have qX:=hid hln;have HTN:=hid htn;clear hln htn;go_wp2_with fail;go_loopw [11] (fun t wr=>∃ (i:Nat),t=.int .i64 i/\i<=ln/\ah w7 wr) (fun t _=>ln-(intOf t).toNat)
      case atStart=>exact ⟨0,rfl,Nat.zero_le _,ah.refl _⟩
      case round =>
       obtain ⟨i,rfl,hi,hqi⟩:=hrel;have HQI:=hid hqi;clear hqi
       by_cases hlt:i < ln
       ·have hlt':(i:Int) < ln:=by omega
        obtain ⟨t,hti⟩:∃ t,L[i]?=some t:=⟨_,List.getElem?_eq_getElem (by have:=qX.out;omega)⟩;obtain ⟨b1,off1,rfl,hqa⟩:=Hw.out.2.2.resolve_left (by intro e;rw [e] at hti;simp at hti);obtain ⟨q1,m1,d1,q2,m2,d2,_,_,_,_,_,_,_,_,e6,e7⟩:=hqa i t hti;have HAT:=hid (show w7.cell? ⟨b1,off1+i*8+6,none⟩=some (.int .i64 t.2.2.1)/\w7.cell? ⟨b1,off1+i*8+7,none⟩=some (.int .i64 t.2.2.2) from ⟨e6,e7⟩);have adC:Hid (tl.any (Nc t.2.2.1 t.2.2.2)=true):=by
         show _=_
         obtain ⟨k,y,hk,ha,hb⟩:=Zr.out i t hti;exact List.any_eq_true.2 ⟨y,List.mem_of_getElem? hk,by simp [Nc,ha,hb]⟩
        clear hti hqa e6 e7;generalize t.2.2.1=u1 at *;generalize t.2.2.2=u2 at *;go_wp2_with fail;go_loopw [12,13] (fun v t w3=>∃ (k:Nat),t=.int .i64 k/\k<=tn/\v=.bool ((tl.take k).any (Nc u1 u2))/\ah w7 w3) (fun _ t _=>tn-(intOf t).toNat)
        case atStart=>exact ⟨0,rfl,Nat.zero_le _,rfl,HQI.out⟩
        case round =>
         obtain ⟨k,rfl,hk,rfl,hqk⟩:=hrel;have HQK:=hid hqk
         by_cases hlt2:k < tn
         ·have TM:(k:Int) < tn:=by omega
          obtain ⟨y,hyk⟩:∃ y,tl[k]?=some y:=⟨_,List.getElem?_eq_getElem (by have:=HTN.out;omega)⟩;have HN2:Hid ((tl.take (k+1)).any (Nc u1 u2)=((tl.take k).any (Nc u1 u2) || (decide (y.fr=u1) && decide (y.en=u2)))):=QT hyk;obtain ⟨b2,off2,r1,n1,f1,r2,n2,f2,rfl,KP⟩:=Xg.out k y hyk;have z7:=hqk.at KP.2.2.2.2.2.2.2.1;have z8:=hqk.at KP.2.2.2.2.2.2.2.2;have y6:=hqk.at HAT.out.1;have y7:=hqk.at HAT.out.2;clear hyk hqk KP;generalize (tl.take k).any (Nc u1 u2)=q at *;cases q
          ·generalize y.fr=v1 at *;generalize y.en=v2 at *
           by_cases k1:v1=u1
           ·by_cases k2:v2=u2
            ·subst k1 k2;go_wp2_with fail;go_quiet (fail);go_wp2_with fail;go_roundw
             case rel=>exact ⟨k+1,by go_num,by omega,by rw [HN2.out];simp,HQK.out.trans (ah.drewN _ _)⟩
             case measure=>simp [intOf];omega
            ·subst k1;go_wp2_with fail;go_quiet (fail);go_wp2_with fail;go_roundw
             case rel=>exact ⟨k+1,by go_num,by omega,by rw [HN2.out];simp [k2],HQK.out.trans (ah.drewN _ _)⟩
             case measure=>simp [intOf];omega
           ·go_wp2_with fail;go_quiet (fail);go_wp2_with fail;go_roundw
            case rel=>exact ⟨k+1,by go_num,by omega,by rw [HN2.out];simp [k1],HQK.out.trans (ah.drewN _ _)⟩
            case measure=>simp [intOf];omega
          ·go_wp2_with fail;go_quiet (fail);go_wp2_with fail;go_roundw
           case rel=>exact ⟨k+1,by go_num,by omega,by rw [HN2.out];simp,HQK.out.trans (ah.drewN _ _)⟩
           case measure=>simp [intOf];omega
         ·have TM:¬ (k:Int) < tn:=by omega
          have htk:(tl.take k).any (Nc u1 u2)=true:=by rw [List.take_of_length_le (by have:=HTN.out;omega)];exact adC.out
          rw [htk];clear htk hqk;go_wp2_with fail;go_roundw
          case rel=>exact ⟨i+1,by go_num,by omega,HQK.out⟩
          case measure=>simp [intOf];omega
       ·have hlt':¬ (i:Int) < ln:=by omega
        go_wp2_with fail;refine (EW.out _ HQI.out).mono ?_;rintro x w8 ⟨rfl,hq8⟩;have WH:=hid (fC.out.trans (WB.out.trans (HQI.out.trans hq8)));clear hq8;go_wp2_with fail;refine (HA.out _ WH.out).mono ?_;rintro x w9 ⟨rfl,oU⟩;have HQ9:=hid (ah.trans WH.out oU);clear oU;go_wp2_with fail;go_ret;exact ⟨rfl,HQ9.out⟩
 ·have h1:(s.size:Int) > 200:=by omega
  have h1':(200:Int) < s.size:=by omega
  go_enter Tryd.func3,Tryd.ntmps3;go_wp2_with fail;refine (HA.out w (ah.refl _)).mono ?_;rintro x w2 ⟨rfl,hq2⟩;have fC:=hid hq2;clear hq2;go_wp2_with fail;go_ret;exact ⟨rfl,fC.out⟩
end Em
end
end Go.Proofs.YtcninopmelmajaaDoor
