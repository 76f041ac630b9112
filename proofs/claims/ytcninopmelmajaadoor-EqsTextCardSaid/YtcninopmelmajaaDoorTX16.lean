/-
  Texts laid together (PaApp, PaRow): laws and walks, with their conditions.
-/
import Derived.Test.YtcninopmelmajaaDoorTX15
set_option maxHeartbeats 8000000
set_option maxRecDepth 1000000
namespace Go.Proofs.YtcninopmelmajaaDoor
open Go.Lib (hid)
section
namespace Pa
open Go.RowKit Lx
theorem LC (ts : List Tok) (g c : Nat) (E : Nat -> iU) (T : Nat -> l7) (i : Nat) (lv mo : Int) (w : World) (hi : i < ts.length) (hin : ∀ j, j < ts.length -> sD ts.length j (gy E T ts j)) (hsh : Shut ts) (ht : nN w g ts) (hle : lv <= mo) (hw : tJ ts i = false)
    (hatom:∀ (j:Nat) (aj:Int) (W:World),aj=j->ah w W->Calls Tryd.prog 49 #[tks g ts c,.int .i64 aj,.int .i64 lv,.int .i64 mo] W (iy W (gy E T ts j))) :
    Calls Tryd.prog 28 #[tks g ts c,.int .i64 i,.int .i64 lv,.int .i64 mo] w (iy w (YG E T ts (gy E T ts i))):=by
 have hlt:¬ lv > mo:=by omega
 have hlt':¬ mo < lv:=by omega
 obtain ⟨W0,hW0⟩:∃ W0,W0=w.alloc AB:=⟨_,rfl⟩;have bD:Hid (ah w W0):=by rw [hW0];exact ah.alloc _ _
 have HB0:Hid (W0.heap[w.heap.size]?=some (.cells (z13 0 0) 72 (0,0))):=by show _=_;rw [hW0];exact heap_alloc_new w _
 unfold tJ at hw;rw [Bool.or_eq_false_iff,Bool.or_eq_false_iff] at hw;have H1:Hid (Calls Tryd.prog 47 #[tks g ts c,.int .i64 i,.string ⟨#[102,117,110]⟩] W0 fun e w'=>e=.returned (.bool false)/\W0=w'):=by have:=lG ts g c i ⟨#[102,117,110]⟩ W0 (ht.stay bD.out);rw [show bZ ts i 3 (ByteArray.mk #[102,117,110]).data.toList=false from hw.1.1] at this;exact this
 have H2:Hid (Calls Tryd.prog 47 #[tks g ts c,.int .i64 i,.string ⟨#[108,101,116]⟩] W0 fun e w'=>e=.returned (.bool false)/\W0=w'):=by have:=lG ts g c i ⟨#[108,101,116]⟩ W0 (ht.stay bD.out);rw [show bZ ts i 3 (ByteArray.mk #[108,101,116]).data.toList=false from hw.1.2] at this;exact this
 have H3:Hid (Calls Tryd.prog 47 #[tks g ts c,.int .i64 i,.string ⟨#[105,102]⟩] W0 fun e w'=>e=.returned (.bool false)/\W0=w'):=by have:=lG ts g c i ⟨#[105,102]⟩ W0 (ht.stay bD.out);rw [show bZ ts i 3 (ByteArray.mk #[105,102]).data.toList=false from hw.2] at this;exact this
 have HA:=hid (hatom i i W0 rfl bD.out);have HAT:=hid hatom;have uN:=hid hin;have Es:=hid hsh;have GY:Hid (∀ (j:Nat) (W:World),ah w W->Calls Tryd.prog 50 #[tks g ts c,.int .i64 j] W fun e w'=>e=.returned (.bool (oh ts j))/\W=w'):=fun j W hq=>kE ts g c j W (ht.stay hq)
 have hz0:W0.heap.size=w.heap.size+1:=by rw [hW0];simp
 have hfew:=ht.few;clear ht hatom hin hsh hw;go_enter Tryd.func28,Tryd.ntmps28;go_wp2_with fail;rw [<-hW0];clear hW0;generalize hB:w.heap.size=B at *;have bY:=hid hB;clear hB;refine H1.out.mono ?_;rintro e w1 ⟨rfl,rfl⟩;go_wp2_with fail;refine H2.out.mono ?_;rintro e w1 ⟨rfl,rfl⟩;go_wp2_with fail;refine H3.out.mono ?_;rintro e w1 ⟨rfl,rfl⟩;go_wp2_with fail;cases hr:gy E T ts i with
 | inr y =>
  obtain ⟨j,er⟩:=y;have HI1:=uN.out i hi;rw [hr] at HA HI1;have hne:er≠0:=HI1.2;have hne2:((er:Int) == 0)=false:=by simp [hne]
  have xE:Hid (YG E T ts (gy E T ts i)=.inr (j,er)):=by show _=_;rw [hr];rfl
  refine HA.out.mono ?_;rintro e w2 ⟨rfl,hq2⟩;obtain ⟨W3,hW3⟩:∃ W3,W3=w2.alloc (.cells (z13 (j:Nat) (er:Nat)) 72):=⟨_,rfl⟩;have hqa:ah w2 W3:=by rw [hW3];exact ah.alloc _ _
  have hr3:W3.heap[w2.heap.size]?=some (.cells (z13 (j:Nat) (er:Nat)) 72 (0,0)):=by rw [hW3];exact heap_alloc_new w2 _
  have HB3:=hid (aC (hq2.trans hqa) (fun h=>h) HB0.out);have qI:=hid (bD.out.trans (hq2.trans hqa));go_upto_block 0 with fail
  change Code.wp _ _ _ _ (w2.alloc (.cells (z13 (j:Nat) (er:Nat)) 72));rw [<-hW3];clear hW3 hqa hq2;generalize w2.heap.size=rb at *;have HR3:=hid hr3;clear hr3;go_wp2_with fail;go_loopw [10] (fun _ wr=>wr=W3) (fun _ _=>0)
  case atStart=>exact rfl
  case round =>
   obtain rfl:=hrel;have hb3:=HB3.out;have hr3:=HR3.out;obtain ⟨x0,x1,x2,x3,x4,x5,x6,x7,x8,x9,x10,x11,x12⟩:=aG hb3;have y0:=ak hb3 0;have y1:=ak hb3 1;have y2:=ak hb3 2;have y3:=ak hb3 3;have y4:=ak hb3 4;have y5:=ak hb3 5;have y6:=ak hb3 6;have y7:=ak hb3 7;have y8:=ak hb3 8;have y9:=ak hb3 9;have yX:=ak hb3 10;have yY:=ak hb3 11;have yZ:=ak hb3 12;obtain ⟨r0,r1,r2,r3,r4,r5,r6,r7,r8,r9,r10,r11,r12⟩:=aG hr3;clear hb3 hr3;go_wp2_with fail;have hf:=bg wr B (.int .i64 0) (.string ⟨#[]⟩) (.int .i64 0) (.int .i64 0) (.int .i64 0) (.slice none 0 0) (.slice none 0 0) (.int .i64 0) (.int .i64 0) (.int .i64 0) (.int .i64 0) (.int .i64 (j:Nat)) (.int .i64 (er:Nat));have dU:ah w (aN wr B (.int .i64 0) (.string ⟨#[]⟩) (.int .i64 0) (.int .i64 0) (.int .i64 0) (.slice none 0 0) (.slice none 0 0) (.int .i64 0) (.int .i64 0) (.int .i64 0) (.int .i64 0) (.int .i64 (j:Nat)) (.int .i64 (er:Nat))):=(qI.out).trans' hf (fun k hk e=>by have:=bY.out;omega);obtain ⟨f0,f1,f2,f3,f4,f5,f6,f7,f8,f9,f10,f11,f12⟩:=aG (aK (a0:=.int .i64 0) (a1:=.string ⟨#[]⟩) (a2:=.int .i64 0) (a3:=.int .i64 0) (a4:=.int .i64 0) (a5:=.slice none 0 0) (a6:=.slice none 0 0) (a7:=.int .i64 0) (a8:=.int .i64 0) (a9:=.int .i64 0) (a10:=.int .i64 0) (a11:=.int .i64 (j:Nat)) (a12:=.int .i64 (er:Nat)) HB3.out);change bodyPost _ _ _ _ _ (aN wr B (.int .i64 0) (.string ⟨#[]⟩) (.int .i64 0) (.int .i64 0) (.int .i64 0) (.slice none 0 0) (.slice none 0 0) (.int .i64 0) (.int .i64 0) (.int .i64 0) (.int .i64 0) (.int .i64 (j:Nat)) (.int .i64 (er:Nat)))
   generalize aN wr B (.int .i64 0) (.string ⟨#[]⟩) (.int .i64 0) (.int .i64 0) (.int .i64 0) (.slice none 0 0) (.slice none 0 0) (.int .i64 0) (.int .i64 0) (.int .i64 0) (.int .i64 0) (.int .i64 (j:Nat)) (.int .i64 (er:Nat))=wf at *;refine bodyPost_ret (by simp [results,Tryd.results28,go_sem,f0,f1,f2,f3,f4,f5,f6,f7,f8,f9,f10,f11,f12];rfl) rfl ?_;rw [xE.out];exact ⟨rfl,dU⟩
 | inl y =>
  obtain ⟨⟨h,qs⟩,x,j⟩:=y;have HI1:=uN.out i hi;rw [hr] at HA HI1;have hj1:i < j/\j < ts.length:=HI1;obtain ⟨fin,hfin⟩:∃ fin,sO E T ts (ts.length+1) (h,qs) x j=fin:=⟨_,rfl⟩;have xK:Hid (YG E T ts (gy E T ts i)=fin):=by show _=_;rw [hr];exact hfin
  have bF:=hid hfin;refine HA.out.mono ?_;rintro e w2 ⟨o1,l1,c1,o2,l2,c2,rfl,hs1,hs2,hq2⟩;obtain ⟨W3,hW3⟩:∃ W3,W3=w2.alloc (.cells (c13 h o1 l1 c1 o2 l2 c2 x (j:Nat) 0) 72):=⟨_,rfl⟩;have hqa:ah w2 W3:=by rw [hW3];exact ah.alloc _ _
  have HR3:Hid (W3.heap[w2.heap.size]?=some (.cells (c13 h o1 l1 c1 o2 l2 c2 x (j:Nat) 0) 72 (0,0))):=by show _=_;rw [hW3];exact heap_alloc_new w2 _
  have HB3:=hid (aC (hq2.trans hqa) (fun h=>h) HB0.out);have qI:=hid (bD.out.trans (hq2.trans hqa));have nH:Hid (aB (fun b=>B+1<=b/\b≠w2.heap.size) W3 o1 l1 h.tp):=hs1.fr hqa (fun b hb k=>⟨⟨by have h':W0.heap.size<=b:=k;omega,by omega⟩,fun h=>h⟩);have HS2:Hid (bC (fun b=>B+1<=b/\b≠w2.heap.size) W3 o2 l2 qs):=hs2.fr hqa (fun b hb k=>⟨⟨by have h':W0.heap.size<=b:=k;omega,by omega⟩,fun h=>h⟩);have hrB:B+1<=w2.heap.size:=by have:=hq2.size;omega
  go_upto_block 0 with fail
  change Code.wp _ _ _ _ (w2.alloc (.cells (c13 h o1 l1 c1 o2 l2 c2 x (j:Nat) 0) 72));rw [<-hW3];clear hW3 hqa hq2 hs1 hs2 hfin hr;generalize w2.heap.size=rb at *;go_wp2_with fail;go_loopw [10] (fun _ wr=>SQ E T ts fin w B rb wr) (fun _ wr=>ts.length-Lu rb wr)
  case atStart=>exact ⟨h,qs,x,j,ts.length+1,o1,l1,c1,o2,l2,c2,HR3.out,nH.out,HS2.out,HB3.out,hj1.2,by omega,bF.out,qI.out⟩
  case round =>
   clear HR3 nH HS2 HB3 qI bF HA HI1;obtain ⟨h,qs,x,j,n,o1,l1,c1,o2,l2,c2,hrb,hs1,hs2,hbb,hj,hn,happ,hq⟩:=hrel;have HRB:=hid hrb;have nH:=hid hs1;have HS2:=hid hs2;have IQ:=hid hbb;have Zo:=hid happ;have HQ:=hid hq;obtain ⟨r0,r1,r2,r3,r4,r5,r6,r7,r8,r9,r10,r11,r12⟩:=aG hrb;clear hrb hs1 hs2 hbb happ hq;go_wp2_with fail;refine (GY.out j wr HQ.out).mono ?_;rintro e w4 ⟨rfl,rfl⟩;cases hb:oh ts j
   case false =>
    have hbb:=IQ.out;obtain ⟨x0,x1,x2,x3,x4,x5,x6,x7,x8,x9,x10,x11,x12⟩:=aG hbb;have y0:=ak hbb 0;have y1:=ak hbb 1;have y2:=ak hbb 2;have y3:=ak hbb 3;have y4:=ak hbb 4;have y5:=ak hbb 5;have y6:=ak hbb 6;have y7:=ak hbb 7;have y8:=ak hbb 8;have y9:=ak hbb 9;have yX:=ak hbb 10;have yY:=ak hbb 11;have yZ:=ak hbb 12;clear hbb;go_wp2_with fail;have hf:=bg wr B (.int .i64 h.k) (.string h.nm) (.int .i64 h.n) (.int .i64 h.tk) (.int .i64 h.tn) (.slice o1 l1 c1) (.slice o2 l2 c2) (.int .i64 h.fr) (.int .i64 h.en) (.int .i64 x.1) (.int .i64 x.2) (.int .i64 (j:Nat)) (.int .i64 0);have dU:ah w (aN wr B (.int .i64 h.k) (.string h.nm) (.int .i64 h.n) (.int .i64 h.tk) (.int .i64 h.tn) (.slice o1 l1 c1) (.slice o2 l2 c2) (.int .i64 h.fr) (.int .i64 h.en) (.int .i64 x.1) (.int .i64 x.2) (.int .i64 (j:Nat)) (.int .i64 0)):=(HQ.out).trans' hf (fun k hk e=>by have:=bY.out;omega);obtain ⟨f0,f1,f2,f3,f4,f5,f6,f7,f8,f9,f10,f11,f12⟩:=aG (aK (a0:=.int .i64 h.k) (a1:=.string h.nm) (a2:=.int .i64 h.n) (a3:=.int .i64 h.tk) (a4:=.int .i64 h.tn) (a5:=.slice o1 l1 c1) (a6:=.slice o2 l2 c2) (a7:=.int .i64 h.fr) (a8:=.int .i64 h.en) (a9:=.int .i64 x.1) (a10:=.int .i64 x.2) (a11:=.int .i64 (j:Nat)) (a12:=.int .i64 0) IQ.out);change bodyPost _ _ _ _ _ (aN wr B (.int .i64 h.k) (.string h.nm) (.int .i64 h.n) (.int .i64 h.tk) (.int .i64 h.tn) (.slice o1 l1 c1) (.slice o2 l2 c2) (.int .i64 h.fr) (.int .i64 h.en) (.int .i64 x.1) (.int .i64 x.2) (.int .i64 (j:Nat)) (.int .i64 0));generalize aN wr B (.int .i64 h.k) (.string h.nm) (.int .i64 h.n) (.int .i64 h.tk) (.int .i64 h.tn) (.slice o1 l1 c1) (.slice o2 l2 c2) (.int .i64 h.fr) (.int .i64 h.en) (.int .i64 x.1) (.int .i64 x.2) (.int .i64 (j:Nat)) (.int .i64 0)=wf at *
    refine bodyPost_ret (by simp [results,Tryd.results28,go_sem,f0,f1,f2,f3,f4,f5,f6,f7,f8,f9,f10,f11,f12];rfl) rfl ?_;rw [xK.out,show fin=.inl ((h,qs),x,j) from by rw [<-Zo.out,SS hb]];exact ⟨o1,l1,c1,o2,l2,c2,rfl,nH.out.fr hf (fun b _ k=>⟨by have:=bY.out;have:=k.1;show w.heap.size<=b;omega,by have:=k.1;omega⟩),HS2.out.fr hf (fun b _ k=>⟨by have:=bY.out;have:=k.1;show w.heap.size<=b;omega,by have:=k.1;omega⟩),dU⟩
   case true =>
    have hat:=ND r11;have hlt:=NG Es.out hb;have HC:=HAT.out j (j:Int) wr rfl HQ.out;have HI2:=uN.out j hj;have adN:rb < wr.heap.size:=lt_of_block HRB.out;have hbl:B < wr.heap.size:=lt_of_block IQ.out;cases ha:gy E T ts j with
    | inr y =>
     obtain ⟨j2,er⟩:=y;rw [ha] at HC HI2;have hne:er≠0:=HI2.2;have hne2:((er:Int) != 0)=true:=by simp [hne]
     have HC2:=hid HC;clear HC HI2;go_wp2_with fail;refine HC2.out.mono ?_;rintro e w5 ⟨rfl,hq5⟩;obtain ⟨W6,uZ⟩:∃ W6,W6=w5.alloc (.cells (z13 (j2:Nat) (er:Nat)) 72):=⟨_,rfl⟩;have hqa:ah w5 W6:=by rw [uZ];exact ah.alloc _ _
     have hq6:W6.heap[w5.heap.size]?=some (.cells (z13 (j2:Nat) (er:Nat)) 72 (0,0)):=by rw [uZ];exact heap_alloc_new w5 _
     have hb6:=aC (hq5.trans hqa) (fun h=>h) IQ.out;have vS:=hid hb6;have yV:=hid (HQ.out.trans (hq5.trans hqa));go_upto_region 8 with fail
     change Code.wp _ _ _ _ (w5.alloc (.cells (z13 (j2:Nat) (er:Nat)) 72));rw [<-uZ];clear uZ hqa hq5 r0 r1 r2 r3 r4 r5 r6 r7 r8 r9 r10 r11 r12 HC2;generalize w5.heap.size=qb at *;obtain ⟨x0,x1,x2,x3,x4,x5,x6,x7,x8,x9,x10,x11,x12⟩:=aG hb6;have y0:=ak hb6 0;have y1:=ak hb6 1;have y2:=ak hb6 2;have y3:=ak hb6 3;have y4:=ak hb6 4;have y5:=ak hb6 5;have y6:=ak hb6 6;have y7:=ak hb6 7;have y8:=ak hb6 8;have y9:=ak hb6 9;have yX:=ak hb6 10;have yY:=ak hb6 11;have yZ:=ak hb6 12;obtain ⟨q0,q1,q2,q3,q4,q5,q6,q7,q8,q9,q10,q11,q12⟩:=aG hq6;clear hb6 hq6;go_wp2_with fail;have hf:=bg W6 B (.int .i64 0) (.string ⟨#[]⟩) (.int .i64 0) (.int .i64 0) (.int .i64 0) (.slice none 0 0) (.slice none 0 0) (.int .i64 0) (.int .i64 0) (.int .i64 0) (.int .i64 0) (.int .i64 (j2:Nat)) (.int .i64 (er:Nat));have dU:ah w (aN W6 B (.int .i64 0) (.string ⟨#[]⟩) (.int .i64 0) (.int .i64 0) (.int .i64 0) (.slice none 0 0) (.slice none 0 0) (.int .i64 0) (.int .i64 0) (.int .i64 0) (.int .i64 0) (.int .i64 (j2:Nat)) (.int .i64 (er:Nat))):=(yV.out).trans' hf (fun k hk e=>by have:=bY.out;omega);obtain ⟨f0,f1,f2,f3,f4,f5,f6,f7,f8,f9,f10,f11,f12⟩:=aG (aK (a0:=.int .i64 0) (a1:=.string ⟨#[]⟩) (a2:=.int .i64 0) (a3:=.int .i64 0) (a4:=.int .i64 0) (a5:=.slice none 0 0) (a6:=.slice none 0 0) (a7:=.int .i64 0) (a8:=.int .i64 0) (a9:=.int .i64 0) (a10:=.int .i64 0) (a11:=.int .i64 (j2:Nat)) (a12:=.int .i64 (er:Nat)) vS.out);change bodyPost _ _ _ _ _ (aN W6 B (.int .i64 0) (.string ⟨#[]⟩) (.int .i64 0) (.int .i64 0) (.int .i64 0) (.slice none 0 0) (.slice none 0 0) (.int .i64 0) (.int .i64 0) (.int .i64 0) (.int .i64 0) (.int .i64 (j2:Nat)) (.int .i64 (er:Nat)))
     generalize aN W6 B (.int .i64 0) (.string ⟨#[]⟩) (.int .i64 0) (.int .i64 0) (.int .i64 0) (.slice none 0 0) (.slice none 0 0) (.int .i64 0) (.int .i64 0) (.int .i64 0) (.int .i64 0) (.int .i64 (j2:Nat)) (.int .i64 (er:Nat))=wf at *;refine bodyPost_ret (by simp [results,Tryd.results28,go_sem,f0,f1,f2,f3,f4,f5,f6,f7,f8,f9,f10,f11,f12];rfl) rfl ?_;rw [xK.out,show fin=.inr (j2,er) from by rw [<-Zo.out,Xj hb (by omega) ha]];exact ⟨rfl,dU⟩
    | inl y =>
     obtain ⟨⟨h2,qY⟩,x2,j2⟩:=y;rw [ha] at HC HI2;have hj2:j < j2/\j2 < ts.length:=HI2;have HC2:=hid HC;clear HC HI2;go_wp2_with fail;refine HC2.out.mono ?_;rintro e w5 ⟨p1,m1,d1,p2,m2,d2,rfl,hs3,hs4,hq5⟩;obtain ⟨W6,uZ⟩:∃ W6,W6=w5.alloc (.cells (c13 h2 p1 m1 d1 p2 m2 d2 x2 (j2:Nat) 0) 72):=⟨_,rfl⟩;have hqa:ah w5 W6:=by rw [uZ];exact ah.alloc _ _
     have hq6:W6.heap[w5.heap.size]?=some (.cells (c13 h2 p1 m1 d1 p2 m2 d2 x2 (j2:Nat) 0) 72 (0,0)):=by rw [uZ];exact heap_alloc_new w5 _
     have Zp:ah wr W6:=hq5.trans hqa;have hr6:=aC Zp (fun h=>h) HRB.out;have Sl:Hid (aB (fun b=>B+1<=b/\b≠rb) W6 p1 m1 h2.tp):=hs3.fr hqa (fun b _ k=>⟨⟨by have k':wr.heap.size<=b:=k;omega,by have k':wr.heap.size<=b:=k;omega⟩,fun h=>h⟩);have GV:Hid (bC (fun b=>B+1<=b/\b≠rb) W6 p2 m2 qY):=hs4.fr hqa (fun b _ k=>⟨⟨by have k':wr.heap.size<=b:=k;omega,by have k':wr.heap.size<=b:=k;omega⟩,fun h=>h⟩);have HW6:=hid Zp;have HQB:=hid hq6;go_upto_region 8 with fail
     change Code.wp _ _ _ _ (w5.alloc (.cells (c13 h2 p1 m1 d1 p2 m2 d2 x2 (j2:Nat) 0) 72));rw [<-uZ];clear uZ hqa hq5 hs3 hs4 Zp r0 r1 r2 r3 r4 r5 r6 r7 r8 r9 r10 r11 r12 HC2;generalize w5.heap.size=qb at *;obtain ⟨r0,r1,r2,r3,r4,r5,r6,r7,r8,r9,r10,r11,r12⟩:=aG hr6;obtain ⟨q0,q1,q2,q3,q4,q5,q6,q7,q8,q9,q10,q11,q12⟩:=aG hq6;clear hr6 hq6;have HJ:=hid (BR x.1 x.2 x2.1 x2.2 W6);go_wp2_with fail;refine HJ.out.mono ?_;rintro e w7 ⟨rfl,hq7⟩;obtain ⟨W8,hW8⟩:∃ W8,W8=w7.alloc (.cells #[.int .i64 (aT x x2).1,.int .i64 (aT x x2).2] 28):=⟨_,rfl⟩;have hq8:ah W6 W8:=by rw [hW8];exact hq7.trans (ah.alloc _ _)
     have hsp:W8.heap[w7.heap.size]?=some (.cells #[.int .i64 (aT x x2).1,.int .i64 (aT x x2).2] 28 (0,0)):=by rw [hW8];exact heap_alloc_new w7 _
     have s0:W8.cell? ⟨w7.heap.size,0,none⟩=some (.int .i64 (aT x x2).1):=by rw [cell_of_row _ _ _ _ _ (0,0) hsp];rfl
     have s1:W8.cell? ⟨w7.heap.size,1,none⟩=some (.int .i64 (aT x x2).2):=by rw [cell_of_row _ _ _ _ _ (0,0) hsp];rfl
     have SI:=aC (HW6.out.trans hq8) (fun h=>h) HRB.out;have Zq:=aC hq8 (fun h=>h) HQB.out;have HR8:=hid SI;have Zr:=hid hsp;have acM:=hid Zq;go_upto_region 11 with fail
     change Code.wp _ _ _ _ (w7.alloc (.cells #[.int .i64 (aT x x2).1,.int .i64 (aT x x2).2] 28));rw [<-hW8];have HW8:=hid (HW6.out.trans hq8);have aa4:=hid hq8;clear hW8 hq7 hq8 hsp r0 r1 r2 r3 r4 r5 r6 r7 r8 r9 r10 r11 r12 q0 q1 q2 q3 q4 q5 q6 q7 q8 q9 q10 q11 q12 HJ;generalize w7.heap.size=sb at *;obtain ⟨r0,r1,r2,r3,r4,r5,r6,r7,r8,r9,r10,r11,r12⟩:=aG SI;obtain ⟨q0,q1,q2,q3,q4,q5,q6,q7,q8,q9,q10,q11,q12⟩:=aG Zq;clear SI Zq;obtain ⟨W9,hW9⟩:∃ W9,W9=W8.alloc (.cells #[.int .i64 h.k,.string h.nm,.int .i64 h.n,.int .i64 h.tk,.int .i64 h.tn,.slice o1 l1 c1,.slice o2 l2 c2,.int .i64 h.fr,.int .i64 h.en,.int .i64 h2.k,.string h2.nm,.int .i64 h2.n,.int .i64 h2.tk,.int .i64 h2.tn,.slice p1 m1 d1,.slice p2 m2 d2,.int .i64 h2.fr,.int .i64 h2.en] 30):=⟨_,rfl⟩;have oU:ah W8 W9:=by rw [hW9];exact ah.alloc _ _
     have hrow:W9.heap[W8.heap.size]?=some (.cells #[.int .i64 h.k,.string h.nm,.int .i64 h.n,.int .i64 h.tk,.int .i64 h.tn,.slice o1 l1 c1,.slice o2 l2 c2,.int .i64 h.fr,.int .i64 h.en,.int .i64 h2.k,.string h2.nm,.int .i64 h2.n,.int .i64 h2.tk,.int .i64 h2.tn,.slice p1 m1 d1,.slice p2 m2 d2,.int .i64 h2.fr,.int .i64 h2.en] 30 (0,0)):=by rw [hW9];exact heap_alloc_new W8 _
     have qF:=aC oU (fun h=>h) HR8.out;have PE:=hid qF;have Xk:=aC oU (fun h=>h) Zr.out;have Zt:=aC oU (fun h=>h) acM.out;rw [hW9] at qF Xk Zt;have s2:=(cell_of_row _ sb 0 _ _ (0,0) Xk).trans (show _=some (Value.int .i64 (aT x x2).1) from rfl);have s3:=(cell_of_row _ sb 1 _ _ (0,0) Xk).trans (show _=some (Value.int .i64 (aT x x2).2) from rfl);have s4:=(aG Zt).2.2.2.2.2.2.2.2.2.2.2.1;have y0:=ak qF 0;have y1:=ak qF 1;have y2:=ak qF 2;have y3:=ak qF 3;have y4:=ak qF 4;have y5:=ak qF 5;have y6:=ak qF 6;have y7:=ak qF 7;have y8:=ak qF 8;have y9:=ak qF 9;have yX:=ak qF 10;have yY:=ak qF 11;have yZ:=ak qF 12;obtain ⟨x0,x1,x2,x3,x4,x5,x6,x7,x8,x9,x10,x11,x12⟩:=aG qF;clear qF Xk Zt;go_wp2_with fail;go_roundw
     case rel =>
      have hwz:wr.heap.size<=W8.heap.size:=HW8.out.size;rw [<-hW9];exact SX (n:=n-1) PE.out hrow (by have:=hbl;omega) (by omega) (nH.out.stay (HW8.out.trans oU)) (HS2.out.stay (HW8.out.trans oU)) (Sl.out.stay (aa4.out.trans oU)) (GV.out.stay (aa4.out.trans oU)) (aC (HW8.out.trans oU) (fun h=>h) IQ.out) hrB (by have:=bY.out;omega) hj2.2 (by omega) (by rw [<-SV hb (by omega) ha];exact Zo.out) (HQ.out.trans (HW8.out.trans oU))
     case measure =>
      rw [<-hW9];have key:∀ W,Lu rb W=j2->ts.length-Lu rb W < ts.length-Lu rb wr:=fun W h=>by rw [h,hat];omega
      exact key _ (Zn PE.out)
end Pa
end
section
namespace Pa
open Go.RowKit Lx
structure cO (w:World) (T:Nat->Prop) (v:Value) (f:To) (xs:List Value):Prop where
 own:w.ownsRow 0 30 9 v f.length xs
 low:∀ k,v.ownBlock=some k->T k
 cells:kC (fun k=>T k/\v.ownBlock≠some k) w xs f
theorem cO.nil (w:World) (T:Nat->Prop):cO w T (.slice none 0 0) .nil []:=⟨World.ownsRow_nil _ _ _ _,fun k hk=>(by cases hk),rfl⟩
theorem cO.fr {w w':World} {T:Nat->Prop} {v:Value} {f:To} {xs:List Value} {S:Nat->Prop} (h:cO w T v f xs) (hf:Fr S w w') (hS:∀ k,T k->¬ S k):cO w' T v f xs :=
 ⟨aU h.own hf (fun k hk hs=>hS k (h.low k hk) hs),h.low,kC.fr hf (fun k _ hk=>⟨hk,hS k hk.1⟩) f xs h.cells⟩
theorem cO.stay {w w':World} {T:Nat->Prop} {v:Value} {f:To} {xs:List Value} (h:cO w T v f xs) (hf:ah w w'):cO w' T v f xs:=h.fr hf (fun _ _ h=>h)
theorem cO.lt {w:World} {T:Nat->Prop} {v:Value} {f:To} {xs:List Value} (h:cO w T v f xs):∀ k,v.ownBlock=some k->k < w.heap.size:=fun k hk=>(h.own.lt k hk).2
theorem cO.snoc {W w1 : World} {T : Nat -> Prop} {v : Value} {f : To} {xs : List Value} {h : Nd} {ps : To} {o1 : Option Addr} {l1 c1 : Nat} {o2 : Option Addr} {l2 c2 g c : Nat} (hr : cO W T v f xs)
    (hs:aB (fun k=>T k/\v.ownBlock≠some k) W o1 l1 h.tp) (ht:bC (fun k=>T k/\v.ownBlock≠some k) W o2 l2 ps)
    (ho:w1.ownsRow 0 30 9 (.slice (some ⟨g,0,none⟩) (f.length+1) c) (f.length+1) (xs++(cells9 h o1 l1 c1 o2 l2 c2).toList)) (hf:Fr (fun k=>v.ownBlock=some k) W w1) (hg:v.ownBlock=some g∨W.heap.size<=g) (hT:∀ k,W.heap.size<=k->T k) :
    cO w1 T (.slice (some ⟨g,0,none⟩) (f.length+1) c) (f.app (.cons h ps .nil)) (xs++(cells9 h o1 l1 c1 o2 l2 c2).toList):=by
 refine ⟨by rw [To.bJ];exact ho,?_,?_⟩
 ·intro k hk;simp [Value.ownBlock] at hk;subst hk;rcases hg with h | h
  ·exact hr.low g h
  ·exact hT _ h
 ·have hk : ∀ k, k < W.heap.size -> (T k /\ v.ownBlock ≠ some k) -> ((T k /\ (Value.slice (some ⟨g, 0, none⟩) (f.length + 1) c).ownBlock ≠ some k) /\ ¬ v.ownBlock = some k) := by
    rintro k hk ⟨h1,h2⟩;refine ⟨⟨h1,fun h=>?_⟩,h2⟩;simp [Value.ownBlock] at h;subst h;rcases hg with h | h
    ·exact h2 h
    ·omega
  exact kC.snoc (hs.fr hf hk) (ht.fr hf hk) f xs (kC.fr hf hk f xs hr.cells)
theorem cO.slc {w:World} {T:Nat->Prop} {o:Option Addr} {len cap:Nat} {f:To} {xs:List Value} (h:cO w T (.slice o len cap) f xs) (hl:len=f.length) (hm:len<=maxLen):bC T w o len f:=by
 refine ⟨hl,hm,fun h0=>?_⟩;rcases h.own.2 with ⟨_,h2⟩ | ⟨g,cap',cur,he,_⟩
 ·omega
 ·injection he with h1 h2 h3
  subst h1;refine ⟨g,0,rfl,kC.at (h.low g rfl) f xs 0 (kC.fr (Fr.refl (fun _=>False) w) (fun k _ hk=>⟨hk.1,fun h=>h⟩) f xs h.cells) ?_⟩;intro j u hj;have:=h.own.cells (g:=g) rfl j u hj;simpa [Addr.add_lit] using this
theorem Zu {E:Nat->iU} {ts:List Tok} {n:Nat} {ps:To} {j:Nat} (h:bZ ts j 4 wB=false):pW E ts n ps j=.inl (ps,j):=by
 cases n with
 | zero=>rfl
 | succ n=>unfold pW;rw [if_neg (by rw [h];simp)]
theorem SY {E:Nat->iU} {ts:List Tok} {n:Nat} {ps:To} {j:Nat} (h:bZ ts j 4 wB=true) (h8:8<=ps.length) (hn:1<=n):pW E ts n ps j=.inr (j,6):=by
 obtain ⟨m,rfl⟩:∃ m,n=m+1:=⟨n-1,by omega⟩;unfold pW;rw [if_pos h,if_pos h8]
theorem Xl {E:Nat->iU} {ts:List Tok} {n:Nat} {ps:To} {j:Nat} {x:Nat × Nat} (h:bZ ts j 4 wB=true) (h8:¬ 8<=ps.length) (hn:1<=n) (ht:E (j+1)=.inr x):pW E ts n ps j=.inr x:=by
 obtain ⟨m,rfl⟩:∃ m,n=m+1:=⟨n-1,by omega⟩;unfold pW;rw [if_pos h,if_neg h8,ht]
theorem S9 {E:Nat->iU} {ts:List Tok} {n:Nat} {ps:To} {j:Nat} {h1:Nd} {qs:To} {x:Pt} {j':Nat} (h:bZ ts j 4 wB=true) (h8:¬ 8<=ps.length) (hn:1<=n) (ht:E (j+1)=.inl ((h1,qs),x,j')):pW E ts n ps j=pW E ts (n-1) (ps.app (.cons h1 qs .nil)) j':=by
 obtain ⟨l,rfl⟩:∃ l,n=l+1:=⟨n-1,by omega⟩
 conv=>lhs;unfold pW
 rw [if_pos h,if_neg h8,ht];rfl
def xM (ts:List Tok) (i0:Nat) (h:Nd) (qs:To) (k tk tn:Int) (tp:Fo) (ps:To) (i:Nat):iU :=
 if bZ ts i 4 iw then
  if k=9/\ps.length=1 then .inl ((h,qs),aT (at' ts i0) (at' ts i),i+1)
  else .inl ((⟨k,⟨#[]⟩,0,tk,tn,tp,(aT (at' ts i0) (at' ts i)).1,(aT (at' ts i0) (at' ts i)).2⟩,ps),aT (at' ts i0) (at' ts i),i+1)
 else .inr (i,3)
theorem Tc (ts:List Tok) (i0:Nat) (h:Nd) (qs:To) (k m:Int) (us:Fo) (i:Nat):EK ts i0 h qs (.inl ((k,m,us),i))=xM ts i0 h qs 10 k m us (.cons h qs .nil) i:=by
 unfold EK xM;simp only [show ¬ ((10:Int)=9/\(To.cons h qs .nil).length=1) from by omega,if_false];rfl
theorem Td (ts:List Tok) (i0:Nat) (h:Nd) (qs:To) (ps:To) (i:Nat) (h1:ps.length=1->ps=.cons h qs .nil):qj ts i0 (.inl (ps,i))=xM ts i0 h qs 9 0 0 .nil ps i:=by
 unfold qj xM
 by_cases hl:ps.length=1
 ·rw [h1 hl];simp [To.length]
 ·simp only [hl,and_false,if_false]
  split
  ·split
   ·next h' qs'=>exact absurd rfl hl
   ·rfl
  ·rfl
def Xm (E:Nat->iU) (T:Nat->l7) (ts:List Tok) (i0:Nat) (h:Nd) (qs:To) (j:Nat):iU :=
 if bZ ts j 4 GZ then EK ts i0 h qs (T (j+1)) else qj ts i0 (pW E ts 8 (.cons h qs .nil) j)
theorem Zv (E:Nat->iU) (T:Nat->l7) (ts:List Tok) (i0:Nat) (h:Nd) (qs:To) (x:Pt) (j:Nat):SK E T ts i0 (.inl ((h,qs),x,j))=Xm E T ts i0 h qs j:=rfl
end Pa
end
end Go.Proofs.YtcninopmelmajaaDoor
