/-
  Texts laid together (ScDo, ScFree, ScRes, ScRsv, ScHas, ScNames, ScResLaw0): laws and walks, with their conditions.
-/
import Derived.Deep.RegionWith
import Derived.Test.YtcninopmelmajaaGreatDoorOF21
import Derived.Test.YtcninopmelmajaaGreatDoorOF27
set_option maxHeartbeats 8000000
set_option maxRecDepth 1000000
namespace Go.Proofs.YtcninopmelmajaaGreatDoor
open Go.Lib (hid)
section
open Go.RowKit Go.Shelf
namespace Sc
def UJ (L0:Nat) (_:Nat) (_:Unit) (D:Nat->Prop) (W:World):Prop:=L0<=W.heap.size/\∀ k,¬ D k
theorem PZ (R:Nat->Prop) (L0:Nat):DoW 96 #[] R L0 (fun (s:Unit) _ _=>s) P5 (UJ L0) where
 own:=fun b s D A h k hk=>absurd hk (h.2 k)
 big:=fun b s D A h=>h.1
 weak:=fun b b' s D A h _=>h
 stay:=fun b s D A B h hf=>⟨Nat.le_trans h.1 hf.size,h.2⟩
 call:=by
  rintro b s D A T e h o1 l1 c1 o2 l2 c2 no n c hJ hN hn hs hk;obtain ⟨W0,hW0⟩:∃ W0,W0=(A.alloc (.cells (cells9 h o1 l1 c1 o2 l2 c2) 29)).alloc (.cells zero9 29):=⟨_,rfl⟩;have aP:Hid (ah A W0):=by rw [hW0];exact (ah.alloc _ _).trans (ah.alloc _ _)
  have hz0:A.heap.size+2=W0.heap.size:=by rw [hW0];simp
  have HZ0:=hid hz0;have HJ:=hid hJ;have HB0:Hid (W0.heap[A.heap.size]?=some (.cells (cells9 h o1 l1 c1 o2 l2 c2) 29 (0,0))):=by
   show _=_;rw [hW0,Below.heap_alloc _ _ _ (by simp)];exact heap_alloc_new A _
  have HB1:Hid (W0.heap[A.heap.size+1]?=some (.cells zero9 29 (0,0))):=by
   show _=_;rw [hW0]
   have:=heap_alloc_new (A.alloc (.cells (cells9 h o1 l1 c1 o2 l2 c2) 29)) (.cells zero9 29);simpa using this
  have HI:=hid (EW T e h.nm no n c W0 (hN.stay aP.out) (by omega));clear hN hs hk hz0 hJ;unfold bI
  by_cases hx:0<=ix e h.nm
  ·have HO:Hid (P5 h e={ h with n:=ix e h.nm }):=by show _=_;unfold P5;rw [if_pos hx]
   have hx':ix e h.nm≥0:=hx;generalize ix e h.nm=r at *;go_enter Tryz.func96,Tryz.ntmps96;go_upto_region 1 with fail
   rw [<-hW0];clear hW0;generalize hB:A.heap.size=B at *;have cO:=hid hB;clear hB;obtain ⟨⟨x0,x1,x2,x3,x4,x5,x6,x7,x8⟩,y0,y1,y2,y3,y4,y5,y6,y7,y8⟩:=aX HB0.out;obtain ⟨⟨z0,z1,z2,z3,z4,z5,z6,z7,z8⟩,t0,t1,t2,t3,t4,t5,t6,t7,t8⟩:=aX HB1.out;go_wp2_with fail;refine HI.out.mono ?_;rintro x w2 ⟨rfl,rfl⟩;go_wp2_with fail;have oH:=iW (W0.setCell ⟨B,2,none⟩ (.int .i64 r)) (B+1) (.int .i64 h.k) (.string h.nm) (.int .i64 r) (.int .i64 h.tk) (.int .i64 h.tn) (.slice o1 l1 c1) (.slice o2 l2 c2) (.int .i64 h.fr) (.int .i64 h.en);have hbf:=dQ (a0:=.int .i64 h.k) (a1:=.string h.nm) (a2:=.int .i64 r) (a3:=.int .i64 h.tk) (a4:=.int .i64 h.tn) (a5:=.slice o1 l1 c1) (a6:=.slice o2 l2 c2) (a7:=.int .i64 h.fr) (a8:=.int .i64 h.en) (aC (Fr.setCell (fun k=>k=B) W0 ⟨B,2,none⟩ (.int .i64 r) rfl) (by omega) HB1.out);change bodyPost _ _ _ _ _ (gW (W0.setCell ⟨B,2,none⟩ (.int .i64 r)) (B+1) (.int .i64 h.k) (.string h.nm) (.int .i64 r) (.int .i64 h.tk) (.int .i64 h.tn) (.slice o1 l1 c1) (.slice o2 l2 c2) (.int .i64 h.fr) (.int .i64 h.en));clear x0 x1 x2 x3 x4 x5 x6 x7 x8 y0 y1 y2 y3 y4 y5 y6 y7 y8 z0 z1 z2 z3 z4 z5 z6 z7 z8 t0 t1 t2 t3 t4 t5 t6 t7 t8;have hfw:Fr (fun k=>k=B∨k=B+1) W0 (W0.setCell ⟨B,2,none⟩ (.int .i64 r)):=(Fr.setCell _ W0 ⟨B,2,none⟩ (.int .i64 r) (.inl rfl));generalize gW (W0.setCell ⟨B,2,none⟩ (.int .i64 r)) (B+1) (.int .i64 h.k) (.string h.nm) (.int .i64 r) (.int .i64 h.tk) (.int .i64 h.tn) (.slice o1 l1 c1) (.slice o2 l2 c2) (.int .i64 h.fr) (.int .i64 h.en)=wf at *;obtain ⟨⟨x0,x1,x2,x3,x4,x5,x6,x7,x8⟩,_⟩:=aX hbf
   have bH:Hid (DoQ (fun (s:Unit) _ _=>s) P5 (UJ L0) b s D e h o1 l1 c1 o2 l2 c2 A (.returned (.agg #[.int .i64 h.k,.string h.nm,.int .i64 r,.int .i64 h.tk,.int .i64 h.tn,.slice o1 l1 c1,.slice o2 l2 c2,.int .i64 h.fr,.int .i64 h.en])) wf):=by
    have hz2:=HZ0.out;have hB:=cO.out;have hfs:=oH.size;have hfz:=hfw.size;refine ⟨by rw [HO.out];rfl,D,⟨by have:=HJ.out.1;omega,HJ.out.2⟩,((aP.out.fr).trans' hfw (fun k hk h=>by omega)).trans' oH (fun k hk h=>by omega),fun k hk=>.inl hk⟩
   clear oH hbf;refine bodyPost_ret (by simp [results,Tryz.results96,go_sem,x0,x1,x2,x3,x4,x5,x6,x7,x8];rfl) rfl ?_;exact bH.out
  ·have HO:Hid (P5 h e=h):=by show _=_;unfold P5;rw [if_neg hx]
   have hx':¬ ix e h.nm≥0:=hx;generalize ix e h.nm=r at *;go_enter Tryz.func96,Tryz.ntmps96;go_upto_region 1 with fail
   rw [<-hW0];clear hW0;generalize hB:A.heap.size=B at *;have cO:=hid hB;clear hB;obtain ⟨⟨x0,x1,x2,x3,x4,x5,x6,x7,x8⟩,y0,y1,y2,y3,y4,y5,y6,y7,y8⟩:=aX HB0.out;obtain ⟨⟨z0,z1,z2,z3,z4,z5,z6,z7,z8⟩,t0,t1,t2,t3,t4,t5,t6,t7,t8⟩:=aX HB1.out;go_wp2_with fail;refine HI.out.mono ?_;rintro x w2 ⟨rfl,rfl⟩;go_wp2_with fail;have oH:=iW W0 (B+1) (.int .i64 h.k) (.string h.nm) (.int .i64 h.n) (.int .i64 h.tk) (.int .i64 h.tn) (.slice o1 l1 c1) (.slice o2 l2 c2) (.int .i64 h.fr) (.int .i64 h.en);have hbf:=dQ (a0:=.int .i64 h.k) (a1:=.string h.nm) (a2:=.int .i64 h.n) (a3:=.int .i64 h.tk) (a4:=.int .i64 h.tn) (a5:=.slice o1 l1 c1) (a6:=.slice o2 l2 c2) (a7:=.int .i64 h.fr) (a8:=.int .i64 h.en) HB1.out;change bodyPost _ _ _ _ _ (gW W0 (B+1) (.int .i64 h.k) (.string h.nm) (.int .i64 h.n) (.int .i64 h.tk) (.int .i64 h.tn) (.slice o1 l1 c1) (.slice o2 l2 c2) (.int .i64 h.fr) (.int .i64 h.en));clear x0 x1 x2 x3 x4 x5 x6 x7 x8 y0 y1 y2 y3 y4 y5 y6 y7 y8 z0 z1 z2 z3 z4 z5 z6 z7 z8 t0 t1 t2 t3 t4 t5 t6 t7 t8;have hfw:Fr (fun k=>k=B∨k=B+1) W0 W0:=Fr.refl _ _;generalize gW W0 (B+1) (.int .i64 h.k) (.string h.nm) (.int .i64 h.n) (.int .i64 h.tk) (.int .i64 h.tn) (.slice o1 l1 c1) (.slice o2 l2 c2) (.int .i64 h.fr) (.int .i64 h.en)=wf at *;obtain ⟨⟨x0,x1,x2,x3,x4,x5,x6,x7,x8⟩,_⟩:=aX hbf;have bH:Hid (DoQ (fun (s:Unit) _ _=>s) P5 (UJ L0) b s D e h o1 l1 c1 o2 l2 c2 A (.returned (.agg #[.int .i64 h.k,.string h.nm,.int .i64 h.n,.int .i64 h.tk,.int .i64 h.tn,.slice o1 l1 c1,.slice o2 l2 c2,.int .i64 h.fr,.int .i64 h.en])) wf):=by
    have hz2:=HZ0.out;have hB:=cO.out;have hfs:=oH.size;have hfz:=hfw.size;refine ⟨by rw [HO.out];rfl,D,⟨by have:=HJ.out.1;omega,HJ.out.2⟩,((aP.out.fr).trans' hfw (fun k hk h=>by omega)).trans' oH (fun k hk h=>by omega),fun k hk=>.inl hk⟩
   clear oH hbf;refine bodyPost_ret (by simp [results,Tryz.results96,go_sem,x0,x1,x2,x3,x4,x5,x6,x7,x8];rfl) rfl ?_;exact bH.out
end Sc
end
section
open Go.RowKit Go.Shelf
namespace Sc
theorem Xp:∀ args w,(callFunc 93 args).run Tryz.prog w=.ok (.enter 93 args) w:=enters_of Tryz.func93 (by kernel_rfl) rfl
theorem Zv:∀ args w,(callFunc 96 args).run Tryz.prog w=.ok (.enter 96 args) w:=enters_of Tryz.func96 (by kernel_rfl) rfl
theorem TP (h : Nd) (ps : To) (w : World) (R : Nat -> Prop) (o1 : Option Addr) (l1 c1 : Nat) (o2 : Option Addr) (l2 c2 : Nat) (hs1 : aB R w o1 l1 h.tp) (hs : bD R w o2 l2 ps) (hz : ps.size <= 100000) (hv : vV h ps) (hav : Cc ps) :
    Calls Tryz.prog 63 #[bI h o1 l1 c1 o2 l2 c2] w (EX w (bP [] h ps)):=by
 obtain ⟨W1,hW1⟩:∃ W1,W1=(w.alloc (.cells (cells9 h o1 l1 c1 o2 l2 c2) 29)).alloc (.cells #[.slice none 0 0] 25):=⟨_,rfl⟩;have bU:Hid (ah w W1):=by rw [hW1];exact (ah.alloc _ _).trans (ah.alloc _ _)
 have hb0:W1.heap[w.heap.size]?=some (.cells (cells9 h o1 l1 c1 o2 l2 c2) 29 (0,0)):=by
  rw [hW1,Below.heap_alloc _ _ _ (by simp)];exact heap_alloc_new w _
 have hb1:W1.heap[w.heap.size+1]?=some (.cells #[.slice none 0 0] 25 (0,0)):=by
  rw [hW1];have:=heap_alloc_new (w.alloc (.cells (cells9 h o1 l1 c1 o2 l2 c2) 29)) (.cells #[.slice none 0 0] 25);simpa using this
 have hz1:W1.heap.size=w.heap.size+2:=by rw [hW1];simp
 have hJ:FJ (w.heap.size+1) (0+(ps.size+1)) [] (fun k=>k=w.heap.size+1) W1:=⟨none,0,[],hb1,BZ _ _,by simp;omega,fun k=>by simp [Value.ownBlock]⟩;have HC:=hid (E8 (F:=93) (lb:=#[.pointer (some ⟨w.heap.size+1,0,none⟩)]) (R:=fun k=>k < w.heap.size) (L0:=w.heap.size+1) (mV:=PU) (out:=fun x _=>x) Xp (L8 _ _ (fun k hk=>by omega)) (fun k hk=>by omega) (fun _ _=>rfl) h ps 0 [] _ W1 (fun _=>False) [] o1 l1 c1 o2 l2 c2 none 0 0 hJ (jh.nil _ _ _) (Nat.le_refl _) (fun _ h=>h.elim) (by omega)
  (((hs1.mono (T:=fun k=>k < w.heap.size) (fun k hk _=>hk)).stay bU.out)) (((hs.mono (T:=fun k=>k < w.heap.size) (fun k hk _=>hk)).stay bU.out)) hv hav)
 have HF:Hid ((Aq PU (fun x _=>x) [] [] h ps).1=bP [] h ps):=by show _=_;rw [TI];rfl
 obtain ⟨⟨a0,a1,a2,a3,a4,a5,a6,a7,a8⟩,_⟩:=aX hb0;clear hb0 hb1 hJ hs1 hs hv hav hz1;unfold bI at HC ⊢;go_enter Tryz.func63,Tryz.ntmps63;go_upto_region 2 with fail
 change Code.wp _ _ _ _ ((w.alloc (.cells (cells9 h o1 l1 c1 o2 l2 c2) 29)).alloc (.cells #[.slice none 0 0] 25));rw [<-hW1];clear hW1;go_wp2_with fail;refine HC.out.mono ?_;rintro x w2 ⟨r2,e2,D2,E2,rfl,⟨o,c,xs,hb,hl,_,hd⟩,_,_,hf,_⟩;rw [HF.out] at hb hl hd;have cb:=cell_of_one hb;have HL:=hid hl;have Ap:=hid hf;unfold bI;clear hb hl hd hf a0 a1 a2 a3 a4 a5 a6 a7 a8;go_wp2_with fail;go_ret;exact ⟨o,c,xs,rfl,Cb HL.out (by omega),bU.out.trans' Ap.out (fun k hk h=>by have h':k=w.heap.size+1:=h;omega)⟩
theorem TQ (h:Nd) (e:List ByteArray):(P5 h e).tp=h.tp:=by unfold P5;split<;>rfl
end Sc
end
section
open Go.RowKit Go.Shelf
namespace Sc
def Cm (h:Nd) (ps:To):Nd:=(Aq (fun (s:Unit) _ _=>s) P5 () [] h ps).2.1
def GZ (h:Nd) (ps:To):To:=(Aq (fun (s:Unit) _ _=>s) P5 () [] h ps).2.2
theorem Xq (h:Nd) (ps:To):(Cm h ps).tp=h.tp:=TM _ _ TQ _ _ _ _
def TmQ (w:World) (g:Nd) (gs:To) (x:Ending) (w':World):Prop:=∃ o1 l1 c1 o2 l2 c2,x=.returned (bI g o1 l1 c1 o2 l2 c2)/\aB (fun b=>w.heap.size<=b) w' o1 l1 g.tp/\bD (fun b=>w.heap.size<=b) w' o2 l2 gs/\ah w w'
theorem G5 (h : Nd) (ps : To) (w : World) (R : Nat -> Prop) (o1 : Option Addr) (l1 c1 : Nat) (o2 : Option Addr) (l2 c2 : Nat) (hs1 : aB R w o1 l1 h.tp) (hs : bD R w o2 l2 ps) (hz : ps.size <= 100000) (hv : vV h ps) (hav : Cc ps) (ht : h.tp.size <= 1000000) (hat : allT (fun h => h.tp.size <= 1000000) ps) :
    Calls Tryz.prog 64 #[bI h o1 l1 c1 o2 l2 c2] w (TmQ w (Cm h ps) (GZ h ps)):=by
 obtain ⟨W0,hW0⟩:∃ W0,W0=(w.alloc (.cells (cells9 h o1 l1 c1 o2 l2 c2) 29)).alloc (.cells zero9 29):=⟨_,rfl⟩;have aP:Hid (ah w W0):=by rw [hW0];exact (ah.alloc _ _).trans (ah.alloc _ _)
 have hb0:W0.heap[w.heap.size]?=some (.cells (cells9 h o1 l1 c1 o2 l2 c2) 29 (0,0)):=by
  rw [hW0,Below.heap_alloc _ _ _ (by simp)];exact heap_alloc_new w _
 have hb1:W0.heap[w.heap.size+1]?=some (.cells zero9 29 (0,0)):=by
  rw [hW0];have:=heap_alloc_new (w.alloc (.cells (cells9 h o1 l1 c1 o2 l2 c2) 29)) (.cells zero9 29);simpa using this
 have hz0:W0.heap.size=w.heap.size+2:=by rw [hW0];simp
 have HB1:=hid hb1;have HC:=hid (Pn h ps W0 R o1 l1 c1 o2 l2 c2 (hs1.stay aP.out) (hs.stay aP.out) ht hat (by omega));have HW:Hid (∀ (w1:World) (q1:Option Addr) (e1:Nat) (q2:Option Addr) (e2:Nat),aB (fun b=>W0.heap.size<=b) w1 q1 l1 h.tp->bD (fun b=>W0.heap.size<=b) w1 q2 l2 ps->Calls Tryz.prog 92 #[bI h q1 l1 e1 q2 l2 e2,.slice none 0 0,.func (.func 96) #[] #[]] w1 (WkQ (fun k=>W0.heap.size<=k/\k < w1.heap.size) (fun (s:Unit) _ _=>s) P5 (UJ w1.heap.size) 0 () (fun _=>False) [] h ps q1 l1 e1 l2 w1)):=fun w1 q1 e1 q2 e2 g1 g2 =>
  E8 (F:=96) (lb:=#[]) (R:=fun k=>W0.heap.size<=k/\k < w1.heap.size) (L0:=w1.heap.size) Zv (PZ _ _) (fun k hk=>hk.2) TQ h ps 0 () (fun _=>False) w1 (fun _=>False) [] q1 l1 e1 q2 l2 e2 none 0 0 ⟨Nat.le_refl _,fun _ h=>h⟩ (jh.nil _ _ _) (Nat.le_refl _) (fun _ h=>h.elim) (by omega) (g1.mono (fun k hk h=>⟨h,hk⟩)) (g2.mono (fun k hk h=>⟨h,hk⟩)) hv hav
 have HZ0:=hid hz0;obtain ⟨⟨a0,a1,a2,a3,a4,a5,a6,a7,a8⟩,_⟩:=aX hb0;clear hb0 hb1 hs1 hs hv hav ht hat hz0;unfold bI at HC HW ⊢;go_enter Tryz.func64,Tryz.ntmps64;go_upto_region 1 with fail
 change Code.wp _ _ _ _ ((w.alloc (.cells (cells9 h o1 l1 c1 o2 l2 c2) 29)).alloc (.cells zero9 29));rw [<-hW0];clear hW0;generalize hB:w.heap.size=B at *;have cO:=hid hB;clear hB;go_wp2_with fail;refine HC.out.mono ?_;rintro x w1 ⟨q1,e1,q2,e2,rfl,hk1,hk2,hq1⟩;have HWC:=hid (HW.out w1 q1 e1 q2 e2 hk1 hk2);have Ko:=hid hk1;have bU:=hid hq1;clear hk1 hk2 hq1 a0 a1 a2 a3 a4 a5 a6 a7 a8;go_wp2_with fail;refine HWC.out.mono ?_;rintro x w2 ⟨r2,f2,D2,E2,rfl,hj,hto,hE,hf,_⟩;have hq2:ah w1 w2:=hf;have hb2:=aC (bU.out.trans hq2) (fun h=>h) HB1.out;have HB2:=hid hb2;obtain ⟨⟨z0,z1,z2,z3,z4,z5,z6,z7,z8⟩,t0,t1,t2,t3,t4,t5,t6,t7,t8⟩:=aX hb2;have Q8:Hid (aB (fun b=>W0.heap.size<=b) w2 q1 l1 (Cm h ps).tp):=by show aB _ _ _ _ _;rw [Xq];exact Ko.out.stay hq2
 have HG2:Hid (bD (fun b=>W0.heap.size<=b) w2 r2 l2 (GZ h ps)):=hto.acA (fun k _ hk=>hk.1) (fun k hk=>by have:=(hE k hk).1;have:=bU.out.size;omega);have eF:=hid (aP.out.trans (bU.out.trans hq2));have hgh:(Aq (fun (s:Unit) _ _=>s) P5 () [] h ps).2.1=Cm h ps:=rfl;rw [hgh];clear hj hto hE hf hq2 hb2 hgh;generalize Cm h ps=g at *;unfold bI;go_wp2_with fail;have oH:=iW w2 (B+1) (.int .i64 g.k) (.string g.nm) (.int .i64 g.n) (.int .i64 g.tk) (.int .i64 g.tn) (.slice q1 l1 e1) (.slice r2 l2 f2) (.int .i64 g.fr) (.int .i64 g.en);have hbf:=dQ (a0:=.int .i64 g.k) (a1:=.string g.nm) (a2:=.int .i64 g.n) (a3:=.int .i64 g.tk) (a4:=.int .i64 g.tn) (a5:=.slice q1 l1 e1) (a6:=.slice r2 l2 f2) (a7:=.int .i64 g.fr) (a8:=.int .i64 g.en) HB2.out;change bodyPost _ _ _ _ _ (gW w2 (B+1) (.int .i64 g.k) (.string g.nm) (.int .i64 g.n) (.int .i64 g.tk) (.int .i64 g.tn) (.slice q1 l1 e1) (.slice r2 l2 f2) (.int .i64 g.fr) (.int .i64 g.en));clear z0 z1 z2 z3 z4 z5 z6 z7 z8 t0 t1 t2 t3 t4 t5 t6 t7 t8;generalize gW w2 (B+1) (.int .i64 g.k) (.string g.nm) (.int .i64 g.n) (.int .i64 g.tk) (.int .i64 g.tn) (.slice q1 l1 e1) (.slice r2 l2 f2) (.int .i64 g.fr) (.int .i64 g.en)=wf at *;obtain ⟨⟨x0,x1,x2,x3,x4,x5,x6,x7,x8⟩,_⟩:=aX hbf;have bH:Hid (TmQ w g (GZ h ps) (.returned (.agg #[.int .i64 g.k,.string g.nm,.int .i64 g.n,.int .i64 g.tk,.int .i64 g.tn,.slice q1 l1 e1,.slice r2 l2 f2,.int .i64 g.fr,.int .i64 g.en])) wf):=by
  have hB:=cO.out;have hz0:=HZ0.out;have key:∀ k,W0.heap.size<=k->w.heap.size<=k/\¬ k=B+1:=fun k hk=>by omega
  exact ⟨q1,l1,e1,r2,l2,f2,rfl,Q8.out.fr oH (fun k _ hk=>key k hk),HG2.out.fr oH (fun k _ hk=>key k hk),eF.out.trans' oH (fun k hk h=>by omega)⟩
 clear oH hbf;refine bodyPost_ret (by simp [results,Tryz.results64,go_sem,x0,x1,x2,x3,x4,x5,x6,x7,x8];rfl) rfl ?_;exact bH.out
end Sc
end
section
open Go.RowKit Go.Shelf
namespace Sc
def CB:Nd:=⟨0,⟨#[]⟩,0,0,0,.nil,0,0⟩
theorem P6 {h:Nd} {ps:To} (hs:aI h ps.length=true):vV h ps:=by
 intro hk;unfold aI at hs;simp only [Bool.and_eq_true,decide_eq_true_eq] at hs;have h1:=hs.2;rw [hk] at h1;have:ps.length=0:=by have h2:nK 1=0:=rfl;rw [h2] at h1;omega
 cases ps with
 | nil=>rfl
 | cons _ _ _=>simp [To.length] at this
theorem zn:∀ f:To,qH f=true->okF f
 | .nil,_=>trivial
 | .cons h ps r,e=>by
  rw [oO,Bool.and_eq_true,Bool.and_eq_true] at e;refine ⟨P6 e.1.1,?_,zn ps e.1.2,zn r e.2⟩;intro hk;have hs:=e.1.1;unfold aI at hs;simp only [Bool.and_eq_true,decide_eq_true_eq] at hs;have hn:fZ h=true:=hs.1.1.1.1.1.2;unfold fZ at hn;have hkn:fQ h.k=false:=by unfold LU Yx at hk;unfold fQ;simpa [Bool.or_assoc] using hk
  rw [hkn] at hn;simp only [Bool.false_eq_true,if_false,List.isEmpty_iff] at hn;rw [ByteArray.toList_eq] at hn;apply ByteArray.ext;apply Array.toList_inj.1;simpa using hn
def RT (h:Nd) (ps:To):Bool:=qH (.cons h ps .nil)
theorem Yz {h:Nd} {ps:To} (hr:RT h ps=true):vV h ps/\okF ps/\(LU h.k=false->h.nm=ByteArray.empty):=by
 have:=zn _ hr;exact ⟨this.1,this.2.2.1,this.2.1⟩
def oI (h:Nd) (ps:To):(Nd × To) × (Int × Int) × Int :=
 if RT h ps then (match bP [] h ps with
  | []=>((Cm h ps,GZ h ps),(0,0),0)
  | x::_=>((CB,.nil),(x.fr,x.en),5)) else ((CB,.nil),(0,0),1)
def Xr (w:World) (h:Nd) (ps:To) (x:Ending) (w':World):Prop:=∃ (g:Nd) (gs:To) (o1:Option Addr) (l1 c1:Nat) (o2:Option Addr) (l2 c2:Nat) (p:Int × Int) (er:Int),x=.returned (.tuple #[bI g o1 l1 c1 o2 l2 c2,.agg #[.int .i64 p.1,.int .i64 p.2],.int .i64 er])/\oI h ps=((g,gs),p,er) /\
 aB (fun b=>w.heap.size<=b) w' o1 l1 g.tp/\bD (fun b=>w.heap.size<=b) w' o2 l2 gs/\ah w w'
def Au (w:World) (B:Nat) (u v:Value):World:=(w.setCell ⟨B,0,none⟩ u).setCell ⟨B,1,none⟩ v
theorem G6 (w:World) (B:Nat) (u v:Value):Fr (fun k=>k=B) w (Au w B u v):=(Fr.setCell (fun k=>k=B) w ⟨B,0,none⟩ u rfl).trans (Fr.setCell (fun k=>k=B) _ ⟨B,1,none⟩ v rfl)
theorem wI {w:World} {B:Nat} {u v a b:Value} {t:TypeId} (h:w.heap[B]?=some (.cells #[a,b] t (0,0))):(Au w B u v).heap[B]?=some (.cells #[u,v] t (0,0)):=aF (i:=1) (u:=v) (aF (i:=0) (u:=u) h)
theorem wJ {w:World} {B:Nat} {a b:Value} {t:TypeId} (h:w.heap[B]?=some (.cells #[a,b] t (0,0))):w.cell? ⟨B,0,none⟩=some a/\w.cell? ⟨B,1,none⟩=some b/\w.frozen? ⟨B,0,none⟩=false/\w.frozen? ⟨B,1,none⟩=false:=by
 refine ⟨?_,?_,?_,?_⟩
 ·rw [cell_of_row _ _ _ _ _ (0,0) h];rfl
 ·rw [cell_of_row _ _ _ _ _ (0,0) h];rfl
 ·simp [World.frozen?,h]
 ·simp [World.frozen?,h]
theorem Ji (h : Nd) (ps : To) (w : World) (R : Nat -> Prop) (o1 : Option Addr) (l1 c1 : Nat) (o2 : Option Addr) (l2 c2 : Nat) (hs1 : aB R w o1 l1 h.tp) (hs : bD R w o2 l2 ps) (hz : ps.size <= 100000) (hg : allT zW (.cons h ps .nil)) (ht : Lx.mJ w) :
    Calls Tryz.prog 41 #[bI h o1 l1 c1 o2 l2 c2] w (Xr w h ps):=by
 obtain ⟨W0,hW0⟩:∃ W0,W0=((w.alloc (.cells (cells9 h o1 l1 c1 o2 l2 c2) 29)).alloc (.cells zero9 29)).alloc (.cells #[.int .i64 0,.int .i64 0] 27):=⟨_,rfl⟩;have aP:Hid (ah w W0):=by rw [hW0];exact ((ah.alloc _ _).trans (ah.alloc _ _)).trans (ah.alloc _ _)
 have HB0:Hid (W0.heap[w.heap.size]?=some (.cells (cells9 h o1 l1 c1 o2 l2 c2) 29 (0,0))):=by
  show _=_;rw [hW0,Below.heap_alloc _ _ _ (by simp;omega),Below.heap_alloc _ _ _ (by simp)];exact heap_alloc_new w _
 have HB1:Hid (W0.heap[w.heap.size+1]?=some (.cells zero9 29 (0,0))):=by
  show _=_;rw [hW0,Below.heap_alloc _ _ _ (by simp)]
  have:=heap_alloc_new (w.alloc (.cells (cells9 h o1 l1 c1 o2 l2 c2) 29)) (.cells zero9 29);simpa using this
 have HB2:Hid (W0.heap[w.heap.size+2]?=some (.cells #[.int .i64 0,.int .i64 0] 27 (0,0))):=by
  show _=_;rw [hW0]
  have:=heap_alloc_new ((w.alloc (.cells (cells9 h o1 l1 c1 o2 l2 c2) 29)).alloc (.cells zero9 29)) (.cells #[.int .i64 0,.int .i64 0] 27);simpa using this
 have HR:=hid (IW h ps W0 R o1 l1 c1 o2 l2 c2 (hs1.stay aP.out) (hs.stay aP.out) hz hg (ht.stay aP.out));have HC:Hid (∀ W,ah W0 W->dJ W w.heap.size 0 h o1 l1 c1 o2 l2 c2):=fun W hq=>(aA HB0.out).fr hq (fun h=>h)
 have HP:Hid (∀ W,ah W0 W->W.heap[w.heap.size+1]?=some (.cells zero9 29 (0,0))/\W.heap[w.heap.size+2]?=some (.cells #[.int .i64 0,.int .i64 0] 27 (0,0))):=fun W hq=>⟨au hq HB1.out,au hq HB2.out⟩
 have HFC:Hid (∀ W,ah W0 W->vV h ps->Cc ps->Calls Tryz.prog 63 #[bI h o1 l1 c1 o2 l2 c2] W (EX W (bP [] h ps))):=fun W hq h1 h2=>TP h ps W R o1 l1 c1 o2 l2 c2 (hs1.stay (aP.out.trans hq)) (hs.stay (aP.out.trans hq)) hz h1 h2
 have Zw:Hid (∀ W,ah W0 W->vV h ps->Cc ps->Calls Tryz.prog 64 #[bI h o1 l1 c1 o2 l2 c2] W (TmQ W (Cm h ps) (GZ h ps))):=fun W hq h1 h2=>G5 h ps W R o1 l1 c1 o2 l2 c2 (hs1.stay (aP.out.trans hq)) (hs.stay (aP.out.trans hq)) hz h1 h2 (by have:=hg.1.2.1;omega) (mW (fun h hh=>by have:=hh.2.1;omega) _ hg.2.1)
 change Hid (Calls _ _ _ _ (fun e w'=>e=.returned (.bool (RT h ps))/\_)) at HR;clear hs1 hs hg ht;unfold bI at HR HFC Zw ⊢;cases hr:RT h ps
 case false =>
  rw [hr] at HR;have HE:Hid (oI h ps=((CB,.nil),(0,0),1)):=by show _=_;unfold oI;rw [hr];rfl
  go_enter Tryz.func41,Tryz.ntmps41;go_upto_region 1 with fail
  rw [<-hW0];clear hW0;generalize hB:w.heap.size=B at *;have cO:=hid hB;clear hB;obtain ⟨a0,a1,a2,a3,a4,a5,a6,a7,a8⟩:=HC.out W0 (ah.refl _);go_wp2_with fail;refine HR.out.mono ?_;rintro x w1 ⟨rfl,hq1⟩;obtain ⟨hb1,hb2⟩:=HP.out w1 hq1;have Ko:=hid hb1;have V5:=hid hb2;have bU:=hid (aP.out.trans hq1);obtain ⟨⟨z0,z1,z2,z3,z4,z5,z6,z7,z8⟩,t0,t1,t2,t3,t4,t5,t6,t7,t8⟩:=aX hb1;obtain ⟨p0,p1,p2,p3⟩:=wJ hb2;clear hb1 hb2 hq1 a0 a1 a2 a3 a4 a5 a6 a7 a8;go_wp2_with fail;clear z0 z1 z2 z3 z4 z5 z6 z7 z8 t0 t1 t2 t3 t4 t5 t6 t7 t8 p0 p1 p2 p3;have hbf:=dQ (a0:=.int .i64 0) (a1:=.string ⟨#[]⟩) (a2:=.int .i64 0) (a3:=.int .i64 0) (a4:=.int .i64 0) (a5:=.slice none 0 0) (a6:=.slice none 0 0) (a7:=.int .i64 0) (a8:=.int .i64 0) Ko.out;have TR:=iW w1 (B+1) (.int .i64 0) (.string ⟨#[]⟩) (.int .i64 0) (.int .i64 0) (.int .i64 0) (.slice none 0 0) (.slice none 0 0) (.int .i64 0) (.int .i64 0);have Jj:=aC TR (by omega) V5.out;have hf2:=G6 (gW w1 (B+1) (.int .i64 0) (.string ⟨#[]⟩) (.int .i64 0) (.int .i64 0) (.int .i64 0) (.slice none 0 0) (.slice none 0 0) (.int .i64 0) (.int .i64 0)) (B+2) (.int .i64 0) (.int .i64 0);have hbg:=aC hf2 (by omega) hbf;have P7:=wI (u:=.int .i64 0) (v:=.int .i64 0) Jj;have oH:Fr (fun k=>k=B+1∨k=B+2) w1 (Au (gW w1 (B+1) (.int .i64 0) (.string ⟨#[]⟩) (.int .i64 0) (.int .i64 0) (.int .i64 0) (.slice none 0 0) (.slice none 0 0) (.int .i64 0) (.int .i64 0)) (B+2) (.int .i64 0) (.int .i64 0)):=(TR.mono (fun _ _ h=>.inl h)).trans (hf2.mono (fun _ _ h=>.inr h));change bodyPost _ _ _ _ _ (Au (gW w1 (B+1) (.int .i64 0) (.string ⟨#[]⟩) (.int .i64 0) (.int .i64 0) (.int .i64 0) (.slice none 0 0) (.slice none 0 0) (.int .i64 0) (.int .i64 0)) (B+2) (.int .i64 0) (.int .i64 0))
  clear hbf TR Jj hf2;generalize (Au (gW w1 (B+1) (.int .i64 0) (.string ⟨#[]⟩) (.int .i64 0) (.int .i64 0) (.int .i64 0) (.slice none 0 0) (.slice none 0 0) (.int .i64 0) (.int .i64 0)) (B+2) (.int .i64 0) (.int .i64 0))=wf at *;obtain ⟨⟨x0,x1,x2,x3,x4,x5,x6,x7,x8⟩,_⟩:=aX hbg;have s0:=(cell_of_row _ (B+2) 0 _ _ (0,0) P7).trans (show _=some (Value.int .i64 0) from rfl);have s1:=(cell_of_row _ (B+2) 1 _ _ (0,0) P7).trans (show _=some (Value.int .i64 0) from rfl);have bH:Hid (Xr w h ps (.returned (.tuple #[.agg #[.int .i64 0,.string ⟨#[]⟩,.int .i64 0,.int .i64 0,.int .i64 0,.slice none 0 0,.slice none 0 0,.int .i64 0,.int .i64 0],.agg #[.int .i64 0,.int .i64 0],.int .i64 1])) wf):=by
   have hB:=cO.out;exact ⟨CB,.nil,none,0,0,none,0,0,(0,0),1,rfl,HE.out,aB.nil _ _ _,bD.nil _ _ _,bU.out.trans' oH (fun k hk h=>by omega)⟩
  clear oH hbg P7;refine bodyPost_ret (by simp [results,Tryz.results41,go_sem,x0,x1,x2,x3,x4,x5,x6,x7,x8,s0,s1];rfl) rfl ?_;exact bH.out
 case true =>
  rw [hr] at HR;obtain ⟨hv,hok,_⟩:=Yz hr;have hav:=xZ ps hok;have YR:Hid (∀ W,ah W0 W->Calls Tryz.prog 63 #[.agg #[.int .i64 h.k,.string h.nm,.int .i64 h.n,.int .i64 h.tk,.int .i64 h.tn,.slice o1 l1 c1,.slice o2 l2 c2,.int .i64 h.fr,.int .i64 h.en]] W (EX W (bP [] h ps))):=fun W hq=>HFC.out W hq hv hav
  have HRW:Hid (∀ W,ah W0 W->Calls Tryz.prog 64 #[.agg #[.int .i64 h.k,.string h.nm,.int .i64 h.n,.int .i64 h.tk,.int .i64 h.tn,.slice o1 l1 c1,.slice o2 l2 c2,.int .i64 h.fr,.int .i64 h.en]] W (TmQ W (Cm h ps) (GZ h ps))):=fun W hq=>Zw.out W hq hv hav
  have hE0:oI h ps=(match bP [] h ps with
   | []=>((Cm h ps,GZ h ps),(0,0),0)
   | x::_=>((CB,.nil),(x.fr,x.en),5)):=by unfold oI;rw [hr];rfl
  have HLZ:Hid ((bP [] h ps).length<=100001):=by have:=EZ [] h ps;show _<=_;omega
  clear HFC Zw hv hok hav;generalize bP [] h ps=L at *;cases L with
  | nil =>
   have HE:Hid (oI h ps=((Cm h ps,GZ h ps),(0,0),0)):=hE0;clear hE0;generalize Cm h ps=g at *;generalize GZ h ps=gs at *;go_enter Tryz.func41,Tryz.ntmps41;go_upto_region 1 with fail
   rw [<-hW0];clear hW0;generalize hB:w.heap.size=B at *;have cO:=hid hB;clear hB;obtain ⟨a0,a1,a2,a3,a4,a5,a6,a7,a8⟩:=HC.out W0 (ah.refl _);go_wp2_with fail;refine HR.out.mono ?_;rintro x w1 ⟨rfl,hq1⟩;clear a0 a1 a2 a3 a4 a5 a6 a7 a8;obtain ⟨a0,a1,a2,a3,a4,a5,a6,a7,a8⟩:=HC.out w1 hq1;have bU:=hid hq1;clear hq1;go_wp2_with fail;refine (YR.out w1 bU.out).mono ?_;rintro x w2 ⟨o,c,xs,rfl,hl,hq2⟩;have eF:=hid (bU.out.trans hq2);clear hl hq2 a0 a1 a2 a3 a4 a5 a6 a7 a8;obtain ⟨a0,a1,a2,a3,a4,a5,a6,a7,a8⟩:=HC.out w2 eF.out;go_wp2_with fail;refine (HRW.out w2 eF.out).mono ?_;rintro x w3 ⟨q1,m1,d1,q2,m2,d2,rfl,hg1,hg2,hq3⟩;have dU:=hid (eF.out.trans hq3);have Q8:=hid hg1;have HG2:=hid hg2;have hz2:=eF.out.size;have HZ0:Hid (B+3<=W0.heap.size):=by show _<=_;have:=lt_of_block HB2.out;omega
   clear hq3 hg1 hg2 a0 a1 a2 a3 a4 a5 a6 a7 a8;unfold bI;obtain ⟨hb1,hb2⟩:=HP.out w3 dU.out;have Ko:=hid hb1;have V5:=hid hb2;obtain ⟨⟨z0,z1,z2,z3,z4,z5,z6,z7,z8⟩,t0,t1,t2,t3,t4,t5,t6,t7,t8⟩:=aX hb1;obtain ⟨p0,p1,p2,p3⟩:=wJ hb2;clear hb1 hb2;go_wp2_with fail;clear z0 z1 z2 z3 z4 z5 z6 z7 z8 t0 t1 t2 t3 t4 t5 t6 t7 t8 p0 p1 p2 p3;have hbf:=dQ (a0:=.int .i64 g.k) (a1:=.string g.nm) (a2:=.int .i64 g.n) (a3:=.int .i64 g.tk) (a4:=.int .i64 g.tn) (a5:=.slice q1 m1 d1) (a6:=.slice q2 m2 d2) (a7:=.int .i64 g.fr) (a8:=.int .i64 g.en) Ko.out;have TR:=iW w3 (B+1) (.int .i64 g.k) (.string g.nm) (.int .i64 g.n) (.int .i64 g.tk) (.int .i64 g.tn) (.slice q1 m1 d1) (.slice q2 m2 d2) (.int .i64 g.fr) (.int .i64 g.en);have Jj:=aC TR (by omega) V5.out;have hf2:=G6 (gW w3 (B+1) (.int .i64 g.k) (.string g.nm) (.int .i64 g.n) (.int .i64 g.tk) (.int .i64 g.tn) (.slice q1 m1 d1) (.slice q2 m2 d2) (.int .i64 g.fr) (.int .i64 g.en)) (B+2) (.int .i64 0) (.int .i64 0);have hbg:=aC hf2 (by omega) hbf;have P7:=wI (u:=.int .i64 0) (v:=.int .i64 0) Jj;have oH:Fr (fun k=>k=B+1∨k=B+2) w3 (Au (gW w3 (B+1) (.int .i64 g.k) (.string g.nm) (.int .i64 g.n) (.int .i64 g.tk) (.int .i64 g.tn) (.slice q1 m1 d1) (.slice q2 m2 d2) (.int .i64 g.fr) (.int .i64 g.en)) (B+2) (.int .i64 0) (.int .i64 0)):=(TR.mono (fun _ _ h=>.inl h)).trans (hf2.mono (fun _ _ h=>.inr h));change bodyPost _ _ _ _ _ (Au (gW w3 (B+1) (.int .i64 g.k) (.string g.nm) (.int .i64 g.n) (.int .i64 g.tk) (.int .i64 g.tn) (.slice q1 m1 d1) (.slice q2 m2 d2) (.int .i64 g.fr) (.int .i64 g.en)) (B+2) (.int .i64 0) (.int .i64 0))
   clear hbf TR Jj hf2;generalize (Au (gW w3 (B+1) (.int .i64 g.k) (.string g.nm) (.int .i64 g.n) (.int .i64 g.tk) (.int .i64 g.tn) (.slice q1 m1 d1) (.slice q2 m2 d2) (.int .i64 g.fr) (.int .i64 g.en)) (B+2) (.int .i64 0) (.int .i64 0))=wf at *;obtain ⟨⟨x0,x1,x2,x3,x4,x5,x6,x7,x8⟩,_⟩:=aX hbg;have s0:=(cell_of_row _ (B+2) 0 _ _ (0,0) P7).trans (show _=some (Value.int .i64 0) from rfl);have s1:=(cell_of_row _ (B+2) 1 _ _ (0,0) P7).trans (show _=some (Value.int .i64 0) from rfl);have bH:Hid (Xr w h ps (.returned (.tuple #[.agg #[.int .i64 g.k,.string g.nm,.int .i64 g.n,.int .i64 g.tk,.int .i64 g.tn,.slice q1 m1 d1,.slice q2 m2 d2,.int .i64 g.fr,.int .i64 g.en],.agg #[.int .i64 0,.int .i64 0],.int .i64 0])) wf):=by
    have hB:=cO.out;have hz0:=HZ0.out;have key:∀ k,w2.heap.size<=k->w.heap.size<=k/\¬ (k=B+1∨k=B+2):=fun k hk=>by omega
    exact ⟨g,gs,q1,m1,d1,q2,m2,d2,(0,0),0,rfl,HE.out,Q8.out.fr oH (fun k _ hk=>key k hk),HG2.out.fr oH (fun k _ hk=>key k hk),(aP.out.trans dU.out).trans' oH (fun k hk h=>by omega)⟩
   clear oH hbg P7;refine bodyPost_ret (by simp [results,Tryz.results41,go_sem,x0,x1,x2,x3,x4,x5,x6,x7,x8,s0,s1];rfl) rfl ?_;exact bH.out
  | cons y L' =>
   have HE:Hid (oI h ps=((CB,.nil),(y.fr,y.en),5)):=hE0;clear hE0 HRW;have hpos:((y::L').length:Int) > 0:=by simp<;>omega
   have hpos':(0:Int) < ((y::L').length:Int):=hpos;generalize hn:(y::L').length=n at *;have HN:=hid hn;clear hn;go_enter Tryz.func41,Tryz.ntmps41;go_upto_region 1 with fail
   rw [<-hW0];clear hW0;generalize hB:w.heap.size=B at *;have cO:=hid hB;clear hB;obtain ⟨a0,a1,a2,a3,a4,a5,a6,a7,a8⟩:=HC.out W0 (ah.refl _);go_wp2_with fail;refine HR.out.mono ?_;rintro x w1 ⟨rfl,hq1⟩;clear a0 a1 a2 a3 a4 a5 a6 a7 a8;obtain ⟨a0,a1,a2,a3,a4,a5,a6,a7,a8⟩:=HC.out w1 hq1;have bU:=hid hq1;clear hq1;go_wp2_with fail;refine (YR.out w1 bU.out).mono ?_;rintro x w2 ⟨o,c,xs,rfl,hl,hq2⟩;have eF:=hid (aP.out.trans (bU.out.trans hq2));obtain ⟨g9,off,u1,v1,e1,u2,v2,e2,rfl,⟨f0,f1,f2,f3,f4,f5,f6,f7,f8⟩⟩:=hl.heads 0 y rfl;have hg9:=hl.2.2 g9 rfl;have hz0:=lt_of_block HB2.out;have hz1:=bU.out.size;have hn1:B+1≠g9:=by omega
   have hn2:B+2≠g9:=by omega
   have hn3:g9≠B+1:=by omega
   have hn4:g9≠B+2:=by omega
   obtain ⟨hb1,hb2⟩:=HP.out w2 (bU.out.trans hq2);have Ko:=hid hb1;have V5:=hid hb2;rw [HN.out];obtain ⟨⟨z0,z1,z2,z3,z4,z5,z6,z7,z8⟩,t0,t1,t2,t3,t4,t5,t6,t7,t8⟩:=aX hb1;obtain ⟨p0,p1,p2,p3⟩:=wJ hb2;clear hb1 hb2 hl hq2 a0 a1 a2 a3 a4 a5 a6 a7 a8;rw [Nat.zero_mul,Nat.add_zero] at f0 f1 f2 f3 f4 f5 f6 f7 f8;go_upto_region 5 with fail
   go_region;go_wp2_with fail;clear z0 z1 z2 z3 z4 z5 z6 z7 z8 t0 t1 t2 t3 t4 t5 t6 t7 t8 p0 p1 p2 p3;have hbf:=dQ (a0:=.int .i64 0) (a1:=.string ⟨#[]⟩) (a2:=.int .i64 0) (a3:=.int .i64 0) (a4:=.int .i64 0) (a5:=.slice none 0 0) (a6:=.slice none 0 0) (a7:=.int .i64 0) (a8:=.int .i64 0) Ko.out;have TR:=iW w2 (B+1) (.int .i64 0) (.string ⟨#[]⟩) (.int .i64 0) (.int .i64 0) (.int .i64 0) (.slice none 0 0) (.slice none 0 0) (.int .i64 0) (.int .i64 0);have Jj:=aC TR (by omega) V5.out;have hf2:=G6 (gW w2 (B+1) (.int .i64 0) (.string ⟨#[]⟩) (.int .i64 0) (.int .i64 0) (.int .i64 0) (.slice none 0 0) (.slice none 0 0) (.int .i64 0) (.int .i64 0)) (B+2) (.int .i64 y.fr) (.int .i64 y.en);have hbg:=aC hf2 (by omega) hbf;have P7:=wI (u:=.int .i64 y.fr) (v:=.int .i64 y.en) Jj;have oH:Fr (fun k=>k=B+1∨k=B+2) w2 (Au (gW w2 (B+1) (.int .i64 0) (.string ⟨#[]⟩) (.int .i64 0) (.int .i64 0) (.int .i64 0) (.slice none 0 0) (.slice none 0 0) (.int .i64 0) (.int .i64 0)) (B+2) (.int .i64 y.fr) (.int .i64 y.en)):=(TR.mono (fun _ _ h=>.inl h)).trans (hf2.mono (fun _ _ h=>.inr h));replace hbg:=eu hbg;replace P7:=eu P7;replace oH:=oH.trans (Fr.drew (fun k=>k=B+1∨k=B+2) (Au (gW w2 (B+1) (.int .i64 0) (.string ⟨#[]⟩) (.int .i64 0) (.int .i64 0) (.int .i64 0) (.slice none 0 0) (.slice none 0 0) (.int .i64 0) (.int .i64 0)) (B+2) (.int .i64 y.fr) (.int .i64 y.en)));change bodyPost _ _ _ _ _ ((Au (gW w2 (B+1) (.int .i64 0) (.string ⟨#[]⟩) (.int .i64 0) (.int .i64 0) (.int .i64 0) (.slice none 0 0) (.slice none 0 0) (.int .i64 0) (.int .i64 0)) (B+2) (.int .i64 y.fr) (.int .i64 y.en))).drew
   clear hbf TR Jj hf2;generalize ((Au (gW w2 (B+1) (.int .i64 0) (.string ⟨#[]⟩) (.int .i64 0) (.int .i64 0) (.int .i64 0) (.slice none 0 0) (.slice none 0 0) (.int .i64 0) (.int .i64 0)) (B+2) (.int .i64 y.fr) (.int .i64 y.en))).drew=wf at *;obtain ⟨⟨x0,x1,x2,x3,x4,x5,x6,x7,x8⟩,_⟩:=aX hbg;have s0:=(cell_of_row _ (B+2) 0 _ _ (0,0) P7).trans (show _=some (Value.int .i64 y.fr) from rfl);have s1:=(cell_of_row _ (B+2) 1 _ _ (0,0) P7).trans (show _=some (Value.int .i64 y.en) from rfl);have bH:Hid (Xr w h ps (.returned (.tuple #[.agg #[.int .i64 0,.string ⟨#[]⟩,.int .i64 0,.int .i64 0,.int .i64 0,.slice none 0 0,.slice none 0 0,.int .i64 0,.int .i64 0],.agg #[.int .i64 y.fr,.int .i64 y.en],.int .i64 5])) wf):=by
    have hB:=cO.out;exact ⟨CB,.nil,none,0,0,none,0,0,(y.fr,y.en),5,rfl,HE.out,aB.nil _ _ _,bD.nil _ _ _,eF.out.trans' oH (fun k hk h=>by omega)⟩
   clear oH hbg P7;refine bodyPost_ret (by simp [results,Tryz.results41,go_sem,x0,x1,x2,x3,x4,x5,x6,x7,x8,s0,s1];rfl) rfl ?_;exact bH.out
end Sc
end
section
open Go.RowKit Go.Shelf
namespace Sc
def hasB (l:List ByteArray) (s:ByteArray):Bool:=l.any (fun a=>decide (a=s))
end Sc
end
section
open Go.RowKit Go.Shelf
namespace Sc
def ddS (acc:List ByteArray) (s:ByteArray):List ByteArray:=if hasB acc s then acc else acc++[s]
def dd (l:List Nd):List ByteArray:=(l.map (·.nm)).foldl ddS []
end Sc
end
section
open Go.RowKit Go.Shelf
namespace Sc
theorem tZ {G H:Nd->Prop}:∀ f:To,allT G f->allT H f->allT (fun h=>G h/\H h) f
 | .nil,_,_=>trivial
 | .cons _ ps r,e,e'=>⟨⟨e.1,e'.1⟩,tZ ps e.2.1 e'.2.1,tZ r e.2.2 e'.2.2⟩
structure Small (h:Nd) (ps:To):Prop where
 good:allT zW (.cons h ps .nil)
 right:I5 h/\allT I5 ps
 size:ps.size<=199
theorem kC {h:Nd} {ps:To} (hg:kF h ps=false) (ho:Gh h) (hop:allT Gh ps):Small h ps:=by
 have ga:=LD hg;have ba:=NI ga.1;have hall:=tZ ps hop (mW (fun h hh=>NI hh) _ ga.2.1);exact ⟨⟨⟨by omega,by omega,ho.2.1,ho.2.2.1⟩,mW (fun h hh=>⟨by have:=hh.2.1;omega,by have:=hh.2.2;omega,hh.1.2.1,hh.1.2.2.1⟩) _ hall,trivial⟩,
  ⟨⟨by omega,by omega,ho.2.2.2⟩,mW (fun h hh=>⟨by have:=hh.2.1;omega,by have:=hh.2.2;omega,hh.1.2.2.2⟩) _ hall⟩,by omega⟩
theorem L9 (h : Nd) (ps : To) (w W : World) (o1 : Option Addr) (l1 c1 : Nat) (o2 : Option Addr) (l2 c2 : Nat) (h1 : aB (Low w) w o1 l1 h.tp) (h2 : bD (Low w) w o2 l2 ps) (ho : Gh h) (hop : allT Gh ps) (hq : ah w W) :
    Calls Tryz.prog 24 #[bI h o1 l1 c1 o2 l2 c2] W fun e w'=>e=.returned (.bool (kF h ps))/\ah W w' :=
 I8 h ps W (Low w) o1 l1 c1 o2 l2 c2 (h1.stay hq) (h2.stay hq) (by have:=ho.1;unfold maxLen at this;omega) (mW (fun h hh=>by have:=hh.1;unfold maxLen at this;omega) _ hop)
end Sc
end
end Go.Proofs.YtcninopmelmajaaGreatDoor
