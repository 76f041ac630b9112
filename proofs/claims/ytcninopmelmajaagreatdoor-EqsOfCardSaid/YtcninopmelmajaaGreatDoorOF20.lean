/-
  Texts laid together (TeCopy, TeListN, TeSize, TeRight, TeRSound, TeRSound1, TeRSound2, TeRSound3, TeRSound4): laws and walks, with their conditions.
-/
import Derived.RangeFuncLeaves
import Derived.Test.YtcninopmelmajaaGreatDoorOF19
set_option maxHeartbeats 8000000
set_option maxRecDepth 1000000
namespace Go.Proofs.YtcninopmelmajaaGreatDoor
open Go.Lib (hid)
section
open Go.RowKit Go.Shelf
def gW (w:World) (B:Nat) (a0 a1 a2 a3 a4 a5 a6 a7 a8:Value):World :=
 ((((((((w.setCell ⟨B,0,none⟩ a0).setCell ⟨B,1,none⟩ a1).setCell ⟨B,2,none⟩ a2).setCell ⟨B,3,none⟩ a3).setCell ⟨B,4,none⟩ a4).setCell ⟨B,5,none⟩ a5).setCell ⟨B,6,none⟩ a6).setCell ⟨B,7,none⟩ a7).setCell ⟨B,8,none⟩ a8
theorem iW (w:World) (B:Nat) (a0 a1 a2 a3 a4 a5 a6 a7 a8:Value):Fr (fun k=>k=B) w (gW w B a0 a1 a2 a3 a4 a5 a6 a7 a8) :=
 ((((((((Fr.setCell (fun k=>k=B) w ⟨B,0,none⟩ a0 rfl).trans (Fr.setCell (fun k=>k=B) _ ⟨B,1,none⟩ a1 rfl)).trans (Fr.setCell (fun k=>k=B) _ ⟨B,2,none⟩ a2 rfl)).trans (Fr.setCell (fun k=>k=B) _ ⟨B,3,none⟩ a3 rfl)).trans (Fr.setCell (fun k=>k=B) _ ⟨B,4,none⟩ a4 rfl)).trans (Fr.setCell (fun k=>k=B) _ ⟨B,5,none⟩ a5 rfl)).trans (Fr.setCell (fun k=>k=B) _ ⟨B,6,none⟩ a6 rfl)).trans (Fr.setCell (fun k=>k=B) _ ⟨B,7,none⟩ a7 rfl)).trans (Fr.setCell (fun k=>k=B) _ ⟨B,8,none⟩ a8 rfl)
theorem dQ {w : World} {B : Nat} {a0 a1 a2 a3 a4 a5 a6 a7 a8 b0 b1 b2 b3 b4 b5 b6 b7 b8 : Value} {t : TypeId} (h : w.heap[B]? = some (.cells #[b0, b1, b2, b3, b4, b5, b6, b7, b8] t (0, 0))) :
    (gW w B a0 a1 a2 a3 a4 a5 a6 a7 a8).heap[B]?=some (.cells #[a0,a1,a2,a3,a4,a5,a6,a7,a8] t (0,0)):=by
 have s0:((w).setCell ⟨B,0,none⟩ a0).heap[B]?=some (.cells #[a0,b1,b2,b3,b4,b5,b6,b7,b8] t (0,0)):=aF h;have s1:((((w).setCell ⟨B,0,none⟩ a0)).setCell ⟨B,1,none⟩ a1).heap[B]?=some (.cells #[a0,a1,b2,b3,b4,b5,b6,b7,b8] t (0,0)):=aF s0;have s2:((((((w).setCell ⟨B,0,none⟩ a0)).setCell ⟨B,1,none⟩ a1)).setCell ⟨B,2,none⟩ a2).heap[B]?=some (.cells #[a0,a1,a2,b3,b4,b5,b6,b7,b8] t (0,0)):=aF s1;have s3:((((((((w).setCell ⟨B,0,none⟩ a0)).setCell ⟨B,1,none⟩ a1)).setCell ⟨B,2,none⟩ a2)).setCell ⟨B,3,none⟩ a3).heap[B]?=some (.cells #[a0,a1,a2,a3,b4,b5,b6,b7,b8] t (0,0)):=aF s2;have s4:((((((((((w).setCell ⟨B,0,none⟩ a0)).setCell ⟨B,1,none⟩ a1)).setCell ⟨B,2,none⟩ a2)).setCell ⟨B,3,none⟩ a3)).setCell ⟨B,4,none⟩ a4).heap[B]?=some (.cells #[a0,a1,a2,a3,a4,b5,b6,b7,b8] t (0,0)):=aF s3;have s5:((((((((((((w).setCell ⟨B,0,none⟩ a0)).setCell ⟨B,1,none⟩ a1)).setCell ⟨B,2,none⟩ a2)).setCell ⟨B,3,none⟩ a3)).setCell ⟨B,4,none⟩ a4)).setCell ⟨B,5,none⟩ a5).heap[B]?=some (.cells #[a0,a1,a2,a3,a4,a5,b6,b7,b8] t (0,0)):=aF s4;have s6:((((((((((((((w).setCell ⟨B,0,none⟩ a0)).setCell ⟨B,1,none⟩ a1)).setCell ⟨B,2,none⟩ a2)).setCell ⟨B,3,none⟩ a3)).setCell ⟨B,4,none⟩ a4)).setCell ⟨B,5,none⟩ a5)).setCell ⟨B,6,none⟩ a6).heap[B]?=some (.cells #[a0,a1,a2,a3,a4,a5,a6,b7,b8] t (0,0)):=aF s5;have s7:((((((((((((((((w).setCell ⟨B,0,none⟩ a0)).setCell ⟨B,1,none⟩ a1)).setCell ⟨B,2,none⟩ a2)).setCell ⟨B,3,none⟩ a3)).setCell ⟨B,4,none⟩ a4)).setCell ⟨B,5,none⟩ a5)).setCell ⟨B,6,none⟩ a6)).setCell ⟨B,7,none⟩ a7).heap[B]?=some (.cells #[a0,a1,a2,a3,a4,a5,a6,a7,b8] t (0,0)):=aF s6
 have s8:((((((((((((((((((w).setCell ⟨B,0,none⟩ a0)).setCell ⟨B,1,none⟩ a1)).setCell ⟨B,2,none⟩ a2)).setCell ⟨B,3,none⟩ a3)).setCell ⟨B,4,none⟩ a4)).setCell ⟨B,5,none⟩ a5)).setCell ⟨B,6,none⟩ a6)).setCell ⟨B,7,none⟩ a7)).setCell ⟨B,8,none⟩ a8).heap[B]?=some (.cells #[a0,a1,a2,a3,a4,a5,a6,a7,a8] t (0,0)):=aF s7;exact s8
def Tc (w:World) (B:Nat) (a3 a4 a5:Value):World:=((w.setCell ⟨B,3,none⟩ a3).setCell ⟨B,4,none⟩ a4).setCell ⟨B,5,none⟩ a5
theorem Gv (w:World) (B:Nat) (a3 a4 a5:Value):Fr (fun k=>k=B) w (Tc w B a3 a4 a5) :=
 ((Fr.setCell (fun k=>k=B) _ ⟨B,3,none⟩ a3 rfl).trans (Fr.setCell (fun k=>k=B) _ ⟨B,4,none⟩ a4 rfl)).trans (Fr.setCell (fun k=>k=B) _ ⟨B,5,none⟩ a5 rfl)
theorem KY {w : World} {B : Nat} {a3 a4 a5 b0 b1 b2 b3 b4 b5 b6 b7 b8 : Value} {t : TypeId} (h : w.heap[B]? = some (.cells #[b0, b1, b2, b3, b4, b5, b6, b7, b8] t (0, 0))) :
    (Tc w B a3 a4 a5).heap[B]?=some (.cells #[b0,b1,b2,a3,a4,a5,b6,b7,b8] t (0,0)) :=
 aF (i:=5) (u:=a5) (aF (i:=4) (u:=a4) (aF (i:=3) (u:=a3) h))
theorem aX {w : World} {B : Nat} {a0 a1 a2 a3 a4 a5 a6 a7 a8 : Value} {t : TypeId} (h : w.heap[B]? = some (.cells #[a0, a1, a2, a3, a4, a5, a6, a7, a8] t (0, 0))) :
    (w.cell? ⟨B,0,none⟩=some a0/\w.cell? ⟨B,1,none⟩=some a1/\w.cell? ⟨B,2,none⟩=some a2/\w.cell? ⟨B,3,none⟩=some a3/\w.cell? ⟨B,4,none⟩=some a4/\w.cell? ⟨B,5,none⟩=some a5/\w.cell? ⟨B,6,none⟩=some a6/\w.cell? ⟨B,7,none⟩=some a7/\w.cell? ⟨B,8,none⟩=some a8) /\
    w.frozen? ⟨B,0,none⟩=false/\w.frozen? ⟨B,1,none⟩=false/\w.frozen? ⟨B,2,none⟩=false/\w.frozen? ⟨B,3,none⟩=false/\w.frozen? ⟨B,4,none⟩=false/\w.frozen? ⟨B,5,none⟩=false/\w.frozen? ⟨B,6,none⟩=false/\w.frozen? ⟨B,7,none⟩=false/\w.frozen? ⟨B,8,none⟩=false:=by
 refine ⟨⟨?_,?_,?_,?_,?_,?_,?_,?_,?_⟩,?_,?_,?_,?_,?_,?_,?_,?_,?_⟩
 all_goals first | (rw [cell_of_row _ _ _ _ _ (0,0) h];rfl) | simp [World.frozen?,h]
abbrev zero9:Array Value:=#[.int .i64 0,.string ⟨#[]⟩,.int .i64 0,.int .i64 0,.int .i64 0,.slice none 0 0,.slice none 0 0,.int .i64 0,.int .i64 0]
def Yr (h:Nd) (ps:To):Prop:=∀ (w:World) (R:Nat->Prop) (o1:Option Addr) (l1 c1:Nat) (o2:Option Addr) (l2 c2:Nat),aB R w o1 l1 h.tp->bD R w o2 l2 ps->h.tp.size<=1000000->allT (fun h=>h.tp.size<=1000000) ps->ps.size<=1000000 ->
 Calls Tryz.prog 95 #[bI h o1 l1 c1 o2 l2 c2] w fun e w'=>∃ p1 d1 p2 d2,e=.returned (bI h p1 l1 d1 p2 l2 d2)/\aB (fun b=>w.heap.size<=b) w' p1 l1 h.tp/\bD (fun b=>w.heap.size<=b) w' p2 l2 ps/\ah w w'
theorem Pn (h:Nd) (ps:To):Yr h ps:=by
 refine To.sG (T:=Yr) ?_ h ps;intro h ps ih w R o1 l1 c1 o2 l2 c2 hs1 hs htz aa1 hsz;have HS:=hid hs;have IH:=hid ih;have HL:=hid hs.1;have HA:=hid aa1;have hmx:=hs.2.1;have hll:=To.length_le ps;rw [<-hs.1] at hll;unfold maxLen at hmx;obtain ⟨W0,hW0⟩:∃ W0,W0=(w.alloc (.cells (cells9 h o1 l1 c1 o2 l2 c2) 29)).alloc (.cells zero9 29):=⟨_,rfl⟩;have aP:Hid (ah w W0):=by rw [hW0];exact (ah.alloc _ _).trans (ah.alloc _ _)
 have HCT:=hid (xW h.tk h.tn h.tp W0 o1 l1 c1 (hs1.slc.stay aP.out) htz);have hz0:w.heap.size+2<=W0.heap.size:=by rw [hW0];simp
 have HB0:Hid (W0.heap[w.heap.size]?=some (.cells (cells9 h o1 l1 c1 o2 l2 c2) 29 (0,0))):=by
  show _=_;rw [hW0,Below.heap_alloc _ _ _ (by simp)];exact heap_alloc_new w _
 have HB1:Hid (W0.heap[w.heap.size+1]?=some (.cells zero9 29 (0,0))):=by
  show _=_;rw [hW0]
  have:=heap_alloc_new (w.alloc (.cells (cells9 h o1 l1 c1 o2 l2 c2) 29)) (.cells zero9 29);simpa using this
 clear hs ih aa1 hs1;unfold dZ at HCT;unfold bI;go_enter Tryz.func95,Tryz.ntmps95;go_wp2_with fail;change Calls _ _ _ ((w.alloc (.cells (cells9 h o1 l1 c1 o2 l2 c2) 29)).alloc (.cells zero9 29)) _;rw [<-hW0];refine HCT.out.mono ?_;rintro e w1 ⟨q1,e1,rfl,hsl1,hq1⟩;have aa2:=hid hsl1;have hb0:=(hq1.block _ (by omega) (fun h=>h)).trans HB0.out;have hb1:=(hq1.block _ (by omega) (fun h=>h)).trans HB1.out;have bU:=hid hq1;have hz1:W0.heap.size<=w1.heap.size:=hq1.size;clear hW0 hq1 hsl1 HB0 HB1 HCT;have HB0:=hid hb0;have HB1:=hid hb1;obtain ⟨⟨x0,x1,x2,x3,x4,x5,x6,x7,x8⟩,y0,y1,y2,y3,y4,y5,y6,y7,y8⟩:=aX hb0;clear hb0 hb1;generalize hB:w.heap.size=B at *;have cO:=hid hB;clear hB;go_wp2_with fail;obtain ⟨W1,hW1⟩:∃ W1,W1=Tc w1 B (.int .i64 h.tk) (.int .i64 h.tn) (.slice q1 l1 e1):=⟨_,rfl⟩;change Code.wp _ _ _ _ (Tc w1 B (.int .i64 h.tk) (.int .i64 h.tn) (.slice q1 l1 e1));have hz2:W1.heap.size=w1.heap.size:=by rw [hW1];simp [Tc,World.setCell]
 have Gw:Hid (ah w W1):=by
  rw [hW1];exact (aP.out.trans bU.out).trans' (Gv _ _ _ _ _) (fun i hi h=>by have:=cO.out;omega)
 have Xa:Hid (aB (fun b=>W0.heap.size<=b) W1 q1 l1 h.tp):=by
  rw [hW1];exact aa2.out.fr (Gv _ _ _ _ _) (fun k _ hk=>⟨hk,fun h=>by have hk':W0.heap.size<=k:=hk;omega⟩)
 replace HB0:Hid (W1.heap[B]?=some (.cells (cells9 h q1 l1 e1 o2 l2 c2) 29 (0,0))):=by
  rw [hW1];exact KY HB0.out
 replace HB1:Hid (W1.heap[B+1]?=some (.cells zero9 29 (0,0))):=by
  rw [hW1];exact ((Gv w1 B _ _ _).block _ (by omega) (fun h=>by omega)).trans HB1.out
 rw [<-hW1];clear hW1 x0 x1 x2 x3 x4 x5 x6 x7 x8 y0 y1 y2 y3 y4 y5 y6 y7 y8 aa2 bU aP;go_loopw [3,13] (fun v t wr=>∃ (i:Nat) (f:To) (xs:List Value) (vo:Option Addr) (vc:Nat),t=.int .i64 i/\i<=l2/\v=.slice vo i vc/\f.length=i/\f.app (ps.drop i)=ps/\kU wr W1.heap.size (.slice vo i vc) f xs/\ah W1 wr) (fun _ t _=>l2-(intOf t).toNat)
 case atStart=>exact ⟨0,.nil,[],none,0,rfl,Nat.zero_le _,rfl,rfl,by rw [To.drop_zero];rfl,kU.nil _ _,ah.refl _⟩
 case round =>
  obtain ⟨i,f,xs,vo,vc,rfl,hi,rfl,hfl,hap,hrow,hq⟩:=hrel;have HF:=hid hfl;have Td:=hid hap;have HR:=hid hrow;have HQ:=hid hq;clear hfl hap hrow hq
  by_cases hlt:i < l2
  ·have hlt':(i:Int) < l2:=by omega
   obtain ⟨b,off,hd,qs,u1,v1,t1,u2,v2,t2,rfl,hdr,hg,hRb,⟨f0,f1,f2,f3,f4,f5,f6,f7,f8⟩,hsl,hts⟩:=(HS.out.stay (Gw.out.trans HQ.out)).nth hlt;have KZ:=To.dK ps i hd qs hg;have hna:=xX ps i hd qs HA.out hg;obtain ⟨w2,hw2⟩:∃ w2,w2=wr.alloc (.cells (cells9 hd u1 v1 t1 u2 v2 t2) 29):=⟨_,rfl⟩;have Xb:ah wr w2:=by rw [hw2];exact ah.alloc _ _
   have HC:=hid (IH.out i hd qs hg w2 R u1 v1 t1 u2 v2 t2 (hsl.stay Xb) (hts.stay Xb) hna.1 hna.2 (by omega));have YQ:=hid Xb;have HD:Hid ((f.app (.cons hd qs .nil)).app (ps.drop (i+1))=ps):=by
    show _=_
    conv=>rhs;rw [<-Td.out,hdr]
    rw [To.mQ];rfl
   unfold bI at HC;clear hdr hg hsl hts KZ hRb hna Xb;go_wp2_with fail;change Calls _ _ _ (wr.alloc (.cells (cells9 hd u1 v1 t1 u2 v2 t2) 29)) _;rw [<-hw2];refine HC.out.mono ?_;rintro e w3 ⟨n1,m1,n2,m2,rfl,hk1,hk2,hq3⟩;have Ko:=hid hk1;have V5:=hid hk2;have dU:=hid (YQ.out.trans hq3);have HR1:=hid (HR.out.stay dU.out);clear hk1 hk2 hq3 hw2;go_wp2_with (at_builtin;go_must (refine aY w3 rfl (.tmp 17) (.tmp 20) 25 rfl 29 _ 9 112 wC (.slice vo i vc) i xs rfl (HF.out ▸ HR1.out.own) (cells9 hd n1 v1 m1 n2 v2 m2) rfl rfl ?c1 ?c2 ?c3 ?_))
   case c1=>simp [Value.oneCell']
   case c2=>unfold maxLen;omega
   case c3=>omega
   intro g2 c' w4 ho hf hg2;have hlow:W1.heap.size<=w3.heap.size:=Nat.le_trans HQ.out.size dU.out.size;have hown:∀ kk,(Value.slice vo i vc).ownBlock=some kk->kk < wr.heap.size:=fun kk h=>(HR.out.own.lt kk h).2
   have adK:wr.heap.size<=w2.heap.size:=YQ.out.size;have hk:∀ kk,kk < w3.heap.size->w2.heap.size<=kk->((W1.heap.size<=kk/\(Value.slice vo i vc).ownBlock≠some kk)/\¬ False):=by
    intro kk _ hkk;refine ⟨⟨by have:=HQ.out.size;omega,fun h=>?_⟩,fun h=>h⟩;have:=hown kk h;omega
   have HR2:Hid (kU w4 W1.heap.size (.slice (some ⟨g2,0,none⟩) (i+1) c') (f.app (.cons hd qs .nil)) (xs++(cells9 hd n1 v1 m1 n2 v2 m2).toList)):=by
    show kU _ _ _ _ _
    have hf':=HF.out;subst hf';exact kU.snoc HR1.out (Ko.out.fr (Fr.refl (fun _=>False) _) hk) (V5.out.fr (Fr.refl (fun _=>False) _) hk) ho hf hg2 hlow
   have eF:Hid (ah W1 w4):=by
    show ah _ _
    exact Fr.trans' (HQ.out.trans dU.out) hf (fun kk hkk h=>absurd (HR.out.low kk h) (by omega))
   have HL2:Hid ((f.app (.cons hd qs .nil)).length=i+1):=by
    show _=_
    rw [To.bQ,HF.out];rfl
   clear ho hf hg2 hown hk;go_wp2_with fail;go_roundw
   case rel=>exact ⟨i+1,_,_,some ⟨g2,0,none⟩,c',by go_num,by omega,rfl,HL2.out,HD.out,HR2.out,eF.out⟩
   case measure=>simp [intOf];omega
  ·have hlt':¬ (i:Int) < l2:=by omega
   have hb1:=(HQ.out.block _ (by omega) (fun h=>h)).trans HB1.out;have hb0:=(HQ.out.block _ (by omega) (fun h=>h)).trans HB0.out;have WG:=aF (i:=6) (u:=.slice vo i vc) hb0;have hil:i=l2:=by omega
   subst hil;obtain ⟨⟨x0,x1,x2,x3,x4,x5,x6,x7,x8⟩,y0,y1,y2,y3,y4,y5,y6,y7,y8⟩:=aX hb0;obtain ⟨⟨z0,z1,z2,z3,z4,z5,z6,z7,z8⟩,t0,t1,t2,t3,t4,t5,t6,t7,t8⟩:=aX hb1;have HB0:=hid hb0;have HB1:=hid hb1;clear hb0 hb1;go_wp2_with fail;have hb1':(wr.setCell ⟨B,6,none⟩ (.slice vo i vc)).heap[B+1]?=some (.cells zero9 29 (0,0)):=by
    rw [Below.heap_setCell _ _ _ _ (by show B+1≠B;omega)];exact HB1.out
   have oH:Fr (fun k=>k=B∨k=B+1) wr (gW (wr.setCell ⟨B,6,none⟩ (.slice vo i vc)) (B+1) (.int .i64 h.k) (.string h.nm) (.int .i64 h.n) (.int .i64 h.tk) (.int .i64 h.tn) (.slice q1 l1 e1) (.slice vo i vc) (.int .i64 h.fr) (.int .i64 h.en)) :=
    (Fr.setCell _ _ _ _ (.inl rfl)).trans ((iW _ _ _ _ _ _ _ _ _ _ _).mono (fun k _ hk=>.inr hk))
   have hbf:=dQ (a0:=.int .i64 h.k) (a1:=.string h.nm) (a2:=.int .i64 h.n) (a3:=.int .i64 h.tk) (a4:=.int .i64 h.tn) (a5:=.slice q1 l1 e1) (a6:=.slice vo i vc) (a7:=.int .i64 h.fr) (a8:=.int .i64 h.en) hb1';change bodyPost _ _ _ _ _ (gW (wr.setCell ⟨B,6,none⟩ (.slice vo i vc)) (B+1) (.int .i64 h.k) (.string h.nm) (.int .i64 h.n) (.int .i64 h.tk) (.int .i64 h.tn) (.slice q1 l1 e1) (.slice vo i vc) (.int .i64 h.fr) (.int .i64 h.en));clear x0 x1 x2 x3 x4 x5 x6 x7 x8 y0 y1 y2 y3 y4 y5 y6 y7 y8 z0 z1 z2 z3 z4 z5 z6 z7 z8 t0 t1 t2 t3 t4 t5 t6 t7 t8 WG hb1';generalize (gW (wr.setCell ⟨B,6,none⟩ (.slice vo i vc)) (B+1) (.int .i64 h.k) (.string h.nm) (.int .i64 h.n) (.int .i64 h.tk) (.int .i64 h.tn) (.slice q1 l1 e1) (.slice vo i vc) (.int .i64 h.fr) (.int .i64 h.en))=wf at *;obtain ⟨⟨x0,x1,x2,x3,x4,x5,x6,x7,x8⟩,_⟩:=aX hbf;have bH:Hid (aB (fun b=>w.heap.size<=b) wf q1 l1 h.tp/\bD (fun b=>w.heap.size<=b) wf vo i ps/\ah w wf):=by
    have hz:=cO.out;have hap:=Td.out;rw [To.drop_end ps i (by have:=HL.out;omega),To.rD] at hap;have hqs:=HQ.out.size;refine ⟨(Xa.out.stay HQ.out).fr oH (fun k _ hk=>?_),?_,?_⟩
    ·have hk':W0.heap.size<=k:=hk;exact ⟨by omega,by omega⟩
    ·rw [<-hap];refine (HR.out.slc HF.out.symm (by unfold maxLen;omega)).fr oH (fun k _ hk=>?_);have hk':W1.heap.size<=k:=hk;exact ⟨by omega,by omega⟩
    ·exact (Gw.out.trans HQ.out).trans' oH (fun i hi h=>by omega)
   refine bodyPost_ret (by simp [results,Tryz.results95,go_sem,x0,x1,x2,x3,x4,x5,x6,x7,x8];rfl) rfl ?_;exact ⟨q1,e1,vo,⟨vc,rfl⟩,bH.out⟩
end
section
open Go.RowKit
def tK:List Value->List Nd->Prop
 | xs,[]=>xs=[]
 | xs,h::r=>∃ o1 l1 c1 o2 l2 c2 ys,xs=(cells9 h o1 l1 c1 o2 l2 c2).toList++ys/\tK ys r
theorem tK.app:∀ (l l':List Nd) (xs ys:List Value),tK xs l->tK ys l'->tK (xs++ys) (l++l')
 | [],l',xs,ys,h,h'=>by cases h;exact h'
 | t::r,l',xs,ys,h,h'=>by
  obtain ⟨o1,l1,c1,o2,l2,c2,zs,rfl,hr⟩:=h;exact ⟨o1,l1,c1,o2,l2,c2,_,by rw [List.append_assoc],tK.app r l' zs ys hr h'⟩
theorem tK.get:∀ (l:List Nd) (xs:List Value) (i:Nat) (t:Nd),tK xs l->l[i]?=some t->∃ o1 l1 c1 o2 l2 c2,∀ j,j < 9->xs[i*9+j]?=(cells9 t o1 l1 c1 o2 l2 c2)[j]?
 | [],xs,i,t,_,h=>by simp at h
 | u::r,xs,0,t,h,hi=>by
  obtain ⟨o1,l1,c1,o2,l2,c2,ys,rfl,hr⟩:=h;simp at hi;subst hi;refine ⟨o1,l1,c1,o2,l2,c2,fun j hj=>?_⟩;rw [Nat.zero_mul,Nat.zero_add,List.getElem?_append_left (by simpa using hj)];simp
 | u::r,xs,i+1,t,h,hi=>by
  obtain ⟨o1,l1,c1,o2,l2,c2,ys,rfl,hr⟩:=h;obtain ⟨p1,m1,d1,p2,m2,d2,hj⟩:=tK.get r ys i t hr (by simpa using hi);refine ⟨p1,m1,d1,p2,m2,d2,fun j hj'=>?_⟩;rw [List.getElem?_append_right (by simp;omega),<-hj j hj']
  congr 1
  simp;omega
theorem tK.one:∀ (l:List Nd) (xs:List Value),tK xs l->∀ u∈xs,u.oneCell'=true
 | [],xs,h,u,hu=>by cases h;simp at hu
 | t::r,xs,h,u,hu=>by
  obtain ⟨o1,l1,c1,o2,l2,c2,ys,rfl,hr⟩:=h;rcases List.mem_append.1 hu with h | h
  ·simp at h;rcases h with h | h | h | h | h | h | h | h | h<;>subst h<;>rfl
  ·exact tK.one r ys hr u h
def ji (B:Nat) (W:World) (o:Option Addr) (c:Nat) (l:List Nd) (xs:List Value):Prop :=
 W.ownsRow 0 29 9 (.slice o l.length c) l.length xs/\tK xs l/\∀ k,(Value.slice o l.length c).ownBlock=some k->B<=k
theorem ji.stay {B:Nat} {W W':World} {o:Option Addr} {c:Nat} {l:List Nd} {xs:List Value} (h:ji B W o c l xs) (hq:ah W W'):ji B W' o c l xs :=
 ⟨aV h.1 hq (fun _ _ h=>h),h.2⟩
def AX (w:World) (o:Option Addr) (l:List Nd):Prop:=∀ i t,l[i]?=some t->∃ b off o1 l1 c1 o2 l2 c2,o=some ⟨b,off,none⟩/\dJ w b (off+i*9) t o1 l1 c1 o2 l2 c2
theorem AX.stay {w w':World} {o:Option Addr} {l:List Nd} (h:AX w o l) (hq:ah w w'):AX w' o l:=by
 intro i t ht;obtain ⟨b,off,o1,l1,c1,o2,l2,c2,ho,hc⟩:=h i t ht;exact ⟨b,off,o1,l1,c1,o2,l2,c2,ho,hc.fr hq (fun h=>h)⟩
theorem ji.heads {B:Nat} {W:World} {o:Option Addr} {c:Nat} {l:List Nd} {xs:List Value} (h:ji B W o c l xs):AX W o l:=by
 intro i t ht;rcases h.1.2 with ⟨_,h0⟩ | ⟨g,cap',cur,he,_⟩
 ·rw [List.length_eq_zero_iff.1 h0] at ht;simp at ht
 ·injection he with h1 h2 h3
  subst h1;obtain ⟨o1,l1,c1,o2,l2,c2,hj⟩:=tK.get l xs i t h.2.1 ht;have hc:∀ j,j < 9->W.cell? ⟨g,i*9+j,none⟩=(cells9 t o1 l1 c1 o2 l2 c2)[j]?:=by
   intro j h8;have e:=hj j h8;rw [Array.getElem?_eq_getElem (by simpa using h8)] at e ⊢;have:=h.1.cells (g:=g) rfl (i*9+j) _ e;simpa [Addr.add_lit] using this
  refine ⟨g,0,o1,l1,c1,o2,l2,c2,rfl,?_⟩;rw [Nat.zero_add];exact ⟨hc 0 (by omega),hc 1 (by omega),hc 2 (by omega),hc 3 (by omega),hc 4 (by omega),hc 5 (by omega),hc 6 (by omega),hc 7 (by omega),hc 8 (by omega)⟩
def hds (f:To):List Nd:=f.flat.map (·.1)
def EX (w:World) (l:List Nd) (e:Ending) (w':World):Prop:=∃ o c xs,e=.returned (.slice o l.length c)/\ji w.heap.size w' o c l xs/\ah w w'
end
section
open Go.RowKit Go.Shelf
attribute [local go_sem] Oper.semAt_some
theorem Po {R:Nat->Prop} {i:Nat} {x:Nd × To} {va:Array Value} {W:World} (h:YS R i x va W):va.size=2:=by
 obtain ⟨o1,l1,c1,o2,l2,c2,rfl,_⟩:=h;rfl
end
section
open Go.RowKit Go.Shelf
attribute [local go_sem] Oper.semAt_some
def zW (h:Nd):Prop:=h.nm.size<=100000/\h.tp.size<=100000/\sQ h.tn/\Wx h.tp
theorem La (h : Nd) (w : World) (R : Nat -> Prop) (o1 : Option Addr) (l1 c1 : Nat) (o2 : Option Addr) (l2 c2 : Nat) (hs : aB R w o1 l1 h.tp) (hg : zW h) (hl2 : l2 <= 9223372036854775807) (ht : Lx.mJ w) :
    Calls Tryz.prog 51 #[bI h o1 l1 c1 o2 l2 c2] w fun e w'=>e=.returned (.bool (aI h l2))/\ah w w':=by
 obtain ⟨k,nm,n,tk,tn,vg,fr,en⟩:=h;obtain ⟨g1,g2,g3,g4⟩:=hg
 by_cases h1:1<=k
 ·by_cases h2:k<=10
  ·exact SY k h1 h2 nm n tk tn vg fr en w o1 l1 c1 o2 l2 c2 hs.slc g1 g2 g3 g4 hl2 ht
  ·have e:aI ⟨k,nm,n,tk,tn,vg,fr,en⟩ l2=false:=by unfold aI;simp [h2]
   rw [e];have hk1:¬ k < 1:=by omega
   have hk2:10 < k:=by omega
   have HQ:=hid (ah.alloc w (.cells #[.int .i64 k,.string nm,.int .i64 n,.int .i64 tk,.int .i64 tn,.slice o1 l1 c1,.slice o2 l2 c2,.int .i64 fr,.int .i64 en] 29));clear hs g1 g2 g3 g4 ht e;unfold bI;go_enter Tryz.func51,Tryz.ntmps51;go_wp2_with fail;go_ret;exact ⟨rfl,HQ.out⟩
 ·have e:aI ⟨k,nm,n,tk,tn,vg,fr,en⟩ l2=false:=by unfold aI;simp [h1]
  rw [e];have hk1:k < 1:=by omega
  have HQ:=hid (ah.alloc w (.cells #[.int .i64 k,.string nm,.int .i64 n,.int .i64 tk,.int .i64 tn,.slice o1 l1 c1,.slice o2 l2 c2,.int .i64 fr,.int .i64 en] 29));clear hs g1 g2 g3 g4 ht e;unfold bI;go_enter Tryz.func51,Tryz.ntmps51;go_wp2_with fail;go_ret;exact ⟨rfl,HQ.out⟩
abbrev Lc (x:Nd × To):Bool:=aI x.1 x.2.length
def RtI (rb:Nat) (w:World) (xs:List (Nd × To)) (i:Nat) (D:Nat->Prop) (W:World):Prop :=
 ((∀ k,D k↔k=rb)/\W.heap[rb]?=some (.cells #[.bool false] 4 (0,0))/\ah w W)/\(xs.take i).all Lc=true
theorem RtI.fr {rb:Nat} {w:World} {xs:List (Nd × To)} {i:Nat} {D S:Nat->Prop} {W W':World} (h:RtI rb w xs i D W) (hf:Fr S W W') (h1:¬ S rb) (h2:∀ k,k < w.heap.size->¬ S k):RtI rb w xs i D W' :=
 ⟨⟨h.1.1,(hf.block _ (lt_of_block h.1.2.1) h1).trans h.1.2.1,Fr.trans' h.1.2.2 hf (fun k hk hs=>h2 k hk hs)⟩,h.2⟩
theorem IW (h : Nd) (ps : To) (w : World) (R : Nat -> Prop) (o1 : Option Addr) (l1 c1 : Nat) (o2 : Option Addr) (l2 c2 : Nat) (hs1 : aB R w o1 l1 h.tp) (hs : bD R w o2 l2 ps) (hz : ps.size <= 100000) (hg : allT zW (.cons h ps .nil)) (ht : Lx.mJ w) :
    Calls Tryz.prog 30 #[bI h o1 l1 c1 o2 l2 c2] w fun e w'=>e=.returned (.bool ((To.cons h ps .nil).flat.all Lc))/\ah w w':=by
 obtain ⟨xs,hxs⟩:∃ xs,(To.cons h ps .nil).flat=xs:=⟨_,rfl⟩;rw [hxs];refine (callsIn_wide (n:=5)).1 ?_;refine callsIn_of_wp_marks Tryz.func30 rfl trivial ?_ rfl;simp only [Tryz.ntmps30,List.size_toArray,List.length_cons,List.length_nil,Nat.reduceAdd,Nat.reduceSub,Array.replicate_succ,Array.replicate_zero,List.push_toArray,List.append_toArray,List.nil_append,List.cons_append];have HC:=fun W=>(callsIn_wide (n:=4)).2 (RV h o1 l1 c1 o2 l2 c2 W)
 have HT:=hid ht;have HG:=hid (yZ _ hg);unfold bI at HC ⊢
 gi_wp2_with (fail)
 refine ⟨trivial,(HC _).mono ?_⟩;rintro e Ld ⟨rfl,hW2⟩;obtain ⟨W1,hW1⟩:∃ W1,W1=((w.alloc (.cells (cells9 h o1 l1 c1 o2 l2 c2) 29)).alloc (.cells #[.bool false] 4)):=⟨_,rfl⟩;have hz1:W1.heap.size=w.heap.size+1+1:=by rw [hW1];simp
 have hq1:ah w W1:=by rw [hW1];exact (ah.alloc _ _).trans (ah.alloc _ _)
 have hb1:W1.heap[w.heap.size+1]?=some (.cells #[.bool false] 4 (0,0)):=by
  rw [hW1];have:=heap_alloc_new (w.alloc (.cells (cells9 h o1 l1 c1 o2 l2 c2) 29)) (.cells #[.bool false] 4);simpa using this
 have Iu:Ld=W1.alloc (.cells (cells9 h o1 l1 c1 o2 l2 c2) 29):=by rw [hW1];exact hW2
 have hq2:ah w Ld:=by rw [Iu];exact hq1.trans (ah.alloc _ _)
 have hb2:Ld.heap[w.heap.size+1]?=some (.cells #[.bool false] 4 (0,0)):=by
  rw [Iu,Below.heap_alloc _ _ _ (by omega)];exact hb1
 have htb:Ld.heap[W1.heap.size]?=some (.cells (cells9 h o1 l1 c1 o2 l2 c2) 29 (0,0)):=by rw [Iu];exact heap_alloc_new W1 _
 have hz2:Ld.heap.size=w.heap.size+3:=by rw [Iu];simp;omega
 have hseq:=WC (5-1) (fun k=>k < w.heap.size∨k=W1.heap.size) h ps o1 l1 c1 o2 l2 c2 W1.heap.size Ld (fun k hk=>by omega) htb (.inr rfl) ((hs1.mono (T:=fun k=>k < w.heap.size∨k=W1.heap.size) (fun k hk _=>.inl hk)).stay hq2) ((hs.mono (T:=fun k=>k < w.heap.size∨k=W1.heap.size) (fun k hk _=>.inl hk)).stay hq2) hz;rw [hz1] at hseq;rw [hxs] at hseq HG;have acK:=hid hseq;have HB2:=hid hb2;have eF:=hid hq2;clear hW1 hW2 Iu hq1 hb1 hq2 hb2 htb hseq HC hxs hg ht
 gi_wp2_with (fail)
 refine Gu (w:=Ld) rfl (enters_of Tryz.func83 (by kernel_rfl) rfl) acK.out (fun k hk=>by omega) (Fr.refl _ _) (fun i x va W he=>Po he)
  (RtI (w.heap.size+1) w xs)
  (fun i x a' D W=>RtI (w.heap.size+1) w xs i D W/\∃ (xb:Nat) (t7 t8:Value) (p1:Option Addr) (m1 d1:Nat) (p2:Option Addr) (m2 d2:Nat),W.heap[xb]?=some (.cells (cells9 x.1 p1 m1 d1 p2 m2 d2) 29 (0,0))/\xb≠Ld.heap.size+1/\aB (fun k=>k < w.heap.size∨k=w.heap.size+1+1) W p1 m1 x.1.tp/\bD (fun k=>k < w.heap.size∨k=w.heap.size+1+1) W p2 m2 x.2/\a'={ tmps:=#[.agg #[.int .i64 h.k,.string h.nm,.int .i64 h.n,.int .i64 h.tk,.int .i64 h.tn,.slice o1 l1 c1,.slice o2 l2 c2,.int .i64 h.fr,.int .i64 h.en],.pointer (some ⟨w.heap.size,0,none⟩),.pointer (some ⟨w.heap.size+1,0,none⟩),undef,.pointer (some ⟨xb,0,none⟩),.agg #[.int .i64 h.k,.string h.nm,.int .i64 h.n,.int .i64 h.tk,.int .i64 h.tn,.slice o1 l1 c1,.slice o2 l2 c2,.int .i64 h.fr,.int .i64 h.en],.func (.func 83) #[] #[.pointer (some ⟨w.heap.size+1+1,0,none⟩)],t7,t8,undef,undef,undef],defers:=[] })
  (fun c W=>c=.ret/\W.heap[w.heap.size+1]?=some (.cells #[.bool false] 4 (0,0))/\ah w W/\xs.all Lc=false) (fun k=>k=w.heap.size+1) ?own ?stay ?aa3 ?aa4 ?start ?assign ?body ?done ?stop
 case own =>
  rintro i D A ⟨⟨hd,hb,hq⟩,_⟩ k hk;have e:=(hd k).1 hk;have hl:=lt_of_block hb;exact ⟨by omega,by omega,.inl (by omega)⟩
 case stay =>
  rintro i D A B hI hf;exact hI.fr hf (fun h=>h.2 ((hI.1.1 _).2 rfl)) (fun k hk h=>by have:=h.1;omega)
 case aa3 =>
  rintro i x a' D A B ⟨hI,xb,t7,t8,p1,m1,d1,p2,m2,d2,hxb,hne,hp1,hp2,ha⟩ hf;exact ⟨hI.fr hf (by omega) (fun k hk h=>by omega),xb,t7,t8,p1,m1,d1,p2,m2,d2,aC hf hne hxb,hne,hp1.fr hf (fun k _ h=>⟨h,by omega⟩),hp2.fr hf (fun k _ h=>⟨h,by omega⟩),ha⟩
 case aa4 =>
  rintro c A B ⟨hc,hb,hq,hx⟩ hf;exact ⟨hc,aC hf (by omega) hb,hq.trans' hf (fun k hk h=>by omega),hx⟩
 case start=>exact ⟨⟨fun k=>Iff.rfl,HB2.out,eF.out⟩,rfl⟩
 case assign =>
  rintro l i x va D W K hx ⟨p1,m1,d1,p2,m2,d2,rfl,hp1,hp2⟩ hI hWs hK;unfold bI;have hq:=ah.alloc W (.cells (cells9 x.1 p1 m1 d1 p2 m2 d2) 29);have hnew:=heap_alloc_new W (.cells (cells9 x.1 p1 m1 d1 p2 m2 d2) 29);have hne:W.heap.size≠Ld.heap.size+1:=by omega
  have hI2:=hI.fr (S:=fun _=>False) hq (fun h=>h) (fun _ _ h=>h);have hp1':=hp1.stay hq;have hp2':=hp2.stay hq;clear hI hWs
  gi_wp2
  exact hK _ _ ⟨hI2,W.heap.size,.int .i64 (i:Int),bI x.1 p1 m1 d1 p2 m2 d2,p1,m1,d1,p2,m2,d2,hnew,hne,hp1',hp2',by simp [bI]⟩ hq
 case body =>
  rintro l i x a' D W hx ⟨hI,xb,t7,t8,p1,m1,d1,p2,m2,d2,hxb,hne,hp1,hp2,rfl⟩ hW;obtain ⟨a0,a1,a2,a3,a4,a5,a6,a7,a8⟩:=aA hxb;have hxm:=HG.out x (List.mem_of_getElem? hx);have hl2:m2<=9223372036854775807:=by have:=hp2.2.1;unfold maxLen at this;omega
  have hCS:=(callsIn_wide (n:=5-1-1)).2 (La x.1 W _ p1 m1 d1 p2 m2 d2 hp1 hxm.1 hl2 (HT.out.stay hI.1.2.2));have hlen:m2=x.2.length:=hp2.1;rw [hlen] at hCS;unfold bI at hCS;cases hb:aI x.1 x.2.length
  ·rw [hb] at hCS
   gi_wp2_with (fail)
   refine ⟨trivial,(CallsIn.inRound l hCS).mono ?_⟩;rintro e w1 ⟨rfl,hq1⟩;have hI1:=hI.fr (S:=fun _=>False) hq1 (fun h=>h) (fun _ _ h=>h);have cc:=cell_of_one hI1.1.2.1;have zz:=free_of_one hI1.1.2.1;have hal:xs.all Lc=false:=by
    rw [List.all_eq_false];exact ⟨x,List.mem_of_getElem? hx,by show ¬ aI x.1 x.2.length=true;rw [hb];simp⟩
   gi_wp2
   have hfs:=Fr.setCell (fun k=>k=w.heap.size+1) w1 ⟨w.heap.size+1,0,none⟩ (.bool false) rfl;exact ⟨⟨rfl,one_setCell hI1.1.2.1,hI1.1.2.2.trans' hfs (fun k hk e=>by omega),hal⟩,Fr.trans hq1.fr (hfs.mono (fun k _ e=>(hI.1.1 k).2 e))⟩
  ·rw [hb] at hCS
   gi_wp2_with (fail)
   refine ⟨trivial,(CallsIn.inRound l hCS).mono ?_⟩;rintro e w1 ⟨rfl,hq1⟩;have hI1:=hI.fr (S:=fun _=>False) hq1 (fun h=>h) (fun _ _ h=>h)
   gi_wp2
   refine ⟨D,⟨hI1.1,?_⟩,hq1.fr,fun k hk=>.inl hk⟩;rw [List.take_add_one,hx,List.all_append,hI.2];simp [Lc,hb]
 case done =>
  rintro D W ⟨⟨hd,hb,hq⟩,hall⟩ hdef;rw [List.take_length] at hall;have cc:=cell_of_one hb;have zz:=free_of_one hb
  gi_wp2
  have Xc:Ld.heap.size≠w.heap.size+1:=by omega
  have hd2:(W.setCell ⟨w.heap.size+1,0,none⟩ (.bool true)).heap[Ld.heap.size]?=some (.deferred (some [])):=by
   rw [Below.heap_setCell _ _ _ _ (fun e=>Xc e)];exact hdef
  refine ⟨by simp,.inl ⟨_,_,rfl,run_takeDeferred hd2,?_⟩⟩;have hfp:=Fr.putObj (fun k=>k=Ld.heap.size) (W.setCell ⟨w.heap.size+1,0,none⟩ (.bool true)) Ld.heap.size (.deferred none) rfl;have cr:=cell_of_one (aC hfp (by omega) (one_setCell hb));refine ⟨_,by simp [results,Tryz.results30,go_sem,cr];rfl,?_,?_⟩
  ·rw [hall]
  ·exact (hq.trans' (Fr.setCell (fun k=>k=w.heap.size+1) W ⟨w.heap.size+1,0,none⟩ (.bool true) rfl) (fun k hk e=>by omega)).trans' hfp (fun k hk e=>by omega)
 case stop =>
  rintro c W ⟨rfl,hb,hq,hx⟩ hdef
  gi_wp2
  refine ⟨by simp,.inl ⟨_,_,rfl,run_takeDeferred hdef,?_⟩⟩;have hfp:=Fr.putObj (fun k=>k=Ld.heap.size) W Ld.heap.size (.deferred none) rfl;have cr:=cell_of_one (aC hfp (by omega) hb);refine ⟨_,by simp [results,Tryz.results30,go_sem,cr];rfl,?_,?_⟩
  ·rw [hx]
  ·exact hq.trans' hfp (fun k hk e=>by omega)
end
section
open Go.RowKit Go.Shelf
theorem Gx (k:Int) (w:World):Calls Tryz.prog 54 #[.int .i64 k] w fun e w'=>e=.returned (.bool (fQ k))/\ah w w':=by
 unfold fQ;cases h1:(k == 1)<;>cases h4:(k == 4)<;>cases h6:(k == 6)<;>cases h7:(k == 7)
 all_goals
  go_enter Tryz.func54,Tryz.ntmps54;go_wp2_with fail;go_ret;exact ⟨by simp,ah.refl _⟩
structure zf (h:Nd) (W0:World) (o1:Option Addr) (l1 c1:Nat) (o2:Option Addr) (l2 c2:Nat) (nb:Nat):Prop where
 box:∀ W,ah W0 W->dJ W nb 0 h o1 l1 c1 o2 l2 c2
 named:∀ W,Calls Tryz.prog 54 #[.int .i64 h.k] W fun e w'=>e=.returned (.bool (fQ h.k))/\ah W w'
 name:∀ W,Calls Tryz.prog 55 #[.string h.nm] W fun e w'=>e=.returned (.bool (Lx.nameB h.nm.data.toList))/\ah W w'
 right:∀ W,ah W0 W->Calls Tryz.prog 56 #[.agg #[.int .i64 h.tk,.int .i64 h.tn,.slice o1 l1 c1]] W fun e w'=>e=.returned (.bool (iI h.tk h.tn h.tp))/\ah W w'
 vars:∀ W,ah W0 W->Calls Tryz.prog 57 #[.agg #[.int .i64 h.tk,.int .i64 h.tn,.slice o1 l1 c1],.slice none 0 0] W fun e w'=>∃ va vc,e=.returned (.slice va (Fo.vars [] (.cons h.tk h.tn h.tp .nil)).length vc)/\ah W w'
 same:∀ W,ah W0 W->Calls Tryz.prog 38 #[.agg #[.int .i64 h.tk,.int .i64 h.tn,.slice o1 l1 c1],.agg #[.int .i64 0,.int .i64 0,.slice none 0 0]] W fun e w'=>e=.returned (.bool (gG h.tk h.tn h.tp 0 0 .nil))/\ah W w'
theorem Xd (h : Nd) (w : World) (R : Nat -> Prop) (o1 : Option Addr) (l1 c1 : Nat) (o2 : Option Addr) (l2 c2 : Nat) (hs : aB R w o1 l1 h.tp) (hnm : h.nm.size <= 100000) (htz : h.tp.size <= 100000) :
    zf h (w.alloc (.cells (cells9 h o1 l1 c1 o2 l2 c2) 29)) o1 l1 c1 o2 l2 c2 w.heap.size:=by
 have hq0:=ah.alloc w (.cells (cells9 h o1 l1 c1 o2 l2 c2) 29);refine ⟨fun W hq=>IQ w h o1 l1 c1 o2 l2 c2 _ W hq,fun W=>Gx h.k W,fun W=>Lx.IX h.nm hnm W,fun W hq=>Gy h.tk h.tn h.tp W o1 l1 c1 (hs.slc.stay (hq0.trans hq)),fun W hq=>?_,fun W hq=>kW h.tk h.tn h.tp 0 0 .nil W o1 l1 c1 none 0 0 (hs.slc.stay (hq0.trans hq)) (kT.nil _ _)⟩;refine (IL h.tk h.tn h.tp W o1 l1 c1 (.slice none 0 0) [] (hs.slc.stay (hq0.trans hq)) ⟨none,0,rfl,?_⟩ (by simp;omega)).mono ?_
 ·intro i x h;simp at h
 ·rintro e w' ⟨vo,rfl,⟨va,vc,rfl,_⟩,hq⟩;exact ⟨va,vc,rfl,hq⟩
end
section
open Go.RowKit Go.Shelf
theorem Le (nm : ByteArray) (n tk tn : Int) (tp : Fo) (fr en : Int) (w : World) (o1 : Option Addr) (l1 c1 : Nat) (o2 : Option Addr) (l2 c2 : Nat) (hw : sQ n)
    (SC:zf ⟨1,nm,n,tk,tn,tp,fr,en⟩ (w.alloc (.cells (cells9 ⟨1,nm,n,tk,tn,tp,fr,en⟩ o1 l1 c1 o2 l2 c2) 29)) o1 l1 c1 o2 l2 c2 w.heap.size) :
    Calls Tryz.prog 34 #[bI ⟨1,nm,n,tk,tn,tp,fr,en⟩ o1 l1 c1 o2 l2 c2] w fun e w'=>e=.returned (.bool (aI ⟨1,nm,n,tk,tn,tp,fr,en⟩ l2))/\ah w w':=by
 have gU:=hid SC;have HW:=hid hw;have HN:Hid (∀ W,Calls Tryz.prog 54 #[.int .i64 1] W fun e w'=>e=.returned (.bool true)/\ah W w'):=SC.named;obtain ⟨W0,hW0⟩:∃ W0,W0=w.alloc (.cells (cells9 ⟨1,nm,n,tk,tn,tp,fr,en⟩ o1 l1 c1 o2 l2 c2) 29):=⟨_,rfl⟩;have aP:Hid (ah w W0):=by rw [hW0];exact ah.alloc _ _
 clear SC hw;rw [<-hW0] at gU;unfold bI;go_enter Tryz.func34,Tryz.ntmps34;go_upto_region 1 with fail
 change Code.wp _ _ _ _ (w.alloc (.cells (cells9 ⟨1,nm,n,tk,tn,tp,fr,en⟩ o1 l1 c1 o2 l2 c2) 29));rw [<-hW0];clear hW0;generalize w.heap.size=B at *;obtain ⟨x0,x1,x2,x3,x4,x5,x6,x7,x8⟩:=gU.out.box W0 (ah.refl _);dsimp only at x0 x1 x2 x3 x4 x5 x6 x7 x8;go_quiet (fail);go_wp2_with fail;refine (HN.out _).mono ?_;rintro e w1 ⟨rfl,hq1⟩;have bU:Hid (ah W0 w1):=ah.trans (Fr.drewN _ _ _) hq1;clear x0 x1 x2 x3 x4 x5 x6 x7 x8 hq1;obtain ⟨x0,x1,x2,x3,x4,x5,x6,x7,x8⟩:=gU.out.box w1 bU.out;dsimp only at x0 x1 x2 x3 x4 x5 x6 x7 x8;cases hA:Lx.nameB nm.data.toList
 ·have xA:=hid gU.out.name;rw [hA] at xA;go_wp2_with fail;refine (xA.out _).mono ?_;rintro e w2 ⟨rfl,hq2⟩;go_wp2_with fail;go_ret;exact ⟨by simp [aI,fZ,fQ,hA],aP.out.trans (bU.out.trans hq2)⟩
 ·have xA:=hid gU.out.name;rw [hA] at xA;have Gz:=hid hA;clear hA;go_wp2_with fail;refine (xA.out _).mono ?_;rintro e w2 ⟨rfl,hq2⟩;have eF:=hid (bU.out.trans hq2);clear x0 x1 x2 x3 x4 x5 x6 x7 x8 hq2;go_wp2_with fail;refine (HN.out _).mono ?_;rintro e w3 ⟨rfl,hq3⟩;have dU:=hid (eF.out.trans hq3);clear hq3;obtain ⟨x0,x1,x2,x3,x4,x5,x6,x7,x8⟩:=gU.out.box w3 dU.out;dsimp only at x0 x1 x2 x3 x4 x5 x6 x7 x8;have iK:=hid gU.out.same;cases hT:gG tk tn tp 0 0 .nil
  ·rw [hT] at iK;go_wp2_with fail;refine (iK.out _ dU.out).mono ?_;rintro e w4 ⟨rfl,hq4⟩;go_wp2_with fail;go_ret;exact ⟨by simp [aI,eY,hT],aP.out.trans (dU.out.trans hq4)⟩
  ·rw [hT] at iK;have GH:=hid hT;clear hT;go_wp2_with fail;refine (iK.out _ dU.out).mono ?_;rintro e w4 ⟨rfl,hq4⟩;have fV:=hid (dU.out.trans hq4);clear x0 x1 x2 x3 x4 x5 x6 x7 x8 hq4;obtain ⟨x0,x1,x2,x3,x4,x5,x6,x7,x8⟩:=gU.out.box w4 fV.out;dsimp only at x0 x1 x2 x3 x4 x5 x6 x7 x8
   by_cases hn:n < 0
   ·go_wp2_with fail;go_ret;exact ⟨by simp [aI];omega,aP.out.trans fV.out⟩
   ·have hwn:n<=9223372036854775807:=by have:=HW.out;unfold sQ at this;simp only [Lit.wf,IntKind.min,IntKind.max,IntKind.signed,IntKind.bits,Bool.and_eq_true,decide_eq_true_eq,if_true] at this;omega
    go_wp2_with fail
    all_goals
     go_ret;refine ⟨?_,aP.out.trans fV.out⟩;have h1:=Gz.out;have h2:=GH.out;refine congrArg (fun b=>Ending.returned (Value.bool b)) ?_;rw [Bool.eq_iff_iff];simp [aI,fZ,eY,fQ,pz,jD,nK,h1,h2];omega
end
section
open Go.RowKit Go.Shelf
theorem Lh (nm : ByteArray) (n tk tn : Int) (tp : Fo) (fr en : Int) (w : World) (o1 : Option Addr) (l1 c1 : Nat) (o2 : Option Addr) (l2 c2 : Nat) (hw : sQ n)
    (SC:zf ⟨2,nm,n,tk,tn,tp,fr,en⟩ (w.alloc (.cells (cells9 ⟨2,nm,n,tk,tn,tp,fr,en⟩ o1 l1 c1 o2 l2 c2) 29)) o1 l1 c1 o2 l2 c2 w.heap.size) :
    Calls Tryz.prog 34 #[bI ⟨2,nm,n,tk,tn,tp,fr,en⟩ o1 l1 c1 o2 l2 c2] w fun e w'=>e=.returned (.bool (aI ⟨2,nm,n,tk,tn,tp,fr,en⟩ l2))/\ah w w':=by
 have gU:=hid SC;have HW:=hid hw;have HN:Hid (∀ W,Calls Tryz.prog 54 #[.int .i64 2] W fun e w'=>e=.returned (.bool false)/\ah W w'):=SC.named;obtain ⟨W0,hW0⟩:∃ W0,W0=w.alloc (.cells (cells9 ⟨2,nm,n,tk,tn,tp,fr,en⟩ o1 l1 c1 o2 l2 c2) 29):=⟨_,rfl⟩;have aP:Hid (ah w W0):=by rw [hW0];exact ah.alloc _ _
 clear SC hw;rw [<-hW0] at gU;unfold bI;go_enter Tryz.func34,Tryz.ntmps34;go_upto_region 1 with fail
 change Code.wp _ _ _ _ (w.alloc (.cells (cells9 ⟨2,nm,n,tk,tn,tp,fr,en⟩ o1 l1 c1 o2 l2 c2) 29));rw [<-hW0];clear hW0;generalize w.heap.size=B at *;obtain ⟨x0,x1,x2,x3,x4,x5,x6,x7,x8⟩:=gU.out.box W0 (ah.refl _);dsimp only at x0 x1 x2 x3 x4 x5 x6 x7 x8;go_quiet (fail);go_wp2_with fail;refine (HN.out _).mono ?_;rintro e w1 ⟨rfl,hq1⟩;have bU:Hid (ah W0 w1):=ah.trans (Fr.drewN _ _ _) hq1;clear x0 x1 x2 x3 x4 x5 x6 x7 x8 hq1;obtain ⟨x0,x1,x2,x3,x4,x5,x6,x7,x8⟩:=gU.out.box w1 bU.out;dsimp only at x0 x1 x2 x3 x4 x5 x6 x7 x8;go_wp2_with fail;refine (HN.out _).mono ?_;rintro e w3 ⟨rfl,hq3⟩;have dU:=hid (bU.out.trans hq3);clear x0 x1 x2 x3 x4 x5 x6 x7 x8 hq3;obtain ⟨x0,x1,x2,x3,x4,x5,x6,x7,x8⟩:=gU.out.box w3 dU.out;dsimp only at x0 x1 x2 x3 x4 x5 x6 x7 x8;cases hA:nm.toList.isEmpty
 ·have e3:nm.toList.isEmpty=false:=hA;go_wp2_with fail;go_ret;exact ⟨by simp [aI,fZ,fQ,hA],aP.out.trans dU.out⟩
 ·have e3:nm.toList.isEmpty=true:=hA;have Gz:=hid hA;clear hA;have iK:=hid gU.out.same;cases hT:gG tk tn tp 0 0 .nil
  ·rw [hT] at iK;go_wp2_with fail;refine (iK.out _ dU.out).mono ?_;rintro e w4 ⟨rfl,hq4⟩;go_wp2_with fail;go_ret;exact ⟨by simp [aI,eY,hT],aP.out.trans (dU.out.trans hq4)⟩
  ·rw [hT] at iK;have GH:=hid hT;clear hT;go_wp2_with fail;refine (iK.out _ dU.out).mono ?_;rintro e w4 ⟨rfl,hq4⟩;have fV:=hid (dU.out.trans hq4);clear x0 x1 x2 x3 x4 x5 x6 x7 x8 hq4;obtain ⟨x0,x1,x2,x3,x4,x5,x6,x7,x8⟩:=gU.out.box w4 fV.out;dsimp only at x0 x1 x2 x3 x4 x5 x6 x7 x8
   by_cases hn:n < 0
   ·go_wp2_with fail;go_ret;exact ⟨by simp [aI];omega,aP.out.trans fV.out⟩
   ·by_cases ht:999999999 < n
    ·go_wp2_with fail;go_ret;exact ⟨by simp [aI,pz];omega,aP.out.trans fV.out⟩
    ·have hwn:n<=9223372036854775807:=by have:=HW.out;unfold sQ at this;simp only [Lit.wf,IntKind.min,IntKind.max,IntKind.signed,IntKind.bits,Bool.and_eq_true,decide_eq_true_eq,if_true] at this;omega
     go_wp2_with fail
     all_goals
      go_ret;refine ⟨?_,aP.out.trans fV.out⟩;have h1:=Gz.out;have h2:=GH.out;refine congrArg (fun b=>Ending.returned (Value.bool b)) ?_;rw [Bool.eq_iff_iff];simp [aI,fZ,eY,fQ,pz,jD,nK,h1,h2];omega
end
section
open Go.RowKit Go.Shelf
theorem Lj (nm : ByteArray) (n tk tn : Int) (tp : Fo) (fr en : Int) (w : World) (o1 : Option Addr) (l1 c1 : Nat) (o2 : Option Addr) (l2 c2 : Nat) (hw : sQ n)
    (SC:zf ⟨3,nm,n,tk,tn,tp,fr,en⟩ (w.alloc (.cells (cells9 ⟨3,nm,n,tk,tn,tp,fr,en⟩ o1 l1 c1 o2 l2 c2) 29)) o1 l1 c1 o2 l2 c2 w.heap.size) :
    Calls Tryz.prog 34 #[bI ⟨3,nm,n,tk,tn,tp,fr,en⟩ o1 l1 c1 o2 l2 c2] w fun e w'=>e=.returned (.bool (aI ⟨3,nm,n,tk,tn,tp,fr,en⟩ l2))/\ah w w':=by
 have gU:=hid SC;have HW:=hid hw;have HN:Hid (∀ W,Calls Tryz.prog 54 #[.int .i64 3] W fun e w'=>e=.returned (.bool false)/\ah W w'):=SC.named;obtain ⟨W0,hW0⟩:∃ W0,W0=w.alloc (.cells (cells9 ⟨3,nm,n,tk,tn,tp,fr,en⟩ o1 l1 c1 o2 l2 c2) 29):=⟨_,rfl⟩;have aP:Hid (ah w W0):=by rw [hW0];exact ah.alloc _ _
 clear SC hw;rw [<-hW0] at gU;unfold bI;go_enter Tryz.func34,Tryz.ntmps34;go_upto_region 1 with fail
 change Code.wp _ _ _ _ (w.alloc (.cells (cells9 ⟨3,nm,n,tk,tn,tp,fr,en⟩ o1 l1 c1 o2 l2 c2) 29));rw [<-hW0];clear hW0;generalize w.heap.size=B at *;obtain ⟨x0,x1,x2,x3,x4,x5,x6,x7,x8⟩:=gU.out.box W0 (ah.refl _);dsimp only at x0 x1 x2 x3 x4 x5 x6 x7 x8;go_quiet (fail);go_wp2_with fail;refine (HN.out _).mono ?_;rintro e w1 ⟨rfl,hq1⟩;have bU:Hid (ah W0 w1):=ah.trans (Fr.drewN _ _ _) hq1;clear x0 x1 x2 x3 x4 x5 x6 x7 x8 hq1;obtain ⟨x0,x1,x2,x3,x4,x5,x6,x7,x8⟩:=gU.out.box w1 bU.out;dsimp only at x0 x1 x2 x3 x4 x5 x6 x7 x8;go_wp2_with fail;refine (HN.out _).mono ?_;rintro e w3 ⟨rfl,hq3⟩;have dU:=hid (bU.out.trans hq3);clear x0 x1 x2 x3 x4 x5 x6 x7 x8 hq3;obtain ⟨x0,x1,x2,x3,x4,x5,x6,x7,x8⟩:=gU.out.box w3 dU.out;dsimp only at x0 x1 x2 x3 x4 x5 x6 x7 x8;cases hA:nm.toList.isEmpty
 ·have e3:nm.toList.isEmpty=false:=hA;go_wp2_with fail;go_ret;exact ⟨by simp [aI,fZ,fQ,hA],aP.out.trans dU.out⟩
 ·have e3:nm.toList.isEmpty=true:=hA;have Gz:=hid hA;clear hA;have iK:=hid gU.out.same;cases hT:gG tk tn tp 0 0 .nil
  ·rw [hT] at iK;go_wp2_with fail;refine (iK.out _ dU.out).mono ?_;rintro e w4 ⟨rfl,hq4⟩;go_wp2_with fail;go_ret;exact ⟨by simp [aI,eY,hT],aP.out.trans (dU.out.trans hq4)⟩
  ·rw [hT] at iK;have GH:=hid hT;clear hT;go_wp2_with fail;refine (iK.out _ dU.out).mono ?_;rintro e w4 ⟨rfl,hq4⟩;have fV:=hid (dU.out.trans hq4);clear x0 x1 x2 x3 x4 x5 x6 x7 x8 hq4;obtain ⟨x0,x1,x2,x3,x4,x5,x6,x7,x8⟩:=gU.out.box w4 fV.out;dsimp only at x0 x1 x2 x3 x4 x5 x6 x7 x8
   by_cases hn:n < 0
   ·go_wp2_with fail;go_ret;exact ⟨by simp [aI];omega,aP.out.trans fV.out⟩
   ·by_cases ht:1 < n
    ·go_wp2_with fail;go_ret;exact ⟨by simp [aI,pz];omega,aP.out.trans fV.out⟩
    ·have hwn:n<=9223372036854775807:=by have:=HW.out;unfold sQ at this;simp only [Lit.wf,IntKind.min,IntKind.max,IntKind.signed,IntKind.bits,Bool.and_eq_true,decide_eq_true_eq,if_true] at this;omega
     go_wp2_with fail
     all_goals
      go_ret;refine ⟨?_,aP.out.trans fV.out⟩;have h1:=Gz.out;have h2:=GH.out;refine congrArg (fun b=>Ending.returned (Value.bool b)) ?_;rw [Bool.eq_iff_iff];simp [aI,fZ,eY,fQ,pz,jD,nK,h1,h2];omega
end
section
open Go.RowKit Go.Shelf
theorem Ll (nm : ByteArray) (n tk tn : Int) (tp : Fo) (fr en : Int) (w : World) (o1 : Option Addr) (l1 c1 : Nat) (o2 : Option Addr) (l2 c2 : Nat) (hw : sQ n)
    (SC:zf ⟨4,nm,n,tk,tn,tp,fr,en⟩ (w.alloc (.cells (cells9 ⟨4,nm,n,tk,tn,tp,fr,en⟩ o1 l1 c1 o2 l2 c2) 29)) o1 l1 c1 o2 l2 c2 w.heap.size) :
    Calls Tryz.prog 34 #[bI ⟨4,nm,n,tk,tn,tp,fr,en⟩ o1 l1 c1 o2 l2 c2] w fun e w'=>e=.returned (.bool (aI ⟨4,nm,n,tk,tn,tp,fr,en⟩ l2))/\ah w w':=by
 have gU:=hid SC;have HW:=hid hw;have HN:Hid (∀ W,Calls Tryz.prog 54 #[.int .i64 4] W fun e w'=>e=.returned (.bool true)/\ah W w'):=SC.named;obtain ⟨W0,hW0⟩:∃ W0,W0=w.alloc (.cells (cells9 ⟨4,nm,n,tk,tn,tp,fr,en⟩ o1 l1 c1 o2 l2 c2) 29):=⟨_,rfl⟩;have aP:Hid (ah w W0):=by rw [hW0];exact ah.alloc _ _
 clear SC hw;rw [<-hW0] at gU;unfold bI;go_enter Tryz.func34,Tryz.ntmps34;go_upto_region 1 with fail
 change Code.wp _ _ _ _ (w.alloc (.cells (cells9 ⟨4,nm,n,tk,tn,tp,fr,en⟩ o1 l1 c1 o2 l2 c2) 29));rw [<-hW0];clear hW0;generalize w.heap.size=B at *;obtain ⟨x0,x1,x2,x3,x4,x5,x6,x7,x8⟩:=gU.out.box W0 (ah.refl _);dsimp only at x0 x1 x2 x3 x4 x5 x6 x7 x8;go_quiet (fail);go_wp2_with fail;refine (HN.out _).mono ?_;rintro e w1 ⟨rfl,hq1⟩;have bU:Hid (ah W0 w1):=ah.trans (Fr.drewN _ _ _) hq1;clear x0 x1 x2 x3 x4 x5 x6 x7 x8 hq1;obtain ⟨x0,x1,x2,x3,x4,x5,x6,x7,x8⟩:=gU.out.box w1 bU.out;dsimp only at x0 x1 x2 x3 x4 x5 x6 x7 x8;cases hA:Lx.nameB nm.data.toList
 ·have xA:=hid gU.out.name;rw [hA] at xA;go_wp2_with fail;refine (xA.out _).mono ?_;rintro e w2 ⟨rfl,hq2⟩;go_wp2_with fail;go_ret;exact ⟨by simp [aI,fZ,fQ,hA],aP.out.trans (bU.out.trans hq2)⟩
 ·have xA:=hid gU.out.name;rw [hA] at xA;have Gz:=hid hA;clear hA;go_wp2_with fail;refine (xA.out _).mono ?_;rintro e w2 ⟨rfl,hq2⟩;have eF:=hid (bU.out.trans hq2);clear x0 x1 x2 x3 x4 x5 x6 x7 x8 hq2;go_wp2_with fail;refine (HN.out _).mono ?_;rintro e w3 ⟨rfl,hq3⟩;have dU:=hid (eF.out.trans hq3);clear hq3;obtain ⟨x0,x1,x2,x3,x4,x5,x6,x7,x8⟩:=gU.out.box w3 dU.out;dsimp only at x0 x1 x2 x3 x4 x5 x6 x7 x8;have iK:=hid gU.out.same;cases hT:gG tk tn tp 0 0 .nil
  ·rw [hT] at iK;go_wp2_with fail;refine (iK.out _ dU.out).mono ?_;rintro e w4 ⟨rfl,hq4⟩;go_wp2_with fail;go_ret;exact ⟨by simp [aI,eY,hT],aP.out.trans (dU.out.trans hq4)⟩
  ·rw [hT] at iK;have GH:=hid hT;clear hT;go_wp2_with fail;refine (iK.out _ dU.out).mono ?_;rintro e w4 ⟨rfl,hq4⟩;have fV:=hid (dU.out.trans hq4);clear x0 x1 x2 x3 x4 x5 x6 x7 x8 hq4;obtain ⟨x0,x1,x2,x3,x4,x5,x6,x7,x8⟩:=gU.out.box w4 fV.out;dsimp only at x0 x1 x2 x3 x4 x5 x6 x7 x8
   by_cases hn:n < 0
   ·go_wp2_with fail;go_ret;exact ⟨by simp [aI];omega,aP.out.trans fV.out⟩
   ·by_cases ht:0 < n
    ·go_wp2_with fail;go_ret;exact ⟨by simp [aI,pz];omega,aP.out.trans fV.out⟩
    ·have hwn:n<=9223372036854775807:=by have:=HW.out;unfold sQ at this;simp only [Lit.wf,IntKind.min,IntKind.max,IntKind.signed,IntKind.bits,Bool.and_eq_true,decide_eq_true_eq,if_true] at this;omega
     go_wp2_with fail
     all_goals
      go_ret;refine ⟨?_,aP.out.trans fV.out⟩;have h1:=Gz.out;have h2:=GH.out;refine congrArg (fun b=>Ending.returned (Value.bool b)) ?_;rw [Bool.eq_iff_iff];simp [aI,fZ,eY,fQ,pz,jD,nK,h1,h2];omega
end
end Go.Proofs.YtcninopmelmajaaGreatDoor
