/-
  Texts laid together (TeCopy, CnBr, ScAround, App, TeListN, ScList, TySame2, ScBare, LexByte, LexKw): laws and walks, with their conditions.
-/
import Derived.Lib.SmallJoins
import Derived.Test.YtcninopmelmajaaGreatDoorShelfLex
import Derived.Test.YtcninopmelmajaaGreatDoorCC1
import Derived.Test.YtcninopmelmajaaGreatDoorCC4
set_option maxHeartbeats 8000000
set_option maxRecDepth 1000000
namespace Go.Proofs.YtcninopmelmajaaGreatDoor
open Go.Lib (hid)
section
open Go.RowKit Go.Shelf
def gq (w:World) (B:Nat) (a0 a1 a2 a3 a4 a5 a6 a7 a8:Value):World :=
 ((((((((w.setCell ⟨B,0,none⟩ a0).setCell ⟨B,1,none⟩ a1).setCell ⟨B,2,none⟩ a2).setCell ⟨B,3,none⟩ a3).setCell ⟨B,4,none⟩ a4).setCell ⟨B,5,none⟩ a5).setCell ⟨B,6,none⟩ a6).setCell ⟨B,7,none⟩ a7).setCell ⟨B,8,none⟩ a8
theorem iW (w:World) (B:Nat) (a0 a1 a2 a3 a4 a5 a6 a7 a8:Value):Fr (fun k=>k=B) w (gq w B a0 a1 a2 a3 a4 a5 a6 a7 a8) :=
 ((((((((Fr.setCell (fun k=>k=B) w ⟨B,0,none⟩ a0 rfl).trans (Fr.setCell (fun k=>k=B) _ ⟨B,1,none⟩ a1 rfl)).trans (Fr.setCell (fun k=>k=B) _ ⟨B,2,none⟩ a2 rfl)).trans (Fr.setCell (fun k=>k=B) _ ⟨B,3,none⟩ a3 rfl)).trans (Fr.setCell (fun k=>k=B) _ ⟨B,4,none⟩ a4 rfl)).trans (Fr.setCell (fun k=>k=B) _ ⟨B,5,none⟩ a5 rfl)).trans (Fr.setCell (fun k=>k=B) _ ⟨B,6,none⟩ a6 rfl)).trans (Fr.setCell (fun k=>k=B) _ ⟨B,7,none⟩ a7 rfl)).trans (Fr.setCell (fun k=>k=B) _ ⟨B,8,none⟩ a8 rfl)
theorem dH {w : World} {B : Nat} {a0 a1 a2 a3 a4 a5 a6 a7 a8 b0 b1 b2 b3 b4 b5 b6 b7 b8 : Value} {t : TypeId} (h : w.heap[B]? = some (.cells #[b0, b1, b2, b3, b4, b5, b6, b7, b8] t (0, 0))) :
    (gq w B a0 a1 a2 a3 a4 a5 a6 a7 a8).heap[B]?=some (.cells #[a0,a1,a2,a3,a4,a5,a6,a7,a8] t (0,0)):=by
 have s0:((w).setCell ⟨B,0,none⟩ a0).heap[B]?=some (.cells #[a0,b1,b2,b3,b4,b5,b6,b7,b8] t (0,0)):=aB h
 have s1:((((w).setCell ⟨B,0,none⟩ a0)).setCell ⟨B,1,none⟩ a1).heap[B]?=some (.cells #[a0,a1,b2,b3,b4,b5,b6,b7,b8] t (0,0)):=aB s0
 have s2:((((((w).setCell ⟨B,0,none⟩ a0)).setCell ⟨B,1,none⟩ a1)).setCell ⟨B,2,none⟩ a2).heap[B]?=some (.cells #[a0,a1,a2,b3,b4,b5,b6,b7,b8] t (0,0)):=aB s1
 have s3:((((((((w).setCell ⟨B,0,none⟩ a0)).setCell ⟨B,1,none⟩ a1)).setCell ⟨B,2,none⟩ a2)).setCell ⟨B,3,none⟩ a3).heap[B]?=some (.cells #[a0,a1,a2,a3,b4,b5,b6,b7,b8] t (0,0)):=aB s2
 have s4:((((((((((w).setCell ⟨B,0,none⟩ a0)).setCell ⟨B,1,none⟩ a1)).setCell ⟨B,2,none⟩ a2)).setCell ⟨B,3,none⟩ a3)).setCell ⟨B,4,none⟩ a4).heap[B]?=some (.cells #[a0,a1,a2,a3,a4,b5,b6,b7,b8] t (0,0)):=aB s3
 have s5:((((((((((((w).setCell ⟨B,0,none⟩ a0)).setCell ⟨B,1,none⟩ a1)).setCell ⟨B,2,none⟩ a2)).setCell ⟨B,3,none⟩ a3)).setCell ⟨B,4,none⟩ a4)).setCell ⟨B,5,none⟩ a5).heap[B]?=some (.cells #[a0,a1,a2,a3,a4,a5,b6,b7,b8] t (0,0)):=aB s4
 have s6:((((((((((((((w).setCell ⟨B,0,none⟩ a0)).setCell ⟨B,1,none⟩ a1)).setCell ⟨B,2,none⟩ a2)).setCell ⟨B,3,none⟩ a3)).setCell ⟨B,4,none⟩ a4)).setCell ⟨B,5,none⟩ a5)).setCell ⟨B,6,none⟩ a6).heap[B]?=some (.cells #[a0,a1,a2,a3,a4,a5,a6,b7,b8] t (0,0)):=aB s5
 have s7:((((((((((((((((w).setCell ⟨B,0,none⟩ a0)).setCell ⟨B,1,none⟩ a1)).setCell ⟨B,2,none⟩ a2)).setCell ⟨B,3,none⟩ a3)).setCell ⟨B,4,none⟩ a4)).setCell ⟨B,5,none⟩ a5)).setCell ⟨B,6,none⟩ a6)).setCell ⟨B,7,none⟩ a7).heap[B]?=some (.cells #[a0,a1,a2,a3,a4,a5,a6,a7,b8] t (0,0)):=aB s6
 have s8:((((((((((((((((((w).setCell ⟨B,0,none⟩ a0)).setCell ⟨B,1,none⟩ a1)).setCell ⟨B,2,none⟩ a2)).setCell ⟨B,3,none⟩ a3)).setCell ⟨B,4,none⟩ a4)).setCell ⟨B,5,none⟩ a5)).setCell ⟨B,6,none⟩ a6)).setCell ⟨B,7,none⟩ a7)).setCell ⟨B,8,none⟩ a8).heap[B]?=some (.cells #[a0,a1,a2,a3,a4,a5,a6,a7,a8] t (0,0)):=aB s7
 exact s8
def UM (w:World) (B:Nat) (a3 a4 a5:Value):World:=((w.setCell ⟨B,3,none⟩ a3).setCell ⟨B,4,none⟩ a4).setCell ⟨B,5,none⟩ a5
theorem GI (w:World) (B:Nat) (a3 a4 a5:Value):Fr (fun k=>k=B) w (UM w B a3 a4 a5) :=
 ((Fr.setCell (fun k=>k=B) _ ⟨B,3,none⟩ a3 rfl).trans (Fr.setCell (fun k=>k=B) _ ⟨B,4,none⟩ a4 rfl)).trans (Fr.setCell (fun k=>k=B) _ ⟨B,5,none⟩ a5 rfl)
theorem LH {w : World} {B : Nat} {a3 a4 a5 b0 b1 b2 b3 b4 b5 b6 b7 b8 : Value} {t : TypeId} (h : w.heap[B]? = some (.cells #[b0, b1, b2, b3, b4, b5, b6, b7, b8] t (0, 0))) :
    (UM w B a3 a4 a5).heap[B]?=some (.cells #[b0,b1,b2,a3,a4,a5,b6,b7,b8] t (0,0)) :=
 aB (i:=5) (u:=a5) (aB (i:=4) (u:=a4) (aB (i:=3) (u:=a3) h))
theorem aT {w : World} {B : Nat} {a0 a1 a2 a3 a4 a5 a6 a7 a8 : Value} {t : TypeId} (h : w.heap[B]? = some (.cells #[a0, a1, a2, a3, a4, a5, a6, a7, a8] t (0, 0))) :
    (w.cell? ⟨B,0,none⟩=some a0/\w.cell? ⟨B,1,none⟩=some a1/\w.cell? ⟨B,2,none⟩=some a2/\w.cell? ⟨B,3,none⟩=some a3/\w.cell? ⟨B,4,none⟩=some a4/\w.cell? ⟨B,5,none⟩=some a5/\w.cell? ⟨B,6,none⟩=some a6/\w.cell? ⟨B,7,none⟩=some a7/\w.cell? ⟨B,8,none⟩=some a8) /\
    w.frozen? ⟨B,0,none⟩=false/\w.frozen? ⟨B,1,none⟩=false/\w.frozen? ⟨B,2,none⟩=false/\w.frozen? ⟨B,3,none⟩=false/\w.frozen? ⟨B,4,none⟩=false/\w.frozen? ⟨B,5,none⟩=false/\w.frozen? ⟨B,6,none⟩=false/\w.frozen? ⟨B,7,none⟩=false/\w.frozen? ⟨B,8,none⟩=false:=by
 refine ⟨⟨?_,?_,?_,?_,?_,?_,?_,?_,?_⟩,?_,?_,?_,?_,?_,?_,?_,?_,?_⟩
 all_goals first | (rw [cell_of_row _ _ _ _ _ (0,0) h];rfl) | simp [World.frozen?,h]
abbrev zero9:Array Value:=#[.int .i64 0,.string ⟨#[]⟩,.int .i64 0,.int .i64 0,.int .i64 0,.slice none 0 0,.slice none 0 0,.int .i64 0,.int .i64 0]
def Ye (h:Nd) (ps:To):Prop:=∀ (w:World) (R:Nat->Prop) (o1:Option Addr) (l1 c1:Nat) (o2:Option Addr) (l2 c2:Nat),aC R w o1 l1 h.tp->aY R w o2 l2 ps->h.tp.size<=1000000->allT (fun h=>h.tp.size<=1000000) ps->ps.size<=1000000 ->
 Calls Tryz.prog 95 #[bC h o1 l1 c1 o2 l2 c2] w fun e w'=>∃ p1 d1 p2 d2,e=.returned (bC h p1 l1 d1 p2 l2 d2)/\aC (fun b=>w.heap.size<=b) w' p1 l1 h.tp/\aY (fun b=>w.heap.size<=b) w' p2 l2 ps/\ah w w'
theorem Oe (h:Nd) (ps:To):Ye h ps:=by
 refine To.qE (T:=Ye) ?_ h ps
 intro h ps ih w R o1 l1 c1 o2 l2 c2 hs1 hs htz abY hsz
 have HS:=hid hs
 have IH:=hid ih
 have HL:=hid hs.1
 have HA:=hid abY
 have hmx:=hs.2.1
 have hll:=To.length_le ps
 rw [<-hs.1] at hll
 unfold maxLen at hmx
 obtain ⟨W0,hW0⟩:∃ W0,W0=(w.alloc (.cells (cells9 h o1 l1 c1 o2 l2 c2) 29)).alloc (.cells zero9 29):=⟨_,rfl⟩
 have aK:Hid (ah w W0):=by rw [hW0];exact (ah.alloc _ _).trans (ah.alloc _ _)
 have QN:=hid (UG h.tk h.tn h.tp W0 o1 l1 c1 (hs1.slc.stay aK.out) htz)
 have hz0:w.heap.size+2<=W0.heap.size:=by rw [hW0];simp
 have HB0:Hid (W0.heap[w.heap.size]?=some (.cells (cells9 h o1 l1 c1 o2 l2 c2) 29 (0,0))):=by
  show _=_;rw [hW0,Below.heap_alloc _ _ _ (by simp)];exact heap_alloc_new w _
 have HB1:Hid (W0.heap[w.heap.size+1]?=some (.cells zero9 29 (0,0))):=by
  show _=_;rw [hW0]
  have:=heap_alloc_new (w.alloc (.cells (cells9 h o1 l1 c1 o2 l2 c2) 29)) (.cells zero9 29)
  simpa using this
 clear hs ih abY hs1
 unfold kL at QN
 unfold bC
 go_enter Tryz.func95,Tryz.ntmps95
 go_wp2_with fail
 change Calls _ _ _ ((w.alloc (.cells (cells9 h o1 l1 c1 o2 l2 c2) 29)).alloc (.cells zero9 29)) _
 rw [<-hW0]
 refine QN.out.mono ?_;rintro e w1 ⟨q1,e1,rfl,hsl1,hq1⟩
 have abZ:=hid hsl1
 have hb0:=(hq1.block _ (by omega) (fun h=>h)).trans HB0.out
 have hb1:=(hq1.block _ (by omega) (fun h=>h)).trans HB1.out
 have bI:=hid hq1
 have hz1:W0.heap.size<=w1.heap.size:=hq1.size
 clear hW0 hq1 hsl1 HB0 HB1 QN
 have HB0:=hid hb0
 have HB1:=hid hb1
 obtain ⟨⟨x0,x1,x2,x3,x4,x5,x6,x7,x8⟩,y0,y1,y2,y3,y4,y5,y6,y7,y8⟩:=aT hb0
 clear hb0 hb1
 generalize hB:w.heap.size=B at *
 have bM:=hid hB
 clear hB
 go_wp2_with fail
 obtain ⟨W1,hW1⟩:∃ W1,W1=UM w1 B (.int .i64 h.tk) (.int .i64 h.tn) (.slice q1 l1 e1):=⟨_,rfl⟩
 change Code.wp _ _ _ _ (UM w1 B (.int .i64 h.tk) (.int .i64 h.tn) (.slice q1 l1 e1))
 have hz2:W1.heap.size=w1.heap.size:=by rw [hW1];simp [UM,World.setCell]
 have xR:Hid (ah w W1):=by
  rw [hW1]
  exact (aK.out.trans bI.out).trans' (GI _ _ _ _ _) (fun i hi h=>by have:=bM.out;omega)
 have Xm:Hid (aC (fun b=>W0.heap.size<=b) W1 q1 l1 h.tp):=by
  rw [hW1]
  exact abZ.out.fr (GI _ _ _ _ _) (fun k _ hk=>⟨hk,fun h=>by have hk':W0.heap.size<=k:=hk;omega⟩)
 replace HB0:Hid (W1.heap[B]?=some (.cells (cells9 h q1 l1 e1 o2 l2 c2) 29 (0,0))):=by
  rw [hW1];exact LH HB0.out
 replace HB1:Hid (W1.heap[B+1]?=some (.cells zero9 29 (0,0))):=by
  rw [hW1]
  exact ((GI w1 B _ _ _).block _ (by omega) (fun h=>by omega)).trans HB1.out
 rw [<-hW1]
 clear hW1 x0 x1 x2 x3 x4 x5 x6 x7 x8 y0 y1 y2 y3 y4 y5 y6 y7 y8 abZ bI aK
 go_loopw [3,13] (fun v t wr=>∃ (i:Nat) (f:To) (xs:List Value) (vo:Option Addr) (vc:Nat),t=.int .i64 i/\i<=l2/\v=.slice vo i vc/\f.length=i/\f.app (ps.drop i)=ps/\lU wr W1.heap.size (.slice vo i vc) f xs/\ah W1 wr) (fun _ t _=>l2 - (intOf t).toNat)
 case atStart=>exact ⟨0,.nil,[],none,0,rfl,Nat.zero_le _,rfl,rfl,by rw [To.drop_zero];rfl,lU.nil _ _,ah.refl _⟩
 case round =>
  obtain ⟨i,f,xs,vo,vc,rfl,hi,rfl,hfl,hap,hrow,hq⟩:=hrel
  have HF:=hid hfl
  have SK:=hid hap
  have HR:=hid hrow
  have HQ:=hid hq
  clear hfl hap hrow hq
  by_cases hlt:i < l2
  ·have hlt':(i:Int) < l2:=by omega
   obtain ⟨b,off,hd,qs,u1,v1,t1,u2,v2,t2,rfl,hdr,hg,hRb,⟨f0,f1,f2,f3,f4,f5,f6,f7,f8⟩,hsl,hts⟩:=(HS.out.stay (xR.out.trans HQ.out)).nth hlt
   have QA:=To.bV ps i hd qs hg
   have hna:=wI ps i hd qs HA.out hg
   obtain ⟨w2,hw2⟩:∃ w2,w2=wr.alloc (.cells (cells9 hd u1 v1 t1 u2 v2 t2) 29):=⟨_,rfl⟩
   have Xn:ah wr w2:=by rw [hw2];exact ah.alloc _ _
   have HC:=hid (IH.out i hd qs hg w2 R u1 v1 t1 u2 v2 t2 (hsl.stay Xn) (hts.stay Xn) hna.1 hna.2 (by omega))
   have Vl:=hid Xn
   have HD:Hid ((f.app (.cons hd qs .nil)).app (ps.drop (i+1))=ps):=by
    show _=_
    conv=>rhs;rw [<-SK.out,hdr]
    rw [To.lY];rfl
   unfold bC at HC
   clear hdr hg hsl hts QA hRb hna Xn
   go_wp2_with fail
   change Calls _ _ _ (wr.alloc (.cells (cells9 hd u1 v1 t1 u2 v2 t2) 29)) _
   rw [<-hw2]
   refine HC.out.mono ?_;rintro e w3 ⟨n1,m1,n2,m2,rfl,hk1,hk2,hq3⟩
   have Oh:=hid hk1
   have Yp:=hid hk2
   have dG:=hid (Vl.out.trans hq3)
   have HR1:=hid (HR.out.stay dG.out)
   clear hk1 hk2 hq3 hw2
   go_wp2_with (at_builtin;go_must (refine aP w3 rfl (.tmp 17) (.tmp 20) 25 rfl 29 _ 9 112 vU (.slice vo i vc) i xs rfl (HF.out ▸ HR1.out.own) (cells9 hd n1 v1 m1 n2 v2 m2) rfl rfl ?c1 ?c2 ?c3 ?_))
   case c1=>simp [Value.oneCell']
   case c2=>unfold maxLen;omega
   case c3=>omega
   intro g2 c' w4 ho hf hg2
   have hlow:W1.heap.size<=w3.heap.size:=Nat.le_trans HQ.out.size dG.out.size
   have hown:∀ kk,(Value.slice vo i vc).ownBlock=some kk->kk < wr.heap.size:=fun kk h=>(HR.out.own.lt kk h).2
   have ady:wr.heap.size<=w2.heap.size:=Vl.out.size
   have hk:∀ kk,kk < w3.heap.size->w2.heap.size<=kk->((W1.heap.size<=kk/\(Value.slice vo i vc).ownBlock≠some kk)/\¬ False):=by
    intro kk _ hkk
    refine ⟨⟨by have:=HQ.out.size;omega,fun h=>?_⟩,fun h=>h⟩
    have:=hown kk h;omega
   have HR2:Hid (lU w4 W1.heap.size (.slice (some ⟨g2,0,none⟩) (i+1) c') (f.app (.cons hd qs .nil)) (xs++(cells9 hd n1 v1 m1 n2 v2 m2).toList)):=by
    show lU _ _ _ _ _
    have hf':=HF.out
    subst hf'
    exact lU.snoc HR1.out (Oh.out.fr (Fr.refl (fun _=>False) _) hk) (Yp.out.fr (Fr.refl (fun _=>False) _) hk) ho hf hg2 hlow
   have dO:Hid (ah W1 w4):=by
    show ah _ _
    exact Fr.trans' (HQ.out.trans dG.out) hf (fun kk hkk h=>absurd (HR.out.low kk h) (by omega))
   have HL2:Hid ((f.app (.cons hd qs .nil)).length=i+1):=by
    show _=_
    rw [To.bP,HF.out];rfl
   clear ho hf hg2 hown hk
   go_wp2_with fail
   go_roundw
   case rel=>exact ⟨i+1,_,_,some ⟨g2,0,none⟩,c',by go_num,by omega,rfl,HL2.out,HD.out,HR2.out,dO.out⟩
   case measure=>simp [intOf];omega
  ·have hlt':¬ (i:Int) < l2:=by omega
   have hb1:=(HQ.out.block _ (by omega) (fun h=>h)).trans HB1.out
   have hb0:=(HQ.out.block _ (by omega) (fun h=>h)).trans HB0.out
   have ac9:=aB (i:=6) (u:=.slice vo i vc) hb0
   have hil:i=l2:=by omega
   subst hil
   obtain ⟨⟨x0,x1,x2,x3,x4,x5,x6,x7,x8⟩,y0,y1,y2,y3,y4,y5,y6,y7,y8⟩:=aT hb0
   obtain ⟨⟨z0,z1,z2,z3,z4,z5,z6,z7,z8⟩,t0,t1,t2,t3,t4,t5,t6,t7,t8⟩:=aT hb1
   have HB0:=hid hb0
   have HB1:=hid hb1
   clear hb0 hb1
   go_wp2_with fail
   have hb1':(wr.setCell ⟨B,6,none⟩ (.slice vo i vc)).heap[B+1]?=some (.cells zero9 29 (0,0)):=by
    rw [Below.heap_setCell _ _ _ _ (by show B+1≠B;omega)];exact HB1.out
   have nP:Fr (fun k=>k=B∨k=B+1) wr (gq (wr.setCell ⟨B,6,none⟩ (.slice vo i vc)) (B+1) (.int .i64 h.k) (.string h.nm) (.int .i64 h.n) (.int .i64 h.tk) (.int .i64 h.tn) (.slice q1 l1 e1) (.slice vo i vc) (.int .i64 h.fr) (.int .i64 h.en)) :=
    (Fr.setCell _ _ _ _ (.inl rfl)).trans ((iW _ _ _ _ _ _ _ _ _ _ _).mono (fun k _ hk=>.inr hk))
   have hbf:=dH (a0:=.int .i64 h.k) (a1:=.string h.nm) (a2:=.int .i64 h.n) (a3:=.int .i64 h.tk) (a4:=.int .i64 h.tn) (a5:=.slice q1 l1 e1) (a6:=.slice vo i vc) (a7:=.int .i64 h.fr) (a8:=.int .i64 h.en) hb1'
   change bodyPost _ _ _ _ _ (gq (wr.setCell ⟨B,6,none⟩ (.slice vo i vc)) (B+1) (.int .i64 h.k) (.string h.nm) (.int .i64 h.n) (.int .i64 h.tk) (.int .i64 h.tn) (.slice q1 l1 e1) (.slice vo i vc) (.int .i64 h.fr) (.int .i64 h.en))
   clear x0 x1 x2 x3 x4 x5 x6 x7 x8 y0 y1 y2 y3 y4 y5 y6 y7 y8 z0 z1 z2 z3 z4 z5 z6 z7 z8 t0 t1 t2 t3 t4 t5 t6 t7 t8 ac9 hb1'
   generalize (gq (wr.setCell ⟨B,6,none⟩ (.slice vo i vc)) (B+1) (.int .i64 h.k) (.string h.nm) (.int .i64 h.n) (.int .i64 h.tk) (.int .i64 h.tn) (.slice q1 l1 e1) (.slice vo i vc) (.int .i64 h.fr) (.int .i64 h.en))=wf at *
   obtain ⟨⟨x0,x1,x2,x3,x4,x5,x6,x7,x8⟩,_⟩:=aT hbf
   have bJ:Hid (aC (fun b=>w.heap.size<=b) wf q1 l1 h.tp/\aY (fun b=>w.heap.size<=b) wf vo i ps/\ah w wf):=by
    have hz:=bM.out
    have hap:=SK.out
    rw [To.drop_end ps i (by have:=HL.out;omega),To.qW] at hap
    have hqs:=HQ.out.size
    refine ⟨(Xm.out.stay HQ.out).fr nP (fun k _ hk=>?_),?_,?_⟩
    ·have hk':W0.heap.size<=k:=hk
     exact ⟨by omega,by omega⟩
    ·rw [<-hap]
     refine (HR.out.slc HF.out.symm (by unfold maxLen;omega)).fr nP (fun k _ hk=>?_)
     have hk':W1.heap.size<=k:=hk
     exact ⟨by omega,by omega⟩
    ·exact (xR.out.trans HQ.out).trans' nP (fun i hi h=>by omega)
   refine bodyPost_ret (by simp [results,Tryz.results95,go_sem,x0,x1,x2,x3,x4,x5,x6,x7,x8];rfl) rfl ?_
   exact ⟨q1,e1,vo,⟨vc,rfl⟩,bJ.out⟩
end
section
open Go.RowKit Go.Shelf
attribute [local go_sem] Oper.semAt_some
namespace Cn
theorem Jm {e:Env} {i:Nat} {x:ByteArray × Int} (h:e[i]?=some x) (s:ByteArray):brings (e.drop i) s=if x.1=s then x.2 else brings (e.drop (i+1)) s:=by
 obtain ⟨hk,hs⟩:=List.getElem?_eq_some_iff.1 h
 rw [List.drop_eq_getElem_cons hk,hs];rfl
def BrI (e:Env) (s:ByteArray) (w:World) (i:Nat) (D:Nat->Prop) (W:World):Prop :=
 (∀ j,D j↔j=w.heap.size+1)/\W.heap[w.heap.size]?=some (.cells #[.string s] 9 (0,0))/\W.heap[w.heap.size+1]?=some (.cells #[.int .i64 0] 3 (0,0))/\ah w W/\brings e s=brings (e.drop i) s
theorem BrI.fr {e:Env} {s:ByteArray} {w:World} {i:Nat} {D S:Nat->Prop} {W W':World} (h:BrI e s w i D W) (hf:Fr S W W') (h1:¬ S w.heap.size) (h2:¬ S (w.heap.size+1)) (h4:∀ k,k < w.heap.size->¬ S k):BrI e s w i D W' :=
 ⟨h.1,ay hf h1 h.2.1,ay hf h2 h.2.2.1,Fr.trans' h.2.2.2.1 hf (fun k hk hs=>h4 k hk hs),h.2.2.2.2⟩
def BrX (e:Env) (s:ByteArray) (w:World) (W:World):Prop:=W.heap[w.heap.size+1]?=some (.cells #[.int .i64 (brings e s)] 3 (0,0))/\ah w W
theorem LJ (T : Nat -> Prop) (e : Env) (s : ByteArray) (o : Option Addr) (n c : Nat) (w : World) (h : iF T w o n e) (hz : n <= 1000000) :
    Calls Tryz.prog 82 #[.slice o n c,.string s] w fun x w'=>x=.returned (.int .i64 (brings e s))/\ah w w':=by
 refine (callsIn_wide (n:=5)).1 ?_
 refine callsIn_of_wp_marks Tryz.func82 rfl trivial ?_ rfl
 simp only [Tryz.ntmps82,List.size_toArray,List.length_cons,List.length_nil,Nat.reduceAdd,Nat.reduceSub,Array.replicate_succ,Array.replicate_zero,List.push_toArray,List.append_toArray,List.nil_append,List.cons_append]
 have HC:=fun W=>(callsIn_wide (n:=4)).2 (Fp o n c W)
 gi_wp2_with (fail)
 refine ⟨trivial,(HC _).mono ?_⟩;rintro x pI ⟨rfl,hW2⟩
 obtain ⟨W1,hW1⟩:∃ W1,W1=(w.alloc (.cells #[.string s] 9)).alloc (.cells #[.int .i64 0] 3):=⟨_,rfl⟩
 have hz1:W1.heap.size=w.heap.size+2:=by rw [hW1];simp
 have hq1:ah w W1:=by rw [hW1];exact (ah.alloc _ _).trans (ah.alloc _ _)
 have rV:pI=W1.alloc (.cells #[.slice o n c] 60):=by rw [hW1];exact hW2
 have hb1:W1.heap[w.heap.size]?=some (.cells #[.string s] 9 (0,0)):=by
  rw [hW1,Below.heap_alloc _ _ _ (by simp)];exact heap_alloc_new w _
 have hb2:W1.heap[w.heap.size+1]?=some (.cells #[.int .i64 0] 3 (0,0)):=by
  rw [hW1]
  have:=heap_alloc_new (w.alloc (.cells #[.string s] 9)) (.cells #[.int .i64 0] 3)
  simpa using this
 have hq12:ah W1 pI:=by rw [rV];exact ah.alloc _ _
 have hq2:ah w pI:=hq1.trans hq12
 have htb:pI.heap[W1.heap.size]?=some (.cells #[.slice o n c] 60 (0,0)):=by rw [rV];exact heap_alloc_new W1 _
 have hz2:pI.heap.size=w.heap.size+3:=by rw [rV];simp;omega
 have hseq:=Jl (5 - 1) (fun k=>k < w.heap.size∨k=W1.heap.size) e o n c W1.heap.size pI (fun k hk=>by omega) htb (.inr rfl) ((h.mono (T':=fun k=>k < w.heap.size∨k=W1.heap.size) (fun k hk _=>.inl hk)).stay hq2) hz
 rw [hz1] at hseq
 have QV:=hid hseq
 have HST:Hid (BrI e s w 0 (fun j=>j=w.heap.size+1) pI):=⟨fun j=>Iff.rfl,ak hq12 hb1,ak hq12 hb2,hq2,by simp⟩
 clear hW1 hW2 rV hq1 hb1 hq2 hb2 htb hseq HC hq12 h
 gi_wp2_with (fail)
 refine qO (w:=pI) rfl (enters_of Tryz.func52 (by kernel_rfl) rfl) QV.out (fun k hk=>by omega) (Fr.refl _ _) (fun i x va W he=>Fq he)
  (BrI e s w)
  (fun i x a' D W=>BrI e s w i D W/\∃ (xb:Nat) (t9 t10:Value),W.heap[xb]?=some (.cells #[.string x.1,.int .i64 x.2] 65 (0,0))/\xb≠pI.heap.size+1/\a'={ tmps:=#[.slice o n c,.string s,undef,.pointer (some ⟨w.heap.size,0,none⟩),.pointer (some ⟨w.heap.size+1,0,none⟩),undef,.pointer (some ⟨xb,0,none⟩),.slice o n c,.func (.func 52) #[] #[.pointer (some ⟨w.heap.size+1+1,0,none⟩)],t9,t10,undef,undef,undef,undef,undef,undef],defers:=[] })
  (fun c W=>c=.ret/\BrX e s w W) (fun k=>k=w.heap.size+1) ?own ?stay ?G7 ?G8 ?start ?assign ?body ?done ?stop
 case own =>
  rintro i D A ⟨hd,h1,h2,hq,hle⟩ k hk
  have e:=(hd k).1 hk
  have hl:=lt_of_block h2
  exact ⟨by omega,by omega,.inl (by omega)⟩
 case stay =>
  rintro i D A B hI hf
  exact hI.fr hf (fun h=>by have:=h.1;omega) (fun h=>h.2 ((hI.1 _).2 rfl)) (fun k hk h=>by have:=h.1;omega)
 case G7 =>
  rintro i x a' D A B ⟨hI,xb,t9,t10,hxb,hne,ha⟩ hf
  exact ⟨hI.fr hf (by omega) (by omega) (fun k hk h=>by omega),xb,t9,t10,ay hf hne hxb,hne,ha⟩
 case G8 =>
  rintro c A B ⟨hc,hb2,hq⟩ hf
  exact ⟨hc,ay hf (by omega) hb2,hq.trans' hf (fun k hk h=>by omega)⟩
 case start=>exact HST.out
 case assign =>
  rintro l i y va D W K hx hva hI hWs hK
  unfold UL at hva
  subst hva
  have hq:=ah.alloc W (.cells #[.string y.1,.int .i64 y.2] 65)
  have hnew:=heap_alloc_new W (.cells #[.string y.1,.int .i64 y.2] 65)
  have hne:W.heap.size≠pI.heap.size+1:=by omega
  have hI2:=hI.fr (S:=fun _=>False) hq (fun h=>h) (fun h=>h) (fun _ _ h=>h)
  clear hI hWs
  gi_wp2
  exact hK _ _ ⟨hI2,W.heap.size,.int .i64 ((n:Int) - 1 - i),.agg #[.string y.1,.int .i64 y.2],hnew,hne,by simp⟩ hq
 case body =>
  rintro l i y a' D W hx ⟨hI,xb,t9,t10,hxb,hne,rfl⟩ hW
  have a0:W.cell? ⟨xb,0,none⟩=some (.string y.1):=by rw [cell_of_row _ _ _ _ _ (0,0) hxb];rfl
  have a1:W.cell? ⟨xb,1,none⟩=some (.int .i64 y.2):=by rw [cell_of_row _ _ _ _ _ (0,0) hxb];rfl
  have ck:=cell_of_one hI.2.1
  have hst:=hI.2.2.2.2
  rw [Jm hx] at hst
  by_cases hik:y.1=s
  ·have hbe:(y.1.toList == s.toList)=true:=by rw [hik];simp
   rw [if_pos hik] at hst
   have HI:=hid hI
   have HS:=hid hst
   have cr:=cell_of_one hI.2.2.1
   have zr:=free_of_one hI.2.2.1
   clear hI hst hx hik hxb
   gi_wp2
   have hfs:=Fr.setCell (fun k=>k=w.heap.size+1) W ⟨w.heap.size+1,0,none⟩ (.int .i64 y.2) rfl
   exact ⟨⟨rfl,by rw [HS.out];exact one_setCell HI.out.2.2.1,HI.out.2.2.2.1.trans' hfs (fun k hk e=>by omega)⟩,hfs.mono (fun k _ e=>(HI.out.1 k).2 e)⟩
  ·have hbe : (y.1.toList == s.toList) = false := by
     cases hx:(y.1.toList == s.toList)
     ·rfl
     ·exact absurd (Sc.str_eq.1 hx) hik
   rw [if_neg hik] at hst
   have HI:=hid hI
   have HS:=hid hst
   clear hI hst hx hik hxb
   gi_wp2
   exact ⟨D,⟨HI.out.1,HI.out.2.1,HI.out.2.2.1,HI.out.2.2.2.1,HS.out⟩,Fr.refl _ _,fun k hk=>.inl hk⟩
 case done =>
  rintro D W hI hdef
  have hst:=hI.2.2.2.2
  rw [List.drop_length] at hst
  have HS:Hid (brings e s=0):=hst
  have cr:=cell_of_one hI.2.2.1
  have zr:=free_of_one hI.2.2.1
  have HI:=hid hI
  clear hI hst
  gi_wp2
  have hfs:=Fr.setCell (fun k=>k=w.heap.size+1) W ⟨w.heap.size+1,0,none⟩ (.int .i64 0) rfl
  have ab1:=ay hfs (by omega) hdef
  refine ⟨by simp,.inl ⟨_,_,rfl,run_takeDeferred ab1,?_⟩⟩
  have hfp:=Fr.putObj (fun k=>k=pI.heap.size) (W.setCell ⟨w.heap.size+1,0,none⟩ (.int .i64 0)) pI.heap.size (.deferred none) rfl
  have cq:=cell_of_one (ay hfp (by omega) (one_setCell (u:=.int .i64 0) HI.out.2.2.1))
  refine ⟨_,by simp [results,Tryz.results82,go_sem,cq];rfl,by rw [HS.out],?_⟩
  exact (HI.out.2.2.2.1.trans' hfs (fun k hk e=>by omega)).trans' hfp (fun k hk e=>by omega)
 case stop =>
  rintro c W ⟨rfl,hb2,hq⟩ hdef
  gi_wp2
  refine ⟨by simp,.inl ⟨_,_,rfl,run_takeDeferred hdef,?_⟩⟩
  have hfp:=Fr.putObj (fun k=>k=pI.heap.size) W pI.heap.size (.deferred none) rfl
  have cr:=cell_of_one (ay hfp (by omega) hb2)
  refine ⟨_,by simp [results,Tryz.results82,go_sem,cr],rfl,?_⟩
  exact hq.trans' hfp (fun k hk e=>by omega)
end Cn
end
section
open Go.RowKit Go.Shelf
namespace Sc
theorem iE.str {T:Nat->Prop} {w:World} {o:Option Addr} {n:Nat} {e:List ByteArray} (h:iE T w o n e):zF w o e.reverse:=by
 intro j s hj
 have hl:=(List.getElem?_eq_some_iff.1 hj).1
 obtain ⟨b,he,_,hc⟩:=h.2.2 (by have:=h.1;simp at hl;omega)
 exact ⟨b,0,he,by rw [Nat.zero_add];exact hc j s hj⟩
theorem uy {w:World} {b:Nat} (h:w.heap[b]?=some (.cells #[] 9 (0,0))):w.ownsRow 0 9 1 (.slice (some ⟨b,0,none⟩) 0 0) ([]:List ByteArray).length (strs []) :=
 ⟨rfl,.inr ⟨b,0,#[],rfl,Nat.zero_le _,h,Nat.le_refl _,Nat.zero_le _,rfl,rfl⟩⟩
theorem Jo (w : World) (ty : TypeId) (v : Value) (n : Nat) (xs : List Value) (hown : w.ownsRow 0 9 1 v n xs) (hv : v ≠ .slice none 0 0) (o : Option Addr) (c : Nat) :
    (Builtin.append_ #[49,49] ty #[v,.slice o 0 c]).run Tryz.prog w=.ok v w:=by
 rcases hown.2 with ⟨rfl,_⟩ | ⟨g,cap,cur,rfl,_,hg,hc,hm,hs,_⟩
 ·exact absurd rfl hv
 ·obtain ⟨i0,hi,hz0,hz1,hz2⟩:=info_parts mM.info
  have hu:=mM.under
  cases o<;>simp [Builtin.append_,run_underlying hu,sizeOf,typeInfo,hi,Builtin.lenOf,Builtin.firstCells,loadCells,loadCellsFrom,storeCells,hc]
theorem ji {ops : Array Oper} {o : Oper} {a : Act} {K : Act -> World -> Prop} {Q : Exit -> Act -> World -> Prop} {E : Prop} (W : World)
    (hg:o.guard=none) (s x:Operand) (hop:o.op=Op.call { callee:=Callee.builtin Builtin.append,args:=#[s,x],argTypes:=#[49,49] })
    (v:Value) (xs:List ByteArray) (hs:a.eval s=v) (hown:W.ownsRow 0 9 1 v xs.length (strs xs)) (va:Option Addr) (ys:List ByteArray) (m c:Nat) (hm:m=ys.length) (hx:a.eval x=.slice va m c) (hat:zF W va ys) (hb:xs.length+ys.length<=1000000) (hne:v≠.slice none 0 0)
    (hK:∀ v' w',w'.ownsRow 0 9 1 v' (xs++ys).length (strs (xs++ys))->Fr (fun k=>v.ownBlock=some k) W w'->(∀ g,v'.ownBlock=some g->v.ownBlock=some g∨g=W.heap.size)->v'≠.slice none 0 0->K (a.put o.dst v') w') :
    if Region.wanted o (yielded ops a.tmps)=true then Oper.wp Tryz.prog o a W K Q else E:=by
 subst hm
 rw [if_pos (by unfold Region.wanted;rw [hg])]
 by_cases h0:ys=[]
 ·subst h0
  have hr:=Jo W o.type v _ _ hown hne va c
  unfold Oper.wp execOp
  simp only [hop,resolve,invoke,builtin,Sem.run_bind,Sem.run_pure,Result.andThen_ok,List.map_toArray,List.map_cons,List.map_nil,hs,hx,List.length_nil,hr]
  exact hK v W (by simpa using hown) (Fr.refl _ _) (fun g h=>.inl h) hne
 ·obtain ⟨y,r,rfl⟩:=List.exists_cons_of_ne_nil h0
  obtain ⟨b,off,rfl,_⟩:=hat 0 y rfl
  obtain ⟨i0,hi,hz0,hz1,hz2⟩:=info_parts mM.info
  refine wp_append_lies (P:=Tryz.prog) W s x 49 hop 0 9 i0 (.string ⟨#[]⟩) 1 16 mM.under hi hz0 hz1 hz2 mM.cells mM.pos v xs.length (strs xs) hs hown ⟨b,off,none⟩ (y::r).length c (strs (y::r)) hx (by simp [strs]) ?_ (by unfold strs;intro u hu;obtain ⟨z,_,rfl⟩:=List.mem_map.1 hu;rfl) (by simp) (by unfold maxLen;omega) (by omega) (Nat.zero_le _) _ rfl ?_
  ·intro j u hj
   unfold strs at hj
   rw [List.getElem?_map] at hj
   cases hz:(y::r)[j]? with
   | none=>rw [hz] at hj;cases hj
   | some z =>
    rw [hz] at hj
    cases hj
    obtain ⟨b',off',he,hc⟩:=hat j z hz
    cases he
    simpa [Addr.add_lit] using hc
  ·intro g cap w' ho hgr hg' _
   refine hK _ w' ?_ (Fr.grown hgr (fun k hk=>hk)) ?_ (by simp)
   ·rw [List.length_append];unfold strs at *;rw [List.map_append];exact ho
   ·intro g2 h2
    simp [Value.ownBlock] at h2
    subst h2
    exact hg'
theorem uz {W:World} {b:Nat} {n:ByteArray} (h:W.heap[b]?=some (.cells #[.string n] 9 (0,0))):zF W (some ⟨b,0,none⟩) [n]:=by
 intro i x hx
 cases i with
 | zero =>
  simp at hx
  subst hx
  exact ⟨b,0,rfl,by rw [cell_of_row _ _ _ _ _ (0,0) h];rfl⟩
 | succ i=>simp at hx
def LK (T:Nat->Prop) (w:World) (e:List ByteArray) (x:Ending) (w':World):Prop:=∃ o c,x=.returned (.slice o e.length c)/\iE (fun k=>T k∨w.heap.size<=k) w' o e.length e/\ah w w'
theorem Ru {T : Nat -> Prop} {w w4 : World} {v : Value} {L e : List ByteArray} {nm : ByteArray} (ho : w4.ownsRow 0 9 1 v ([] ++ L ++ [nm]).length (strs ([] ++ L ++ [nm]))) (hr : e.reverse = L) (hg : ∀ g, v.ownBlock = some g -> w.heap.size <= g) (hq : ah w w4) (hz : e.length <= 900000) :
    LK T w (nm::e) (.returned v) w4:=by
 subst hr
 simp only [List.nil_append,List.length_append,List.length_reverse,List.length_cons,List.length_nil,Nat.zero_add] at ho
 obtain ⟨g,c,rfl,_,_⟩:=ho.form (by omega)
 refine ⟨_,c,rfl,?_,hq⟩
 have ho':w4.ownsRow 0 9 1 (.slice (some ⟨g,0,none⟩) (e.length+1) c) (e.length+1) (e.reverse.map Value.string++[.string nm]):=by
  have e2:strs (e.reverse++[nm])=e.reverse.map Value.string++[.string nm]:=by simp [strs]
  rw [<-e2];exact ho
 exact iE.Gz (n:=e.length+1) ho' rfl (by unfold maxLen;omega) (.inr (hg g rfl))
theorem LM (h : Nd) (o1 : Option Addr) (l1 c1 : Nat) (o2 : Option Addr) (l2 c2 : Nat) (i : Nat) (T : Nat -> Prop) (e : List ByteArray) (o : Option Addr) (n c : Nat) (w : World) (hN : iE T w o n e) (hz : n <= 900000) :
    Calls Tryz.prog 36 #[bC h o1 l1 c1 o2 l2 c2,.int .i64 (i:Nat),.slice o n c] w (LK T w (dn h.k h.nm i e)):=by
 have HN:=hid hN
 have e1:((i:Int) == 1)=(i == 1):=by rw [Bool.eq_iff_iff,beq_iff_eq,beq_iff_eq];omega
 obtain ⟨W0,hW0⟩:∃ W0,W0=w.alloc (.cells (cells9 h o1 l1 c1 o2 l2 c2) 29):=⟨_,rfl⟩
 have aK:Hid (ah w W0):=by rw [hW0];exact ah.alloc _ _
 have uZ:Hid (∀ W,ah W0 W->bF W w.heap.size 0 h o1 l1 c1 o2 l2 c2):=by
  intro W hq;rw [hW0] at hq;exact FQ w h o1 l1 c1 o2 l2 c2 _ W hq
 have nH:Hid (∀ W,ah W0 W->W.cell? ⟨w.heap.size,1,none⟩=some (.string h.nm)):=fun W hq=>(uZ.out W hq).2.1
 have HZ:Hid (W0.heap.size=w.heap.size+1):=by show _=_;rw [hW0];simp
 cases hb:iq h.k i
 case false =>
  have HE:Hid (dn h.k h.nm i e=e):=by show _=_;unfold dn;rw [hb];rfl
  unfold iq at hb
  simp only [Bool.or_eq_false_iff] at hb
  obtain ⟨⟨h4,h7⟩,h6⟩:=hb
  clear hN
  rw [HE.out]
  have Il:=hid HN.out.1
  unfold bC
  cases h6k:(h.k == 6)
  ·go_enter Tryz.func36,Tryz.ntmps36
   go_upto_region 1 with fail
   rw [<-hW0]
   clear hW0 h6
   obtain ⟨a0,a1,a2,a3,a4,a5,a6,a7,a8⟩:=uZ.out W0 (ah.refl _)
   go_wp2_with fail
   go_ret
   exact ⟨o,c,by rw [<-Il.out];rfl,Il.out ▸ (HN.out.stay aK.out).fr (Fr.refl (fun _=>False) _) (fun k _ h=>⟨.inl h,fun h=>h⟩),aK.out⟩
  ·rw [h6k] at h6
   have h1:(i == 1)=false:=by simpa using h6
   rw [h1] at e1
   go_enter Tryz.func36,Tryz.ntmps36
   go_upto_region 1 with fail
   rw [<-hW0]
   clear hW0 h6
   obtain ⟨a0,a1,a2,a3,a4,a5,a6,a7,a8⟩:=uZ.out W0 (ah.refl _)
   go_wp2_with fail
   go_ret
   exact ⟨o,c,by rw [<-Il.out];rfl,Il.out ▸ (HN.out.stay aK.out).fr (Fr.refl (fun _=>False) _) (fun k _ h=>⟨.inl h,fun h=>h⟩),aK.out⟩
 case true =>
  have HE:Hid (dn h.k h.nm i e=h.nm::e):=by show _=_;unfold dn;rw [hb];rfl
  unfold iq at hb
  have hc:(h.k == 4)=true∨((h.k == 4)=false/\(h.k == 7)=true)∨((h.k == 4)=false/\(h.k == 7)=false/\(h.k == 6)=true/\(i == 1)=true):=by
   cases h4:(h.k == 4)
   ·cases h7:(h.k == 7)
    ·rw [h4,h7] at hb;simp only [Bool.false_or,Bool.and_eq_true] at hb;exact .inr (.inr ⟨rfl,rfl,hb.1,hb.2⟩)
    ·exact .inr (.inl ⟨rfl,rfl⟩)
   ·exact .inl rfl
  have hlen:=hN.1
  have HAT:Hid (zF W0 o e.reverse):=(hN.stay aK.out).str
  have hrl:e.reverse.length=n:=by rw [List.length_reverse,hlen]
  rw [HE.out]
  clear hN hb
  generalize hr:e.reverse=L at *
  have HRL:=hid hr
  have HLEN:=hid hlen
  clear hr
  have ab2:=aK.out.size
  clear hlen
  unfold bC
  rcases hc with h4 | ⟨h4,h7⟩ | ⟨h4,h7,h6,h1⟩
  all_goals
   first | rw [h1] at e1 | skip
   go_enter Tryz.func36,Tryz.ntmps36
   go_upto_region 1 with fail
   rw [<-hW0]
   clear hW0
   obtain ⟨a0,a1,a2,a3,a4,a5,a6,a7,a8⟩:=uZ.out W0 (ah.refl _)
   clear a1 a2 a3 a4 a5 a6 a7 a8
   go_upto_region 2 with fail
   clear a0
   have hqc:=ah.refl W0
   have HLO:Hid (w.heap.size<=W0.heap.size):=ab2
   clear ab2
   go_region_held3 (fun w'=>w'.cell? ⟨w.heap.size,1,none⟩=some (.string h.nm))
    (((refine nH.out _ ?_);(repeat with_reducible first | exact hqc | exact ah.refl _ | refine jq ?_ | refine jr ?_)))
    (first
     | ((refine ji _ rfl (.tmp 24) (.tmp 25) rfl (.slice (some ⟨W0.heap.size,0,none⟩) 0 0) [] rfl ?hown o L n c hrl.symm rfl ?hat ?hbd ?hne ?_);(case hown=>((refine uy ?_);(repeat (first | ((with_reducible refine dM _ _ _ _ ?hbe);(case hbe=>(simp;done))) | with_reducible refine ak (ah.alloc _ _) ?_ | with_reducible refine bT ?_ | fail))));(case hat=>((refine HAT.out.stay ?_);(repeat with_reducible first | exact hqc | exact ah.refl _ | refine jq ?_ | refine jr ?_)));(case hbd=>(simp;omega));(case hne=>simp);intro v3 w3 ho3 hf3 hg3 hn3;(refine fO (w0:=W0) ?hch hf3 ?hlo ?_);(case hch=>(repeat with_reducible first | exact hqc | exact ah.refl _ | refine jq ?_ | refine jr ?_));(case hlo=>(intro k hk;simp [Value.ownBlock] at hk;omega));intro hqc hw3)
     | ((refine ji _ rfl (.tmp 24) (.tmp 25) rfl (.slice (some ⟨W0.heap.size+1,0,none⟩) 0 0) [] rfl ?hown o L n c hrl.symm rfl ?hat ?hbd ?hne ?_);(case hown=>((refine uy ?_);(repeat (first | ((with_reducible refine dM _ _ _ _ ?hbe);(case hbe=>(simp;done))) | with_reducible refine ak (ah.alloc _ _) ?_ | with_reducible refine bT ?_ | fail))));(case hat=>((refine HAT.out.stay ?_);(repeat with_reducible first | exact hqc | exact ah.refl _ | refine jq ?_ | refine jr ?_)));(case hbd=>(simp;omega));(case hne=>simp);intro v3 w3 ho3 hf3 hg3 hn3;(refine fO (w0:=W0) ?hch hf3 ?hlo ?_);(case hch=>(repeat with_reducible first | exact hqc | exact ah.refl _ | refine jq ?_ | refine jr ?_));(case hlo=>(intro k hk;simp [Value.ownBlock] at hk;omega));intro hqc hw3)
     | ((refine ji _ rfl (.tmp 26) (.tmp 29) rfl v3 ([]++L) rfl ?hown (some ⟨W0.heap.size,0,none⟩) [h.nm] 1 1 rfl rfl ?hat ?hbd hn3 ?_);(case hown=>(first | with_reducible exact ho3 | with_reducible exact ho3.alloc _ | fail));(case hat=>((refine uz ?_);(repeat (first | ((with_reducible refine dM _ _ _ _ ?hbe);(case hbe=>(simp;done))) | with_reducible refine ak (ah.alloc _ _) ?_ | with_reducible refine bT ?_ | ((with_reducible refine ay hf3 ?pJ ?_);(case pJ=>(simp [Value.ownBlock];done))) | ((with_reducible refine ay hf3 ?pJ ?_);(case pJ=>(simp [Value.ownBlock];omega))) | fail))));(case hbd=>(simp;omega));intro v4 w4 kX hf4 hg4 hn4;(refine fO (w0:=W0) ?hch hf4 ?hlo ?_);(case hch=>(repeat with_reducible first | exact hqc | exact ah.refl _ | refine jq ?_ | refine jr ?_));(case hlo=>(intro k hk;rcases hg3 k hk with h | h;(simp [Value.ownBlock] at h;omega);(simp at h;omega)));intro hqc hw4)
     | ((refine ji _ rfl (.tmp 26) (.tmp 29) rfl v3 ([]++L) rfl ?hown (some ⟨W0.heap.size+1,0,none⟩) [h.nm] 1 1 rfl rfl ?hat ?hbd hn3 ?_);(case hown=>(first | with_reducible exact ho3 | with_reducible exact ho3.alloc _ | fail));(case hat=>((refine uz ?_);(repeat (first | ((with_reducible refine dM _ _ _ _ ?hbe);(case hbe=>(simp;done))) | with_reducible refine ak (ah.alloc _ _) ?_ | with_reducible refine bT ?_ | ((with_reducible refine ay hf3 ?pJ ?_);(case pJ=>(simp [Value.ownBlock];done))) | ((with_reducible refine ay hf3 ?pJ ?_);(case pJ=>(simp [Value.ownBlock];omega))) | fail))));(case hbd=>(simp;omega));intro v4 w4 kX hf4 hg4 hn4;(refine fO (w0:=W0) ?hch hf4 ?hlo ?_);(case hch=>(repeat with_reducible first | exact hqc | exact ah.refl _ | refine jq ?_ | refine jr ?_));(case hlo=>(intro k hk;rcases hg3 k hk with h | h;(simp [Value.ownBlock] at h;omega);(simp at h;omega)));intro hqc hw4)
     | ((refine ji _ rfl (.tmp 26) (.tmp 29) rfl v3 ([]++L) rfl ?hown (some ⟨w3.heap.size,0,none⟩) [h.nm] 1 1 rfl rfl ?hat ?hbd hn3 ?_);(case hown=>(first | with_reducible exact ho3 | with_reducible exact ho3.alloc _ | fail));(case hat=>((refine uz ?_);(repeat (first | ((with_reducible refine dM _ _ _ _ ?hbe);(case hbe=>(simp;done))) | with_reducible refine ak (ah.alloc _ _) ?_ | with_reducible refine bT ?_ | ((with_reducible refine ay hf3 ?pJ ?_);(case pJ=>(simp [Value.ownBlock];done))) | ((with_reducible refine ay hf3 ?pJ ?_);(case pJ=>(simp [Value.ownBlock];omega))) | fail))));(case hbd=>(simp;omega));intro v4 w4 kX hf4 hg4 hn4;(refine fO (w0:=W0) ?hch hf4 ?hlo ?_);(case hch=>(repeat with_reducible first | exact hqc | exact ah.refl _ | refine jq ?_ | refine jr ?_));(case hlo=>(intro k hk;rcases hg3 k hk with h | h;(simp [Value.ownBlock] at h;omega);(simp at h;omega)));intro hqc hw4)
     | fail)
   all_goals
    go_wp2_with fail
    go_ret
    have hl0:=HLO.out
    exact Ru kX HRL.out (fun g hg=>by
     rcases hg4 g hg with h | h
     ·rcases hg3 g h with h | h
      ·simp [Value.ownBlock] at h;omega
      ·first | omega | (simp at h;omega)
     ·first | omega | (simp at h;omega)) (aK.out.trans hqc) (by have:=HLEN.out;omega)
end Sc
end
section
open Go.RowKit
section
variable {P:Program}
theorem Dp (w : World) (t ty e : TypeId) (z : Value) (size bytes : Nat) (he : Elem P t e z size bytes) (v : Value) (n : Nat) (xs : List Value) (hown : w.ownsRow 0 e size v n xs)
    (o:Option Addr) (m c:Nat) (news:List Value) (hl:news.length=m * size) (hnews:∀ j u,news[j]?=some u->∃ a,o=some a/\w.cell? (a.add j)=some u) (h1:∀ u∈news,u.oneCell'=true) (b1:n+m<=maxLen) (b2:(n+m) * bytes<=140737488355328) :
    ∃ o' c' w',(Builtin.append_ #[t,t] ty #[v,.slice o m c]).run P w=.ok (.slice o' (n+m) c') w'/\w'.ownsRow 0 e size (.slice o' (n+m) c') (n+m) (xs++news)/\Fr (fun k=>v.ownBlock=some k) w w'/\((Value.slice o' (n+m) c').ownBlock=v.ownBlock∨(Value.slice o' (n+m) c').ownBlock=some w.heap.size)/\((Value.slice o' (n+m) c')=.slice none 0 0↔v=.slice none 0 0/\m=0):=by
 obtain ⟨i0,hi,hz0,hz1,hz2⟩:=info_parts he.info
 have form:∀ {w':World} {v':Value} {k:Nat} {ys:List Value},w'.ownsRow 0 e size v' k ys->∃ o' c',v'=.slice o' k c':=by
  intro w' v' k ys h
  rcases h.2 with ⟨rfl,rfl⟩ | ⟨g,cap,cur,rfl,_⟩
  ·exact ⟨none,0,rfl⟩
  ·exact ⟨some ⟨g,0,none⟩,cap,rfl⟩
 by_cases hm:m=0
 ·subst hm
  have hn:news=[]:=List.eq_nil_of_length_eq_zero (by simpa using hl)
  subst hn
  obtain ⟨o',c',hv⟩:=form hown
  refine ⟨o',c',w,?_,by rw [Nat.add_zero,<-hv,List.append_nil];exact hown,Fr.refl _ _,.inl (by rw [Nat.add_zero,<-hv]),by rw [Nat.add_zero,<-hv];simp⟩
  rw [Nat.add_zero]
  rcases hown.2 with ⟨rfl,h0⟩ | ⟨g,cap,cur,hvg,_,hg,hc,_⟩
  ·injection hv with e1 e2 e3
   subst e1 e2 e3
   cases o<;>simp [Builtin.append_,run_underlying he.under,sizeOf,typeInfo,hi,Builtin.lenOf,Builtin.firstCells,loadCells,loadCellsFrom]
  ·rw [hvg] at hv ⊢
   injection hv with e1 e2 e3
   subst e1 e3
   cases o<;>simp [Builtin.append_,run_underlying he.under,sizeOf,typeInfo,hi,Builtin.lenOf,Builtin.firstCells,loadCells,loadCellsFrom,storeCells,hc]
 ·have hne:0 < news.length:=by rw [hl];exact Nat.mul_pos (by omega) he.pos
  obtain ⟨a,ha,_⟩:=hnews 0 news[0] (List.getElem?_eq_getElem hne)
  subst ha
  obtain ⟨v',w',hr,h2,h3,h4,h5⟩:=run_append_own_at (P:=P) w 0 t ty e i0 z size bytes he.under hi hz0 hz1 hz2 he.cells he.pos v n xs hown a m c news hl (fun j u hu=>by obtain ⟨a',e',hc⟩:=hnews j u hu;cases e';exact hc) h1 b1 b2 (Nat.zero_le _)
  obtain ⟨o',c',rfl⟩:=form h2
  exact ⟨o',c',w',hr,h2,Fr.grown h3 (fun k hk=>hk),h5,h4⟩
theorem vI {o : Oper} {a : Act} {K : Act -> World -> Prop} {Q : Exit -> Act -> World -> Prop} (W : World) (s x : Operand) (t : TypeId)
    (ho:o.op=.call { callee:=.builtin .append,args:=#[s,x],argTypes:=#[t,t] })
    (e:TypeId) (z:Value) (size bytes:Nat) (he:Elem P t e z size bytes) (v:Value) (n:Nat) (xs:List Value) (hs:a.eval s=v) (hown:W.ownsRow 0 e size v n xs)
    (oa:Option Addr) (m c:Nat) (news:List Value) (hx:a.eval x=.slice oa m c) (hl:news.length=m * size) (hnews:∀ j u,news[j]?=some u->∃ a,oa=some a/\W.cell? (a.add j)=some u) (h1:∀ u∈news,u.oneCell'=true) (b1:n+m<=maxLen) (b2:(n+m) * bytes<=140737488355328)
    (hK:∀ o' c' w',w'.ownsRow 0 e size (.slice o' (n+m) c') (n+m) (xs++news)->Fr (fun k=>v.ownBlock=some k) W w'->((Value.slice o' (n+m) c').ownBlock=v.ownBlock∨(Value.slice o' (n+m) c').ownBlock=some W.heap.size)->((Value.slice o' (n+m) c')=.slice none 0 0↔v=.slice none 0 0/\m=0)->K (a.put o.dst (.slice o' (n+m) c')) w') :
    o.wp P a W K Q:=by
 obtain ⟨o',c',w',hr,h2,h3,h4,h5⟩:=Dp (P:=P) W t o.type e z size bytes he v n xs hown oa m c news hl hnews h1 b1 b2
 unfold Oper.wp execOp
 simp only [ho,resolve,invoke,builtin,Sem.run_bind,Sem.run_pure,Result.andThen_ok,List.map_toArray,List.map_cons,List.map_nil,hs,hx,hr]
 exact hK o' c' w' h2 h3 h4 h5
theorem gK {ops : Array Oper} {rest : List Oper} {o : Oper} {a : Act} {Q : Exit -> Act -> World -> Prop} (W : World) (hg : o.guard = none) (s x : Operand) (t : TypeId)
    (ho:o.op=.call { callee:=.builtin .append,args:=#[s,x],argTypes:=#[t,t] })
    (e:TypeId) (z:Value) (size bytes:Nat) (he:Elem P t e z size bytes) (v:Value) (n:Nat) (xs:List Value) (hs:a.eval s=v) (hown:W.ownsRow 0 e size v n xs)
    (oa:Option Addr) (m c:Nat) (news:List Value) (hx:a.eval x=.slice oa m c) (hl:news.length=m * size) (hnews:∀ j u,news[j]?=some u->∃ a,oa=some a/\W.cell? (a.add j)=some u) (h1:∀ u∈news,u.oneCell'=true) (b1:n+m<=maxLen) (b2:(n+m) * bytes<=140737488355328)
    (hK:∀ o' c' w',w'.ownsRow 0 e size (.slice o' (n+m) c') (n+m) (xs++news)->Fr (fun k=>v.ownBlock=some k) W w'->((Value.slice o' (n+m) c').ownBlock=v.ownBlock∨(Value.slice o' (n+m) c').ownBlock=some W.heap.size)->((Value.slice o' (n+m) c')=.slice none 0 0↔v=.slice none 0 0/\m=0)->wpList P ops Q rest (a.put o.dst (.slice o' (n+m) c')) w') :
    wpList P ops Q (o::rest) a W :=
 wpList_plain hg fun _ hK'=>vI W s x t ho e z size bytes he v n xs hs hown oa m c news hx hl hnews h1 b1 b2 fun o' c' w' h2 h3 h4 h5=>hK' _ _ (hK o' c' w' h2 h3 h4 h5)
theorem aJ {ops : Array Oper} {o : Oper} {a : Act} {K : Act -> World -> Prop} {Q : Exit -> Act -> World -> Prop} {E : Prop} (W : World) (hg : o.guard = none) (s x : Operand) (t : TypeId)
    (ho:o.op=.call { callee:=.builtin .append,args:=#[s,x],argTypes:=#[t,t] })
    (e:TypeId) (z:Value) (size bytes:Nat) (he:Elem P t e z size bytes) (v:Value) (n:Nat) (xs:List Value) (hs:a.eval s=v) (hown:W.ownsRow 0 e size v n xs)
    (oa:Option Addr) (m c:Nat) (news:List Value) (hx:a.eval x=.slice oa m c) (hl:news.length=m * size) (hnews:∀ j u,news[j]?=some u->∃ a,oa=some a/\W.cell? (a.add j)=some u) (h1:∀ u∈news,u.oneCell'=true) (b1:n+m<=maxLen) (b2:(n+m) * bytes<=140737488355328)
    (hK:∀ o' c' w',w'.ownsRow 0 e size (.slice o' (n+m) c') (n+m) (xs++news)->Fr (fun k=>v.ownBlock=some k) W w'->((Value.slice o' (n+m) c').ownBlock=v.ownBlock∨(Value.slice o' (n+m) c').ownBlock=some W.heap.size)->((Value.slice o' (n+m) c')=.slice none 0 0↔v=.slice none 0 0/\m=0)->K (a.put o.dst (.slice o' (n+m) c')) w') :
    if Region.wanted o (yielded ops a.tmps)=true then Oper.wp P o a W K Q else E:=by
 rw [if_pos (by unfold Region.wanted;rw [hg])]
 exact vI W s x t ho e z size bytes he v n xs hs hown oa m c news hx hl hnews h1 b1 b2 hK
end
end
section
open Go.RowKit
def uq:List Value->List Nd->Prop
 | xs,[]=>xs=[]
 | xs,h::r=>∃ o1 l1 c1 o2 l2 c2 ys,xs=(cells9 h o1 l1 c1 o2 l2 c2).toList++ys/\uq ys r
theorem uq.app:∀ (l l':List Nd) (xs ys:List Value),uq xs l->uq ys l'->uq (xs++ys) (l++l')
 | [],l',xs,ys,h,h'=>by cases h;exact h'
 | t::r,l',xs,ys,h,h'=>by
  obtain ⟨o1,l1,c1,o2,l2,c2,zs,rfl,hr⟩:=h
  exact ⟨o1,l1,c1,o2,l2,c2,_,by rw [List.append_assoc],uq.app r l' zs ys hr h'⟩
theorem uq.get:∀ (l:List Nd) (xs:List Value) (i:Nat) (t:Nd),uq xs l->l[i]?=some t->∃ o1 l1 c1 o2 l2 c2,∀ j,j < 9->xs[i * 9+j]?=(cells9 t o1 l1 c1 o2 l2 c2)[j]?
 | [],xs,i,t,_,h=>by simp at h
 | u::r,xs,0,t,h,hi=>by
  obtain ⟨o1,l1,c1,o2,l2,c2,ys,rfl,hr⟩:=h
  simp at hi;subst hi
  refine ⟨o1,l1,c1,o2,l2,c2,fun j hj=>?_⟩
  rw [Nat.zero_mul,Nat.zero_add,List.getElem?_append_left (by simpa using hj)]
  simp
 | u::r,xs,i+1,t,h,hi=>by
  obtain ⟨o1,l1,c1,o2,l2,c2,ys,rfl,hr⟩:=h
  obtain ⟨p1,m1,d1,p2,m2,d2,hj⟩:=uq.get r ys i t hr (by simpa using hi)
  refine ⟨p1,m1,d1,p2,m2,d2,fun j hj'=>?_⟩
  rw [List.getElem?_append_right (by simp;omega),<-hj j hj']
  congr 1
  simp;omega
theorem uq.one:∀ (l:List Nd) (xs:List Value),uq xs l->∀ u∈xs,u.oneCell'=true
 | [],xs,h,u,hu=>by cases h;simp at hu
 | t::r,xs,h,u,hu=>by
  obtain ⟨o1,l1,c1,o2,l2,c2,ys,rfl,hr⟩:=h
  rcases List.mem_append.1 hu with h | h
  ·simp at h
   rcases h with h | h | h | h | h | h | h | h | h<;>subst h<;>rfl
  ·exact uq.one r ys hr u h
def jh (B:Nat) (W:World) (o:Option Addr) (c:Nat) (l:List Nd) (xs:List Value):Prop :=
 W.ownsRow 0 29 9 (.slice o l.length c) l.length xs/\uq xs l/\∀ k,(Value.slice o l.length c).ownBlock=some k->B<=k
theorem jh.stay {B:Nat} {W W':World} {o:Option Addr} {c:Nat} {l:List Nd} {xs:List Value} (h:jh B W o c l xs) (hq:ah W W'):jh B W' o c l xs :=
 ⟨aZ h.1 hq (fun _ _ h=>h),h.2⟩
def Xo (w:World) (o:Option Addr) (l:List Nd):Prop:=∀ i t,l[i]?=some t->∃ b off o1 l1 c1 o2 l2 c2,o=some ⟨b,off,none⟩/\bF w b (off+i * 9) t o1 l1 c1 o2 l2 c2
theorem jh.heads {B:Nat} {W:World} {o:Option Addr} {c:Nat} {l:List Nd} {xs:List Value} (h:jh B W o c l xs):Xo W o l:=by
 intro i t ht
 rcases h.1.2 with ⟨_,h0⟩ | ⟨g,cap',cur,he,_⟩
 ·rw [List.length_eq_zero_iff.1 h0] at ht;simp at ht
 ·injection he with h1 h2 h3
  subst h1
  obtain ⟨o1,l1,c1,o2,l2,c2,hj⟩:=uq.get l xs i t h.2.1 ht
  have hc:∀ j,j < 9->W.cell? ⟨g,i * 9+j,none⟩=(cells9 t o1 l1 c1 o2 l2 c2)[j]?:=by
   intro j h8
   have e:=hj j h8
   rw [Array.getElem?_eq_getElem (by simpa using h8)] at e ⊢
   have:=h.1.cells (g:=g) rfl (i * 9+j) _ e
   simpa [Addr.add_lit] using this
  refine ⟨g,0,o1,l1,c1,o2,l2,c2,rfl,?_⟩
  rw [Nat.zero_add]
  exact ⟨hc 0 (by omega),hc 1 (by omega),hc 2 (by omega),hc 3 (by omega),hc 4 (by omega),hc 5 (by omega),hc 6 (by omega),hc 7 (by omega),hc 8 (by omega)⟩
def hds (f:To):List Nd:=f.flat.map (·.1)
def Eo (w:World) (l:List Nd) (e:Ending) (w':World):Prop:=∃ o c xs,e=.returned (.slice o l.length c)/\jh w.heap.size w' o c l xs/\ah w w'
end
section
open Go.RowKit
namespace Sc
theorem UN {w0 W w3:World} {S:Nat->Prop} {G:Prop} (h:ah w0 W) (hf:Fr S W w3) (k:Fr S w0 w3->G):G:=k ((ah.fr h).trans hf)
theorem Dq (B:Nat) (W:World):jh B W none 0 [] []:=⟨World.ownsRow_nil _ _ _ _,rfl,fun k hk=>(by cases hk)⟩
theorem GK {B:Nat} {W W':World} {o:Option Addr} {c:Nat} {l:List Nd} {xs:List Value} {S:Nat->Prop} (h:jh B W o c l xs) (hf:Fr S W W') (hS:∀ k,(Value.slice o l.length c).ownBlock=some k->¬ S k):jh B W' o c l xs :=
 ⟨aZ h.1 hf hS,h.2⟩
theorem Dt {B B':Nat} {W:World} {o:Option Addr} {c:Nat} {l:List Nd} {xs:List Value} (h:jh B W o c l xs) (hB:B'<=B):jh B' W o c l xs :=
 ⟨h.1,h.2.1,fun k hk=>Nat.le_trans hB (h.2.2 k hk)⟩
theorem LP {B:Nat} {W:World} {o:Option Addr} {c:Nat} {l:List Nd} {xs:List Value} (h:jh B W o c l xs):∀ j u,xs[j]?=some u->∃ a,o=some a/\W.cell? (a.add j)=some u:=by
 intro j u hu
 rcases h.1.2 with ⟨_,h2⟩ | ⟨g,cap',cur,he,_⟩
 ·have hx:=h.2.1
  rw [List.length_eq_zero_iff.1 h2] at hx
  have:xs=[]:=hx
  subst this
  simp at hu
 ·injection he with h1 h2 h3
  subst h1
  exact ⟨_,rfl,h.1.cells rfl j u hu⟩
theorem Qd {ops : Array Oper} {op : Oper} {a : Act} {K : Act -> World -> Prop} {Q : Exit -> Act -> World -> Prop} {E : Prop} (W : World) (hg : op.guard = none) (s x : Operand)
    (hop:op.op=Op.call { callee:=Callee.builtin Builtin.append,args:=#[s,x],argTypes:=#[25,25] }) {B:Nat} {Wb:World}
    (o:Option Addr) (n c:Nat) (l:List Nd) (xs:List Value) (hs:a.eval s=.slice o n c) (hln:l.length=n) (hrow:jh B W o c l xs) (q:Option Addr) (m d:Nat) (l':List Nd) (ys:List Value) (hx:a.eval x=.slice q m d) (hlm:l'.length=m) (hrow2:jh 0 W q d l' ys)
    (hq:ah Wb W) (hB:B<=Wb.heap.size) (hb:n+m<=1000000)
    (hK:∀ o3 c3 w3,jh B w3 o3 c3 (l++l') (xs++ys)->Fr (fun k=>(Value.slice o n c).ownBlock=some k) W w3->K (a.put op.dst (.slice o3 (n+m) c3)) w3) :
    if Region.wanted op (yielded ops a.tmps)=true then Oper.wp Tryz.prog op a W K Q else E:=by
 subst hln
 subst hlm
 refine aJ W hg s x 25 hop 29 _ 9 112 vU (.slice o l.length c) l.length xs hs hrow.1 q l'.length d ys hx hrow2.1.1 (LP hrow2) (uq.one _ _ hrow2.2.1) (by unfold maxLen;omega) (by omega) ?_
 intro o3 c3 w3 ho hf hob hnil
 refine hK o3 c3 w3 ⟨by rw [List.length_append];exact ho,uq.app _ _ _ _ hrow.2.1 hrow2.2.1,?_⟩ hf
 rw [List.length_append]
 intro k hk
 have hz:=hq.size
 rcases hob with h | h
 ·exact hrow.2.2 k (by rw [<-h];exact hk)
 ·rw [h] at hk;cases hk;omega
end Sc
end
section
open Go.RowKit
theorem Xp:∀ args w,(callFunc 87 args).run Tryz.prog w=.ok (.enter 87 args) w:=enters_of Tryz.func87 (by kernel_rfl) rfl
def UO (k n:Int) (ps:Fo):Prop:=∀ (k' n':Int) (ps':Fo) (w:World) (o:Option Addr) (len cap:Nat) (o':Option Addr) (len' cap':Nat),qm w o len ps->qm w o' len' ps' ->
 Calls Tryz.prog 87 #[kL k n o len cap,kL k' n' o' len' cap'] w fun e w'=>e=.returned (.bool (gJ k n ps k' n' ps'))/\ah w w'
theorem Ef (ps ps' : Fo) (ih : ∀ i k n qs, ps.get i = some (k, n, qs) -> UO k n qs) (w : World) (o : Option Addr) (len cap : Nat) (o' : Option Addr) (len' cap' : Nat) (hs : qm w o len ps) (hs' : qm w o' len' ps') :
    Calls Tryz.prog 110 #[.slice o len cap,.slice o' len' cap',.func (.func 87) #[] #[]] w fun e w'=>e=.returned (.bool (ps.same ps'))/\ah w w':=by
 have HS:=hid hs
 have HS':=hid hs'
 have IH:=hid ih
 have HL:=hid hs.1
 have HL':=hid hs'.1
 have hmx:=hs.2.1
 unfold maxLen at hmx
 have eg:=Xp
 clear hs hs' ih
 obtain ⟨res,hres⟩:∃ res,res=ps.same ps':=⟨_,rfl⟩
 have aW:=hid hres
 rw [<-hres]
 clear hres
 by_cases hlen:len=len'
 ·subst hlen
  have b3:((len:Int) != (len:Int))=false:=by simp
  go_enter Tryz.func110,Tryz.ntmps110
  go_wp2_with fail
  go_loopw [17] (fun t wr=>∃ (i:Nat),t=.int .i64 i/\i<=len/\res=(ps.drop i).same (ps'.drop i)/\ah w wr) (fun t _=>len - (intOf t).toNat)
  case atStart=>exact ⟨0,rfl,Nat.zero_le _,by rw [Fo.drop_zero,Fo.drop_zero];exact aW.out,ah.refl _⟩
  case round =>
   obtain ⟨i,rfl,hi,hr,hq⟩:=hrel
   have HR:=hid hr
   have HQ:=hid hq
   clear hr hq
   by_cases hlt:i < len
   ·have hlt':(i:Int) < len:=by omega
    obtain ⟨b,off,k1,n1,ZU,o1,len1,cap1,rfl,hd1,hg1,e0,e1,e2,hs1⟩:=(HS.out.stay HQ.out).nth hlt
    obtain ⟨b2,off2,k2,n2,rX,o2,len2,cap2,rfl,hd2,hg2,f0,f1,f2,hs2⟩:=(HS'.out.stay HQ.out).nth hlt
    have hbl:=World.block_lt_of_cell? _ _ e0
    have adz:=World.block_lt_of_cell? _ _ f0
    have HC:=hid (fun (W:World) (hq:ah wr W)=>IH.out i k1 n1 ZU hg1 k2 n2 rX W o1 len1 cap1 o2 len2 cap2 (hs1.stay hq) (hs2.stay hq))
    have HN:Hid (res=(gJ k1 n1 ZU k2 n2 rX && (ps.drop (i+1)).same (ps'.drop (i+1)))):=by
     show _=_
     rw [HR.out,hd1,hd2,Fg]
    unfold kL at HC
    clear hd1 hg1 hs1 hd2 hg2 hs2
    cases hb:gJ k1 n1 ZU k2 n2 rX
    all_goals
     have Lu:=hid hb
     rw [hb] at HC
     clear hb
     go_wp2_with fail
     refine (HC.out _ ((ah.alloc _ _).trans (ah.alloc _ _))).mono ?_;rintro e w1 ⟨rfl,hq1⟩
     have bI:=hid (HQ.out.trans (((ah.alloc _ _).trans (ah.alloc _ _)).trans hq1))
     clear hq1
     go_wp2_with fail
    ·go_ret
     exact ⟨by rw [HN.out,Lu.out];rfl,bI.out⟩
    ·go_roundw
     case rel=>exact ⟨i+1,by go_num,by omega,by rw [HN.out,Lu.out];rfl,bI.out⟩
     case measure=>simp [intOf];omega
   ·have hlt':¬ (i:Int) < len:=by omega
    have HY:Hid (res=true):=by
     show _=_
     rw [HR.out,Fo.drop_end ps i (by have:=HL.out;omega),Fo.drop_end ps' i (by have:=HL'.out;omega)];rfl
    go_wp2_with fail
    go_ret
    exact ⟨by rw [HY.out];rfl,HQ.out⟩
 ·have HF : Hid (res = false) := by
    show _=_
    rw [aW.out]
    cases h:ps.same ps'
    ·rfl
    ·exact absurd (Fo.same_length _ _ h) (by have:=HL.out;have:=HL'.out;omega)
  have b3:((len:Int) != (len':Int))=true:=by simp;omega
  go_enter Tryz.func110,Tryz.ntmps110
  go_wp2_with fail
  go_ret
  exact ⟨by rw [HF.out];rfl,ah.refl _⟩
theorem UQ (k n:Int) (ps:Fo):UO k n ps:=by
 refine Fo.qE (T:=UO) ?_ k n ps
 intro k n ps ih k' n' ps' w o len cap o' len' cap' hs hs'
 have HC:=hid (fun (W:World) (hq:ah w W)=>Ef ps ps' ih W o len cap o' len' cap' (hs.stay hq) (hs'.stay hq))
 unfold gJ
 clear hs hs' ih
 generalize ps.same ps'=r at *
 cases hk:(k == k')
 ·unfold kL
  go_enter Tryz.func87,Tryz.ntmps87
  go_wp2_with fail
  go_ret
  exact ⟨rfl,(ah.alloc _ _).trans (ah.alloc _ _)⟩
 ·cases hn:(n == n')
  ·unfold kL
   go_enter Tryz.func87,Tryz.ntmps87
   go_wp2_with fail
   go_ret
   exact ⟨rfl,(ah.alloc _ _).trans (ah.alloc _ _)⟩
  ·unfold kL
   go_enter Tryz.func87,Tryz.ntmps87
   go_wp2_with fail
   refine (HC.out _ ((ah.alloc _ _).trans (ah.alloc _ _))).mono ?_;rintro e w1 ⟨rfl,hq1⟩
   go_wp2_with fail
   go_ret
   exact ⟨by simp,((ah.alloc _ _).trans (ah.alloc _ _)).trans hq1⟩
end
section
namespace Sc
def J3 (k:Int):Bool:=k == 1 || oC k
def okF:To->Prop
 | .nil=>True
 | .cons h ps r=>(h.k=1->ps=.nil)/\(J3 h.k=false->h.nm=ByteArray.empty)/\okF ps/\okF r
end Sc
end
section
namespace Lx
open Go.RowKit
theorem qR (x:UInt8) (n:Nat) (hn:n < 256):(x == UInt8.ofNat n)=decide (x.toNat=n):=by
 rw [Bool.eq_iff_iff,beq_iff_eq,decide_eq_true_eq]
 constructor
 ·intro h;rw [h];simp;omega
 ·intro h;rw [<-h];simp
theorem BQ (x:UInt8):x.toNat < 256:=x.toNat_lt
theorem fP (x:UInt8):dU x=(decide ((97:Int)<=(x.toNat:Int)) && decide ((x.toNat:Int)<=122)):=by
 unfold dU;congr 1<;>(rw [Bool.eq_iff_iff];simp;omega)
theorem xX (x:UInt8):dJ x=(decide ((48:Int)<=(x.toNat:Int)) && decide ((x.toNat:Int)<=57)):=by
 unfold dJ;congr 1<;>(rw [Bool.eq_iff_iff];simp;omega)
theorem SB (x:UInt8):kZ x=(((x.toNat:Int) == 32) || ((x.toNat:Int) == 9) || ((x.toNat:Int) == 10) || ((x.toNat:Int) == 13)):=by
 unfold kZ
 rw [show (32:UInt8)=UInt8.ofNat 32 from rfl,show (9:UInt8)=UInt8.ofNat 9 from rfl,show (10:UInt8)=UInt8.ofNat 10 from rfl,show (13:UInt8)=UInt8.ofNat 13 from rfl]
 rw [qR _ _ (by omega),qR _ _ (by omega),qR _ _ (by omega),qR _ _ (by omega)]
 rw [Bool.eq_iff_iff];simp;omega
theorem Jp (x:UInt8):(x == 95)=((x.toNat:Int) == 95):=by
 rw [show (95:UInt8)=UInt8.ofNat 95 from rfl,qR _ _ (by omega),Bool.eq_iff_iff];simp;omega
theorem WA (x:UInt8):mO x=((x.toNat:Int) != 10):=by
 unfold mO
 rw [show (10:UInt8)=UInt8.ofNat 10 from rfl,qR _ _ (by omega),Bool.eq_iff_iff];simp;omega
def Du (g:Nat) (p:UInt8->Bool):Prop:=∀ (x:UInt8) (w:World),Calls Tryz.prog g #[.int .u8 (x.toNat:Int)] w fun e w'=>e=.returned (.bool (p x))/\w=w'
theorem Fv:Du 106 dU:=by
 intro x w
 have hb:=BQ x
 by_cases h1:(97:Int)<=(x.toNat:Int)
 ·go_enter Tryz.func106,Tryz.ntmps106
  go_wp2
  go_ret
  exact ⟨by rw [fP];(first | (simp [h1];done) | (simp [h1];omega)),rfl⟩
 ·go_enter Tryz.func106,Tryz.ntmps106
  go_wp2
  go_ret
  exact ⟨by rw [fP];(first | (simp;done) | (simp;omega)),rfl⟩
theorem vV:Du 75 dU:=by
 intro x w
 have hb:=BQ x
 by_cases h1:(97:Int)<=(x.toNat:Int)
 ·go_enter Tryz.func75,Tryz.ntmps75
  go_wp2
  go_ret
  exact ⟨by rw [fP];(first | (simp [h1];done) | (simp [h1];omega)),rfl⟩
 ·go_enter Tryz.func75,Tryz.ntmps75
  go_wp2
  go_ret
  exact ⟨by rw [fP];(first | (simp;done) | (simp;omega)),rfl⟩
theorem Qe:Du 123 dJ:=by
 intro x w
 have hb:=BQ x
 by_cases h1:(48:Int)<=(x.toNat:Int)
 ·go_enter Tryz.func123,Tryz.ntmps123
  go_wp2
  go_ret
  exact ⟨by rw [xX];(first | (simp [h1];done) | (simp [h1];omega)),rfl⟩
 ·go_enter Tryz.func123,Tryz.ntmps123
  go_wp2
  go_ret
  exact ⟨by rw [xX];(first | (simp;done) | (simp;omega)),rfl⟩
theorem qV:Du 78 dJ:=by
 intro x w
 have hb:=BQ x
 by_cases h1:(48:Int)<=(x.toNat:Int)
 ·go_enter Tryz.func78,Tryz.ntmps78
  go_wp2
  go_ret
  exact ⟨by rw [xX];(first | (simp [h1];done) | (simp [h1];omega)),rfl⟩
 ·go_enter Tryz.func78,Tryz.ntmps78
  go_wp2
  go_ret
  exact ⟨by rw [xX];(first | (simp;done) | (simp;omega)),rfl⟩
theorem Qg:Du 108 bg:=by
 intro x w
 have hb:=BQ x
 cases h1:dU x<;>cases h2:dJ x
 all_goals
  have H1:=hid h1
  have H2:=hid h2
  clear h1 h2
  go_enter Tryz.func108,Tryz.ntmps108
  go_wp2_with fail
  refine (Fv x _).mono ?_;rintro e w' ⟨rfl,rfl⟩
  rw [H1.out]
  go_wp2_with fail
  try (refine (Qe x _).mono ?_;rintro e w' ⟨rfl,rfl⟩;rw [H2.out];go_wp2_with fail)
  go_ret
  exact ⟨by unfold bg;rw [H1.out,H2.out,Jp];simp,rfl⟩
theorem nU:Du 76 bg:=by
 intro x w
 have hb:=BQ x
 cases h1:dU x<;>cases h2:dJ x
 all_goals
  have H1:=hid h1
  have H2:=hid h2
  clear h1 h2
  go_enter Tryz.func76,Tryz.ntmps76
  go_wp2_with fail
  refine (vV x _).mono ?_;rintro e w' ⟨rfl,rfl⟩
  rw [H1.out]
  go_wp2_with fail
  try (refine (qV x _).mono ?_;rintro e w' ⟨rfl,rfl⟩;rw [H2.out];go_wp2_with fail)
  go_ret
  exact ⟨by unfold bg;rw [H1.out,H2.out,Jp];simp,rfl⟩
theorem drop_byte (s:ByteArray) (k:Nat) (h:k < s.size):s.data.toList.drop k=s[k]::s.data.toList.drop (k+1):=by
 rw [List.drop_eq_getElem_cons (by simpa using h)];rfl
theorem drop_end (s:ByteArray) (k:Nat) (h:s.size<=k):s.data.toList.drop k=[]:=by
 rw [List.drop_eq_nil_iff];simpa using h
theorem eH (p:UInt8->Bool) (c:UInt8) (r:List UInt8):bU p (c::r)=if p c then bU p r+1 else 0:=rfl
theorem bH (s:ByteArray):s.data.toList.length=s.size:=by simp
theorem run_any (g : Nat) (p : UInt8 -> Bool) (eg : ∀ args w, (callFunc g args).run Tryz.prog w = .ok (.enter g args) w) (hp : Du g p) (s : ByteArray) (k : Nat) (ki : Int) (ek : ki = k) (hk : k <= s.size) (hs : s.size <= maxLen) (w : World) :
    Calls Tryz.prog 107 #[.string s,.int .i64 ki,.func (.func g) #[] #[]] w fun e w'=>e=.returned (.int .i64 (bU p (s.data.toList.drop k):Nat))/\w=w':=by
 subst ek
 unfold maxLen at hs
 have HP:=hid hp
 clear hp
 go_enter Tryz.func107,Tryz.ntmps107
 go_wp2
 go_loop [7] (fun t=>∃ n:Nat,t=.int .i64 n/\k+n<=s.size/\bU p (s.data.toList.drop k)=n+bU p (s.data.toList.drop (k+n))) (fun t=>s.size - k - (intOf t).toNat)
 case atStart=>exact ⟨0,rfl,by omega,by simp⟩
 case round =>
  obtain ⟨n,rfl,hn,he⟩:=hrel
  have HE:=hid he
  clear he
  by_cases hlt:k+n < s.size
  ·have hd:=hid (drop_byte s (k+n) hlt)
   have hlt':(k:Int)+n < s.size:=by omega
   cases hx:p s[k+n]
   all_goals
    have HX:=hid hx
    clear hx
    go_wp2_with fail
    have HPX:=HP.out s[k+n] w
    rw [HX.out] at HPX
    refine HPX.mono ?_;rintro e w' ⟨rfl,rfl⟩
    clear HPX
    go_wp2
   ·go_ret
    refine ⟨?_,rfl⟩
    rw [HE.out,hd.out,eH,HX.out];rfl
   ·go_round
    case rel =>
     refine ⟨n+1,by go_num,by omega,?_⟩
     rw [HE.out,hd.out,eH,HX.out]
     simp only [if_true]
     rw [show k+(n+1)=k+n+1 from by omega];omega
    case measure=>simp [intOf];omega
  ·have hd:=hid (drop_end s (k+n) (by omega))
   have hlt':¬ (k:Int)+n < s.size:=by omega
   go_wp2
   go_ret
   refine ⟨?_,rfl⟩
   rw [HE.out,hd.out];rfl
end Lx
end
section
namespace Lx
open Go.RowKit
abbrev jO (w:World):Prop:=Lib.TabIs Tryz.prog w "strings.asciiSpace" .u8 Lib.asciiSpaceTab
theorem jO.stay {w w':World} (h:jO w) (hq:ah w w'):jO w':=by
 have hg:Tryz.prog.globalNamed "strings.asciiSpace"=some 0:=by kernel_rfl
 exact Joins.tab_stays hg h hq.below (Nat.le_refl _)
def bW (l:List UInt8):ByteArray:=⟨l.toArray⟩
theorem sZ (l:List UInt8):(bW l).data.toList=l:=rfl
theorem GL (s:ByteArray):bW s.data.toList=s:=by cases s;rfl
theorem Y2 {a b:ByteArray} (h:a.data.toList=b.data.toList):a=b:=by rw [<-GL a,<-GL b,h]
def uI:ByteArray:=⟨#[32,102,117,110,32,108,101,116,32,114,101,99,32,105,110,32,105,102,32,116,104,101,110,32,101,108,115,101,32,116,114,117,101,32,102,97,108,115,101,32,105,110,116,32,98,111,111,108,32]⟩
theorem GN:Lib.fields uI.data.toList=FK:=by decide +kernel
theorem Jq:∀ (j:Nat) (b:UInt8),uI.data.toList[j]?=some b->b.toNat < 128:=by
 have h:∀ b∈uI.data.toList,b.toNat < 128:=by decide +kernel
 intro j b hb
 exact h b (List.mem_of_getElem? hb)
theorem Jr (s:ByteArray):Lib.containsS (FK.map bW) s=JI s.data.toList:=by
 rw [Bool.eq_iff_iff,Lib.containsS_iff]
 unfold JI
 rw [List.contains_iff_mem,List.mem_map]
 constructor
 ·rintro ⟨l,hl,rfl⟩;exact hl
 ·intro h;exact ⟨_,h,GL s⟩
theorem Fz (w:World) (j:Nat) (hj:j < (FK.map bW).length):(w.alloc (.cells (FK.map fun l=>Value.string ⟨l.toArray⟩).toArray 9)).cell? ⟨w.heap.size,0+j,none⟩=some (.string ((FK.map bW).getD j ByteArray.empty)):=by
 rw [cell_of_row _ _ _ _ _ (0,0) (heap_alloc_new w _)]
 have hj':j < FK.length:=by simpa using hj
 simp only [Nat.zero_add,List.getElem?_toArray,List.getElem?_map,List.getD_eq_getElem?_getD]
 rw [List.getElem?_eq_getElem hj'];rfl
theorem Js (s:ByteArray) (w:World) (ht:jO w):Calls Tryz.prog 109 #[.string s] w fun e w'=>e=.returned (.bool (JI s.data.toList))/\ah w w':=by
 have hF:=Tryz.strings_Fields uI w (by decide) Jq ht
 rw [GN] at hF
 have hC:=Tryz.slices_Contains_string w.heap.size 0 11 11 (FK.map bW) s (w.alloc (.cells (FK.map fun l=>Value.string ⟨l.toArray⟩).toArray 9)) (by decide) (by decide) (Fz w)
 rw [List.take_of_length_le (by decide),Jr] at hC
 have HF:=hid hF
 have HC:=hid hC
 clear hF hC ht
 generalize hA:(FK.map fun l=>Value.string ⟨l.toArray⟩).toArray=A at *
 clear hA
 go_enter Tryz.func109,Tryz.ntmps109
 go_wp2_with fail
 refine HF.out.mono ?_;rintro e w' ⟨rfl,rfl⟩
 go_wp2_with fail
 refine HC.out.mono ?_;rintro e w' ⟨rfl,rfl⟩
 go_wp2
 go_ret
 exact ⟨rfl,ah.alloc _ _⟩
theorem tH (s:ByteArray) (w:World):Calls Tryz.prog 77 #[.string s] w fun e w'=>e=.returned (.bool (JI s.data.toList))/\ah w w':=by
 go_enter Tryz.func77,Tryz.ntmps77
 go_wp2
 have hcell:∀ j,j < 11->(w.alloc (.cells (FK.map fun l=>Value.string ⟨l.toArray⟩).toArray 9)).cell? ⟨w.heap.size,j,none⟩=some (.string (bW (FK.getD j []))):=by
  intro j hj
  have:=Fz w j (by exact hj)
  simp only [Nat.zero_add] at this
  rw [this]
  congr 2
  simp only [List.getD_eq_getElem?_getD,List.getElem?_map]
  rw [List.getElem?_eq_getElem (by exact hj)];rfl
 have Yf:=hid hcell
 clear hcell
 obtain ⟨W,hW⟩:∃ W,W=w.alloc (.cells (FK.map fun l=>Value.string ⟨l.toArray⟩).toArray 9):=⟨_,rfl⟩
 have HQ:Hid (ah w W):=by rw [hW];exact ah.alloc _ _
 rw [<-hW] at Yf
 change Code.wp _ _ _ _ (w.alloc (.cells (FK.map fun l=>Value.string ⟨l.toArray⟩).toArray 9))
 rw [<-hW]
 clear hW
 generalize w.heap.size=b at *
 go_loop [4] (fun t=>∃ n:Nat,t=.int .i64 n/\n<=11/\JI s.data.toList=(FK.drop n).contains s.data.toList) (fun t=>11 - (intOf t).toNat)
 case atStart=>exact ⟨0,rfl,by omega,rfl⟩
 case round =>
  obtain ⟨n,rfl,hn,he⟩:=hrel
  have HE:=hid he
  clear he
  by_cases hlt:n < 11
  ·have c:=Yf.out n hlt
   have hd:FK.drop n=FK.getD n []::FK.drop (n+1):=by
    rw [List.drop_eq_getElem_cons (by exact hlt),List.getD_eq_getElem?_getD,List.getElem?_eq_getElem (by exact hlt)];rfl
   have HD:=hid hd
   clear hd
   have hlt':(n:Int) < 11:=by omega
   generalize FK.getD n []=x at *
   cases hx:((bW x).toList == s.toList)
   ·have hx' : (s.data.toList == x) = false := by
      rw [beq_eq_false_iff_ne] at hx ⊢
      intro h;apply hx;rw [ByteArray.toList_eq,ByteArray.toList_eq,sZ,h]
    have HX':=hid hx'
    clear hx'
    go_wp2
    go_round
    case rel=>exact ⟨n+1,by go_num,by omega,by rw [HE.out,HD.out,List.contains_cons,HX'.out];rfl⟩
    case measure=>simp [intOf];omega
   ·have hx' : s.data.toList = x := by
      rw [beq_iff_eq] at hx
      rw [ByteArray.toList_eq,ByteArray.toList_eq,sZ] at hx
      exact hx.symm
    have HX':=hid hx'
    clear hx'
    go_wp2
    go_ret
    exact ⟨by rw [HE.out,HD.out,List.contains_cons,HX'.out];simp,HQ.out⟩
  ·have ada:n=11:=by omega
   subst ada
   go_wp2
   go_ret
   exact ⟨by rw [HE.out];rfl,HQ.out⟩
theorem UR:∀ args w,(callFunc 108 args).run Tryz.prog w=.ok (.enter 108 args) w:=enters_of Tryz.func108 (by kernel_rfl) rfl
end Lx
end
end Go.Proofs.YtcninopmelmajaaGreatDoor
