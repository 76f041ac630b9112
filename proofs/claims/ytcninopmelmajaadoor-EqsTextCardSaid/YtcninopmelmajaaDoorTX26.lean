/-
  Texts laid together (ScRsv, ScHas, ScNames, ScResLaw0, ScText): laws and walks, with their conditions.
-/
import Derived.Deep.RegionWith
import Derived.Test.YtcninopmelmajaaDoorTX25
set_option maxHeartbeats 8000000
set_option maxRecDepth 1000000
namespace Go.Proofs.YtcninopmelmajaaDoor
open Go.Lib (hid)
section
open Go.RowKit Go.Shelf
namespace Sc
def Dc:Nd:=⟨0,⟨#[]⟩,0,0,0,.nil,0,0⟩
theorem Qj {h:Nd} {ps:To} (hs:fK h ps.length=true):vU h ps:=by
 intro hk;unfold fK at hs;simp only [Bool.and_eq_true,decide_eq_true_eq] at hs;have h1:=hs.2;rw [hk] at h1;have:ps.length=0:=by have h2:xP 1=0:=rfl;rw [h2] at h1;omega
 cases ps with
 | nil=>rfl
 | cons _ _ _=>simp [To.length] at this
theorem zq:∀ f:To,Cc f=true->okF f
 | .nil,_=>trivial
 | .cons h ps r,e=>by
  rw [oH,Bool.and_eq_true,Bool.and_eq_true] at e;refine ⟨Qj e.1.1,?_,zq ps e.1.2,zq r e.2⟩;intro hk;have hs:=e.1.1;unfold fK at hs;simp only [Bool.and_eq_true,decide_eq_true_eq] at hs;have hn:nO h=true:=hs.1.1.1.1.1.2;unfold nO at hn;have hkn:Aa h.k=false:=by unfold Me YS at hk;unfold Aa;simpa [Bool.or_assoc] using hk
  rw [hkn] at hn;simp only [Bool.false_eq_true,if_false,List.isEmpty_iff] at hn;rw [ByteArray.toList_eq] at hn;apply ByteArray.ext;apply Array.toList_inj.1;simpa using hn
def RT (h:Nd) (ps:To):Bool:=Cc (.cons h ps .nil)
theorem YU {h:Nd} {ps:To} (hr:RT h ps=true):vU h ps/\okF ps/\(Me h.k=false->h.nm=ByteArray.empty):=by
 have:=zq _ hr;exact ⟨this.1,this.2.2.1,this.2.1⟩
def pY (h:Nd) (ps:To):(Nd × To) × (Int × Int) × Int :=
 if RT h ps then (match bM [] h ps with
  | []=>((C9 h ps,Ia h ps),(0,0),0)
  | x::_=>((Dc,.nil),(x.fr,x.en),5)) else ((Dc,.nil),(0,0),1)
def XH (w:World) (h:Nd) (ps:To) (x:Ending) (w':World):Prop:=∃ (g:Nd) (gs:To) (o1:Option Addr) (l1 c1:Nat) (o2:Option Addr) (l2 c2:Nat) (p:Int × Int) (er:Int),x=.returned (.tuple #[bP g o1 l1 c1 o2 l2 c2,.agg #[.int .i64 p.1,.int .i64 p.2],.int .i64 er])/\pY h ps=((g,gs),p,er) /\
 aB (fun b=>w.heap.size<=b) w' o1 l1 g.tp/\bC (fun b=>w.heap.size<=b) w' o2 l2 gs/\ah w w'
def AU (w:World) (B:Nat) (u v:Value):World:=(w.setCell ⟨B,0,none⟩ u).setCell ⟨B,1,none⟩ v
theorem Ic (w:World) (B:Nat) (u v:Value):Fr (fun k=>k=B) w (AU w B u v):=(Fr.setCell (fun k=>k=B) w ⟨B,0,none⟩ u rfl).trans (Fr.setCell (fun k=>k=B) _ ⟨B,1,none⟩ v rfl)
theorem wJ {w:World} {B:Nat} {u v a b:Value} {t:TypeId} (h:w.heap[B]?=some (.cells #[a,b] t (0,0))):(AU w B u v).heap[B]?=some (.cells #[u,v] t (0,0)):=aF (i:=1) (u:=v) (aF (i:=0) (u:=u) h)
theorem wK {w:World} {B:Nat} {a b:Value} {t:TypeId} (h:w.heap[B]?=some (.cells #[a,b] t (0,0))):w.cell? ⟨B,0,none⟩=some a/\w.cell? ⟨B,1,none⟩=some b/\w.frozen? ⟨B,0,none⟩=false/\w.frozen? ⟨B,1,none⟩=false:=by
 refine ⟨?_,?_,?_,?_⟩
 ·rw [cell_of_row _ _ _ _ _ (0,0) h];rfl
 ·rw [cell_of_row _ _ _ _ _ (0,0) h];rfl
 ·simp [World.frozen?,h]
 ·simp [World.frozen?,h]
theorem JC (h : Nd) (ps : To) (w : World) (R : Nat -> Prop) (o1 : Option Addr) (l1 c1 : Nat) (o2 : Option Addr) (l2 c2 : Nat) (hs1 : aB R w o1 l1 h.tp) (hs : bC R w o2 l2 ps) (hz : ps.size <= 100000) (hg : allT sF (.cons h ps .nil)) (ht : Lx.kD w) :
    Calls Tryd.prog 21 #[bP h o1 l1 c1 o2 l2 c2] w (XH w h ps):=by
 obtain ⟨W0,hW0⟩:∃ W0,W0=((w.alloc (.cells (cells9 h o1 l1 c1 o2 l2 c2) 30)).alloc (.cells zero9 30)).alloc (.cells #[.int .i64 0,.int .i64 0] 28):=⟨_,rfl⟩;have bD:Hid (ah w W0):=by rw [hW0];exact ((ah.alloc _ _).trans (ah.alloc _ _)).trans (ah.alloc _ _)
 have HB0:Hid (W0.heap[w.heap.size]?=some (.cells (cells9 h o1 l1 c1 o2 l2 c2) 30 (0,0))):=by
  show _=_;rw [hW0,Below.heap_alloc _ _ _ (by simp;omega),Below.heap_alloc _ _ _ (by simp)];exact heap_alloc_new w _
 have HB1:Hid (W0.heap[w.heap.size+1]?=some (.cells zero9 30 (0,0))):=by
  show _=_;rw [hW0,Below.heap_alloc _ _ _ (by simp)]
  have:=heap_alloc_new (w.alloc (.cells (cells9 h o1 l1 c1 o2 l2 c2) 30)) (.cells zero9 30);simpa using this
 have HB2:Hid (W0.heap[w.heap.size+2]?=some (.cells #[.int .i64 0,.int .i64 0] 28 (0,0))):=by
  show _=_;rw [hW0]
  have:=heap_alloc_new ((w.alloc (.cells (cells9 h o1 l1 c1 o2 l2 c2) 30)).alloc (.cells zero9 30)) (.cells #[.int .i64 0,.int .i64 0] 28);simpa using this
 have HR:=hid (Jh h ps W0 R o1 l1 c1 o2 l2 c2 (hs1.stay bD.out) (hs.stay bD.out) hz hg (ht.stay bD.out));have HC:Hid (∀ W,ah W0 W->dL W w.heap.size 0 h o1 l1 c1 o2 l2 c2):=fun W hq=>(aA HB0.out).fr hq (fun h=>h)
 have HP:Hid (∀ W,ah W0 W->W.heap[w.heap.size+1]?=some (.cells zero9 30 (0,0))/\W.heap[w.heap.size+2]?=some (.cells #[.int .i64 0,.int .i64 0] 28 (0,0))):=fun W hq=>⟨au hq HB1.out,au hq HB2.out⟩
 have HFC:Hid (∀ W,ah W0 W->vU h ps->CW ps->Calls Tryd.prog 36 #[bP h o1 l1 c1 o2 l2 c2] W (Ad W (bM [] h ps))):=fun W hq h1 h2=>Ue h ps W R o1 l1 c1 o2 l2 c2 (hs1.stay (bD.out.trans hq)) (hs.stay (bD.out.trans hq)) hz h1 h2
 have HRC:Hid (∀ W,ah W0 W->vU h ps->CW ps->Calls Tryd.prog 37 #[bP h o1 l1 c1 o2 l2 c2] W (TmQ W (C9 h ps) (Ia h ps))):=fun W hq h1 h2=>Ib h ps W R o1 l1 c1 o2 l2 c2 (hs1.stay (bD.out.trans hq)) (hs.stay (bD.out.trans hq)) hz h1 h2 (by have:=hg.1.2.1;omega) (dR (fun h hh=>by have:=hh.2.1;omega) _ hg.2.1)
 change Hid (Calls _ _ _ _ (fun e w'=>e=.returned (.bool (RT h ps))/\_)) at HR;clear hs1 hs hg ht;unfold bP at HR HFC HRC ⊢;cases hr:RT h ps
 case false =>
  rw [hr] at HR;have HE:Hid (pY h ps=((Dc,.nil),(0,0),1)):=by show _=_;unfold pY;rw [hr];rfl
  go_enter Tryd.func21,Tryd.ntmps21;go_upto_region 1 with fail
  rw [<-hW0];clear hW0;generalize hB:w.heap.size=B at *;have bY:=hid hB;clear hB;obtain ⟨a0,a1,a2,a3,a4,a5,a6,a7,a8⟩:=HC.out W0 (ah.refl _);go_wp2_with fail;refine HR.out.mono ?_;rintro x w1 ⟨rfl,hq1⟩;obtain ⟨hb1,hb2⟩:=HP.out w1 hq1;have KQ:=hid hb1;have WA:=hid hb2;have fD:=hid (bD.out.trans hq1);obtain ⟨⟨z0,z1,z2,z3,z4,z5,z6,z7,z8⟩,t0,t1,t2,t3,t4,t5,t6,t7,t8⟩:=aW hb1;obtain ⟨p0,p1,p2,p3⟩:=wK hb2;clear hb1 hb2 hq1 a0 a1 a2 a3 a4 a5 a6 a7 a8;go_wp2_with fail;clear z0 z1 z2 z3 z4 z5 z6 z7 z8 t0 t1 t2 t3 t4 t5 t6 t7 t8 p0 p1 p2 p3;have hbf:=dO (a0:=.int .i64 0) (a1:=.string ⟨#[]⟩) (a2:=.int .i64 0) (a3:=.int .i64 0) (a4:=.int .i64 0) (a5:=.slice none 0 0) (a6:=.slice none 0 0) (a7:=.int .i64 0) (a8:=.int .i64 0) KQ.out;have Ug:=iM w1 (B+1) (.int .i64 0) (.string ⟨#[]⟩) (.int .i64 0) (.int .i64 0) (.int .i64 0) (.slice none 0 0) (.slice none 0 0) (.int .i64 0) (.int .i64 0);have JD:=aC Ug (by omega) WA.out;have hf2:=Ic (fV w1 (B+1) (.int .i64 0) (.string ⟨#[]⟩) (.int .i64 0) (.int .i64 0) (.int .i64 0) (.slice none 0 0) (.slice none 0 0) (.int .i64 0) (.int .i64 0)) (B+2) (.int .i64 0) (.int .i64 0);have hbg:=aC hf2 (by omega) hbf;have Qk:=wJ (u:=.int .i64 0) (v:=.int .i64 0) JD;have ou:Fr (fun k=>k=B+1∨k=B+2) w1 (AU (fV w1 (B+1) (.int .i64 0) (.string ⟨#[]⟩) (.int .i64 0) (.int .i64 0) (.int .i64 0) (.slice none 0 0) (.slice none 0 0) (.int .i64 0) (.int .i64 0)) (B+2) (.int .i64 0) (.int .i64 0)):=(Ug.mono (fun _ _ h=>.inl h)).trans (hf2.mono (fun _ _ h=>.inr h));change bodyPost _ _ _ _ _ (AU (fV w1 (B+1) (.int .i64 0) (.string ⟨#[]⟩) (.int .i64 0) (.int .i64 0) (.int .i64 0) (.slice none 0 0) (.slice none 0 0) (.int .i64 0) (.int .i64 0)) (B+2) (.int .i64 0) (.int .i64 0))
  clear hbf Ug JD hf2;generalize (AU (fV w1 (B+1) (.int .i64 0) (.string ⟨#[]⟩) (.int .i64 0) (.int .i64 0) (.int .i64 0) (.slice none 0 0) (.slice none 0 0) (.int .i64 0) (.int .i64 0)) (B+2) (.int .i64 0) (.int .i64 0))=wf at *;obtain ⟨⟨x0,x1,x2,x3,x4,x5,x6,x7,x8⟩,_⟩:=aW hbg;have s0:=(cell_of_row _ (B+2) 0 _ _ (0,0) Qk).trans (show _=some (Value.int .i64 0) from rfl);have s1:=(cell_of_row _ (B+2) 1 _ _ (0,0) Qk).trans (show _=some (Value.int .i64 0) from rfl);have bF:Hid (XH w h ps (.returned (.tuple #[.agg #[.int .i64 0,.string ⟨#[]⟩,.int .i64 0,.int .i64 0,.int .i64 0,.slice none 0 0,.slice none 0 0,.int .i64 0,.int .i64 0],.agg #[.int .i64 0,.int .i64 0],.int .i64 1])) wf):=by
   have hB:=bY.out;exact ⟨Dc,.nil,none,0,0,none,0,0,(0,0),1,rfl,HE.out,aB.nil _ _ _,bC.nil _ _ _,fD.out.trans' ou (fun k hk h=>by omega)⟩
  clear ou hbg Qk;refine bodyPost_ret (by simp [results,Tryd.results21,go_sem,x0,x1,x2,x3,x4,x5,x6,x7,x8,s0,s1];rfl) rfl ?_;exact bF.out
 case true =>
  rw [hr] at HR;obtain ⟨hv,hok,_⟩:=YU hr;have hav:=yc ps hok;have Zd:Hid (∀ W,ah W0 W->Calls Tryd.prog 36 #[.agg #[.int .i64 h.k,.string h.nm,.int .i64 h.n,.int .i64 h.tk,.int .i64 h.tn,.slice o1 l1 c1,.slice o2 l2 c2,.int .i64 h.fr,.int .i64 h.en]] W (Ad W (bM [] h ps))):=fun W hq=>HFC.out W hq hv hav
  have HRW:Hid (∀ W,ah W0 W->Calls Tryd.prog 37 #[.agg #[.int .i64 h.k,.string h.nm,.int .i64 h.n,.int .i64 h.tk,.int .i64 h.tn,.slice o1 l1 c1,.slice o2 l2 c2,.int .i64 h.fr,.int .i64 h.en]] W (TmQ W (C9 h ps) (Ia h ps))):=fun W hq=>HRC.out W hq hv hav
  have hE0:pY h ps=(match bM [] h ps with
   | []=>((C9 h ps,Ia h ps),(0,0),0)
   | x::_=>((Dc,.nil),(x.fr,x.en),5)):=by unfold pY;rw [hr];rfl
  have HLZ:Hid ((bM [] h ps).length<=100001):=by have:=FI [] h ps;show _<=_;omega
  clear HFC HRC hv hok hav;generalize bM [] h ps=L at *;cases L with
  | nil =>
   have HE:Hid (pY h ps=((C9 h ps,Ia h ps),(0,0),0)):=hE0;clear hE0;generalize C9 h ps=g at *;generalize Ia h ps=gs at *;go_enter Tryd.func21,Tryd.ntmps21;go_upto_region 1 with fail
   rw [<-hW0];clear hW0;generalize hB:w.heap.size=B at *;have bY:=hid hB;clear hB;obtain ⟨a0,a1,a2,a3,a4,a5,a6,a7,a8⟩:=HC.out W0 (ah.refl _);go_wp2_with fail;refine HR.out.mono ?_;rintro x w1 ⟨rfl,hq1⟩;clear a0 a1 a2 a3 a4 a5 a6 a7 a8;obtain ⟨a0,a1,a2,a3,a4,a5,a6,a7,a8⟩:=HC.out w1 hq1;have fD:=hid hq1;clear hq1;go_wp2_with fail;refine (Zd.out w1 fD.out).mono ?_;rintro x w2 ⟨o,c,xs,rfl,hl,hq2⟩;have fC:=hid (fD.out.trans hq2);clear hl hq2 a0 a1 a2 a3 a4 a5 a6 a7 a8;obtain ⟨a0,a1,a2,a3,a4,a5,a6,a7,a8⟩:=HC.out w2 fC.out;go_wp2_with fail;refine (HRW.out w2 fC.out).mono ?_;rintro x w3 ⟨q1,m1,d1,q2,m2,d2,rfl,hg1,hg2,hq3⟩;have qI:=hid (fC.out.trans hq3);have Ru:=hid hg1;have HG2:=hid hg2;have hz2:=fC.out.size;have HZ0:Hid (B+3<=W0.heap.size):=by show _<=_;have:=lt_of_block HB2.out;omega
   clear hq3 hg1 hg2 a0 a1 a2 a3 a4 a5 a6 a7 a8;unfold bP;obtain ⟨hb1,hb2⟩:=HP.out w3 qI.out;have KQ:=hid hb1;have WA:=hid hb2;obtain ⟨⟨z0,z1,z2,z3,z4,z5,z6,z7,z8⟩,t0,t1,t2,t3,t4,t5,t6,t7,t8⟩:=aW hb1;obtain ⟨p0,p1,p2,p3⟩:=wK hb2;clear hb1 hb2;go_wp2_with fail;clear z0 z1 z2 z3 z4 z5 z6 z7 z8 t0 t1 t2 t3 t4 t5 t6 t7 t8 p0 p1 p2 p3;have hbf:=dO (a0:=.int .i64 g.k) (a1:=.string g.nm) (a2:=.int .i64 g.n) (a3:=.int .i64 g.tk) (a4:=.int .i64 g.tn) (a5:=.slice q1 m1 d1) (a6:=.slice q2 m2 d2) (a7:=.int .i64 g.fr) (a8:=.int .i64 g.en) KQ.out;have Ug:=iM w3 (B+1) (.int .i64 g.k) (.string g.nm) (.int .i64 g.n) (.int .i64 g.tk) (.int .i64 g.tn) (.slice q1 m1 d1) (.slice q2 m2 d2) (.int .i64 g.fr) (.int .i64 g.en);have JD:=aC Ug (by omega) WA.out;have hf2:=Ic (fV w3 (B+1) (.int .i64 g.k) (.string g.nm) (.int .i64 g.n) (.int .i64 g.tk) (.int .i64 g.tn) (.slice q1 m1 d1) (.slice q2 m2 d2) (.int .i64 g.fr) (.int .i64 g.en)) (B+2) (.int .i64 0) (.int .i64 0);have hbg:=aC hf2 (by omega) hbf;have Qk:=wJ (u:=.int .i64 0) (v:=.int .i64 0) JD;have ou:Fr (fun k=>k=B+1∨k=B+2) w3 (AU (fV w3 (B+1) (.int .i64 g.k) (.string g.nm) (.int .i64 g.n) (.int .i64 g.tk) (.int .i64 g.tn) (.slice q1 m1 d1) (.slice q2 m2 d2) (.int .i64 g.fr) (.int .i64 g.en)) (B+2) (.int .i64 0) (.int .i64 0)):=(Ug.mono (fun _ _ h=>.inl h)).trans (hf2.mono (fun _ _ h=>.inr h));change bodyPost _ _ _ _ _ (AU (fV w3 (B+1) (.int .i64 g.k) (.string g.nm) (.int .i64 g.n) (.int .i64 g.tk) (.int .i64 g.tn) (.slice q1 m1 d1) (.slice q2 m2 d2) (.int .i64 g.fr) (.int .i64 g.en)) (B+2) (.int .i64 0) (.int .i64 0))
   clear hbf Ug JD hf2;generalize (AU (fV w3 (B+1) (.int .i64 g.k) (.string g.nm) (.int .i64 g.n) (.int .i64 g.tk) (.int .i64 g.tn) (.slice q1 m1 d1) (.slice q2 m2 d2) (.int .i64 g.fr) (.int .i64 g.en)) (B+2) (.int .i64 0) (.int .i64 0))=wf at *;obtain ⟨⟨x0,x1,x2,x3,x4,x5,x6,x7,x8⟩,_⟩:=aW hbg;have s0:=(cell_of_row _ (B+2) 0 _ _ (0,0) Qk).trans (show _=some (Value.int .i64 0) from rfl);have s1:=(cell_of_row _ (B+2) 1 _ _ (0,0) Qk).trans (show _=some (Value.int .i64 0) from rfl);have bF:Hid (XH w h ps (.returned (.tuple #[.agg #[.int .i64 g.k,.string g.nm,.int .i64 g.n,.int .i64 g.tk,.int .i64 g.tn,.slice q1 m1 d1,.slice q2 m2 d2,.int .i64 g.fr,.int .i64 g.en],.agg #[.int .i64 0,.int .i64 0],.int .i64 0])) wf):=by
    have hB:=bY.out;have hz0:=HZ0.out;have key:∀ k,w2.heap.size<=k->w.heap.size<=k/\¬ (k=B+1∨k=B+2):=fun k hk=>by omega
    exact ⟨g,gs,q1,m1,d1,q2,m2,d2,(0,0),0,rfl,HE.out,Ru.out.fr ou (fun k _ hk=>key k hk),HG2.out.fr ou (fun k _ hk=>key k hk),(bD.out.trans qI.out).trans' ou (fun k hk h=>by omega)⟩
   clear ou hbg Qk;refine bodyPost_ret (by simp [results,Tryd.results21,go_sem,x0,x1,x2,x3,x4,x5,x6,x7,x8,s0,s1];rfl) rfl ?_;exact bF.out
  | cons y L' =>
   have HE:Hid (pY h ps=((Dc,.nil),(y.fr,y.en),5)):=hE0;clear hE0 HRW;have hpos:((y::L').length:Int) > 0:=by simp<;>omega
   have hpos':(0:Int) < ((y::L').length:Int):=hpos;generalize hn:(y::L').length=n at *;have HN:=hid hn;clear hn;go_enter Tryd.func21,Tryd.ntmps21;go_upto_region 1 with fail
   rw [<-hW0];clear hW0;generalize hB:w.heap.size=B at *;have bY:=hid hB;clear hB;obtain ⟨a0,a1,a2,a3,a4,a5,a6,a7,a8⟩:=HC.out W0 (ah.refl _);go_wp2_with fail;refine HR.out.mono ?_;rintro x w1 ⟨rfl,hq1⟩;clear a0 a1 a2 a3 a4 a5 a6 a7 a8;obtain ⟨a0,a1,a2,a3,a4,a5,a6,a7,a8⟩:=HC.out w1 hq1;have fD:=hid hq1;clear hq1;go_wp2_with fail;refine (Zd.out w1 fD.out).mono ?_;rintro x w2 ⟨o,c,xs,rfl,hl,hq2⟩;have fC:=hid (bD.out.trans (fD.out.trans hq2));obtain ⟨g9,off,u1,v1,e1,u2,v2,e2,rfl,⟨f0,f1,f2,f3,f4,f5,f6,f7,f8⟩⟩:=hl.heads 0 y rfl;have hg9:=hl.2.2 g9 rfl;have hz0:=lt_of_block HB2.out;have hz1:=fD.out.size;have hn1:B+1≠g9:=by omega
   have hn2:B+2≠g9:=by omega
   have hn3:g9≠B+1:=by omega
   have hn4:g9≠B+2:=by omega
   obtain ⟨hb1,hb2⟩:=HP.out w2 (fD.out.trans hq2);have KQ:=hid hb1;have WA:=hid hb2;rw [HN.out];obtain ⟨⟨z0,z1,z2,z3,z4,z5,z6,z7,z8⟩,t0,t1,t2,t3,t4,t5,t6,t7,t8⟩:=aW hb1;obtain ⟨p0,p1,p2,p3⟩:=wK hb2;clear hb1 hb2 hl hq2 a0 a1 a2 a3 a4 a5 a6 a7 a8;rw [Nat.zero_mul,Nat.add_zero] at f0 f1 f2 f3 f4 f5 f6 f7 f8;go_upto_region 5 with fail
   go_region;go_wp2_with fail;clear z0 z1 z2 z3 z4 z5 z6 z7 z8 t0 t1 t2 t3 t4 t5 t6 t7 t8 p0 p1 p2 p3;have hbf:=dO (a0:=.int .i64 0) (a1:=.string ⟨#[]⟩) (a2:=.int .i64 0) (a3:=.int .i64 0) (a4:=.int .i64 0) (a5:=.slice none 0 0) (a6:=.slice none 0 0) (a7:=.int .i64 0) (a8:=.int .i64 0) KQ.out;have Ug:=iM w2 (B+1) (.int .i64 0) (.string ⟨#[]⟩) (.int .i64 0) (.int .i64 0) (.int .i64 0) (.slice none 0 0) (.slice none 0 0) (.int .i64 0) (.int .i64 0);have JD:=aC Ug (by omega) WA.out;have hf2:=Ic (fV w2 (B+1) (.int .i64 0) (.string ⟨#[]⟩) (.int .i64 0) (.int .i64 0) (.int .i64 0) (.slice none 0 0) (.slice none 0 0) (.int .i64 0) (.int .i64 0)) (B+2) (.int .i64 y.fr) (.int .i64 y.en);have hbg:=aC hf2 (by omega) hbf;have Qk:=wJ (u:=.int .i64 y.fr) (v:=.int .i64 y.en) JD;have ou:Fr (fun k=>k=B+1∨k=B+2) w2 (AU (fV w2 (B+1) (.int .i64 0) (.string ⟨#[]⟩) (.int .i64 0) (.int .i64 0) (.int .i64 0) (.slice none 0 0) (.slice none 0 0) (.int .i64 0) (.int .i64 0)) (B+2) (.int .i64 y.fr) (.int .i64 y.en)):=(Ug.mono (fun _ _ h=>.inl h)).trans (hf2.mono (fun _ _ h=>.inr h));replace hbg:=ig hbg;replace Qk:=ig Qk;replace ou:=ou.trans (Fr.drew (fun k=>k=B+1∨k=B+2) (AU (fV w2 (B+1) (.int .i64 0) (.string ⟨#[]⟩) (.int .i64 0) (.int .i64 0) (.int .i64 0) (.slice none 0 0) (.slice none 0 0) (.int .i64 0) (.int .i64 0)) (B+2) (.int .i64 y.fr) (.int .i64 y.en)));change bodyPost _ _ _ _ _ ((AU (fV w2 (B+1) (.int .i64 0) (.string ⟨#[]⟩) (.int .i64 0) (.int .i64 0) (.int .i64 0) (.slice none 0 0) (.slice none 0 0) (.int .i64 0) (.int .i64 0)) (B+2) (.int .i64 y.fr) (.int .i64 y.en))).drew
   clear hbf Ug JD hf2;generalize ((AU (fV w2 (B+1) (.int .i64 0) (.string ⟨#[]⟩) (.int .i64 0) (.int .i64 0) (.int .i64 0) (.slice none 0 0) (.slice none 0 0) (.int .i64 0) (.int .i64 0)) (B+2) (.int .i64 y.fr) (.int .i64 y.en))).drew=wf at *;obtain ⟨⟨x0,x1,x2,x3,x4,x5,x6,x7,x8⟩,_⟩:=aW hbg;have s0:=(cell_of_row _ (B+2) 0 _ _ (0,0) Qk).trans (show _=some (Value.int .i64 y.fr) from rfl);have s1:=(cell_of_row _ (B+2) 1 _ _ (0,0) Qk).trans (show _=some (Value.int .i64 y.en) from rfl);have bF:Hid (XH w h ps (.returned (.tuple #[.agg #[.int .i64 0,.string ⟨#[]⟩,.int .i64 0,.int .i64 0,.int .i64 0,.slice none 0 0,.slice none 0 0,.int .i64 0,.int .i64 0],.agg #[.int .i64 y.fr,.int .i64 y.en],.int .i64 5])) wf):=by
    have hB:=bY.out;exact ⟨Dc,.nil,none,0,0,none,0,0,(y.fr,y.en),5,rfl,HE.out,aB.nil _ _ _,bC.nil _ _ _,fC.out.trans' ou (fun k hk h=>by omega)⟩
   clear ou hbg Qk;refine bodyPost_ret (by simp [results,Tryd.results21,go_sem,x0,x1,x2,x3,x4,x5,x6,x7,x8,s0,s1];rfl) rfl ?_;exact bF.out
end Sc
end
section
open Go.RowKit Go.Shelf
namespace Sc
def hasB (l:List ByteArray) (s:ByteArray):Bool:=l.any (fun a=>decide (a=s))
end Sc
end
section
open Go.RowKit Go.Shelf
namespace Sc
def ddS (acc:List ByteArray) (s:ByteArray):List ByteArray:=if hasB acc s then acc else acc++[s]
def dd (l:List Nd):List ByteArray:=(l.map (·.nm)).foldl ddS []
end Sc
end
section
open Go.RowKit Go.Shelf
namespace Sc
theorem tY {G H:Nd->Prop}:∀ f:To,allT G f->allT H f->allT (fun h=>G h/\H h) f
 | .nil,_,_=>trivial
 | .cons _ ps r,e,e'=>⟨⟨e.1,e'.1⟩,tY ps e.2.1 e'.2.1,tY r e.2.2 e'.2.2⟩
structure Small (h:Nd) (ps:To):Prop where
 good:allT sF (.cons h ps .nil)
 right:YK h/\allT YK ps
 size:ps.size<=199
theorem lN {h:Nd} {ps:To} (hg:jW h ps=false) (ho:Wy h) (hop:allT Wy ps):Small h ps:=by
 have ga:=LQ hg;have ba:=NS ga.1;have hall:=tY ps hop (dR (fun h hh=>NS hh) _ ga.2.1);exact ⟨⟨⟨by omega,by omega,ho.2.1,ho.2.2.1⟩,dR (fun h hh=>⟨by have:=hh.2.1;omega,by have:=hh.2.2;omega,hh.1.2.1,hh.1.2.2.1⟩) _ hall,trivial⟩,
  ⟨⟨by omega,by omega,ho.2.2.2⟩,dR (fun h hh=>⟨by have:=hh.2.1;omega,by have:=hh.2.2;omega,hh.1.2.2.2⟩) _ hall⟩,by omega⟩
theorem MH (h : Nd) (ps : To) (w W : World) (o1 : Option Addr) (l1 c1 : Nat) (o2 : Option Addr) (l2 c2 : Nat) (h1 : aB (Low w) w o1 l1 h.tp) (h2 : bC (Low w) w o2 l2 ps) (ho : Wy h) (hop : allT Wy ps) (hq : ah w W) :
    Calls Tryd.prog 17 #[bP h o1 l1 c1 o2 l2 c2] W fun e w'=>e=.returned (.bool (jW h ps))/\ah W w' :=
 Ji h ps W (Low w) o1 l1 c1 o2 l2 c2 (h1.stay hq) (h2.stay hq) (by have:=ho.1;unfold maxLen at this;omega) (dR (fun h hh=>by have:=hh.1;unfold maxLen at this;omega) _ hop)
end Sc
end
section
open Go.RowKit Go.Shelf Lx Pa
namespace Sc
theorem wL {l:List Tok}:∀ f:To,vk (sJ l) f->Cc f=true
 | .nil,_=>rfl
 | .cons h ps r,k=>by
  rw [oH,k.1.1,wL ps k.2.1,wL r k.2.2];rfl
theorem Uh:∀ f:Fo,zF f->wfF f
 | .nil,_=>trivial
 | .cons _ m ps r,h=>by
  refine ⟨?_,Uh ps h.2.1,Uh r h.2.2⟩;rw [h.1];exact GK (by decide) (by decide)
theorem JE {N J:Nat} {h:Nd} (k:NY N J h) (hN:N<=100000) (hJ:J<=50000):sF h:=by
 refine ⟨by have:=k.1;omega,by have:=k.2.1;omega,?_,Uh _ k.2.2.2⟩;rw [k.2.2.1];exact GK (by decide) (by decide)
theorem zu {G:Nd->To->Prop}:∀ (f:To) (bk:Int) (nm:ByteArray) (i:Nat) (e:List ByteArray) (y:Nd),vk G f->y∈lM bk nm i e f->y.k=1/\∃ ps,G y ps
 | .nil,_,_,_,_,y,_,h=>by simp [lM] at h
 | .cons hd ps r,bk,nm,i,e,y,k,h=>by
  rw [oV] at h;rcases List.mem_append.1 h with h | h
  ·unfold bM at h
   split at h
   ·next hk =>
    split at h
    ·simp at h;subst h;exact ⟨hk,ps,k.1⟩
    ·simp at h
   ·exact zu ps _ _ _ _ y k.2.1 h
  ·exact zu r _ _ _ _ y k.2.2 h
theorem Ql {G:Nd->To->Prop} {e:List ByteArray} {h:Nd} {ps:To} {y:Nd} (k:G h ps) (kp:vk G ps) (hy:y∈bM e h ps):y.k=1/\∃ qs,G y qs:=by
 unfold bM at hy
 split at hy
 ·next hk =>
  split at hy
  ·simp at hy;subst hy;exact ⟨hk,ps,k⟩
  ·simp at hy
 ·exact zu ps _ _ _ _ y kp hy
structure YV (s:ByteArray) (h:Nd) (ps:To):Prop where
 right:RT h ps=true
 good:allT sF (.cons h ps .nil)
 size:ps.size<=2*s.size+2
 free:∀ y∈bM [] h ps,∃ a b:Nat,y.fr=a/\y.en=b/\a < b/\b<=s.size/\y.nm=s.extract a b
theorem ZP {s:ByteArray} {f:Nat} {h:Nd} {ps:To} (hs:s.size<=20000) (ht:vT s.data.toList f=.inl (h,ps)):YV s h ps:=by
 unfold vT at ht
 split at ht
 ·cases ht
 ·next ts hw =>
  split at ht
  ·next t x j he =>
   cases ht;have hsh:=mJ hw;have hlen:=CG _ _ _ hw;rw [bH] at hlen;unfold nP at he
   split at he
   ·cases he
   ·next t2 x2 j2 hq =>
    split at he
    ·cases he;have hin:=wE hsh.1 f 0 hsh.2;rw [hq] at hin;have hj:0 < j2/\j2 < ts.length:=hin;have hg:=Js (l:=ts) (fun t h=>(wF hw t h).1) f 0;rw [hq] at hg;have hz:=YR (l:=ts) (N:=s.size) (fun t h=>by have:=Fv hw t h;rw [bH] at this;exact this) f 0;rw [hq] at hz;obtain ⟨z1,z2,z3⟩:=hz;refine ⟨wL (.cons h ps .nil) ⟨hg.1,hg.2,trivial⟩,⟨JE z1 (by omega) (by omega),dR (fun h hh=>JE hh (by omega) (by omega)) _ z2,trivial⟩,by omega,fun y hy=>?_⟩;obtain ⟨hk,qs,hgy⟩:=Ql hg.1 hg.2 hy;obtain ⟨t,htm,htk,hnm,hfr,hen⟩:=hgy.2 hk;obtain ⟨c1,c2,c3⟩:=(wF hw t htm).2 (by rw [htk];decide);rw [bH] at c2;refine ⟨t.fr,t.to,hfr,hen,c1,c2,?_⟩;rw [hnm,Ah,<-c3];rfl
    ·cases he
  ·cases ht
end Sc
end
end Go.Proofs.YtcninopmelmajaaDoor
