/-
  Texts laid together (ScFreeDo, ScDo, ScFree, ScRes): laws and walks, with their conditions.
-/
import Derived.Laws.OwnMore
import Derived.Test.YtcninopmelmajaaDoorTX19
import Derived.Test.YtcninopmelmajaaDoorTX24
set_option maxHeartbeats 8000000
set_option maxRecDepth 1000000
namespace Go.Proofs.YtcninopmelmajaaDoor
open Go.Lib (hid)
section
open Go.RowKit Go.Shelf
namespace Sc
abbrev Hy (w:World) (g off:Nat) (a0 a1 a2 a3 a4 a5 a6 a7 a8:Value):World :=
 ((((((((w.setCell ⟨g,off,none⟩ a0).setCell ⟨g,off+1,none⟩ a1).setCell ⟨g,off+2,none⟩ a2).setCell ⟨g,off+3,none⟩ a3).setCell ⟨g,off+4,none⟩ a4).setCell ⟨g,off+5,none⟩ a5).setCell ⟨g,off+6,none⟩ a6).setCell ⟨g,off+7,none⟩ a7).setCell ⟨g,off+8,none⟩ a8
theorem FN (w:World) (g off:Nat) (a0 a1 a2 a3 a4 a5 a6 a7 a8:Value):Fr (fun k=>k=g) w (Hy w g off a0 a1 a2 a3 a4 a5 a6 a7 a8) :=
 ((((((((Fr.setCell (fun k=>k=g) w ⟨g,off,none⟩ a0 rfl).trans (Fr.setCell (fun k=>k=g) _ ⟨g,off+1,none⟩ a1 rfl)).trans (Fr.setCell (fun k=>k=g) _ ⟨g,off+2,none⟩ a2 rfl)).trans (Fr.setCell (fun k=>k=g) _ ⟨g,off+3,none⟩ a3 rfl)).trans (Fr.setCell (fun k=>k=g) _ ⟨g,off+4,none⟩ a4 rfl)).trans (Fr.setCell (fun k=>k=g) _ ⟨g,off+5,none⟩ a5 rfl)).trans (Fr.setCell (fun k=>k=g) _ ⟨g,off+6,none⟩ a6 rfl)).trans (Fr.setCell (fun k=>k=g) _ ⟨g,off+7,none⟩ a7 rfl)).trans (Fr.setCell (fun k=>k=g) _ ⟨g,off+8,none⟩ a8 rfl)
theorem CY {w : World} {base : Nat} {e : TypeId} {g m c n : Nat} {xs : List Value} {z0 z1 z2 z3 z4 z5 z6 z7 z8 : Value} (hx : xs.length = n * 9) (h : w.ownsRow base e 9 (.slice (some ⟨g, 0, none⟩) m c) m (xs ++ [z0, z1, z2, z3, z4, z5, z6, z7, z8])) (a0 a1 a2 a3 a4 a5 a6 a7 a8 : Value) :
    (Hy w g (n*9) a0 a1 a2 a3 a4 a5 a6 a7 a8).ownsRow base e 9 (.slice (some ⟨g,0,none⟩) m c) m (xs++[a0,a1,a2,a3,a4,a5,a6,a7,a8]):=by
 have h1:=((((((((((h.stored (n*9) a0).1.stored (n*9+1) a1).1.stored (n*9+2) a2).1.stored (n*9+3) a3).1.stored (n*9+4) a4).1.stored (n*9+5) a5).1.stored (n*9+6) a6).1.stored (n*9+7) a7).1.stored (n*9+8) a8).1);have key:∀ (j:Nat) (u:Value) (ys:List Value),(xs++ys).set (n*9+j) u=xs++ys.set j u:=fun j u ys=>by
  rw [List.set_append_right _ _ (by omega),hx];congr 2;omega
 have k0:(xs++[z0,z1,z2,z3,z4,z5,z6,z7,z8]).set (n*9) a0=xs++[a0,z1,z2,z3,z4,z5,z6,z7,z8]:=key 0 a0 _;rw [k0,key,key,key,key,key,key,key,key] at h1;exact h1
theorem MF {w : World} {base : Nat} {e : TypeId} {g m c n : Nat} {xs : List Value} {z0 z1 z2 z3 z4 z5 z6 z7 z8 : Value} (hx : xs.length = n * 9) (hm : n + 1 = m) (h : w.ownsRow base e 9 (.slice (some ⟨g, 0, none⟩) m c) m (xs ++ [z0, z1, z2, z3, z4, z5, z6, z7, z8])) :
    (w.cell? ⟨g,n*9,none⟩=some z0/\w.cell? ⟨g,n*9+1,none⟩=some z1/\w.cell? ⟨g,n*9+2,none⟩=some z2/\w.cell? ⟨g,n*9+3,none⟩=some z3/\w.cell? ⟨g,n*9+4,none⟩=some z4/\w.cell? ⟨g,n*9+5,none⟩=some z5/\w.cell? ⟨g,n*9+6,none⟩=some z6/\w.cell? ⟨g,n*9+7,none⟩=some z7/\w.cell? ⟨g,n*9+8,none⟩=some z8) /\
    (w.frozen? ⟨g,n*9,none⟩=false/\w.frozen? ⟨g,n*9+1,none⟩=false/\w.frozen? ⟨g,n*9+2,none⟩=false/\w.frozen? ⟨g,n*9+3,none⟩=false/\w.frozen? ⟨g,n*9+4,none⟩=false/\w.frozen? ⟨g,n*9+5,none⟩=false/\w.frozen? ⟨g,n*9+6,none⟩=false/\w.frozen? ⟨g,n*9+7,none⟩=false/\w.frozen? ⟨g,n*9+8,none⟩=false):=by
 have key:∀ j,j < 9->w.cell? ⟨g,n*9+j,none⟩=[z0,z1,z2,z3,z4,z5,z6,z7,z8][j]?:=fun j hj=>by
  rw [h.cellAt _ (by omega),List.getElem?_append_right (by omega),hx];congr 1;omega
 exact ⟨⟨key 0 (by omega),key 1 (by omega),key 2 (by omega),key 3 (by omega),key 4 (by omega),key 5 (by omega),key 6 (by omega),key 7 (by omega),key 8 (by omega)⟩,h.frozenAt _,h.frozenAt _,h.frozenAt _,h.frozenAt _,h.frozenAt _,h.frozenAt _,h.frozenAt _,h.frozenAt _,h.frozenAt _⟩
def FJ (ob b:Nat) (s:List Nd) (D:Nat->Prop) (W:World):Prop:=∃ (o:Option Addr) (c:Nat) (xs:List Value),W.heap[ob]?=some (.cells #[.slice o s.length c] 26 (0,0))/\gY (ob+1) W o c s xs/\s.length+b<=300000/\∀ k,D k↔(k=ob∨(Value.slice o s.length c).ownBlock=some k)
theorem Hz {W w4 : World} {ob B g4 m co : Nat} {o : Option Addr} {h : Nd} {o1 : Option Addr} {l1 c1 : Nat} {o2 : Option Addr} {l2 c2 : Nat} (hb : W.heap[ob]? = some (.cells #[.slice o m co] 26 (0, 0))) (hx : W.heap[B]? = some (.cells (cells9 h o1 l1 c1 o2 l2 c2) 30 (0, 0)))
    (hlow:∀ k,(Value.slice o m co).ownBlock=some k->ob+1<=k/\k < B) (hz:B+2=W.heap.size) (hob:ob < B) (hf':Fr (fun k=>(Value.slice o m co).ownBlock=some k) W.drew w4) (hg:(Value.slice o m co).ownBlock=some g4∨W.heap.size<=g4) :
    (ob≠g4/\g4≠ob)/\(B≠g4/\g4≠B)/\w4.heap[ob]?=some (.cells #[.slice o m co] 26 (0,0))/\w4.heap[B]?=some (.cells (cells9 h o1 l1 c1 o2 l2 c2) 30 (0,0)):=by
 have hf:=(Fr.drew (fun k=>(Value.slice o m co).ownBlock=some k) W).trans hf';have h1:ob≠g4:=by
  rcases hg with h | h
  ·have:=(hlow _ h).1;omega
  ·omega
 have h2:B≠g4:=by
  rcases hg with h | h
  ·have:=(hlow _ h).2;omega
  ·omega
 exact ⟨⟨h1,fun e=>h1 e.symm⟩,⟨h2,fun e=>h2 e.symm⟩,aC hf (fun e=>by have:=(hlow _ e).1;omega) hb,aC hf (fun e=>by have:=(hlow _ e).2;omega) hx⟩
def CZ (ob:Nat) (s:List Nd) (D:Nat->Prop) (W0 wx:World):Prop:=∃ (o:Option Addr) (c:Nat) (xs:List Value),wx.heap[ob]?=some (.cells #[.slice o s.length c] 26 (0,0))/\gY (ob+1) wx o c s xs/\Fr D W0 wx/\∀ k,(Value.slice o s.length c).ownBlock=some k->D k∨W0.heap.size<=k
theorem JB {W w4 wx : World} {ob g4 m co c4 : Nat} {o : Option Addr} {xs : List Value} {D : Nat -> Prop} {s : List Nd} {h : Nd} {o1 : Option Addr} {l1 c1 : Nat} {o2 : Option Addr} {l2 c2 : Nat} (hm : s.length = m) (hl : gY (ob + 1) W o co s xs)
    (hw:wx.ownsRow 0 30 9 (.slice (some ⟨g4,0,none⟩) (m+1) c4) (m+1) (xs++(cells9 h o1 l1 c1 o2 l2 c2).toList)) (hb:wx.heap[ob]?=some (.cells #[.slice (some ⟨g4,0,none⟩) (m+1) c4] 26 (0,0)))
    (hf':Fr (fun k=>(Value.slice o m co).ownBlock=some k) W.drew w4) (hfx:Fr (fun k=>k=ob∨k=g4) w4 wx) (hg:(Value.slice o m co).ownBlock=some g4∨W.heap.size<=g4) (hob:ob < W.heap.size) (hD:∀ k,D k↔(k=ob∨(Value.slice o m co).ownBlock=some k)):CZ ob (s++[h]) D W wx:=by
 have hn:(s++[h]).length=m+1:=by simp [hm]
 refine ⟨some ⟨g4,0,none⟩,c4,xs++(cells9 h o1 l1 c1 o2 l2 c2).toList,by rw [hn];exact hb,⟨by rw [hn];exact hw,rE.app _ _ _ _ hl.2.1 ⟨o1,l1,c1,o2,l2,c2,[],by simp,rfl⟩,?_⟩,?_,?_⟩
 ·intro k hk;simp [Value.ownBlock] at hk;subst hk;rcases hg with h | h
  ·exact hl.2.2 _ (by rw [hm];exact h)
  ·omega
 ·refine (((Fr.drew (fun k=>(Value.slice o m co).ownBlock=some k) W).trans hf').mono (fun k _ h=>(hD k).2 (.inr h))).trans' hfx (fun k hk h=>?_);rcases h with h | h
  ·exact (hD k).2 (.inl h)
  ·subst h;rcases hg with h | h
   ·exact (hD _).2 (.inr h)
   ·omega
 ·intro k hk;simp [Value.ownBlock] at hk;subst hk;rcases hg with h | h
  ·exact .inl ((hD _).2 (.inr h))
  ·exact .inr h
theorem FQ {W w4 : World} {ob g4 m co c4 : Nat} {o : Option Addr} {xs : List Value} {D : Nat -> Prop} {s : List Nd} {h : Nd} {o1 : Option Addr} {l1 c1 : Nat} {o2 : Option Addr} {l2 c2 : Nat} (hm : s.length = m) (hl : gY (ob + 1) W o co s xs)
    (ho:w4.ownsRow 0 30 9 (.slice (some ⟨g4,0,none⟩) (m+1) c4) (m+1) (xs++zero9.toList)) (hb:w4.heap[ob]?=some (.cells #[.slice o m co] 26 (0,0))) (hne:ob≠g4)
    (hf':Fr (fun k=>(Value.slice o m co).ownBlock=some k) W.drew w4) (hg:(Value.slice o m co).ownBlock=some g4∨W.drew.heap.size<=g4) (hob:ob < W.heap.size) (hD:∀ k,D k↔(k=ob∨(Value.slice o m co).ownBlock=some k)) :
    CZ ob (s++[h]) D W ((Hy w4 g4 (m*9) (.int .i64 h.k) (.string h.nm) (.int .i64 h.n) (.int .i64 h.tk) (.int .i64 h.tn) (.slice o1 l1 c1) (.slice o2 l2 c2) (.int .i64 h.fr) (.int .i64 h.en)).setCell ⟨ob,0,none⟩ (.slice (some ⟨g4,0,none⟩) (m+1) c4)):=by
 have hx:xs.length=m*9:=by rw [<-hm];exact hl.1.1
 have hfp:=FN w4 g4 (m*9) (.int .i64 h.k) (.string h.nm) (.int .i64 h.n) (.int .i64 h.tk) (.int .i64 h.tn) (.slice o1 l1 c1) (.slice o2 l2 c2) (.int .i64 h.fr) (.int .i64 h.en);have hr:=CY (n:=m) hx ho (.int .i64 h.k) (.string h.nm) (.int .i64 h.n) (.int .i64 h.tk) (.int .i64 h.tn) (.slice o1 l1 c1) (.slice o2 l2 c2) (.int .i64 h.fr) (.int .i64 h.en);have Qa:=aC hfp hne hb;exact JB hm hl (aU hr (Fr.setCell (fun k=>k=ob) _ _ _ rfl) (fun k hk e=>by simp [Value.ownBlock] at hk;omega)) (one_setCell Qa) hf' ((hfp.mono (fun _ _ h=>.inr h)).trans (Fr.setCell _ _ _ _ (.inl rfl))) hg hob hD
theorem FT {W w4 : World} {ob g4 m co c4 : Nat} {o : Option Addr} {xs : List Value} {D : Nat -> Prop} {s : List Nd} {h : Nd} {o1 : Option Addr} {l1 c1 : Nat} {o2 : Option Addr} {l2 c2 : Nat} (hm : s.length = m) (hl : gY (ob + 1) W o co s xs)
    (ho:w4.ownsRow 0 30 9 (.slice (some ⟨g4,0,none⟩) (m+1) c4) (m+1) (xs++zero9.toList)) (hb:w4.heap[ob]?=some (.cells #[.slice o m co] 26 (0,0))) (hne:ob≠g4)
    (hf':Fr (fun k=>(Value.slice o m co).ownBlock=some k) W.drew w4) (hg:(Value.slice o m co).ownBlock=some g4∨W.drew.heap.size<=g4) (hob:ob < W.heap.size) (hD:∀ k,D k↔(k=ob∨(Value.slice o m co).ownBlock=some k)) :
    CZ ob (s++[h]) D W (Hy (w4.setCell ⟨ob,0,none⟩ (.slice (some ⟨g4,0,none⟩) (m+1) c4)) g4 (m*9) (.int .i64 h.k) (.string h.nm) (.int .i64 h.n) (.int .i64 h.tk) (.int .i64 h.tn) (.slice o1 l1 c1) (.slice o2 l2 c2) (.int .i64 h.fr) (.int .i64 h.en)):=by
 have hx:xs.length=m*9:=by rw [<-hm];exact hl.1.1
 have hfs:=Fr.setCell (fun k=>k=ob) w4 ⟨ob,0,none⟩ (.slice (some ⟨g4,0,none⟩) (m+1) c4) rfl;have hfp:=FN (w4.setCell ⟨ob,0,none⟩ (.slice (some ⟨g4,0,none⟩) (m+1) c4)) g4 (m*9) (.int .i64 h.k) (.string h.nm) (.int .i64 h.n) (.int .i64 h.tk) (.int .i64 h.tn) (.slice o1 l1 c1) (.slice o2 l2 c2) (.int .i64 h.fr) (.int .i64 h.en);have hr:=CY (n:=m) hx (aU ho hfs (fun k hk e=>by simp [Value.ownBlock] at hk;omega)) (.int .i64 h.k) (.string h.nm) (.int .i64 h.n) (.int .i64 h.tk) (.int .i64 h.tn) (.slice o1 l1 c1) (.slice o2 l2 c2) (.int .i64 h.fr) (.int .i64 h.en);exact JB hm hl hr (aC hfp hne (one_setCell hb)) hf' ((hfs.mono (fun _ _ h=>.inl h)).trans (hfp.mono (fun _ _ h=>.inr h))) hg hob hD
theorem CZ.drew {ob:Nat} {s:List Nd} {D:Nat->Prop} {W0 wx:World} (h:CZ ob s D W0 wx):CZ ob s D W0 wx.drew:=by
 obtain ⟨o,c,xs,h1,h2,h3,h4⟩:=h;exact ⟨o,c,xs,h1,h2,h3.trans (Fr.drew D wx),h4⟩
theorem MG (R:Nat->Prop) (ob:Nat) (hR:∀ k,R k->k < ob):DoW 56 #[.pointer (some ⟨ob,0,none⟩)] R ob Qc (fun x _=>x) (FJ ob) where
 own:=by
  rintro b s D A ⟨o,c,xs,hb,hl,hz,hd⟩ k hk;rcases (hd k).1 hk with rfl | h
  ·exact ⟨lt_of_block hb,fun h=>by have:=hR _ h;omega⟩
  ·exact ⟨(hl.1.lt k h).2,fun hr=>by have:=hR _ hr;have:=hl.2.2 k h;omega⟩
 big:=by
  rintro b s D A ⟨o,c,xs,hb,_⟩;exact Nat.le_of_lt (lt_of_block hb)
 weak:=by
  rintro b b' s D A ⟨o,c,xs,hb,hl,hz,hd⟩ hle;exact ⟨o,c,xs,hb,hl,by omega,hd⟩
 stay:=by
  rintro b s D A B ⟨o,c,xs,hb,hl,hz,hd⟩ hf;exact ⟨o,c,xs,aC hf (fun h=>h.2 ((hd _).2 (.inl rfl))) hb,Ht hl hf (fun k hk h=>h.2 ((hd k).2 (.inr hk))),hz,hd⟩
 call:=by
  rintro b s D A T e h o1 l1 c1 o2 l2 c2 no n c ⟨o,co,xs,hb,hl,hz,hd⟩ hN hn hs hk;obtain ⟨W0,hW0⟩:∃ W0,W0=(A.alloc (.cells (cells9 h o1 l1 c1 o2 l2 c2) 30)).alloc (.cells zero9 30):=⟨_,rfl⟩;have bD:Hid (ah A W0):=by rw [hW0];exact (ah.alloc _ _).trans (ah.alloc _ _)
  have hz0:A.heap.size+2=W0.heap.size:=by rw [hW0];simp
  have HZ0:=hid hz0;have HB0:Hid (W0.heap[A.heap.size]?=some (.cells (cells9 h o1 l1 c1 o2 l2 c2) 30 (0,0))):=by
   show _=_;rw [hW0,Below.heap_alloc _ _ _ (by simp)];exact heap_alloc_new A _
  have HB1:Hid (W0.heap[A.heap.size+1]?=some (.cells zero9 30 (0,0))):=by
   show _=_;rw [hW0]
   have:=heap_alloc_new (A.alloc (.cells (cells9 h o1 l1 c1 o2 l2 c2) 30)) (.cells zero9 30);simpa using this
  have hob:=lt_of_block hb;have hb2:=aC bD.out (fun h=>h) hb;have HOB:=hid hb2;have qX:=hid (gY.stay hl bD.out);have YT:=hid hl;have HD:=hid hd;have HI:=hid (Fq T e h.nm no n c W0 (hN.stay bD.out) (by omega));have HXL:Hid (xs.length=s.length*9):=hl.1.1;clear hb hb2 hl hd hN hs hk hz0;unfold bP
  by_cases hx:ix e h.nm < 0
  ·have HS:Hid (Qc s h e=s++[h]):=by show _=_;unfold Qc;rw [if_pos hx]
   generalize ix e h.nm=r at *;go_enter Tryd.func56,Tryd.ntmps56;go_upto_region 1 with fail
   rw [<-hW0];clear hW0;generalize hB:A.heap.size=B at *;have bY:=hid hB;clear hB;obtain ⟨⟨x0,x1,x2,x3,x4,x5,x6,x7,x8⟩,y0,y1,y2,y3,y4,y5,y6,y7,y8⟩:=aW HB0.out;go_wp2_with fail;refine HI.out.mono ?_;rintro x w2 ⟨rfl,rfl⟩;go_upto_region 2 with fail
   have cob:=cell_of_one HOB.out;have fob:=free_of_one HOB.out;generalize hm:s.length=m at *;have HM:=hid hm;clear hm;have hlow:∀ k,(Value.slice o m co).ownBlock=some k->ob+1<=k/\k < B:=fun k hk=>by have h1:=YT.out.2.2 k (by rw [HM.out];exact hk);have h2:=(YT.out.1.lt k (by rw [HM.out];exact hk)).2;have:=bY.out;omega
   have XE:=hid hlow;clear hlow;have abn:Hid (W0.ownsRow 0 30 9 (.slice o m co) m xs):=by have:=qX.out.1;rw [HM.out] at this;exact this
   have hA:=ah.alloc W0 (.cells zero9 30);obtain ⟨⟨xa0,xa1,xa2,xa3,xa4,xa5,xa6,xa7,xa8⟩,_⟩:=aW (au hA HB0.out);have coA:=cell_of_one (au hA HOB.out);clear hA;have hi1:(m:Int) < ((m+1:Nat):Int):=by omega
   have hi2:(m:Int) < (m:Int)+1:=by omega
   have hi3:(0:Int)<=m:=by omega
   have HHO:Hid (ob < W0.heap.size):=by have:=HZ0.out;show _ < _;omega
   have OY:Hid (∀ k,D k↔(k=ob∨(Value.slice o m co).ownBlock=some k)):=HD.out;go_cut [15] (fun _ wx=>CZ ob (s++[h]) D W0 wx)
   case first =>
    go_region_law ((refine St.AQ W0.drew rfl (.tmp 11) (.tmp 14) 26 rfl 30 _ 9 112 sZ (.slice o m co) m xs rfl ?hown zero9 rfl rfl ?c1 ?c2 ?c3 ?_);(case hown=>exact abn.out);(case c1=>simp [Value.oneCell']);(case c2=>(unfold maxLen;omega));(case c3=>omega);intro g4 c4 w4 nM hf4 hg4;obtain ⟨⟨p0,p1,p2,p3,p4,p5,p6,p7,p8⟩,r0,r1,r2,r3,r4,r5,r6,r7,r8⟩:=MF (z0:=.int .i64 0) (z1:=.string ⟨#[]⟩) (z2:=.int .i64 0) (z3:=.int .i64 0) (z4:=.int .i64 0) (z5:=.slice none 0 0) (z6:=.slice none 0 0) (z7:=.int .i64 0) (z8:=.int .i64 0) HXL.out rfl nM;have HO4:=hid nM;have MC:=hid hf4;have HG4:=hid hg4;clear nM;obtain ⟨⟨ha1,ha2⟩,⟨ha3,ha4⟩,hb4,hx4⟩:=Hz HOB.out HB0.out XE.out HZ0.out hob hf4 hg4;have co4:=cell_of_one hb4;have fo4:=free_of_one hb4;obtain ⟨⟨xx0,xx1,xx2,xx3,xx4,xx5,xx6,xx7,xx8⟩,_⟩:=aW hx4;have HB4:=hid hb4;clear hb4 hx4 hf4 hg4)
    all_goals
     go_wp2_with fail;go_meet
     first
      | with_reducible exact FQ HM.out qX.out HO4.out HB4.out ha1 MC.out HG4.out HHO.out OY.out
      | with_reducible exact FT HM.out qX.out HO4.out HB4.out ha1 MC.out HG4.out HHO.out OY.out
      | with_reducible exact (FQ HM.out qX.out HO4.out HB4.out ha1 MC.out HG4.out HHO.out OY.out).drew
      | with_reducible exact (FT HM.out qX.out HO4.out HB4.out ha1 MC.out HG4.out HHO.out OY.out).drew
   case rest =>
    rename World=>wx
    obtain ⟨oq,cq,ys,hbq,hlq,hfq,hnq⟩:=hcut;have hDB:∀ k,D k->k < B:=fun k hk=>by
     rcases (OY.out k).1 hk with h | h
     ·omega
     ·exact (XE.out k h).2
    have hxq:=aC hfq (fun h=>by have:=hDB _ h;omega) HB0.out;have hrq:=aC hfq (fun h=>by have:=hDB _ h;omega) HB1.out;have HBQ:=hid hbq;have HLQ:=hid hlq;have HFQ:=hid hfq;have HNQ:=hid hnq;have HRQ:=hid hrq;have HDB:=hid hDB;clear x0 x1 x2 x3 x4 x5 x6 x7 x8 y0 y1 y2 y3 y4 y5 y6 y7 y8 cob fob xa0 xa1 xa2 xa3 xa4 xa5 xa6 xa7 xa8 coA hbq hlq hfq hnq hDB;obtain ⟨⟨x0,x1,x2,x3,x4,x5,x6,x7,x8⟩,_⟩:=aW hxq;obtain ⟨⟨z0,z1,z2,z3,z4,z5,z6,z7,z8⟩,t0,t1,t2,t3,t4,t5,t6,t7,t8⟩:=aW hrq;clear hxq hrq;go_wp2_with fail;have ou:=iM wx (B+1) (.int .i64 h.k) (.string h.nm) (.int .i64 h.n) (.int .i64 h.tk) (.int .i64 h.tn) (.slice o1 l1 c1) (.slice o2 l2 c2) (.int .i64 h.fr) (.int .i64 h.en);have hbf:=dO (a0:=.int .i64 h.k) (a1:=.string h.nm) (a2:=.int .i64 h.n) (a3:=.int .i64 h.tk) (a4:=.int .i64 h.tn) (a5:=.slice o1 l1 c1) (a6:=.slice o2 l2 c2) (a7:=.int .i64 h.fr) (a8:=.int .i64 h.en) HRQ.out;change bodyPost _ _ _ _ _ (fV wx (B+1) (.int .i64 h.k) (.string h.nm) (.int .i64 h.n) (.int .i64 h.tk) (.int .i64 h.tn) (.slice o1 l1 c1) (.slice o2 l2 c2) (.int .i64 h.fr) (.int .i64 h.en));clear x0 x1 x2 x3 x4 x5 x6 x7 x8 z0 z1 z2 z3 z4 z5 z6 z7 z8 t0 t1 t2 t3 t4 t5 t6 t7 t8;generalize fV wx (B+1) (.int .i64 h.k) (.string h.nm) (.int .i64 h.n) (.int .i64 h.tk) (.int .i64 h.tn) (.slice o1 l1 c1) (.slice o2 l2 c2) (.int .i64 h.fr) (.int .i64 h.en)=wf at *;obtain ⟨⟨x0,x1,x2,x3,x4,x5,x6,x7,x8⟩,_⟩:=aW hbf;have bF:Hid (DoQ Qc (fun x _=>x) (FJ ob) b s D e h o1 l1 c1 o2 l2 c2 A (.returned (bP h o1 l1 c1 o2 l2 c2)) wf):=by
     have hz2:=HZ0.out;have hB:=bY.out;have hnk:∀ k,(Value.slice oq (s++[h]).length cq).ownBlock=some k->k≠B+1:=fun k hk=>by
      rcases HNQ.out k hk with h | h
      ·have:=HDB.out k h;omega
      ·omega
     refine ⟨rfl,fun k=>k=ob∨(Value.slice oq (s++[h]).length cq).ownBlock=some k,?_,?_,?_⟩
     ·rw [HS.out];refine ⟨oq,cq,ys,aC ou (by omega) HBQ.out,Ht HLQ.out ou hnk,?_,fun k=>Iff.rfl⟩;rw [List.length_append];have:=HM.out;simp only [List.length_cons,List.length_nil];omega
     ·exact ((bD.out.fr).trans HFQ.out).trans' ou (fun k hk h=>by omega)
     ·intro k hk;rcases hk with h | h
      ·exact .inl ((OY.out k).2 (.inl h))
      ·rcases HNQ.out k h with h | h
       ·exact .inl h
       ·exact .inr (by omega)
    clear ou hbf;refine bodyPost_ret (by simp [results,Tryd.results56,go_sem,x0,x1,x2,x3,x4,x5,x6,x7,x8];rfl) rfl ?_;exact bF.out
  ·have HS:Hid (Qc s h e=s):=by show _=_;unfold Qc;rw [if_neg hx]
   generalize ix e h.nm=r at *;go_enter Tryd.func56,Tryd.ntmps56;go_upto_region 1 with fail
   rw [<-hW0];clear hW0;generalize hB:A.heap.size=B at *;have bY:=hid hB;clear hB;obtain ⟨⟨x0,x1,x2,x3,x4,x5,x6,x7,x8⟩,y0,y1,y2,y3,y4,y5,y6,y7,y8⟩:=aW HB0.out;obtain ⟨⟨z0,z1,z2,z3,z4,z5,z6,z7,z8⟩,t0,t1,t2,t3,t4,t5,t6,t7,t8⟩:=aW HB1.out;go_wp2_with fail;refine HI.out.mono ?_;rintro x w2 ⟨rfl,rfl⟩;go_wp2_with fail;have ou:=iM W0 (B+1) (.int .i64 h.k) (.string h.nm) (.int .i64 h.n) (.int .i64 h.tk) (.int .i64 h.tn) (.slice o1 l1 c1) (.slice o2 l2 c2) (.int .i64 h.fr) (.int .i64 h.en);have hbf:=dO (a0:=.int .i64 h.k) (a1:=.string h.nm) (a2:=.int .i64 h.n) (a3:=.int .i64 h.tk) (a4:=.int .i64 h.tn) (a5:=.slice o1 l1 c1) (a6:=.slice o2 l2 c2) (a7:=.int .i64 h.fr) (a8:=.int .i64 h.en) HB1.out;change bodyPost _ _ _ _ _ (fV W0 (B+1) (.int .i64 h.k) (.string h.nm) (.int .i64 h.n) (.int .i64 h.tk) (.int .i64 h.tn) (.slice o1 l1 c1) (.slice o2 l2 c2) (.int .i64 h.fr) (.int .i64 h.en));clear x0 x1 x2 x3 x4 x5 x6 x7 x8 y0 y1 y2 y3 y4 y5 y6 y7 y8 z0 z1 z2 z3 z4 z5 z6 z7 z8 t0 t1 t2 t3 t4 t5 t6 t7 t8;generalize fV W0 (B+1) (.int .i64 h.k) (.string h.nm) (.int .i64 h.n) (.int .i64 h.tk) (.int .i64 h.tn) (.slice o1 l1 c1) (.slice o2 l2 c2) (.int .i64 h.fr) (.int .i64 h.en)=wf at *;obtain ⟨⟨x0,x1,x2,x3,x4,x5,x6,x7,x8⟩,_⟩:=aW hbf;have bF:Hid (DoQ Qc (fun x _=>x) (FJ ob) b s D e h o1 l1 c1 o2 l2 c2 A (.returned (bP h o1 l1 c1 o2 l2 c2)) wf):=by
    have hz2:=HZ0.out;have hB:=bY.out;refine ⟨rfl,D,?_,(bD.out.fr).trans' ou (fun k hk h=>by omega),fun k hk=>.inl hk⟩;rw [HS.out];exact ⟨o,co,xs,aC ou (by omega) HOB.out,Ht qX.out ou (fun k hk e=>by have:=(YT.out.1.lt k hk).2;omega),by omega,HD.out⟩
   clear ou hbf;refine bodyPost_ret (by simp [results,Tryd.results56,go_sem,x0,x1,x2,x3,x4,x5,x6,x7,x8];rfl) rfl ?_;exact bF.out
end Sc
end
section
open Go.RowKit Go.Shelf
namespace Sc
def UJ (L0:Nat) (_:Nat) (_:Unit) (D:Nat->Prop) (W:World):Prop:=L0<=W.heap.size/\∀ k,¬ D k
theorem Qh (R:Nat->Prop) (L0:Nat):DoW 59 #[] R L0 (fun (s:Unit) _ _=>s) Qi (UJ L0) where
 own:=fun b s D A h k hk=>absurd hk (h.2 k)
 big:=fun b s D A h=>h.1
 weak:=fun b b' s D A h _=>h
 stay:=fun b s D A B h hf=>⟨Nat.le_trans h.1 hf.size,h.2⟩
 call:=by
  rintro b s D A T e h o1 l1 c1 o2 l2 c2 no n c hJ hN hn hs hk;obtain ⟨W0,hW0⟩:∃ W0,W0=(A.alloc (.cells (cells9 h o1 l1 c1 o2 l2 c2) 30)).alloc (.cells zero9 30):=⟨_,rfl⟩;have bD:Hid (ah A W0):=by rw [hW0];exact (ah.alloc _ _).trans (ah.alloc _ _)
  have hz0:A.heap.size+2=W0.heap.size:=by rw [hW0];simp
  have HZ0:=hid hz0;have HJ:=hid hJ;have HB0:Hid (W0.heap[A.heap.size]?=some (.cells (cells9 h o1 l1 c1 o2 l2 c2) 30 (0,0))):=by
   show _=_;rw [hW0,Below.heap_alloc _ _ _ (by simp)];exact heap_alloc_new A _
  have HB1:Hid (W0.heap[A.heap.size+1]?=some (.cells zero9 30 (0,0))):=by
   show _=_;rw [hW0]
   have:=heap_alloc_new (A.alloc (.cells (cells9 h o1 l1 c1 o2 l2 c2) 30)) (.cells zero9 30);simpa using this
  have HI:=hid (Fq T e h.nm no n c W0 (hN.stay bD.out) (by omega));clear hN hs hk hz0 hJ;unfold bP
  by_cases hx:0<=ix e h.nm
  ·have HO:Hid (Qi h e={ h with n:=ix e h.nm }):=by show _=_;unfold Qi;rw [if_pos hx]
   have hx':ix e h.nm≥0:=hx;generalize ix e h.nm=r at *;go_enter Tryd.func59,Tryd.ntmps59;go_upto_region 1 with fail
   rw [<-hW0];clear hW0;generalize hB:A.heap.size=B at *;have bY:=hid hB;clear hB;obtain ⟨⟨x0,x1,x2,x3,x4,x5,x6,x7,x8⟩,y0,y1,y2,y3,y4,y5,y6,y7,y8⟩:=aW HB0.out;obtain ⟨⟨z0,z1,z2,z3,z4,z5,z6,z7,z8⟩,t0,t1,t2,t3,t4,t5,t6,t7,t8⟩:=aW HB1.out;go_wp2_with fail;refine HI.out.mono ?_;rintro x w2 ⟨rfl,rfl⟩;go_wp2_with fail;have ou:=iM (W0.setCell ⟨B,2,none⟩ (.int .i64 r)) (B+1) (.int .i64 h.k) (.string h.nm) (.int .i64 r) (.int .i64 h.tk) (.int .i64 h.tn) (.slice o1 l1 c1) (.slice o2 l2 c2) (.int .i64 h.fr) (.int .i64 h.en);have hbf:=dO (a0:=.int .i64 h.k) (a1:=.string h.nm) (a2:=.int .i64 r) (a3:=.int .i64 h.tk) (a4:=.int .i64 h.tn) (a5:=.slice o1 l1 c1) (a6:=.slice o2 l2 c2) (a7:=.int .i64 h.fr) (a8:=.int .i64 h.en) (aC (Fr.setCell (fun k=>k=B) W0 ⟨B,2,none⟩ (.int .i64 r) rfl) (by omega) HB1.out);change bodyPost _ _ _ _ _ (fV (W0.setCell ⟨B,2,none⟩ (.int .i64 r)) (B+1) (.int .i64 h.k) (.string h.nm) (.int .i64 r) (.int .i64 h.tk) (.int .i64 h.tn) (.slice o1 l1 c1) (.slice o2 l2 c2) (.int .i64 h.fr) (.int .i64 h.en));clear x0 x1 x2 x3 x4 x5 x6 x7 x8 y0 y1 y2 y3 y4 y5 y6 y7 y8 z0 z1 z2 z3 z4 z5 z6 z7 z8 t0 t1 t2 t3 t4 t5 t6 t7 t8;have hfw:Fr (fun k=>k=B∨k=B+1) W0 (W0.setCell ⟨B,2,none⟩ (.int .i64 r)):=(Fr.setCell _ W0 ⟨B,2,none⟩ (.int .i64 r) (.inl rfl));generalize fV (W0.setCell ⟨B,2,none⟩ (.int .i64 r)) (B+1) (.int .i64 h.k) (.string h.nm) (.int .i64 r) (.int .i64 h.tk) (.int .i64 h.tn) (.slice o1 l1 c1) (.slice o2 l2 c2) (.int .i64 h.fr) (.int .i64 h.en)=wf at *;obtain ⟨⟨x0,x1,x2,x3,x4,x5,x6,x7,x8⟩,_⟩:=aW hbf
   have bF:Hid (DoQ (fun (s:Unit) _ _=>s) Qi (UJ L0) b s D e h o1 l1 c1 o2 l2 c2 A (.returned (.agg #[.int .i64 h.k,.string h.nm,.int .i64 r,.int .i64 h.tk,.int .i64 h.tn,.slice o1 l1 c1,.slice o2 l2 c2,.int .i64 h.fr,.int .i64 h.en])) wf):=by
    have hz2:=HZ0.out;have hB:=bY.out;have hfs:=ou.size;have hfz:=hfw.size;refine ⟨by rw [HO.out];rfl,D,⟨by have:=HJ.out.1;omega,HJ.out.2⟩,((bD.out.fr).trans' hfw (fun k hk h=>by omega)).trans' ou (fun k hk h=>by omega),fun k hk=>.inl hk⟩
   clear ou hbf;refine bodyPost_ret (by simp [results,Tryd.results59,go_sem,x0,x1,x2,x3,x4,x5,x6,x7,x8];rfl) rfl ?_;exact bF.out
  ·have HO:Hid (Qi h e=h):=by show _=_;unfold Qi;rw [if_neg hx]
   have hx':¬ ix e h.nm≥0:=hx;generalize ix e h.nm=r at *;go_enter Tryd.func59,Tryd.ntmps59;go_upto_region 1 with fail
   rw [<-hW0];clear hW0;generalize hB:A.heap.size=B at *;have bY:=hid hB;clear hB;obtain ⟨⟨x0,x1,x2,x3,x4,x5,x6,x7,x8⟩,y0,y1,y2,y3,y4,y5,y6,y7,y8⟩:=aW HB0.out;obtain ⟨⟨z0,z1,z2,z3,z4,z5,z6,z7,z8⟩,t0,t1,t2,t3,t4,t5,t6,t7,t8⟩:=aW HB1.out;go_wp2_with fail;refine HI.out.mono ?_;rintro x w2 ⟨rfl,rfl⟩;go_wp2_with fail;have ou:=iM W0 (B+1) (.int .i64 h.k) (.string h.nm) (.int .i64 h.n) (.int .i64 h.tk) (.int .i64 h.tn) (.slice o1 l1 c1) (.slice o2 l2 c2) (.int .i64 h.fr) (.int .i64 h.en);have hbf:=dO (a0:=.int .i64 h.k) (a1:=.string h.nm) (a2:=.int .i64 h.n) (a3:=.int .i64 h.tk) (a4:=.int .i64 h.tn) (a5:=.slice o1 l1 c1) (a6:=.slice o2 l2 c2) (a7:=.int .i64 h.fr) (a8:=.int .i64 h.en) HB1.out;change bodyPost _ _ _ _ _ (fV W0 (B+1) (.int .i64 h.k) (.string h.nm) (.int .i64 h.n) (.int .i64 h.tk) (.int .i64 h.tn) (.slice o1 l1 c1) (.slice o2 l2 c2) (.int .i64 h.fr) (.int .i64 h.en));clear x0 x1 x2 x3 x4 x5 x6 x7 x8 y0 y1 y2 y3 y4 y5 y6 y7 y8 z0 z1 z2 z3 z4 z5 z6 z7 z8 t0 t1 t2 t3 t4 t5 t6 t7 t8;have hfw:Fr (fun k=>k=B∨k=B+1) W0 W0:=Fr.refl _ _;generalize fV W0 (B+1) (.int .i64 h.k) (.string h.nm) (.int .i64 h.n) (.int .i64 h.tk) (.int .i64 h.tn) (.slice o1 l1 c1) (.slice o2 l2 c2) (.int .i64 h.fr) (.int .i64 h.en)=wf at *;obtain ⟨⟨x0,x1,x2,x3,x4,x5,x6,x7,x8⟩,_⟩:=aW hbf;have bF:Hid (DoQ (fun (s:Unit) _ _=>s) Qi (UJ L0) b s D e h o1 l1 c1 o2 l2 c2 A (.returned (.agg #[.int .i64 h.k,.string h.nm,.int .i64 h.n,.int .i64 h.tk,.int .i64 h.tn,.slice o1 l1 c1,.slice o2 l2 c2,.int .i64 h.fr,.int .i64 h.en])) wf):=by
    have hz2:=HZ0.out;have hB:=bY.out;have hfs:=ou.size;have hfz:=hfw.size;refine ⟨by rw [HO.out];rfl,D,⟨by have:=HJ.out.1;omega,HJ.out.2⟩,((bD.out.fr).trans' hfw (fun k hk h=>by omega)).trans' ou (fun k hk h=>by omega),fun k hk=>.inl hk⟩
   clear ou hbf;refine bodyPost_ret (by simp [results,Tryd.results59,go_sem,x0,x1,x2,x3,x4,x5,x6,x7,x8];rfl) rfl ?_;exact bF.out
end Sc
end
section
open Go.RowKit Go.Shelf
namespace Sc
theorem XF:∀ args w,(callFunc 56 args).run Tryd.prog w=.ok (.enter 56 args) w:=enters_of Tryd.func56 (by kernel_rfl) rfl
theorem ZO:∀ args w,(callFunc 59 args).run Tryd.prog w=.ok (.enter 59 args) w:=enters_of Tryd.func59 (by kernel_rfl) rfl
theorem Ue (h : Nd) (ps : To) (w : World) (R : Nat -> Prop) (o1 : Option Addr) (l1 c1 : Nat) (o2 : Option Addr) (l2 c2 : Nat) (hs1 : aB R w o1 l1 h.tp) (hs : bC R w o2 l2 ps) (hz : ps.size <= 100000) (hv : vU h ps) (hav : CW ps) :
    Calls Tryd.prog 36 #[bP h o1 l1 c1 o2 l2 c2] w (Ad w (bM [] h ps)):=by
 obtain ⟨W1,hW1⟩:∃ W1,W1=(w.alloc (.cells (cells9 h o1 l1 c1 o2 l2 c2) 30)).alloc (.cells #[.slice none 0 0] 26):=⟨_,rfl⟩;have fD:Hid (ah w W1):=by rw [hW1];exact (ah.alloc _ _).trans (ah.alloc _ _)
 have hb0:W1.heap[w.heap.size]?=some (.cells (cells9 h o1 l1 c1 o2 l2 c2) 30 (0,0)):=by
  rw [hW1,Below.heap_alloc _ _ _ (by simp)];exact heap_alloc_new w _
 have hb1:W1.heap[w.heap.size+1]?=some (.cells #[.slice none 0 0] 26 (0,0)):=by
  rw [hW1];have:=heap_alloc_new (w.alloc (.cells (cells9 h o1 l1 c1 o2 l2 c2) 30)) (.cells #[.slice none 0 0] 26);simpa using this
 have hz1:W1.heap.size=w.heap.size+2:=by rw [hW1];simp
 have hJ:FJ (w.heap.size+1) (0+(ps.size+1)) [] (fun k=>k=w.heap.size+1) W1:=⟨none,0,[],hb1,CU _ _,by simp;omega,fun k=>by simp [Value.ownBlock]⟩;have HC:=hid (FM (F:=56) (lb:=#[.pointer (some ⟨w.heap.size+1,0,none⟩)]) (R:=fun k=>k < w.heap.size) (L0:=w.heap.size+1) (mM:=Qc) (out:=fun x _=>x) XF (MG _ _ (fun k hk=>by omega)) (fun k hk=>by omega) (fun _ _=>rfl) h ps 0 [] _ W1 (fun _=>False) [] o1 l1 c1 o2 l2 c2 none 0 0 hJ (iY.nil _ _ _) (Nat.le_refl _) (fun _ h=>h.elim) (by omega)
  (((hs1.mono (T:=fun k=>k < w.heap.size) (fun k hk _=>hk)).stay fD.out)) (((hs.mono (T:=fun k=>k < w.heap.size) (fun k hk _=>hk)).stay fD.out)) hv hav)
 have HF:Hid ((AP Qc (fun x _=>x) [] [] h ps).1=bM [] h ps):=by show _=_;rw [TY];rfl
 obtain ⟨⟨a0,a1,a2,a3,a4,a5,a6,a7,a8⟩,_⟩:=aW hb0;clear hb0 hb1 hJ hs1 hs hv hav hz1;unfold bP at HC ⊢;go_enter Tryd.func36,Tryd.ntmps36;go_upto_region 2 with fail
 change Code.wp _ _ _ _ ((w.alloc (.cells (cells9 h o1 l1 c1 o2 l2 c2) 30)).alloc (.cells #[.slice none 0 0] 26));rw [<-hW1];clear hW1;go_wp2_with fail;refine HC.out.mono ?_;rintro x w2 ⟨r2,e2,D2,E2,rfl,⟨o,c,xs,hb,hl,_,hd⟩,_,_,hf,_⟩;rw [HF.out] at hb hl hd;have cb:=cell_of_one hb;have HL:=hid hl;have AO:=hid hf;unfold bP;clear hb hl hd hf a0 a1 a2 a3 a4 a5 a6 a7 a8;go_wp2_with fail;go_ret;exact ⟨o,c,xs,rfl,CV HL.out (by omega),fD.out.trans' AO.out (fun k hk h=>by have h':k=w.heap.size+1:=h;omega)⟩
theorem Uf (h:Nd) (e:List ByteArray):(Qi h e).tp=h.tp:=by unfold Qi;split<;>rfl
end Sc
end
section
open Go.RowKit Go.Shelf
namespace Sc
def C9 (h:Nd) (ps:To):Nd:=(AP (fun (s:Unit) _ _=>s) Qi () [] h ps).2.1
def Ia (h:Nd) (ps:To):To:=(AP (fun (s:Unit) _ _=>s) Qi () [] h ps).2.2
theorem XG (h:Nd) (ps:To):(C9 h ps).tp=h.tp:=Uc _ _ Uf _ _ _ _
def TmQ (w:World) (g:Nd) (gs:To) (x:Ending) (w':World):Prop:=∃ o1 l1 c1 o2 l2 c2,x=.returned (bP g o1 l1 c1 o2 l2 c2)/\aB (fun b=>w.heap.size<=b) w' o1 l1 g.tp/\bC (fun b=>w.heap.size<=b) w' o2 l2 gs/\ah w w'
theorem Ib (h : Nd) (ps : To) (w : World) (R : Nat -> Prop) (o1 : Option Addr) (l1 c1 : Nat) (o2 : Option Addr) (l2 c2 : Nat) (hs1 : aB R w o1 l1 h.tp) (hs : bC R w o2 l2 ps) (hz : ps.size <= 100000) (hv : vU h ps) (hav : CW ps) (ht : h.tp.size <= 1000000) (hat : allT (fun h => h.tp.size <= 1000000) ps) :
    Calls Tryd.prog 37 #[bP h o1 l1 c1 o2 l2 c2] w (TmQ w (C9 h ps) (Ia h ps)):=by
 obtain ⟨W0,hW0⟩:∃ W0,W0=(w.alloc (.cells (cells9 h o1 l1 c1 o2 l2 c2) 30)).alloc (.cells zero9 30):=⟨_,rfl⟩;have bD:Hid (ah w W0):=by rw [hW0];exact (ah.alloc _ _).trans (ah.alloc _ _)
 have hb0:W0.heap[w.heap.size]?=some (.cells (cells9 h o1 l1 c1 o2 l2 c2) 30 (0,0)):=by
  rw [hW0,Below.heap_alloc _ _ _ (by simp)];exact heap_alloc_new w _
 have hb1:W0.heap[w.heap.size+1]?=some (.cells zero9 30 (0,0)):=by
  rw [hW0];have:=heap_alloc_new (w.alloc (.cells (cells9 h o1 l1 c1 o2 l2 c2) 30)) (.cells zero9 30);simpa using this
 have hz0:W0.heap.size=w.heap.size+2:=by rw [hW0];simp
 have HB1:=hid hb1;have HC:=hid (PK h ps W0 R o1 l1 c1 o2 l2 c2 (hs1.stay bD.out) (hs.stay bD.out) ht hat (by omega));have HW:Hid (∀ (w1:World) (q1:Option Addr) (e1:Nat) (q2:Option Addr) (e2:Nat),aB (fun b=>W0.heap.size<=b) w1 q1 l1 h.tp->bC (fun b=>W0.heap.size<=b) w1 q2 l2 ps->Calls Tryd.prog 55 #[bP h q1 l1 e1 q2 l2 e2,.slice none 0 0,.func (.func 59) #[] #[]] w1 (WkQ (fun k=>W0.heap.size<=k/\k < w1.heap.size) (fun (s:Unit) _ _=>s) Qi (UJ w1.heap.size) 0 () (fun _=>False) [] h ps q1 l1 e1 l2 w1)):=fun w1 q1 e1 q2 e2 g1 g2 =>
  FM (F:=59) (lb:=#[]) (R:=fun k=>W0.heap.size<=k/\k < w1.heap.size) (L0:=w1.heap.size) ZO (Qh _ _) (fun k hk=>hk.2) Uf h ps 0 () (fun _=>False) w1 (fun _=>False) [] q1 l1 e1 q2 l2 e2 none 0 0 ⟨Nat.le_refl _,fun _ h=>h⟩ (iY.nil _ _ _) (Nat.le_refl _) (fun _ h=>h.elim) (by omega) (g1.mono (fun k hk h=>⟨h,hk⟩)) (g2.mono (fun k hk h=>⟨h,hk⟩)) hv hav
 have HZ0:=hid hz0;obtain ⟨⟨a0,a1,a2,a3,a4,a5,a6,a7,a8⟩,_⟩:=aW hb0;clear hb0 hb1 hs1 hs hv hav ht hat hz0;unfold bP at HC HW ⊢;go_enter Tryd.func37,Tryd.ntmps37;go_upto_region 1 with fail
 change Code.wp _ _ _ _ ((w.alloc (.cells (cells9 h o1 l1 c1 o2 l2 c2) 30)).alloc (.cells zero9 30));rw [<-hW0];clear hW0;generalize hB:w.heap.size=B at *;have bY:=hid hB;clear hB;go_wp2_with fail;refine HC.out.mono ?_;rintro x w1 ⟨q1,e1,q2,e2,rfl,hk1,hk2,hq1⟩;have HWC:=hid (HW.out w1 q1 e1 q2 e2 hk1 hk2);have KQ:=hid hk1;have fD:=hid hq1;clear hk1 hk2 hq1 a0 a1 a2 a3 a4 a5 a6 a7 a8;go_wp2_with fail;refine HWC.out.mono ?_;rintro x w2 ⟨r2,f2,D2,E2,rfl,hj,hto,hE,hf,_⟩;have hq2:ah w1 w2:=hf;have hb2:=aC (fD.out.trans hq2) (fun h=>h) HB1.out;have HB2:=hid hb2;obtain ⟨⟨z0,z1,z2,z3,z4,z5,z6,z7,z8⟩,t0,t1,t2,t3,t4,t5,t6,t7,t8⟩:=aW hb2;have Ru:Hid (aB (fun b=>W0.heap.size<=b) w2 q1 l1 (C9 h ps).tp):=by show aB _ _ _ _ _;rw [XG];exact KQ.out.stay hq2
 have HG2:Hid (bC (fun b=>W0.heap.size<=b) w2 r2 l2 (Ia h ps)):=hto.acF (fun k _ hk=>hk.1) (fun k hk=>by have:=(hE k hk).1;have:=fD.out.size;omega);have fC:=hid (bD.out.trans (fD.out.trans hq2));have hgh:(AP (fun (s:Unit) _ _=>s) Qi () [] h ps).2.1=C9 h ps:=rfl;rw [hgh];clear hj hto hE hf hq2 hb2 hgh;generalize C9 h ps=g at *;unfold bP;go_wp2_with fail;have ou:=iM w2 (B+1) (.int .i64 g.k) (.string g.nm) (.int .i64 g.n) (.int .i64 g.tk) (.int .i64 g.tn) (.slice q1 l1 e1) (.slice r2 l2 f2) (.int .i64 g.fr) (.int .i64 g.en);have hbf:=dO (a0:=.int .i64 g.k) (a1:=.string g.nm) (a2:=.int .i64 g.n) (a3:=.int .i64 g.tk) (a4:=.int .i64 g.tn) (a5:=.slice q1 l1 e1) (a6:=.slice r2 l2 f2) (a7:=.int .i64 g.fr) (a8:=.int .i64 g.en) HB2.out;change bodyPost _ _ _ _ _ (fV w2 (B+1) (.int .i64 g.k) (.string g.nm) (.int .i64 g.n) (.int .i64 g.tk) (.int .i64 g.tn) (.slice q1 l1 e1) (.slice r2 l2 f2) (.int .i64 g.fr) (.int .i64 g.en));clear z0 z1 z2 z3 z4 z5 z6 z7 z8 t0 t1 t2 t3 t4 t5 t6 t7 t8;generalize fV w2 (B+1) (.int .i64 g.k) (.string g.nm) (.int .i64 g.n) (.int .i64 g.tk) (.int .i64 g.tn) (.slice q1 l1 e1) (.slice r2 l2 f2) (.int .i64 g.fr) (.int .i64 g.en)=wf at *;obtain ⟨⟨x0,x1,x2,x3,x4,x5,x6,x7,x8⟩,_⟩:=aW hbf;have bF:Hid (TmQ w g (Ia h ps) (.returned (.agg #[.int .i64 g.k,.string g.nm,.int .i64 g.n,.int .i64 g.tk,.int .i64 g.tn,.slice q1 l1 e1,.slice r2 l2 f2,.int .i64 g.fr,.int .i64 g.en])) wf):=by
  have hB:=bY.out;have hz0:=HZ0.out;have key:∀ k,W0.heap.size<=k->w.heap.size<=k/\¬ k=B+1:=fun k hk=>by omega
  exact ⟨q1,l1,e1,r2,l2,f2,rfl,Ru.out.fr ou (fun k _ hk=>key k hk),HG2.out.fr ou (fun k _ hk=>key k hk),fC.out.trans' ou (fun k hk h=>by omega)⟩
 clear ou hbf;refine bodyPost_ret (by simp [results,Tryd.results37,go_sem,x0,x1,x2,x3,x4,x5,x6,x7,x8];rfl) rfl ?_;exact bF.out
end Sc
end
end Go.Proofs.YtcninopmelmajaaDoor
