/-
  Texts laid together (ScFreeDo, CnUses0, CnUses): laws and walks, with their conditions.
-/
import Derived.Deep.RegionLaw
import Derived.Laws.OwnMore
import Derived.Test.YtcninopmelmajaaGreatDoorCC7
set_option maxHeartbeats 8000000
set_option maxRecDepth 1000000
namespace Go.Proofs.YtcninopmelmajaaGreatDoor
open Go.Lib (hid)
section
open Go.RowKit Go.Shelf
namespace Sc
abbrev GV (w:World) (g off:Nat) (a0 a1 a2 a3 a4 a5 a6 a7 a8:Value):World :=
 ((((((((w.setCell ⟨g,off,none⟩ a0).setCell ⟨g,off+1,none⟩ a1).setCell ⟨g,off+2,none⟩ a2).setCell ⟨g,off+3,none⟩ a3).setCell ⟨g,off+4,none⟩ a4).setCell ⟨g,off+5,none⟩ a5).setCell ⟨g,off+6,none⟩ a6).setCell ⟨g,off+7,none⟩ a7).setCell ⟨g,off+8,none⟩ a8
theorem FD (w:World) (g off:Nat) (a0 a1 a2 a3 a4 a5 a6 a7 a8:Value):Fr (fun k=>k=g) w (GV w g off a0 a1 a2 a3 a4 a5 a6 a7 a8) :=
 ((((((((Fr.setCell (fun k=>k=g) w ⟨g,off,none⟩ a0 rfl).trans (Fr.setCell (fun k=>k=g) _ ⟨g,off+1,none⟩ a1 rfl)).trans (Fr.setCell (fun k=>k=g) _ ⟨g,off+2,none⟩ a2 rfl)).trans (Fr.setCell (fun k=>k=g) _ ⟨g,off+3,none⟩ a3 rfl)).trans (Fr.setCell (fun k=>k=g) _ ⟨g,off+4,none⟩ a4 rfl)).trans (Fr.setCell (fun k=>k=g) _ ⟨g,off+5,none⟩ a5 rfl)).trans (Fr.setCell (fun k=>k=g) _ ⟨g,off+6,none⟩ a6 rfl)).trans (Fr.setCell (fun k=>k=g) _ ⟨g,off+7,none⟩ a7 rfl)).trans (Fr.setCell (fun k=>k=g) _ ⟨g,off+8,none⟩ a8 rfl)
theorem Dx {w : World} {base : Nat} {e : TypeId} {g m c n : Nat} {xs : List Value} {z0 z1 z2 z3 z4 z5 z6 z7 z8 : Value} (hx : xs.length = n * 9) (h : w.ownsRow base e 9 (.slice (some ⟨g, 0, none⟩) m c) m (xs ++ [z0, z1, z2, z3, z4, z5, z6, z7, z8])) (a0 a1 a2 a3 a4 a5 a6 a7 a8 : Value) :
    (GV w g (n * 9) a0 a1 a2 a3 a4 a5 a6 a7 a8).ownsRow base e 9 (.slice (some ⟨g,0,none⟩) m c) m (xs++[a0,a1,a2,a3,a4,a5,a6,a7,a8]):=by
 have h1:=((((((((((h.stored (n * 9) a0).1.stored (n * 9+1) a1).1.stored (n * 9+2) a2).1.stored (n * 9+3) a3).1.stored (n * 9+4) a4).1.stored (n * 9+5) a5).1.stored (n * 9+6) a6).1.stored (n * 9+7) a7).1.stored (n * 9+8) a8).1)
 have key:∀ (j:Nat) (u:Value) (ys:List Value),(xs++ys).set (n * 9+j) u=xs++ys.set j u:=fun j u ys=>by
  rw [List.set_append_right _ _ (by omega),hx];congr 2;omega
 have k0:(xs++[z0,z1,z2,z3,z4,z5,z6,z7,z8]).set (n * 9) a0=xs++[a0,z1,z2,z3,z4,z5,z6,z7,z8]:=key 0 a0 _
 rw [k0,key,key,key,key,key,key,key,key] at h1
 exact h1
theorem LX {w : World} {base : Nat} {e : TypeId} {g m c n : Nat} {xs : List Value} {z0 z1 z2 z3 z4 z5 z6 z7 z8 : Value} (hx : xs.length = n * 9) (hm : n + 1 = m) (h : w.ownsRow base e 9 (.slice (some ⟨g, 0, none⟩) m c) m (xs ++ [z0, z1, z2, z3, z4, z5, z6, z7, z8])) :
    (w.cell? ⟨g,n * 9,none⟩=some z0/\w.cell? ⟨g,n * 9+1,none⟩=some z1/\w.cell? ⟨g,n * 9+2,none⟩=some z2/\w.cell? ⟨g,n * 9+3,none⟩=some z3/\w.cell? ⟨g,n * 9+4,none⟩=some z4/\w.cell? ⟨g,n * 9+5,none⟩=some z5/\w.cell? ⟨g,n * 9+6,none⟩=some z6/\w.cell? ⟨g,n * 9+7,none⟩=some z7/\w.cell? ⟨g,n * 9+8,none⟩=some z8) /\
    (w.frozen? ⟨g,n * 9,none⟩=false/\w.frozen? ⟨g,n * 9+1,none⟩=false/\w.frozen? ⟨g,n * 9+2,none⟩=false/\w.frozen? ⟨g,n * 9+3,none⟩=false/\w.frozen? ⟨g,n * 9+4,none⟩=false/\w.frozen? ⟨g,n * 9+5,none⟩=false/\w.frozen? ⟨g,n * 9+6,none⟩=false/\w.frozen? ⟨g,n * 9+7,none⟩=false/\w.frozen? ⟨g,n * 9+8,none⟩=false):=by
 have key:∀ j,j < 9->w.cell? ⟨g,n * 9+j,none⟩=[z0,z1,z2,z3,z4,z5,z6,z7,z8][j]?:=fun j hj=>by
  rw [h.cellAt _ (by omega),List.getElem?_append_right (by omega),hx];congr 1;omega
 exact ⟨⟨key 0 (by omega),key 1 (by omega),key 2 (by omega),key 3 (by omega),key 4 (by omega),key 5 (by omega),key 6 (by omega),key 7 (by omega),key 8 (by omega)⟩,h.frozenAt _,h.frozenAt _,h.frozenAt _,h.frozenAt _,h.frozenAt _,h.frozenAt _,h.frozenAt _,h.frozenAt _,h.frozenAt _⟩
def FJ (ob b:Nat) (s:List Nd) (D:Nat->Prop) (W:World):Prop:=∃ (o:Option Addr) (c:Nat) (xs:List Value),W.heap[ob]?=some (.cells #[.slice o s.length c] 25 (0,0))/\jh (ob+1) W o c s xs/\s.length+b<=300000/\∀ k,D k↔(k=ob∨(Value.slice o s.length c).ownBlock=some k)
theorem GX {W w4 : World} {ob B g4 m co : Nat} {o : Option Addr} {h : Nd} {o1 : Option Addr} {l1 c1 : Nat} {o2 : Option Addr} {l2 c2 : Nat} (hb : W.heap[ob]? = some (.cells #[.slice o m co] 25 (0, 0))) (hx : W.heap[B]? = some (.cells (cells9 h o1 l1 c1 o2 l2 c2) 29 (0, 0)))
    (hlow:∀ k,(Value.slice o m co).ownBlock=some k->ob+1<=k/\k < B) (hz:B+2=W.heap.size) (hob:ob < B) (hf':Fr (fun k=>(Value.slice o m co).ownBlock=some k) W.drew w4) (hg:(Value.slice o m co).ownBlock=some g4∨W.heap.size<=g4) :
    (ob≠g4/\g4≠ob)/\(B≠g4/\g4≠B)/\w4.heap[ob]?=some (.cells #[.slice o m co] 25 (0,0))/\w4.heap[B]?=some (.cells (cells9 h o1 l1 c1 o2 l2 c2) 29 (0,0)):=by
 have hf:=(Fr.drew (fun k=>(Value.slice o m co).ownBlock=some k) W).trans hf'
 have h1:ob≠g4:=by
  rcases hg with h | h
  ·have:=(hlow _ h).1;omega
  ·omega
 have h2:B≠g4:=by
  rcases hg with h | h
  ·have:=(hlow _ h).2;omega
  ·omega
 exact ⟨⟨h1,fun e=>h1 e.symm⟩,⟨h2,fun e=>h2 e.symm⟩,ay hf (fun e=>by have:=(hlow _ e).1;omega) hb,ay hf (fun e=>by have:=(hlow _ e).2;omega) hx⟩
def NW (ob:Nat) (s:List Nd) (D:Nat->Prop) (W0 wx:World):Prop:=∃ (o:Option Addr) (c:Nat) (xs:List Value),wx.heap[ob]?=some (.cells #[.slice o s.length c] 25 (0,0))/\jh (ob+1) wx o c s xs/\Fr D W0 wx/\∀ k,(Value.slice o s.length c).ownBlock=some k->D k∨W0.heap.size<=k
theorem Jy {W w4 wx : World} {ob g4 m co c4 : Nat} {o : Option Addr} {xs : List Value} {D : Nat -> Prop} {s : List Nd} {h : Nd} {o1 : Option Addr} {l1 c1 : Nat} {o2 : Option Addr} {l2 c2 : Nat} (hm : s.length = m) (hl : jh (ob + 1) W o co s xs)
    (hw:wx.ownsRow 0 29 9 (.slice (some ⟨g4,0,none⟩) (m+1) c4) (m+1) (xs++(cells9 h o1 l1 c1 o2 l2 c2).toList)) (hb:wx.heap[ob]?=some (.cells #[.slice (some ⟨g4,0,none⟩) (m+1) c4] 25 (0,0)))
    (hf':Fr (fun k=>(Value.slice o m co).ownBlock=some k) W.drew w4) (hfx:Fr (fun k=>k=ob∨k=g4) w4 wx) (hg:(Value.slice o m co).ownBlock=some g4∨W.heap.size<=g4) (hob:ob < W.heap.size) (hD:∀ k,D k↔(k=ob∨(Value.slice o m co).ownBlock=some k)):NW ob (s++[h]) D W wx:=by
 have hn:(s++[h]).length=m+1:=by simp [hm]
 refine ⟨some ⟨g4,0,none⟩,c4,xs++(cells9 h o1 l1 c1 o2 l2 c2).toList,by rw [hn];exact hb,⟨by rw [hn];exact hw,uq.app _ _ _ _ hl.2.1 ⟨o1,l1,c1,o2,l2,c2,[],by simp,rfl⟩,?_⟩,?_,?_⟩
 ·intro k hk
  simp [Value.ownBlock] at hk
  subst hk
  rcases hg with h | h
  ·exact hl.2.2 _ (by rw [hm];exact h)
  ·omega
 ·refine (((Fr.drew (fun k=>(Value.slice o m co).ownBlock=some k) W).trans hf').mono (fun k _ h=>(hD k).2 (.inr h))).trans' hfx (fun k hk h=>?_)
  rcases h with h | h
  ·exact (hD k).2 (.inl h)
  ·subst h
   rcases hg with h | h
   ·exact (hD _).2 (.inr h)
   ·omega
 ·intro k hk
  simp [Value.ownBlock] at hk
  subst hk
  rcases hg with h | h
  ·exact .inl ((hD _).2 (.inr h))
  ·exact .inr h
theorem FH {W w4 : World} {ob g4 m co c4 : Nat} {o : Option Addr} {xs : List Value} {D : Nat -> Prop} {s : List Nd} {h : Nd} {o1 : Option Addr} {l1 c1 : Nat} {o2 : Option Addr} {l2 c2 : Nat} (hm : s.length = m) (hl : jh (ob + 1) W o co s xs)
    (ho:w4.ownsRow 0 29 9 (.slice (some ⟨g4,0,none⟩) (m+1) c4) (m+1) (xs++zero9.toList)) (hb:w4.heap[ob]?=some (.cells #[.slice o m co] 25 (0,0))) (hne:ob≠g4)
    (hf':Fr (fun k=>(Value.slice o m co).ownBlock=some k) W.drew w4) (hg:(Value.slice o m co).ownBlock=some g4∨W.drew.heap.size<=g4) (hob:ob < W.heap.size) (hD:∀ k,D k↔(k=ob∨(Value.slice o m co).ownBlock=some k)) :
    NW ob (s++[h]) D W ((GV w4 g4 (m * 9) (.int .i64 h.k) (.string h.nm) (.int .i64 h.n) (.int .i64 h.tk) (.int .i64 h.tn) (.slice o1 l1 c1) (.slice o2 l2 c2) (.int .i64 h.fr) (.int .i64 h.en)).setCell ⟨ob,0,none⟩ (.slice (some ⟨g4,0,none⟩) (m+1) c4)):=by
 have hx:xs.length=m * 9:=by rw [<-hm];exact hl.1.1
 have hfp:=FD w4 g4 (m * 9) (.int .i64 h.k) (.string h.nm) (.int .i64 h.n) (.int .i64 h.tk) (.int .i64 h.tn) (.slice o1 l1 c1) (.slice o2 l2 c2) (.int .i64 h.fr) (.int .i64 h.en)
 have hr:=Dx (n:=m) hx ho (.int .i64 h.k) (.string h.nm) (.int .i64 h.n) (.int .i64 h.tk) (.int .i64 h.tn) (.slice o1 l1 c1) (.slice o2 l2 c2) (.int .i64 h.fr) (.int .i64 h.en)
 have pJ:=ay hfp hne hb
 exact Jy hm hl (aZ hr (Fr.setCell (fun k=>k=ob) _ _ _ rfl) (fun k hk e=>by simp [Value.ownBlock] at hk;omega)) (one_setCell pJ) hf' ((hfp.mono (fun _ _ h=>.inr h)).trans (Fr.setCell _ _ _ _ (.inl rfl))) hg hob hD
theorem FI {W w4 : World} {ob g4 m co c4 : Nat} {o : Option Addr} {xs : List Value} {D : Nat -> Prop} {s : List Nd} {h : Nd} {o1 : Option Addr} {l1 c1 : Nat} {o2 : Option Addr} {l2 c2 : Nat} (hm : s.length = m) (hl : jh (ob + 1) W o co s xs)
    (ho:w4.ownsRow 0 29 9 (.slice (some ⟨g4,0,none⟩) (m+1) c4) (m+1) (xs++zero9.toList)) (hb:w4.heap[ob]?=some (.cells #[.slice o m co] 25 (0,0))) (hne:ob≠g4)
    (hf':Fr (fun k=>(Value.slice o m co).ownBlock=some k) W.drew w4) (hg:(Value.slice o m co).ownBlock=some g4∨W.drew.heap.size<=g4) (hob:ob < W.heap.size) (hD:∀ k,D k↔(k=ob∨(Value.slice o m co).ownBlock=some k)) :
    NW ob (s++[h]) D W (GV (w4.setCell ⟨ob,0,none⟩ (.slice (some ⟨g4,0,none⟩) (m+1) c4)) g4 (m * 9) (.int .i64 h.k) (.string h.nm) (.int .i64 h.n) (.int .i64 h.tk) (.int .i64 h.tn) (.slice o1 l1 c1) (.slice o2 l2 c2) (.int .i64 h.fr) (.int .i64 h.en)):=by
 have hx:xs.length=m * 9:=by rw [<-hm];exact hl.1.1
 have hfs:=Fr.setCell (fun k=>k=ob) w4 ⟨ob,0,none⟩ (.slice (some ⟨g4,0,none⟩) (m+1) c4) rfl
 have hfp:=FD (w4.setCell ⟨ob,0,none⟩ (.slice (some ⟨g4,0,none⟩) (m+1) c4)) g4 (m * 9) (.int .i64 h.k) (.string h.nm) (.int .i64 h.n) (.int .i64 h.tk) (.int .i64 h.tn) (.slice o1 l1 c1) (.slice o2 l2 c2) (.int .i64 h.fr) (.int .i64 h.en)
 have hr:=Dx (n:=m) hx (aZ ho hfs (fun k hk e=>by simp [Value.ownBlock] at hk;omega)) (.int .i64 h.k) (.string h.nm) (.int .i64 h.n) (.int .i64 h.tk) (.int .i64 h.tn) (.slice o1 l1 c1) (.slice o2 l2 c2) (.int .i64 h.fr) (.int .i64 h.en)
 exact Jy hm hl hr (ay hfp hne (one_setCell hb)) hf' ((hfs.mono (fun _ _ h=>.inl h)).trans (hfp.mono (fun _ _ h=>.inr h))) hg hob hD
theorem LY (R:Nat->Prop) (ob:Nat) (hR:∀ k,R k->k < ob):DoW 93 #[.pointer (some ⟨ob,0,none⟩)] R ob Qi (fun x _=>x) (FJ ob) where
 own:=by
  rintro b s D A ⟨o,c,xs,hb,hl,hz,hd⟩ k hk
  rcases (hd k).1 hk with rfl | h
  ·exact ⟨lt_of_block hb,fun h=>by have:=hR _ h;omega⟩
  ·exact ⟨(hl.1.lt k h).2,fun hr=>by have:=hR _ hr;have:=hl.2.2 k h;omega⟩
 big:=by
  rintro b s D A ⟨o,c,xs,hb,_⟩
  exact Nat.le_of_lt (lt_of_block hb)
 weak:=by
  rintro b b' s D A ⟨o,c,xs,hb,hl,hz,hd⟩ hle
  exact ⟨o,c,xs,hb,hl,by omega,hd⟩
 stay:=by
  rintro b s D A B ⟨o,c,xs,hb,hl,hz,hd⟩ hf
  exact ⟨o,c,xs,ay hf (fun h=>h.2 ((hd _).2 (.inl rfl))) hb,GK hl hf (fun k hk h=>h.2 ((hd k).2 (.inr hk))),hz,hd⟩
 call:=by
  rintro b s D A T e h o1 l1 c1 o2 l2 c2 no n c ⟨o,co,xs,hb,hl,hz,hd⟩ hN hn hs hk
  obtain ⟨W0,hW0⟩:∃ W0,W0=(A.alloc (.cells (cells9 h o1 l1 c1 o2 l2 c2) 29)).alloc (.cells zero9 29):=⟨_,rfl⟩
  have aK:Hid (ah A W0):=by rw [hW0];exact (ah.alloc _ _).trans (ah.alloc _ _)
  have hz0:A.heap.size+2=W0.heap.size:=by rw [hW0];simp
  have HZ0:=hid hz0
  have HB0:Hid (W0.heap[A.heap.size]?=some (.cells (cells9 h o1 l1 c1 o2 l2 c2) 29 (0,0))):=by
   show _=_;rw [hW0,Below.heap_alloc _ _ _ (by simp)];exact heap_alloc_new A _
  have HB1:Hid (W0.heap[A.heap.size+1]?=some (.cells zero9 29 (0,0))):=by
   show _=_;rw [hW0]
   have:=heap_alloc_new (A.alloc (.cells (cells9 h o1 l1 c1 o2 l2 c2) 29)) (.cells zero9 29)
   simpa using this
  have hob:=lt_of_block hb
  have hb2:=ay aK.out (fun h=>h) hb
  have Oz:=hid hb2
  have Ae:=hid (jh.stay hl aK.out)
  have X9:=hid hl
  have HD:=hid hd
  have HI:=hid (Fe T e h.nm no n c W0 (hN.stay aK.out) (by omega))
  have HXL:Hid (xs.length=s.length * 9):=hl.1.1
  clear hb hb2 hl hd hN hs hk hz0
  unfold bC
  by_cases hx:ix e h.nm < 0
  ·have HS:Hid (Qi s h e=s++[h]):=by show _=_;unfold Qi;rw [if_pos hx]
   generalize ix e h.nm=r at *
   go_enter Tryz.func93,Tryz.ntmps93
   go_upto_region 1 with fail
   rw [<-hW0]
   clear hW0
   generalize hB:A.heap.size=B at *
   have bM:=hid hB
   clear hB
   obtain ⟨⟨x0,x1,x2,x3,x4,x5,x6,x7,x8⟩,y0,y1,y2,y3,y4,y5,y6,y7,y8⟩:=aT HB0.out
   go_wp2_with fail
   refine HI.out.mono ?_;rintro x w2 ⟨rfl,rfl⟩
   go_upto_region 2 with fail
   have cob:=cell_of_one Oz.out
   have fob:=free_of_one Oz.out
   generalize hm:s.length=m at *
   have HM:=hid hm
   clear hm
   have hlow:∀ k,(Value.slice o m co).ownBlock=some k->ob+1<=k/\k < B:=fun k hk=>by have h1:=X9.out.2.2 k (by rw [HM.out];exact hk);have h2:=(X9.out.1.lt k (by rw [HM.out];exact hk)).2;have:=bM.out;omega
   have Xq:=hid hlow
   clear hlow
   have acf:Hid (W0.ownsRow 0 29 9 (.slice o m co) m xs):=by have:=Ae.out.1;rw [HM.out] at this;exact this
   have hA:=ah.alloc W0 (.cells zero9 29)
   obtain ⟨⟨xa0,xa1,xa2,xa3,xa4,xa5,xa6,xa7,xa8⟩,_⟩:=aT (ak hA HB0.out)
   have coA:=cell_of_one (ak hA Oz.out)
   clear hA
   have hi1:(m:Int) < ((m+1:Nat):Int):=by omega
   have hi2:(m:Int) < (m:Int)+1:=by omega
   have hi3:(0:Int)<=m:=by omega
   have HHO:Hid (ob < W0.heap.size):=by have:=HZ0.out;show _ < _;omega
   have Ot:Hid (∀ k,D k↔(k=ob∨(Value.slice o m co).ownBlock=some k)):=HD.out
   go_cut [15] (fun _ wx=>NW ob (s++[h]) D W0 wx)
   case first =>
    go_region_law ((refine St.Aj W0.drew rfl (.tmp 11) (.tmp 14) 25 rfl 29 _ 9 112 vU (.slice o m co) m xs rfl ?hown zero9 rfl rfl ?c1 ?c2 ?c3 ?_);(case hown=>exact acf.out);(case c1=>simp [Value.oneCell']);(case c2=>(unfold maxLen;omega));(case c3=>omega);intro g4 c4 w4 kX hf4 hg4;obtain ⟨⟨p0,p1,p2,p3,p4,p5,p6,p7,p8⟩,r0,r1,r2,r3,r4,r5,r6,r7,r8⟩:=LX (z0:=.int .i64 0) (z1:=.string ⟨#[]⟩) (z2:=.int .i64 0) (z3:=.int .i64 0) (z4:=.int .i64 0) (z5:=.slice none 0 0) (z6:=.slice none 0 0) (z7:=.int .i64 0) (z8:=.int .i64 0) HXL.out rfl kX;have HO4:=hid kX;have QK:=hid hf4;have HG4:=hid hg4;clear kX;obtain ⟨⟨ha1,ha2⟩,⟨ha3,ha4⟩,hb4,hx4⟩:=GX Oz.out HB0.out Xq.out HZ0.out hob hf4 hg4;have co4:=cell_of_one hb4;have fo4:=free_of_one hb4;obtain ⟨⟨xx0,xx1,xx2,xx3,xx4,xx5,xx6,xx7,xx8⟩,_⟩:=aT hx4;have HB4:=hid hb4;clear hb4 hx4 hf4 hg4)
    all_goals
     go_wp2_with fail
     go_meet
     first
      | with_reducible exact FH HM.out Ae.out HO4.out HB4.out ha1 QK.out HG4.out HHO.out Ot.out
      | with_reducible exact FI HM.out Ae.out HO4.out HB4.out ha1 QK.out HG4.out HHO.out Ot.out
      | with_reducible exact (FH HM.out Ae.out HO4.out HB4.out ha1 QK.out HG4.out HHO.out Ot.out).drew
      | with_reducible exact (FI HM.out Ae.out HO4.out HB4.out ha1 QK.out HG4.out HHO.out Ot.out).drew
   case rest =>
    rename World=>wx
    obtain ⟨oq,cq,ys,hbq,hlq,hfq,hnq⟩:=hcut
    have hDB:∀ k,D k->k < B:=fun k hk=>by
     rcases (Ot.out k).1 hk with h | h
     ·omega
     ·exact (Xq.out k h).2
    have hxq:=ay hfq (fun h=>by have:=hDB _ h;omega) HB0.out
    have hrq:=ay hfq (fun h=>by have:=hDB _ h;omega) HB1.out
    have HBQ:=hid hbq
    have HLQ:=hid hlq
    have HFQ:=hid hfq
    have HNQ:=hid hnq
    have HRQ:=hid hrq
    have HDB:=hid hDB
    clear x0 x1 x2 x3 x4 x5 x6 x7 x8 y0 y1 y2 y3 y4 y5 y6 y7 y8 cob fob xa0 xa1 xa2 xa3 xa4 xa5 xa6 xa7 xa8 coA hbq hlq hfq hnq hDB
    obtain ⟨⟨x0,x1,x2,x3,x4,x5,x6,x7,x8⟩,_⟩:=aT hxq
    obtain ⟨⟨z0,z1,z2,z3,z4,z5,z6,z7,z8⟩,t0,t1,t2,t3,t4,t5,t6,t7,t8⟩:=aT hrq
    clear hxq hrq
    go_wp2_with fail
    have nP:=iW wx (B+1) (.int .i64 h.k) (.string h.nm) (.int .i64 h.n) (.int .i64 h.tk) (.int .i64 h.tn) (.slice o1 l1 c1) (.slice o2 l2 c2) (.int .i64 h.fr) (.int .i64 h.en)
    have hbf:=dH (a0:=.int .i64 h.k) (a1:=.string h.nm) (a2:=.int .i64 h.n) (a3:=.int .i64 h.tk) (a4:=.int .i64 h.tn) (a5:=.slice o1 l1 c1) (a6:=.slice o2 l2 c2) (a7:=.int .i64 h.fr) (a8:=.int .i64 h.en) HRQ.out
    change bodyPost _ _ _ _ _ (gq wx (B+1) (.int .i64 h.k) (.string h.nm) (.int .i64 h.n) (.int .i64 h.tk) (.int .i64 h.tn) (.slice o1 l1 c1) (.slice o2 l2 c2) (.int .i64 h.fr) (.int .i64 h.en))
    clear x0 x1 x2 x3 x4 x5 x6 x7 x8 z0 z1 z2 z3 z4 z5 z6 z7 z8 t0 t1 t2 t3 t4 t5 t6 t7 t8
    generalize gq wx (B+1) (.int .i64 h.k) (.string h.nm) (.int .i64 h.n) (.int .i64 h.tk) (.int .i64 h.tn) (.slice o1 l1 c1) (.slice o2 l2 c2) (.int .i64 h.fr) (.int .i64 h.en)=wf at *
    obtain ⟨⟨x0,x1,x2,x3,x4,x5,x6,x7,x8⟩,_⟩:=aT hbf
    have bJ:Hid (DoQ Qi (fun x _=>x) (FJ ob) b s D e h o1 l1 c1 o2 l2 c2 A (.returned (bC h o1 l1 c1 o2 l2 c2)) wf):=by
     have hz2:=HZ0.out
     have hB:=bM.out
     have hnk:∀ k,(Value.slice oq (s++[h]).length cq).ownBlock=some k->k≠B+1:=fun k hk=>by
      rcases HNQ.out k hk with h | h
      ·have:=HDB.out k h;omega
      ·omega
     refine ⟨rfl,fun k=>k=ob∨(Value.slice oq (s++[h]).length cq).ownBlock=some k,?_,?_,?_⟩
     ·rw [HS.out]
      refine ⟨oq,cq,ys,ay nP (by omega) HBQ.out,GK HLQ.out nP hnk,?_,fun k=>Iff.rfl⟩
      rw [List.length_append];have:=HM.out;simp only [List.length_cons,List.length_nil];omega
     ·exact ((aK.out.fr).trans HFQ.out).trans' nP (fun k hk h=>by omega)
     ·intro k hk
      rcases hk with h | h
      ·exact .inl ((Ot.out k).2 (.inl h))
      ·rcases HNQ.out k h with h | h
       ·exact .inl h
       ·exact .inr (by omega)
    clear nP hbf
    refine bodyPost_ret (by simp [results,Tryz.results93,go_sem,x0,x1,x2,x3,x4,x5,x6,x7,x8];rfl) rfl ?_
    exact bJ.out
  ·have HS:Hid (Qi s h e=s):=by show _=_;unfold Qi;rw [if_neg hx]
   generalize ix e h.nm=r at *
   go_enter Tryz.func93,Tryz.ntmps93
   go_upto_region 1 with fail
   rw [<-hW0]
   clear hW0
   generalize hB:A.heap.size=B at *
   have bM:=hid hB
   clear hB
   obtain ⟨⟨x0,x1,x2,x3,x4,x5,x6,x7,x8⟩,y0,y1,y2,y3,y4,y5,y6,y7,y8⟩:=aT HB0.out
   obtain ⟨⟨z0,z1,z2,z3,z4,z5,z6,z7,z8⟩,t0,t1,t2,t3,t4,t5,t6,t7,t8⟩:=aT HB1.out
   go_wp2_with fail
   refine HI.out.mono ?_;rintro x w2 ⟨rfl,rfl⟩
   go_wp2_with fail
   have nP:=iW W0 (B+1) (.int .i64 h.k) (.string h.nm) (.int .i64 h.n) (.int .i64 h.tk) (.int .i64 h.tn) (.slice o1 l1 c1) (.slice o2 l2 c2) (.int .i64 h.fr) (.int .i64 h.en)
   have hbf:=dH (a0:=.int .i64 h.k) (a1:=.string h.nm) (a2:=.int .i64 h.n) (a3:=.int .i64 h.tk) (a4:=.int .i64 h.tn) (a5:=.slice o1 l1 c1) (a6:=.slice o2 l2 c2) (a7:=.int .i64 h.fr) (a8:=.int .i64 h.en) HB1.out
   change bodyPost _ _ _ _ _ (gq W0 (B+1) (.int .i64 h.k) (.string h.nm) (.int .i64 h.n) (.int .i64 h.tk) (.int .i64 h.tn) (.slice o1 l1 c1) (.slice o2 l2 c2) (.int .i64 h.fr) (.int .i64 h.en))
   clear x0 x1 x2 x3 x4 x5 x6 x7 x8 y0 y1 y2 y3 y4 y5 y6 y7 y8 z0 z1 z2 z3 z4 z5 z6 z7 z8 t0 t1 t2 t3 t4 t5 t6 t7 t8
   generalize gq W0 (B+1) (.int .i64 h.k) (.string h.nm) (.int .i64 h.n) (.int .i64 h.tk) (.int .i64 h.tn) (.slice o1 l1 c1) (.slice o2 l2 c2) (.int .i64 h.fr) (.int .i64 h.en)=wf at *
   obtain ⟨⟨x0,x1,x2,x3,x4,x5,x6,x7,x8⟩,_⟩:=aT hbf
   have bJ:Hid (DoQ Qi (fun x _=>x) (FJ ob) b s D e h o1 l1 c1 o2 l2 c2 A (.returned (bC h o1 l1 c1 o2 l2 c2)) wf):=by
    have hz2:=HZ0.out
    have hB:=bM.out
    refine ⟨rfl,D,?_,(aK.out.fr).trans' nP (fun k hk h=>by omega),fun k hk=>.inl hk⟩
    rw [HS.out]
    exact ⟨o,co,xs,ay nP (by omega) Oz.out,GK Ae.out nP (fun k hk e=>by have:=(X9.out.1.lt k hk).2;omega),by omega,HD.out⟩
   clear nP hbf
   refine bodyPost_ret (by simp [results,Tryz.results93,go_sem,x0,x1,x2,x3,x4,x5,x6,x7,x8];rfl) rfl ?_
   exact bJ.out
end Sc
end
section
open Go.RowKit Go.Shelf
attribute [local go_sem] Oper.semAt_some
namespace Cn
abbrev fK (l:List Int):List Value:=l.map (Value.int .i64)
structure F5 (ob wb:Nat) (out:List Int) (oo:Option Addr) (oc:Nat) (W:World):Prop where
 o:W.heap[ob]?=some (.cells #[.slice oo out.length oc] 35 (0,0))
 w:W.heap[wb]?=some (.cells #[.func (.func 31) #[] #[.pointer (some ⟨ob,0,none⟩),.pointer (some ⟨wb,0,none⟩)]] 59 (0,0))
 row:W.ownsRow 0 3 1 (.slice oo out.length oc) out.length (fK out)
 n1:(Value.slice oo out.length oc).ownBlock≠some ob
 n2:(Value.slice oo out.length oc).ownBlock≠some wb
 n3:ob≠wb
theorem F5.fr {ob wb:Nat} {out:List Int} {oo:Option Addr} {oc:Nat} {S:Nat->Prop} {W W':World} (h:F5 ob wb out oo oc W) (hf:Fr S W W') (h1:¬ S ob) (h2:¬ S wb) (h3:∀ k,(Value.slice oo out.length oc).ownBlock=some k->¬ S k):F5 ob wb out oo oc W' :=
 ⟨ay hf h1 h.o,ay hf h2 h.w,aZ h.row hf h3,h.n1,h.n2,h.n3⟩
theorem F5.stay {ob wb:Nat} {out:List Int} {oo:Option Addr} {oc:Nat} {W W':World} (h:F5 ob wb out oo oc W) (hq:ah W W'):F5 ob wb out oo oc W':=h.fr hq (fun h=>h) (fun h=>h) (fun _ _ h=>h)
theorem F5.lt {ob wb:Nat} {out:List Int} {oo:Option Addr} {oc:Nat} {W:World} (h:F5 ob wb out oo oc W):∀ k,(Value.slice oo out.length oc).ownBlock=some k->k < W.heap.size:=fun k hk=>(h.row.lt k hk).2
theorem F5.bump {ob wb n:Nat} {out:List Int} {g oc:Nat} {W:World} (h:F5 ob wb out (some ⟨g,0,none⟩) oc W) (x:Int) (hx:out[n]?=some x):F5 ob wb (bump out n) (some ⟨g,0,none⟩) oc (W.setCell ⟨g,n,none⟩ (.int .i64 (x+1))):=by
 have hl:(Cn.bump out n).length=out.length:=bump_length out n
 have hf:=Fr.setCell (fun k=>k=g) W ⟨g,n,none⟩ (.int .i64 (x+1)) rfl
 have e1:ob≠g:=fun e=>h.n1 (by rw [e];rfl)
 have e2:wb≠g:=fun e=>h.n2 (by rw [e];rfl)
 refine ⟨by rw [hl];exact ay hf e1 h.o,ay hf e2 h.w,?_,by rw [hl];exact h.n1,by rw [hl];exact h.n2,h.n3⟩
 rw [hl]
 have hr:=(h.row.stored n (.int .i64 (x+1))).1
 have he:(fK out).set n (.int .i64 (x+1))=fK (Cn.bump out n):=by
  unfold fK Cn.bump
  apply List.ext_getElem?
  intro i
  rw [List.getElem?_set,List.getElem?_map,List.getElem?_map,List.getElem?_modify]
  by_cases hi:n=i
  ·subst hi
   simp only [hx,List.length_map,Option.map_some,if_true]
   rw [if_pos (List.getElem?_eq_some_iff.1 hx).1];rfl
  ·rw [if_neg hi]
   cases out[i]? with
   | none=>rfl
   | some y=>simp [hi]
 rw [<-he];exact hr
theorem LZ {e:Env} {i:Nat} {x:ByteArray × Int} (h:e[i]?=some x) (s:ByteArray):qJ (e.drop i) s=if x.1=s then some x.2 else qJ (e.drop (i+1)) s:=by
 obtain ⟨hk,hs⟩:=List.getElem?_eq_some_iff.1 h
 rw [List.drop_eq_getElem_cons hk,hs];rfl
def UsQ (ob wb:Nat) (out':List Int) (oo:Option Addr) (oc n:Nat) (W:World) (x:Ending) (W':World):Prop :=
 (∃ v,x=.returned v)/\∃ Yl oc',F5 ob wb out' Yl oc' W'/\Fr (fun k=>k=ob∨(Value.slice oo n oc).ownBlock=some k) W W'/\∀ k,(Value.slice Yl out'.length oc').ownBlock=some k->(Value.slice oo n oc).ownBlock=some k∨W.heap.size<=k
def UI (ob wb B:Nat) (h:Nd) (o1:Option Addr) (l1 c1:Nat) (o2:Option Addr) (l2 c2:Nat) (out:List Int) (oo:Option Addr) (oc:Nat) (e:Env) (w:World) (i:Nat) (D:Nat->Prop) (W:World):Prop :=
 (∀ j,D j↔(Value.slice oo out.length oc).ownBlock=some j)/\W.heap[B]?=some (.cells (cells9 h o1 l1 c1 o2 l2 c2) 29 (0,0))/\F5 ob wb out oo oc W/\ah w W/\qJ e h.nm=qJ (e.drop i) h.nm
theorem UI.fr {ob wb B : Nat} {h : Nd} {o1 : Option Addr} {l1 c1 : Nat} {o2 : Option Addr} {l2 c2 : Nat} {out : List Int} {oo : Option Addr} {oc : Nat} {e : Env} {w : World} {i : Nat} {D S : Nat -> Prop} {W W' : World} (k : UI ob wb B h o1 l1 c1 o2 l2 c2 out oo oc e w i D W) (hf : Fr S W W') (hS : ∀ k, k < w.heap.size -> ¬ S k) (hB : ¬ S B)
    (h1:ob < w.heap.size) (h2:wb < w.heap.size) (h3:∀ k,(Value.slice oo out.length oc).ownBlock=some k->k < w.heap.size):UI ob wb B h o1 l1 c1 o2 l2 c2 out oo oc e w i D W' :=
 ⟨k.1,ay hf hB k.2.1,k.2.2.1.fr hf (hS _ h1) (hS _ h2) (fun j hj=>hS _ (h3 j hj)),Fr.trans' k.2.2.2.1 hf (fun j hj hs=>hS j hj hs),k.2.2.2.2⟩
theorem U7 (h : Nd) (ps : To) (hk : h.k = 1) (w : World) (T : Nat -> Prop) (ob wb : Nat) (o1 : Option Addr) (l1 c1 : Nat) (o2 : Option Addr) (l2 c2 : Nat) (eo : Option Addr) (en ec : Nat) (e : Env) (out : List Int) (oo : Option Addr) (oc m : Nat)
    (hB:iF T w eo en e) (hz:en<=1000000) (he:Aa e out.length) (ho:qF out m) (hm:m<=1000000) (_:out.length<=1000000) (hU:F5 ob wb out oo oc w) (hT:∀ k,T k->(Value.slice oo out.length oc).ownBlock≠some k) :
    Calls Tryz.prog 31 #[bC h o1 l1 c1 o2 l2 c2,.slice eo en ec,.pointer (some ⟨ob,0,none⟩),.pointer (some ⟨wb,0,none⟩)] w (UsQ ob wb (iC h ps e out) oo oc out.length w):=by
 have HV:Hid (iC h ps e out=rW e h.nm out):=by show mW h _ e out=_;unfold mW;rw [if_pos hk]
 rw [HV.out]
 have k1:(h.k == 1)=true:=by simp [hk]
 have U8:=lt_of_block hU.o
 have Xz:=lt_of_block hU.w
 have hown:=hU.lt
 refine (callsIn_wide (n:=5)).1 ?_
 unfold bC
 refine callsIn_of_wp_marks Tryz.func31 rfl trivial ?_ rfl
 simp only [Tryz.ntmps31,List.size_toArray,List.length_cons,List.length_nil,Nat.reduceAdd,Nat.reduceSub,Array.replicate_succ,Array.replicate_zero,List.push_toArray,List.append_toArray,List.nil_append,List.cons_append]
 have HC:=fun W=>(callsIn_wide (n:=4)).2 (Fp eo en ec W)
 have HEE:=hid he
 have Oz:=hid ho
 have JH:=hid hB
 have YP:=hid hT
 have HU:=hid hU
 have hbx:=ig w h o1 l1 c1 o2 l2 c2 29
 obtain ⟨a0,a1,a2,a3,a4,a5,a6,a7,a8⟩:=hbx
 clear hk he ho hB hT hU HV
 gi_wp2_with (fail)
 refine ⟨trivial,(HC _).mono ?_⟩;rintro x pI ⟨rfl,hW2⟩
 obtain ⟨W1,hW1⟩:∃ W1,W1=w.alloc (.cells (cells9 h o1 l1 c1 o2 l2 c2) 29):=⟨_,rfl⟩
 have hz1:W1.heap.size=w.heap.size+1:=by rw [hW1];simp
 have hq1:ah w W1:=by rw [hW1];exact ah.alloc _ _
 have rV:pI=W1.alloc (.cells #[.slice eo en ec] 60):=by rw [hW1];exact hW2
 have hb1:W1.heap[w.heap.size]?=some (.cells (cells9 h o1 l1 c1 o2 l2 c2) 29 (0,0)):=by rw [hW1];exact heap_alloc_new w _
 have hq12:ah W1 pI:=by rw [rV];exact ah.alloc _ _
 have hq2:ah w pI:=hq1.trans hq12
 have htb:pI.heap[W1.heap.size]?=some (.cells #[.slice eo en ec] 60 (0,0)):=by rw [rV];exact heap_alloc_new W1 _
 have hz2:pI.heap.size=w.heap.size+2:=by rw [rV];simp;omega
 have hseq:=Jl (5 - 1) (fun k=>(T k/\k < w.heap.size)∨k=W1.heap.size) e eo en ec W1.heap.size pI (fun k hk=>by omega) htb (.inr rfl) ((JH.out.mono (T':=fun k=>(T k/\k < w.heap.size)∨k=W1.heap.size) (fun k hk ht=>.inl ⟨ht,hk⟩)).stay hq2) hz
 rw [hz1] at hseq
 have QV:=hid hseq
 have HST:Hid (UI ob wb w.heap.size h o1 l1 c1 o2 l2 c2 out oo oc e w 0 (fun j=>(Value.slice oo out.length oc).ownBlock=some j) pI):=⟨fun j=>Iff.rfl,ak hq12 hb1,HU.out.stay hq2,hq2,by simp⟩
 clear hW1 hW2 rV hq1 hb1 hq2 htb hseq HC hq12 a0 a1 a2 a3 a4 a5 a6 a7 a8
 gi_wp2_with (fail)
 refine qO (w:=pI) rfl (enters_of Tryz.func52 (by kernel_rfl) rfl) QV.out (fun k hk=>by omega) (Fr.refl _ _) (fun i x va W he=>Fq he)
  (UI ob wb w.heap.size h o1 l1 c1 o2 l2 c2 out oo oc e w)
  (fun i x a' D W=>UI ob wb w.heap.size h o1 l1 c1 o2 l2 c2 out oo oc e w i D W/\∃ (xb:Nat) (t17 t18:Value),W.heap[xb]?=some (.cells #[.string x.1,.int .i64 x.2] 65 (0,0))/\xb≠pI.heap.size+1/\xb≠w.heap.size/\(Value.slice oo out.length oc).ownBlock≠some xb/\a'={ tmps:=#[.agg #[.int .i64 h.k,.string h.nm,.int .i64 h.n,.int .i64 h.tk,.int .i64 h.tn,.slice o1 l1 c1,.slice o2 l2 c2,.int .i64 h.fr,.int .i64 h.en],.slice eo en ec,.pointer (some ⟨ob,0,none⟩),.pointer (some ⟨wb,0,none⟩),.pointer (some ⟨w.heap.size,0,none⟩),undef,undef,.pointer (some ⟨xb,0,none⟩),undef,undef,undef,undef,.pointer (some ⟨w.heap.size,0,none⟩),.int .i64 h.k,.bool true,.slice eo en ec,.func (.func 52) #[] #[.pointer (some ⟨w.heap.size+1,0,none⟩)],t17,t18,undef,undef,undef,undef,undef,undef,undef,undef,undef,undef,undef,undef,undef,undef,undef,undef,undef,undef,undef,undef,undef,undef,undef,undef,undef,undef,undef,undef,undef,undef,undef,undef,undef,undef,undef,undef,undef,undef,undef,undef,undef,undef,undef,undef,undef,undef,undef,undef,undef,undef,undef,undef,undef,undef,undef,undef,undef,undef,undef,undef,undef,undef],defers:=[] })
  (fun c W=>c=.exit 0/\F5 ob wb (rW e h.nm out) oo oc W/\Fr (fun k=>k=ob∨(Value.slice oo out.length oc).ownBlock=some k) w W) (fun j=>(Value.slice oo out.length oc).ownBlock=some j) ?own ?stay ?G7 ?G8 ?start ?assign ?body ?done ?stop
 case own =>
  rintro i D A hI k hk
  have e1:=(hI.1 k).1 hk
  have h2:=hown k e1
  have h3:=hI.2.2.2.1.size
  exact ⟨by omega,fun h=>by
   rcases h with h | h
   ·exact YP.out k h.1 e1
   ·omega,.inl (by omega)⟩
 case stay =>
  rintro i D A B hI hf
  refine hI.fr hf (fun k hk h=>by have:=h.1;omega) (fun h=>by have:=h.1;omega) U8 Xz hown
 case G7 =>
  rintro i x a' D A B ⟨hI,xb,t17,t18,hxb,hne,hne2,JL,ha⟩ hf
  exact ⟨hI.fr hf (fun k hk h=>by omega) (by omega) U8 Xz hown,xb,t17,t18,ay hf hne hxb,hne,hne2,JL,ha⟩
 case G8 =>
  rintro c A B ⟨hc,hu,hq⟩ hf
  have hlo:∀ k,(Value.slice oo (rW e h.nm out).length oc).ownBlock=some k->k < w.heap.size:=by rw [fM];exact hown
  exact ⟨hc,hu.fr hf (by omega) (by omega) (fun k hk h=>by have:=hlo k hk;omega),hq.trans' hf (fun k hk h=>by omega)⟩
 case start=>exact HST.out
 case assign =>
  rintro l i y va D W K hx hva hI hWs hK
  unfold UL at hva
  subst hva
  have hq:=ah.alloc W (.cells #[.string y.1,.int .i64 y.2] 65)
  have hnew:=heap_alloc_new W (.cells #[.string y.1,.int .i64 y.2] 65)
  have hne:W.heap.size≠pI.heap.size+1:=by omega
  have JL:(Value.slice oo out.length oc).ownBlock≠some W.heap.size:=fun e=>by have:=hown _ e;have:=hI.2.2.2.1.size;omega
  have hne2:W.heap.size≠w.heap.size:=by omega
  have hI2:=hI.fr (S:=fun _=>False) hq (fun _ _ h=>h) (fun h=>h) U8 Xz hown
  clear hI hWs
  gi_wp2
  exact hK _ _ ⟨hI2,W.heap.size,.int .i64 ((en:Int) - 1 - i),.agg #[.string y.1,.int .i64 y.2],hnew,hne,hne2,JL,by simp⟩ hq
 case body =>
  rintro l i y a' D W hx ⟨hI,xb,t17,t18,hxb,hne,hne2,JL,rfl⟩ hW
  have a0:W.cell? ⟨xb,0,none⟩=some (.string y.1):=by rw [cell_of_row _ _ _ _ _ (0,0) hxb];rfl
  have a1:W.cell? ⟨xb,1,none⟩=some (.int .i64 y.2):=by rw [cell_of_row _ _ _ _ _ (0,0) hxb];rfl
  have b1:=(aA hI.2.1).2.1
  have co:=cell_of_one hI.2.2.1.o
  have hst:=hI.2.2.2.2
  rw [LZ hx] at hst
  by_cases hik:y.1=h.nm
  ·have hbe:(y.1.toList == h.nm.toList)=true:=by rw [hik];simp
   rw [if_pos hik] at hst
   obtain ⟨yp,hyl⟩:=HEE.out y (List.mem_of_getElem? hx)
   obtain ⟨n,hn⟩:∃ n:Nat,y.2=n:=⟨y.2.toNat,by omega⟩
   have hnl:n < out.length:=by omega
   obtain ⟨v,hv⟩:∃ v,out[n]?=some v:=⟨_,List.getElem?_eq_getElem hnl⟩
   have hvb:=Oz.out v (List.mem_of_getElem? hv)
   have HI:=hid hI
   have HS:Hid (rW e h.nm out=bump out n):=by show _=_;unfold rW;rw [hst,hn];rfl
   have hr0:=hI.2.2.1.row
   have hoo:∃ g,oo=some ⟨g,0,none⟩:=by
    rcases hr0.2 with ⟨_,h0⟩ | ⟨g,cap,cur,he,_⟩
    ·omega
    ·injection he with h1 _ _;exact ⟨g,h1⟩
   obtain ⟨g,rfl⟩:=hoo
   have c0:W.cell? ⟨g,n,none⟩=some (.int .i64 v):=by rw [hr0.cellAt n (by omega)];unfold fK;rw [List.getElem?_map,hv];rfl
   have z0:=hr0.frozenAt n
   have e1:IntKind.i64.wrap (v+1)=v+1:=IntWalk.i64_in _ (by omega)
   rw [hn] at a1
   have hi1:(0:Int)<=(n:Int):=by omega
   have hi2:(n:Int) < out.length:=by omega
   have HVV:=hid hv
   clear hI hst hx hik hxb hr0 hv hvb hn yp hyl
   gi_wp2
   have hfs:=Fr.setCell (fun k=>(Value.slice (some ⟨g,0,none⟩) out.length oc).ownBlock=some k) W ⟨g,n,none⟩ (.int .i64 (v+1)) rfl
   exact ⟨⟨rfl,by rw [HS.out];exact HI.out.2.2.1.bump v HVV.out,HI.out.2.2.2.1.fr.trans (hfs.mono (fun k _ h=>.inr h))⟩,hfs.mono (fun k _ e=>(HI.out.1 k).2 e)⟩
  ·have hbe : (y.1.toList == h.nm.toList) = false := by
     cases hx:(y.1.toList == h.nm.toList)
     ·rfl
     ·exact absurd (Sc.str_eq.1 hx) hik
   rw [if_neg hik] at hst
   have HI:=hid hI
   have HS:=hid hst
   clear hI hst hx hik hxb
   gi_wp2
   exact ⟨D,⟨HI.out.1,HI.out.2.1,HI.out.2.2.1,HI.out.2.2.2.1,HS.out⟩,Fr.refl _ _,fun k hk=>.inl hk⟩
 case done =>
  rintro D W hI hdef
  have hst:=hI.2.2.2.2
  rw [List.drop_length] at hst
  have HS:Hid (rW e h.nm out=out):=by show _=_;unfold rW;rw [hst];rfl
  have HI:=hid hI
  clear hI hst
  gi_wp2
  refine ⟨by simp,.inl ⟨_,_,rfl,run_takeDeferred hdef,?_⟩⟩
  have hfp:=Fr.putObj (fun k=>k=pI.heap.size) W pI.heap.size (.deferred none) rfl
  refine ⟨_,by first | (simp [results,Tryz.results31,go_sem];done) | (simp [results,Tryz.results31,go_sem];rfl),⟨_,rfl⟩,oo,oc,?_,?_,?_⟩
  ·rw [HS.out];exact HI.out.2.2.1.fr hfp (by omega) (by omega) (fun k hk h=>by have:=hown k hk;omega)
  ·exact HI.out.2.2.2.1.fr.trans' hfp (fun k hk h=>by omega)
  ·rw [HS.out];exact fun k hk=>.inl hk
 case stop =>
  rintro c W ⟨rfl,hu,hq⟩ hdef
  have HU2:=hid hu
  have dO:=hid hq
  clear hu hq
  gi_wp2
  refine ⟨by simp,.inl ⟨_,_,rfl,run_takeDeferred hdef,?_⟩⟩
  have hfp:=Fr.putObj (fun k=>k=pI.heap.size) W pI.heap.size (.deferred none) rfl
  have hlo:∀ k,(Value.slice oo (rW e h.nm out).length oc).ownBlock=some k->k < w.heap.size:=by rw [fM];exact hown
  refine ⟨_,by first | (simp [results,Tryz.results31,go_sem];done) | (simp [results,Tryz.results31,go_sem];rfl),⟨_,rfl⟩,oo,oc,?_,?_,?_⟩
  ·exact HU2.out.fr hfp (by omega) (by omega) (fun k hk h=>by have:=hlo k hk;omega)
  ·exact dO.out.trans' hfp (fun k hk h=>by omega)
  ·rw [fM];exact fun k hk=>.inl hk
end Cn
end
section
open Go.RowKit Go.Shelf
namespace Cn
def UsT (h:Nd) (ps:To):Prop:=∀ (W:World) (R T:Nat->Prop) (ob wb:Nat) (oo:Option Addr) (oc:Nat) (o1:Option Addr) (l1 c1:Nat) (o2:Option Addr) (l2 c2:Nat) (eo:Option Addr) (en ec:Nat) (e:Env) (out:List Int) (m:Nat),aY R W o2 l2 ps->iF T W eo en e->en<=ec->en+ps.size<=100000->Aa e out.length->qF out m->m+ps.size+1<=900000->out.length+ps.size+1<=900000->F5 ob wb out oo oc W ->
 (∀ k,R k->k < W.heap.size/\k≠ob/\(Value.slice oo out.length oc).ownBlock≠some k)->(∀ k,T k->k < W.heap.size/\k≠ob/\(Value.slice oo out.length oc).ownBlock≠some k) ->
 Calls Tryz.prog 31 #[bC h o1 l1 c1 o2 l2 c2,.slice eo en ec,.pointer (some ⟨ob,0,none⟩),.pointer (some ⟨wb,0,none⟩)] W (UsQ ob wb (iC h ps e out) oo oc out.length W)
theorem zy:∀ (f:To) (h:Nd) (place i:Nat) (e:Env) (out:List Int),(lq h place (dX f) i e out).length<=out.length+f.size
 | .nil,h,place,i,e,out=>Nat.le_add_right _ _
 | .cons g qs r,h,place,i,e,out=>by
  have h1:(mW g (dX qs) (iY h place i e) out).length<=out.length+qs.size+1:=by
   unfold mW
   split
   ·rw [fM];omega
   ·have h2:=zy qs g out.length 0 (iY h place i e) (dh g out)
    have h3:(dh g out).length<=out.length+1:=by unfold dh;split<;>simp
    omega
  have h2:=zy r h place (i+1) e (mW g (dX qs) (iY h place i e) out)
  show (lq h place (dX r) (i+1) e (mW g (dX qs) (iY h place i e) out)).length<=_
  simp only [To.size];omega
theorem L6 (h:Nd) (ps:To) (e:Env) (out:List Int):(iC h ps e out).length<=out.length+ps.size+1:=by
 unfold iC mW
 split
 ·rw [fM];omega
 ·have h2:=zy ps h out.length 0 e (dh h out)
  have h3:(dh h out).length<=out.length+1:=by unfold dh;split<;>simp
  omega
structure XA (ob wb B:Nat) (h:Nd) (ps:To) (o1:Option Addr) (l1 c1:Nat) (o2:Option Addr) (l2 c2:Nat) (e:Env) (out:List Int) (m:Nat) (VA:Option Addr) (n0 VB:Nat) (w:World) (fin:List Int) (i:Nat) (oo:Option Addr) (oc:Nat) (out':List Int) (wr:World):Prop where
 u:F5 ob wb out' oo oc wr
 f:lq h out.length ((dX ps).drop i) i e out'=fin
 b:wr.heap[B]?=some (.cells (cells9 h o1 l1 c1 o2 l2 c2) 29 (0,0))
 fr:Fr (fun k=>k=ob∨(Value.slice VA n0 VB).ownBlock=some k) w wr
 nw:∀ k,(Value.slice oo out'.length oc).ownBlock=some k->(Value.slice VA n0 VB).ownBlock=some k∨w.heap.size<=k
 nb:∀ k,(Value.slice oo out'.length oc).ownBlock=some k->k≠B
 le:out.length<=out'.length
 pl:Sc.oC h.k=true->out.length < out'.length
 bd:qF out' (m+(ps.size - (ps.drop i).size))
 ln:out'.length<=out.length+1+(ps.size - (ps.drop i).size)
theorem XA.next {ob wb B : Nat} {h : Nd} {ps : To} {o1 : Option Addr} {l1 c1 : Nat} {o2 : Option Addr} {l2 c2 : Nat} {e : Env} {out : List Int} {m : Nat} {VA : Option Addr} {n0 VB : Nat} {w : World} {fin : List Int} {i : Nat} {oo : Option Addr} {oc : Nat} {out' : List Int} {wr : World} (k : XA ob wb B h ps o1 l1 c1 o2 l2 c2 e out m VA n0 VB w fin i oo oc out' wr) (he : Aa e out.length) {g : Nd} {qs : To} (hg : ps.get i = some (g, qs)) (hdr : ps.drop i = .cons g qs (ps.drop (i + 1))) (hBo : B ≠ ob) {wx wy : World} (hq : ah wr wx) {x : Ending}
    (hr:UsQ ob wb (iC g qs (iY h out.length i e) out') oo oc out'.length wx x wy):∃ Qm Qn,XA ob wb B h ps o1 l1 c1 o2 l2 c2 e out m VA n0 VB w fin (i+1) Qm Qn (iC g qs (iY h out.length i e) out') wy:=by
 obtain ⟨_,Qm,Qn,hu,hf,hn⟩:=hr
 have hbl:=lt_of_block k.b
 have hwz:=k.fr.size
 have hqz:=hq.size
 have hds:=To.size_drop ps i
 have hdz:(ps.drop i).size=qs.size+1+(ps.drop (i+1)).size:=by rw [hdr];simp only [To.size]<;>omega
 have hgd:=Bf g qs (iY h out.length i e) out' _ (KN (he.mono k.le) (fun hb=>k.pl (wR hb))) k.bd
 have hln:=L6 g qs (iY h out.length i e) out'
 refine ⟨Qm,Qn,hu,?_,?_,?_,?_,?_,Nat.le_trans k.le hgd.1,fun hb=>Nat.lt_of_lt_of_le (k.pl hb) hgd.1,hgd.2.mono (by omega),by have:=k.ln;omega⟩
 ·rw [<-Bd h out.length (dX ps) i (iC g qs) e out' (yG ps i g qs hg)];exact k.f
 ·exact ay hf (fun h=>h.elim hBo (fun h=>k.nb _ h rfl)) (ak hq k.b)
 ·exact (k.fr.trans hq.fr).trans' hf (fun j hj h => by
    rcases h with h | h
    ·exact .inl h
    ·rcases k.nw j h with h' | h'
     ·exact .inr h'
     ·omega)
 ·intro j hj
  rcases hn j hj with h | h
  ·exact k.nw j h
  ·exact .inr (by omega)
 ·intro j hj hjB
  rcases hn j hj with h | h
  ·exact k.nb j h hjB
  ·omega
theorem XA.call {ob wb B : Nat} {h : Nd} {ps : To} {o1 : Option Addr} {l1 c1 : Nat} {o2 : Option Addr} {l2 c2 : Nat} {e : Env} {out : List Int} {m : Nat} {VA : Option Addr} {n0 VB : Nat} {w : World} {fin : List Int} {i : Nat} {oo : Option Addr} {oc : Nat} {out' : List Int} {wr : World} (k : XA ob wb B h ps o1 l1 c1 o2 l2 c2 e out m VA n0 VB w fin i oo oc out' wr) (he : Aa e out.length) {g : Nd} {qs : To} (hg : ps.get i = some (g, qs)) (hdr : ps.drop i = .cons g qs (ps.drop (i + 1))) (hBo : B ≠ ob) (ih : UsT g qs) {R T : Nat -> Prop} (hob : ob < w.heap.size)
    (hR:∀ k,R k->k < w.heap.size/\k≠ob/\(Value.slice VA n0 VB).ownBlock≠some k) (hT:∀ k,T k->(k < w.heap.size/\k≠ob/\(Value.slice VA n0 VB).ownBlock≠some k)∨wr.heap.size<=k) (hz1:m+ps.size+1<=900000) (hz2:out.length+ps.size+1<=900000)
    {wx:World} (hq:ah wr wx) {p1:Option Addr} {m1 d1:Nat} {p2:Option Addr} {m2 d2:Nat} (hs:aY R wx p2 m2 qs) {eo:Option Addr} {en ec:Nat} (hb:iF T wx eo en (iY h out.length i e)) (hc:en<=ec) (hen:en+qs.size<=100000) :
    Calls Tryz.prog 31 #[bC g p1 m1 d1 p2 m2 d2,.slice eo en ec,.pointer (some ⟨ob,0,none⟩),.pointer (some ⟨wb,0,none⟩)] wx fun x wy=>(∃ v,x=.returned v)/\(∃ Qm Qn,XA ob wb B h ps o1 l1 c1 o2 l2 c2 e out m VA n0 VB w fin (i+1) Qm Qn (iC g qs (iY h out.length i e) out') wy)/\Fr (fun k=>k=ob∨(Value.slice oo out'.length oc).ownBlock=some k) wx wy:=by
 have hwz:=k.fr.size
 have hqz:=hq.size
 have hlt:=k.u.lt
 have hds:=To.size_drop ps i
 have hdz:(ps.drop i).size=qs.size+1+(ps.drop (i+1)).size:=by rw [hdr];simp only [To.size]<;>omega
 have hln:=k.ln
 refine (ih wx R (fun j=>T j/\j < wx.heap.size) ob wb oo oc p1 m1 d1 p2 m2 d2 eo en ec (iY h out.length i e) out' _ hs (hb.mono (fun j hj ht=>⟨ht,hj⟩)) hc hen (KN (he.mono k.le) (fun hb=>k.pl (wR hb))) k.bd (by omega) (by omega) (k.u.stay hq) ?_ ?_).mono ?_
 ·intro j hj
  obtain ⟨h1,h2,h3⟩:=hR j hj
  exact ⟨by omega,h2,fun h=>by
   rcases k.nw j h with h' | h'
   ·exact h3 h'
   ·omega⟩
 ·rintro j ⟨hj,hjx⟩
  rcases hT j hj with ⟨h1,h2,h3⟩ | h1
  ·exact ⟨hjx, h2, fun h => by
     rcases k.nw j h with h' | h'
     ·exact h3 h'
     ·omega⟩
  ·exact ⟨hjx,by omega,fun h=>by have:=hlt j h;omega⟩
 ·intro x wy hr
  refine ⟨hr.1,k.next he hg hdr hBo hq hr,?_⟩
  obtain ⟨_,_,_,_,hf,_⟩:=hr
  exact hf
def BnQ (W1 W:World) (n:Nat) (e:Env) (x:Ending) (w':World):Prop:=∃ wo wc,x=.returned (.slice wo n wc)/\iF (fun k=>W1.heap.size<=k) w' wo n e/\n<=wc/\ah W w'
theorem acg (T : Nat -> Prop) (e e' : Env) (s : ByteArray) (v : Int) (o : Option Addr) (n c : Nat) (W1 w : World) (hq : W1.heap.size <= w.heap.size) (h : iF T w o n e) (hc : n <= c) (hn : n <= 900000) (he : e' = (s, v) :: e) :
    Calls Tryz.prog 33 #[.slice o n c,.string s,.int .i64 v] w (BnQ W1 w (n+1) e'):=by
 subst he
 have hl:=h.1
 refine (Jj T e s v o n c w h hc hn).mono ?_
 rintro x w' ⟨wo,wc,rfl,hb,hcap,hq'⟩
 rw [List.length_cons,<-hl] at *
 exact ⟨wo,wc,rfl,hb.mono (fun k _ hk=>by omega),hcap,hq'⟩
theorem Q8 (h:Nd) (ps:To):UsT h ps:=by
 refine To.qE (T:=UsT) ?_ h ps
 intro h ps ih w R T ob wb oo oc o1 l1 c1 o2 l2 c2 eo en ec e out m hs hBn yj hz he ho hm hol hU hR hT
 by_cases hk:h.k=1
 ·exact U7 h ps hk w T ob wb o1 l1 c1 o2 l2 c2 eo en ec e out oo oc m hBn (by omega) he ho (by omega) (by omega) hU (fun k hk=>(hT k hk).2.2)
 have k1:(h.k == 1)=false:=by simp [hk]
 have HV:Hid (iC h ps e out=lq h out.length (dX ps) 0 e (dh h out)):=by show mW h _ e out=_;unfold mW;rw [if_neg hk]
 obtain ⟨fin,hfin⟩:∃ fin,lq h out.length (dX ps) 0 e (dh h out)=fin:=⟨_,rfl⟩
 rw [HV.out,hfin]
 have bJ:=hid hfin
 have hll:=To.length_le ps
 rw [<-hs.1] at hll
 have U8:=lt_of_block hU.o
 have Xz:=lt_of_block hU.w
 have HOWN:=hid hU.lt
 obtain ⟨W0,hW0⟩:∃ W0,W0=w.alloc (.cells (cells9 h o1 l1 c1 o2 l2 c2) 29):=⟨_,rfl⟩
 have hq0:ah w W0:=by rw [hW0];exact ah.alloc _ _
 have aK:=hid hq0
 have HB0:Hid (W0.heap[w.heap.size]?=some (.cells (cells9 h o1 l1 c1 o2 l2 c2) 29 (0,0))):=by show _=_;rw [hW0];exact heap_alloc_new w _
 have HZ0:Hid (W0.heap.size=w.heap.size+1):=by show _=_;rw [hW0];simp
 have Qo:=hid (hU.stay hq0)
 have HS:=hid hs
 have JH:=hid hBn
 have HEE:=hid he
 have Oz:=hid ho
 have HRR:=hid hR
 have YP:=hid hT
 have IH:=hid ih
 have QO:=hid yj
 have HL:=hid hs.1
 clear hk HV hfin hs hBn he ho hU hR hT ih yj hq0
 unfold bC
 go_enter Tryz.func31,Tryz.ntmps31
 go_upto_region 1 with fail
 rw [<-hW0]
 clear hW0
 generalize eX:w.heap.size=B at *
 have bM:=hid eX
 clear eX
 obtain ⟨a0,a1,a2,a3,a4,a5,a6,a7,a8⟩:=aA HB0.out
 go_upto_region 6 with fail
 go_cut [8] (fun v wx=>v=.bool (Sc.oC h.k)/\W0=wx)
 case first =>
  have HBK:Hid (Sc.oC h.k=(h.k == 4 || h.k == 6 || h.k == 7)):=rfl
  cases h4:(h.k == 4)
  ·cases h6:(h.k == 6)
   ·cases h7:(h.k == 7)
    ·go_wp2_with fail
     go_meet
     exact ⟨by rw [HBK.out,h4,h6,h7];rfl,rfl⟩
    ·go_wp2_with fail
     go_meet
     exact ⟨by rw [HBK.out,h4,h6,h7];rfl,rfl⟩
   ·go_wp2_with fail
    go_meet
    exact ⟨by rw [HBK.out,h4,h6];rfl,rfl⟩
  ·go_wp2_with fail
   go_meet
   exact ⟨by rw [HBK.out,h4];rfl,rfl⟩
 case rest =>
  obtain ⟨rfl,rfl⟩:=hcut
  have co:=cell_of_one Qo.out.o
  go_upto_if 46 with fail
  obtain ⟨bk,hbk⟩:∃ bk,Sc.oC h.k=bk:=⟨_,rfl⟩
  rw [hbk]
  have U9:=hid hbk
  clear hbk
  go_cut [46] (fun _ wx=>∃ (Yl:Option Addr) (oc':Nat),XA ob wb B h ps o1 l1 c1 o2 l2 c2 e out m oo out.length oc w fin 0 Yl oc' (dh h out) wx)
  case first =>
   cases bk
   case false =>
    have HE:Hid (dh h out=out):=by show _=_;unfold dh;rw [U9.out];rfl
    have HKB:=hid U9.out
    go_wp2_with fail
    go_meet
    refine ⟨oo,oc,?_⟩
    have hfi:=bJ.out
    rw [HE.out] at hfi ⊢
    exact ⟨Qo.out,by rw [List.drop_zero];exact hfi,HB0.out,aK.out.fr,fun k hk=>.inl hk,fun k hk h=>by have:=HOWN.out k hk;have:=bM.out;omega,Nat.le_refl _,(fun h=>by rw [HKB.out] at h;cases h),by rw [To.drop_zero,Nat.sub_self];exact Oz.out,by omega⟩
   case true =>
    have HE:Hid (dh h out=out++[0]):=by show _=_;unfold dh;rw [U9.out];rfl
    have HKB:=hid U9.out
    have zo:=free_of_one Qo.out.o
    generalize hn:out.length=n at *
    have ED:=hid hn
    clear hn
    have hown0:W0.ownsRow 0 3 1 (.slice oo n oc) n (fK out):=by have:=Qo.out.row;rw [ED.out] at this;exact this
    have HOR:=hid hown0
    clear hown0
    go_wp2_with (at_builtin;go_must (refine aP W0 rfl (.tmp 47) (.tmp 48) 35 rfl 3 _ 1 8 jH (.slice oo n oc) n (fK out) rfl HOR.out #[.int .i64 0] rfl rfl (by simp [Value.oneCell']) (by unfold maxLen;omega) (by omega) ?_))
    intro g2 c' w4 kX hf4 hg4
    have aad:ob≠g2:=fun h=>by
     rcases hg4 with h' | h'
     ·exact Qo.out.n1 (by rw [ED.out,h];exact h')
     ·have:=HZ0.out;omega
    have ach:wb≠g2:=fun h=>by
     rcases hg4 with h' | h'
     ·exact Qo.out.n2 (by rw [ED.out,h];exact h')
     ·have:=HZ0.out;omega
    have hgB:B≠g2:=fun h=>by
     rcases hg4 with h' | h'
     ·have:=HOWN.out _ h';have:=bM.out;omega
     ·have:=HZ0.out;omega
    have iL:=ay hf4 (fun h=>Qo.out.n1 (by rw [ED.out];exact h)) Qo.out.o
    have aci:=ay hf4 (fun h=>Qo.out.n2 (by rw [ED.out];exact h)) Qo.out.w
    have hB4:=ay hf4 (fun h=>by have:=HOWN.out _ h;have:=bM.out;omega) HB0.out
    have hfs:=Fr.setCell (fun k=>k=ob) w4 ⟨ob,0,none⟩ (.slice (some ⟨g2,0,none⟩) (n+1) c') rfl
    have HUN:Hid (F5 ob wb (out++[0]) (some ⟨g2,0,none⟩) c' (w4.setCell ⟨ob,0,none⟩ (.slice (some ⟨g2,0,none⟩) (n+1) c'))):=by
     have hl:(out++[(0:Int)]).length=n+1:=by simp [ED.out]
     refine ⟨by rw [hl];exact one_setCell iL,ay hfs (fun h=>Qo.out.n3 h.symm) aci,?_,by rw [hl];exact fun h=>by simp [Value.ownBlock] at h;exact aad h.symm,by rw [hl];exact fun h=>by simp [Value.ownBlock] at h;exact ach h.symm,Qo.out.n3⟩
     rw [hl]
     have hr:=ownsRow_setCell_other kX ⟨ob,0,none⟩ (.slice (some ⟨g2,0,none⟩) (n+1) c') (fun h=>aad (by simp [Value.ownBlock] at h;exact h.symm))
     have he:fK out++#[Value.int .i64 0].toList=fK (out++[0]):=by unfold fK;simp
     rw [<-he];exact hr
    have XM:=hid (ay hfs (by omega) hB4)
    have XK:Hid (Fr (fun k=>k=ob∨(Value.slice oo n oc).ownBlock=some k) w (w4.setCell ⟨ob,0,none⟩ (.slice (some ⟨g2,0,none⟩) (n+1) c'))):=(aK.out.fr.trans (hf4.mono (fun k _ h=>.inr h))).trans (hfs.mono (fun k _ h=>.inl h))
    have HG5:Hid ((Value.slice oo n oc).ownBlock=some g2∨w.heap.size<=g2):=hg4.elim .inl (fun h=>.inr (by have:=HZ0.out;have:=bM.out;omega))
    have HGB:=hid hgB
    have co4:=cell_of_one iL
    have zo4:=free_of_one iL
    clear kX hf4 hg4 aad ach hgB iL aci hB4 hfs co zo
    go_wp2_with fail
    go_meet
    refine ⟨some ⟨g2,0,none⟩,c',?_⟩
    have hfi:=bJ.out
    rw [HE.out] at hfi ⊢
    have hl:(out++[(0:Int)]).length=n+1:=by simp [ED.out]
    refine ⟨HUN.out,by rw [List.drop_zero,ED.out];exact hfi,XM.out,by rw [<-ED.out] at *;exact XK.out,?_,?_,by rw [hl,ED.out];omega,fun _=>by rw [hl,ED.out];omega,?_,by rw [hl,ED.out];omega⟩
    ·intro k hk
     simp [Value.ownBlock] at hk
     subst hk
     exact HG5.out
    ·intro k hk h
     simp [Value.ownBlock] at hk
     subst hk
     exact HGB.out h.symm
    ·rw [To.drop_zero,Nat.sub_self]
     have:=Am (h:=h) Oz.out
     rw [HE.out] at this;exact this
  case rest =>
   rename World=>wx
   obtain ⟨AA,yF,hl0⟩:=hcut
   have HL0:=hid hl0
   have hb0:=hl0.b
   clear hl0 a0 a1 a2 a3 a4 a5 a6 a7 a8 Qo co
   obtain ⟨a0,a1,a2,a3,a4,a5,a6,a7,a8⟩:=aA hb0
   clear hb0
   go_wp2_with fail
   clear a0 a1 a2 a3 a4 a5 a6 a7 a8
   go_loopw [53] (fun t wr=>∃ (i:Nat) (Yl:Option Addr) (oc':Nat) (out':List Int),t=.int .i64 i/\i<=l2/\XA ob wb B h ps o1 l1 c1 o2 l2 c2 e out m oo out.length oc w fin i Yl oc' out' wr) (fun t _=>l2 - (intOf t).toNat)
   case atStart=>exact ⟨0,AA,yF,dh h out,rfl,Nat.zero_le _,HL0.out⟩
   case round =>
    obtain ⟨i,Yl,oc',out',rfl,hi,hst⟩:=hrel
    have HST:=hid hst
    have hwz:=hst.fr.size
    clear hst HL0
    by_cases hlt:i < l2
    ·have hlt':(i:Int) < l2:=by omega
     have hl3:0 < l2:=by omega
     have hl4:(l2:Int) > 0:=by omega
     obtain ⟨b9,off,g,qs,p1,m1,d1,p2,m2,d2,rfl,hdr,hg,hRb,QM,hsl,hts⟩:=HS.out.nth hlt
     have Yk:∀ k,R k->¬ (k=ob∨(Value.slice oo out.length oc).ownBlock=some k):=fun k hk h=>h.elim (HRR.out k hk).2.1 (HRR.out k hk).2.2
     have hfw:=HST.out.fr
     have aac:=QM.fr hfw (Yk _ hRb)
     have U6:=hts.fr hfw (T:=R) (fun k _ hk=>⟨hk,Yk k hk⟩)
     have QA:=To.bV ps i g qs hg
     obtain ⟨W1,hW1⟩:∃ W1,W1=wr.alloc (.cells (cells9 g p1 m1 d1 p2 m2 d2) 29):=⟨_,rfl⟩
     have hq1:ah wr W1:=by rw [hW1];exact ah.alloc _ _
     have Xh:Hid (bF W1 wr.heap.size 0 g p1 m1 d1 p2 m2 d2):=by show bF _ _ _ _ _ _ _ _ _ _;rw [hW1];exact ig _ _ _ _ _ _ _ _ _
     have bI:=hid hq1
     have MC:Hid (wr.heap[B]?=some (.cells (cells9 h o1 l1 c1 (some ⟨b9,off,none⟩) l2 c2) 29 (0,0))):=HST.out.b
     have Xx:=hid (U6.stay hq1)
     have HG:=hid hg
     have HDR:=hid hdr
     have HIH:=hid (IH.out i g qs hg)
     have acj:Hid (iF T W1 eo en e):=(JH.out.fr (T':=T) hfw (fun k _ ht=>⟨ht,fun h=>h.elim (YP.out k ht).2.1 (YP.out k ht).2.2⟩)).stay hq1
     have HWO:Hid (wr.heap[wb]?=some (.cells #[.func (.func 31) #[] #[.pointer (some ⟨ob,0,none⟩),.pointer (some ⟨wb,0,none⟩)]] 59 (0,0))):=HST.out.u.w
     have HBO:Hid (B≠ob):=by show _≠_;have:=bM.out;omega
     obtain ⟨a0,a1,a2,a3,a4,a5,a6,a7,a8⟩:=aA MC.out
     obtain ⟨q0,q1,q2,q3,q4,q5,q6,q7,q8⟩:=aac
     have aae:=hid U8
     clear hdr hg hsl hts QM U6 hq1 Yk hRb hfw
     go_upto_region 13 with fail
     change Code.wp _ _ _ _ (wr.alloc (.cells (cells9 g p1 m1 d1 p2 m2 d2) 29))
     rw [<-hW1]
     clear hW1
     generalize hpb:wr.heap.size=pb at *
     have XJ:=hid hpb
     clear hpb a0 a1 a2 a3 a4 a5 a6 a7 a8 q0 q1 q2 q3 q4 q5 q6 q7 q8
     have PZ:Hid (∀ W,ah W1 W->W.cell? ⟨wb,0,none⟩=some (.func (.func 31) #[] #[.pointer (some ⟨ob,0,none⟩),.pointer (some ⟨wb,0,none⟩)])/\W.cell? ⟨B,0,none⟩=some (.int .i64 h.k)/\W.cell? ⟨B,1,none⟩=some (.string h.nm)/\(W.cell? ⟨pb,0,none⟩=some (.int .i64 g.k)/\W.cell? ⟨pb,1,none⟩=some (.string g.nm)/\W.cell? ⟨pb,2,none⟩=some (.int .i64 g.n)/\W.cell? ⟨pb,3,none⟩=some (.int .i64 g.tk)/\W.cell? ⟨pb,4,none⟩=some (.int .i64 g.tn)/\W.cell? ⟨pb,5,none⟩=some (.slice p1 m1 d1)/\W.cell? ⟨pb,6,none⟩=some (.slice p2 m2 d2)/\W.cell? ⟨pb,7,none⟩=some (.int .i64 g.fr)/\W.cell? ⟨pb,8,none⟩=some (.int .i64 g.en))):=fun W hq=>by
      have hb:=aA (ak (bI.out.trans hq) MC.out)
      exact ⟨cell_of_one (ak (bI.out.trans hq) HWO.out),hb.1,hb.2.1,Xh.out.fr hq (fun h=>h)⟩
     obtain ⟨y0,a0,a1,q0,q1,q2,q3,q4,q5,q6,q7,q8⟩:=PZ.out W1 (ah.refl _)
     go_cut [67] (fun v wx=>v=.bool (Sc.iq h.k i)/\W1=wx)
     case first =>
      have uZ:Hid (Sc.iq h.k i=(h.k == 4 || h.k == 7 || (h.k == 6 && i == 1))):=rfl
      have HBK:Hid ((h.k == 4 || h.k == 6 || h.k == 7)=bk):=U9.out
      cases bk
      ·go_wp2_with fail
       go_meet
       refine ⟨?_,rfl⟩
       have h1:=HBK.out
       rw [uZ.out]
       simp only [Bool.or_eq_false_iff] at h1
       rw [h1.1.1,h1.2,h1.1.2];rfl
      ·cases h6:(h.k == 6)
       ·have h6':(h.k != 6)=true:=by simp only [bne,h6];rfl
        go_wp2_with fail
        go_meet
        refine ⟨?_,rfl⟩
        have h1:=HBK.out
        rw [h6] at h1
        rw [uZ.out,h6]
        cases h4:(h.k == 4)<;>cases h7:(h.k == 7)<;>simp_all
       ·have h6':(h.k != 6)=false:=by simp only [bne,h6];rfl
        have h47:(h.k == 4)=false/\(h.k == 7)=false:=by
         have:h.k=6:=by simpa using h6
         rw [this];decide
        cases h1:((i:Int) == 1)
        ·have hi1 : (i == 1) = false := by have : ¬ (i : Int) = 1 := by simpa using h1
                                           simp;omega
         have hi2:((i:Int) == (1:Int))=false:=h1
         go_wp2_with fail
         go_meet
         exact ⟨by rw [uZ.out,h6,h47.1,h47.2,hi1];rfl,rfl⟩
        ·have hi1 : (i == 1) = true := by have : (i : Int) = 1 := by simpa using h1
                                          simp;omega
         go_wp2_with fail
         go_meet
         exact ⟨by rw [uZ.out,h6,h47.1,h47.2,hi1];rfl,rfl⟩
     case rest =>
      obtain ⟨rfl,rfl⟩:=hcut
      cases hbb:Sc.iq h.k i
      case false =>
       have HE:Hid (iY h out.length i e=e):=by show _=_;unfold iY;rw [hbb];rfl
       have HC:=hid (HST.out.call HEE.out HG.out HDR.out HBO.out HIH.out (T:=T) (by rw [bM.out];exact aae.out) (fun k hk=>by rw [bM.out];exact HRR.out k hk) (fun k hk=>.inl (by rw [bM.out];exact YP.out k hk)) (by omega) (by omega) bI.out (p1:=p1) (m1:=m1) (d1:=d1) (d2:=d2) Xx.out (HE.out.symm ▸ acj.out) QO.out (by omega))
       unfold bC at HC
       clear hbb
       go_wp2_with fail
       refine HC.out.mono ?_;rintro x wy ⟨⟨v,rfl⟩,⟨Qm,Qn,hn⟩,_⟩
       have HN:=hid hn
       clear hn a0 a1 q0 q1 q2 q3 q4 q5 q6 q7 q8 y0
       go_wp2_with fail
       go_roundw
       case rel=>exact ⟨i+1,Qm,Qn,_,by go_num,by omega,HN.out⟩
       case measure=>simp [intOf];omega
      case true =>
       have HE:Hid (iY h out.length i e=(h.nm,(out.length:Int))::e):=by show _=_;unfold iY;rw [hbb];rfl
       obtain ⟨e1,he1⟩:∃ e1,iY h out.length i e=e1:=⟨_,rfl⟩
       have U0:=hid he1
       have HWT:Hid (∀ W,ah W1 W->Calls Tryz.prog 33 #[.slice eo en ec,.string h.nm,.int .i64 out.length] W (BnQ W1 W (en+1) e1)):=fun W hq=>acg T e e1 h.nm out.length eo en ec W1 W hq.size (acj.out.stay hq) QO.out (by omega) (by rw [<-U0.out,HE.out])
       have HCC:Hid (∀ (W:World) (wo:Option Addr) (wc:Nat),iF (fun k=>W1.heap.size<=k) W wo (en+1) e1->en+1<=wc->ah W1 W->Calls Tryz.prog 31 #[bC g p1 m1 d1 p2 m2 d2,.slice wo (en+1) wc,.pointer (some ⟨ob,0,none⟩),.pointer (some ⟨wb,0,none⟩)] W fun x wy=>(∃ v,x=.returned v)/\(∃ Qm Qn,XA ob wb B h ps o1 l1 c1 (some ⟨b9,off,none⟩) l2 c2 e out m oo out.length oc w fin (i+1) Qm Qn (iC g qs (iY h out.length i e) out') wy)/\(wy.cell? ⟨wb,0,none⟩=some (.func (.func 31) #[] #[.pointer (some ⟨ob,0,none⟩),.pointer (some ⟨wb,0,none⟩)])/\wy.cell? ⟨B,0,none⟩=some (.int .i64 h.k)/\wy.cell? ⟨B,1,none⟩=some (.string h.nm)/\(wy.cell? ⟨pb,0,none⟩=some (.int .i64 g.k)/\wy.cell? ⟨pb,1,none⟩=some (.string g.nm)/\wy.cell? ⟨pb,2,none⟩=some (.int .i64 g.n)/\wy.cell? ⟨pb,3,none⟩=some (.int .i64 g.tk)/\wy.cell? ⟨pb,4,none⟩=some (.int .i64 g.tn)/\wy.cell? ⟨pb,5,none⟩=some (.slice p1 m1 d1)/\wy.cell? ⟨pb,6,none⟩=some (.slice p2 m2 d2)/\wy.cell? ⟨pb,7,none⟩=some (.int .i64 g.fr)/\wy.cell? ⟨pb,8,none⟩=some (.int .i64 g.en)))):=fun W wo wc hb hc hq=>by
        refine (HST.out.call HEE.out HG.out HDR.out HBO.out HIH.out (T:=fun k=>W1.heap.size<=k) (by rw [bM.out];exact aae.out) (fun k hk=>by rw [bM.out];exact HRR.out k hk) (fun k hk=>.inr (by have:=bI.out.size;omega)) (by omega) (by omega) (bI.out.trans hq) (Xx.out.stay hq) (U0.out.symm ▸ hb) hc (by omega)).mono ?_
        rintro x wy ⟨hv,⟨Qm,Qn,hn⟩,hf⟩
        have hcb:=aA hn.b
        refine ⟨hv,⟨Qm,Qn,hn⟩,cell_of_one hn.u.w,hcb.1,hcb.2.1,(Xh.out.fr hq (fun h=>h)).fr hf (fun h=>?_)⟩
        rcases h with h | h
        ·have:=aae.out;have:=XJ.out;have:=lt_of_block MC.out;omega
        ·have:=HST.out.u.lt pb h;have:=XJ.out;omega
       unfold bC at HCC
       clear hbb he1
       go_upto_region 14 with fail
       have hqc:=ah.refl W1
       go_region_held3 (fun W=>W.cell? ⟨wb,0,none⟩=some (.func (.func 31) #[] #[.pointer (some ⟨ob,0,none⟩),.pointer (some ⟨wb,0,none⟩)])/\W.cell? ⟨B,0,none⟩=some (.int .i64 h.k)/\W.cell? ⟨B,1,none⟩=some (.string h.nm)/\(W.cell? ⟨pb,0,none⟩=some (.int .i64 g.k)/\W.cell? ⟨pb,1,none⟩=some (.string g.nm)/\W.cell? ⟨pb,2,none⟩=some (.int .i64 g.n)/\W.cell? ⟨pb,3,none⟩=some (.int .i64 g.tk)/\W.cell? ⟨pb,4,none⟩=some (.int .i64 g.tn)/\W.cell? ⟨pb,5,none⟩=some (.slice p1 m1 d1)/\W.cell? ⟨pb,6,none⟩=some (.slice p2 m2 d2)/\W.cell? ⟨pb,7,none⟩=some (.int .i64 g.fr)/\W.cell? ⟨pb,8,none⟩=some (.int .i64 g.en)))
        (first | exact hS | ((refine PZ.out _ ?_);(repeat with_reducible first | exact hqc | exact ah.refl _ | refine jq ?_ | refine jr ?_)))
        (first
         | (go_at_call 33;(with_reducible refine Calls.mono (HWT.out _ ?hq) ?_);(case hq=>(repeat with_reducible first | exact hqc | exact ah.refl _ | refine jq ?_ | refine jr ?_));rintro e wx ⟨wo,wc,rfl,hbn,hcap,jQ⟩;(refine jd (w0:=W1) ?hq2 jQ ?_);(case hq2=>(repeat with_reducible first | exact hqc | exact ah.refl _ | refine jq ?_ | refine jr ?_));intro hqc)
         | ((go_at_call 31;(with_reducible refine Calls.mono (HCC.out _ _ _ (hbn.stay ?h1) hcap ?hq) ?_));(case h1=>(repeat with_reducible first | exact ah.refl _ | refine jq ?_ | refine jr ?_));(case hq=>(repeat with_reducible first | exact hqc | exact ah.refl _ | refine jq ?_ | refine jr ?_));rintro x wy ⟨⟨v,rfl⟩,⟨Qm,Qn,hn⟩,hS⟩)
         | fail)
       all_goals
        have HN:=hid hn
        clear hn a0 a1 q0 q1 q2 q3 q4 q5 q6 q7 q8 y0
        go_wp2_with fail
        go_roundw
        case rel=>exact ⟨i+1,Qm,Qn,_,by go_num,by omega,HN.out⟩
        case measure=>simp [intOf];omega
    ·have hlt':¬ (i:Int) < l2:=by omega
     have hil:i=l2:=by omega
     subst hil
     have HF:Hid (fin=out'):=by
      show _=_
      have h1:=HST.out.f
      rw [List.drop_of_length_le (by rw [qQ];have:=HL.out;omega)] at h1
      exact h1.symm
     have acn:Hid (UsQ ob wb fin oo oc out.length w (.returned (.tuple #[])) wr):=⟨⟨_,rfl⟩,Yl,oc',by rw [HF.out];exact HST.out.u,HST.out.fr,by rw [HF.out];exact HST.out.nw⟩
     go_wp2_with fail
     refine bodyPost_ret (by first | (simp [results,Tryz.results31,go_sem];done) | (simp [results,Tryz.results31,go_sem];rfl)) rfl ?_
     exact acn.out
end Cn
end
end Go.Proofs.YtcninopmelmajaaGreatDoor
