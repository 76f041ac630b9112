/-
  Texts laid together (TeRight, TeRRight, TeRoom, TeList): laws and walks, with their conditions.
-/
import Derived.Test.YtcninopmelmajaaDoorTX18
set_option maxHeartbeats 8000000
set_option maxRecDepth 1000000
namespace Go.Proofs.YtcninopmelmajaaDoor
open Go.Lib (hid)
section
open Go.RowKit Go.Shelf
attribute [local go_sem] Oper.semAt_some
def sF (h:Nd):Prop:=h.nm.size<=100000/\h.tp.size<=100000/\OW h.tn/\wfF h.tp
theorem LJ (h : Nd) (w : World) (R : Nat -> Prop) (o1 : Option Addr) (l1 c1 : Nat) (o2 : Option Addr) (l2 c2 : Nat) (hs : aB R w o1 l1 h.tp) (hg : sF h) (hl2 : l2 <= 9223372036854775807) (ht : Lx.kD w) :
    Calls Tryd.prog 54 #[bP h o1 l1 c1 o2 l2 c2] w fun e w'=>e=.returned (.bool (fK h l2))/\ah w w':=by
 obtain ⟨k,nm,n,tk,tn,vg,fr,en⟩:=h;obtain ⟨g1,g2,g3,g4⟩:=hg
 by_cases h1:1<=k
 ·by_cases h2:k<=10
  ·exact Tz k h1 h2 nm n tk tn vg fr en w o1 l1 c1 o2 l2 c2 hs.slc g1 g2 g3 g4 hl2 ht
  ·have e:fK ⟨k,nm,n,tk,tn,vg,fr,en⟩ l2=false:=by unfold fK;simp [h2]
   rw [e];have hk1:¬ k < 1:=by omega
   have hk2:10 < k:=by omega
   have HQ:=hid (ah.alloc w (.cells #[.int .i64 k,.string nm,.int .i64 n,.int .i64 tk,.int .i64 tn,.slice o1 l1 c1,.slice o2 l2 c2,.int .i64 fr,.int .i64 en] 30));clear hs g1 g2 g3 g4 ht e;unfold bP;go_enter Tryd.func54,Tryd.ntmps54;go_wp2_with fail;go_ret;exact ⟨rfl,HQ.out⟩
 ·have e:fK ⟨k,nm,n,tk,tn,vg,fr,en⟩ l2=false:=by unfold fK;simp [h1]
  rw [e];have hk1:k < 1:=by omega
  have HQ:=hid (ah.alloc w (.cells #[.int .i64 k,.string nm,.int .i64 n,.int .i64 tk,.int .i64 tn,.slice o1 l1 c1,.slice o2 l2 c2,.int .i64 fr,.int .i64 en] 30));clear hs g1 g2 g3 g4 ht e;unfold bP;go_enter Tryd.func54,Tryd.ntmps54;go_wp2_with fail;go_ret;exact ⟨rfl,HQ.out⟩
abbrev LK (x:Nd × To):Bool:=fK x.1 x.2.length
def RtI (rb:Nat) (w:World) (xs:List (Nd × To)) (i:Nat) (D:Nat->Prop) (W:World):Prop :=
 ((∀ k,D k↔k=rb)/\W.heap[rb]?=some (.cells #[.bool false] 4 (0,0))/\ah w W)/\(xs.take i).all LK=true
theorem RtI.fr {rb:Nat} {w:World} {xs:List (Nd × To)} {i:Nat} {D S:Nat->Prop} {W W':World} (h:RtI rb w xs i D W) (hf:Fr S W W') (h1:¬ S rb) (h2:∀ k,k < w.heap.size->¬ S k):RtI rb w xs i D W' :=
 ⟨⟨h.1.1,(hf.block _ (lt_of_block h.1.2.1) h1).trans h.1.2.1,Fr.trans' h.1.2.2 hf (fun k hk hs=>h2 k hk hs)⟩,h.2⟩
theorem Jh (h : Nd) (ps : To) (w : World) (R : Nat -> Prop) (o1 : Option Addr) (l1 c1 : Nat) (o2 : Option Addr) (l2 c2 : Nat) (hs1 : aB R w o1 l1 h.tp) (hs : bC R w o2 l2 ps) (hz : ps.size <= 100000) (hg : allT sF (.cons h ps .nil)) (ht : Lx.kD w) :
    Calls Tryd.prog 35 #[bP h o1 l1 c1 o2 l2 c2] w fun e w'=>e=.returned (.bool ((To.cons h ps .nil).flat.all LK))/\ah w w':=by
 obtain ⟨xs,hxs⟩:∃ xs,(To.cons h ps .nil).flat=xs:=⟨_,rfl⟩;rw [hxs];refine (callsIn_wide (n:=5)).1 ?_;refine callsIn_of_wp_marks Tryd.func35 rfl trivial ?_ rfl;simp only [Tryd.ntmps35,List.size_toArray,List.length_cons,List.length_nil,Nat.reduceAdd,Nat.reduceSub,Array.replicate_succ,Array.replicate_zero,List.push_toArray,List.append_toArray,List.nil_append,List.cons_append];have HC:=fun W=>(callsIn_wide (n:=4)).2 (Sm h o1 l1 c1 o2 l2 c2 W)
 have HT:=hid ht;have HG:=hid (zf _ hg);unfold bP at HC ⊢
 gi_wp2_with (fail)
 refine ⟨trivial,(HC _).mono ?_⟩;rintro e LM ⟨rfl,hW2⟩;obtain ⟨W1,hW1⟩:∃ W1,W1=((w.alloc (.cells (cells9 h o1 l1 c1 o2 l2 c2) 30)).alloc (.cells #[.bool false] 4)):=⟨_,rfl⟩;have hz1:W1.heap.size=w.heap.size+1+1:=by rw [hW1];simp
 have hq1:ah w W1:=by rw [hW1];exact (ah.alloc _ _).trans (ah.alloc _ _)
 have hb1:W1.heap[w.heap.size+1]?=some (.cells #[.bool false] 4 (0,0)):=by
  rw [hW1];have:=heap_alloc_new (w.alloc (.cells (cells9 h o1 l1 c1 o2 l2 c2) 30)) (.cells #[.bool false] 4);simpa using this
 have I5:LM=W1.alloc (.cells (cells9 h o1 l1 c1 o2 l2 c2) 30):=by rw [hW1];exact hW2
 have hq2:ah w LM:=by rw [I5];exact hq1.trans (ah.alloc _ _)
 have hb2:LM.heap[w.heap.size+1]?=some (.cells #[.bool false] 4 (0,0)):=by
  rw [I5,Below.heap_alloc _ _ _ (by omega)];exact hb1
 have htb:LM.heap[W1.heap.size]?=some (.cells (cells9 h o1 l1 c1 o2 l2 c2) 30 (0,0)):=by rw [I5];exact heap_alloc_new W1 _
 have hz2:LM.heap.size=w.heap.size+3:=by rw [I5];simp;omega
 have hseq:=WW (5-1) (fun k=>k < w.heap.size∨k=W1.heap.size) h ps o1 l1 c1 o2 l2 c2 W1.heap.size LM (fun k hk=>by omega) htb (.inr rfl) ((hs1.mono (T:=fun k=>k < w.heap.size∨k=W1.heap.size) (fun k hk _=>.inl hk)).stay hq2) ((hs.mono (T:=fun k=>k < w.heap.size∨k=W1.heap.size) (fun k hk _=>.inl hk)).stay hq2) hz;rw [hz1] at hseq;rw [hxs] at hseq HG;have acP:=hid hseq;have HB2:=hid hb2;have fC:=hid hq2;clear hW1 hW2 I5 hq1 hb1 hq2 hb2 htb hseq HC hxs hg ht
 gi_wp2_with (fail)
 refine Hf (w:=LM) rfl (enters_of Tryd.func68 (by kernel_rfl) rfl) acP.out (fun k hk=>by omega) (Fr.refl _ _) (fun i x va W he=>PN he)
  (RtI (w.heap.size+1) w xs)
  (fun i x a' D W=>RtI (w.heap.size+1) w xs i D W/\∃ (xb:Nat) (t7 t8:Value) (p1:Option Addr) (m1 d1:Nat) (p2:Option Addr) (m2 d2:Nat),W.heap[xb]?=some (.cells (cells9 x.1 p1 m1 d1 p2 m2 d2) 30 (0,0))/\xb≠LM.heap.size+1/\aB (fun k=>k < w.heap.size∨k=w.heap.size+1+1) W p1 m1 x.1.tp/\bC (fun k=>k < w.heap.size∨k=w.heap.size+1+1) W p2 m2 x.2/\a'={ tmps:=#[.agg #[.int .i64 h.k,.string h.nm,.int .i64 h.n,.int .i64 h.tk,.int .i64 h.tn,.slice o1 l1 c1,.slice o2 l2 c2,.int .i64 h.fr,.int .i64 h.en],.pointer (some ⟨w.heap.size,0,none⟩),.pointer (some ⟨w.heap.size+1,0,none⟩),undef,.pointer (some ⟨xb,0,none⟩),.agg #[.int .i64 h.k,.string h.nm,.int .i64 h.n,.int .i64 h.tk,.int .i64 h.tn,.slice o1 l1 c1,.slice o2 l2 c2,.int .i64 h.fr,.int .i64 h.en],.func (.func 68) #[] #[.pointer (some ⟨w.heap.size+1+1,0,none⟩)],t7,t8,undef,undef,undef],defers:=[] })
  (fun c W=>c=.ret/\W.heap[w.heap.size+1]?=some (.cells #[.bool false] 4 (0,0))/\ah w W/\xs.all LK=false) (fun k=>k=w.heap.size+1) ?own ?stay ?aa7 ?aa8 ?start ?assign ?body ?done ?stop
 case own =>
  rintro i D A ⟨⟨hd,hb,hq⟩,_⟩ k hk;have e:=(hd k).1 hk;have hl:=lt_of_block hb;exact ⟨by omega,by omega,.inl (by omega)⟩
 case stay =>
  rintro i D A B hI hf;exact hI.fr hf (fun h=>h.2 ((hI.1.1 _).2 rfl)) (fun k hk h=>by have:=h.1;omega)
 case aa7 =>
  rintro i x a' D A B ⟨hI,xb,t7,t8,p1,m1,d1,p2,m2,d2,hxb,hne,hp1,hp2,ha⟩ hf;exact ⟨hI.fr hf (by omega) (fun k hk h=>by omega),xb,t7,t8,p1,m1,d1,p2,m2,d2,aC hf hne hxb,hne,hp1.fr hf (fun k _ h=>⟨h,by omega⟩),hp2.fr hf (fun k _ h=>⟨h,by omega⟩),ha⟩
 case aa8 =>
  rintro c A B ⟨hc,hb,hq,hx⟩ hf;exact ⟨hc,aC hf (by omega) hb,hq.trans' hf (fun k hk h=>by omega),hx⟩
 case start=>exact ⟨⟨fun k=>Iff.rfl,HB2.out,fC.out⟩,rfl⟩
 case assign =>
  rintro l i x va D W K hx ⟨p1,m1,d1,p2,m2,d2,rfl,hp1,hp2⟩ hI hWs hK;unfold bP;have hq:=ah.alloc W (.cells (cells9 x.1 p1 m1 d1 p2 m2 d2) 30);have hnew:=heap_alloc_new W (.cells (cells9 x.1 p1 m1 d1 p2 m2 d2) 30);have hne:W.heap.size≠LM.heap.size+1:=by omega
  have hI2:=hI.fr (S:=fun _=>False) hq (fun h=>h) (fun _ _ h=>h);have hp1':=hp1.stay hq;have hp2':=hp2.stay hq;clear hI hWs
  gi_wp2
  exact hK _ _ ⟨hI2,W.heap.size,.int .i64 (i:Int),bP x.1 p1 m1 d1 p2 m2 d2,p1,m1,d1,p2,m2,d2,hnew,hne,hp1',hp2',by simp [bP]⟩ hq
 case body =>
  rintro l i x a' D W hx ⟨hI,xb,t7,t8,p1,m1,d1,p2,m2,d2,hxb,hne,hp1,hp2,rfl⟩ hW;obtain ⟨a0,a1,a2,a3,a4,a5,a6,a7,a8⟩:=aA hxb;have hxm:=HG.out x (List.mem_of_getElem? hx);have hl2:m2<=9223372036854775807:=by have:=hp2.2.1;unfold maxLen at this;omega
  have hCS:=(callsIn_wide (n:=5-1-1)).2 (LJ x.1 W _ p1 m1 d1 p2 m2 d2 hp1 hxm.1 hl2 (HT.out.stay hI.1.2.2));have hlen:m2=x.2.length:=hp2.1;rw [hlen] at hCS;unfold bP at hCS;cases hb:fK x.1 x.2.length
  ·rw [hb] at hCS
   gi_wp2_with (fail)
   refine ⟨trivial,(CallsIn.inRound l hCS).mono ?_⟩;rintro e w1 ⟨rfl,hq1⟩;have hI1:=hI.fr (S:=fun _=>False) hq1 (fun h=>h) (fun _ _ h=>h);have cc:=cell_of_one hI1.1.2.1;have zz:=free_of_one hI1.1.2.1;have hal:xs.all LK=false:=by
    rw [List.all_eq_false];exact ⟨x,List.mem_of_getElem? hx,by show ¬ fK x.1 x.2.length=true;rw [hb];simp⟩
   gi_wp2
   have hfs:=Fr.setCell (fun k=>k=w.heap.size+1) w1 ⟨w.heap.size+1,0,none⟩ (.bool false) rfl;exact ⟨⟨rfl,one_setCell hI1.1.2.1,hI1.1.2.2.trans' hfs (fun k hk e=>by omega),hal⟩,Fr.trans hq1.fr (hfs.mono (fun k _ e=>(hI.1.1 k).2 e))⟩
  ·rw [hb] at hCS
   gi_wp2_with (fail)
   refine ⟨trivial,(CallsIn.inRound l hCS).mono ?_⟩;rintro e w1 ⟨rfl,hq1⟩;have hI1:=hI.fr (S:=fun _=>False) hq1 (fun h=>h) (fun _ _ h=>h)
   gi_wp2
   refine ⟨D,⟨hI1.1,?_⟩,hq1.fr,fun k hk=>.inl hk⟩;rw [List.take_add_one,hx,List.all_append,hI.2];simp [LK,hb]
 case done =>
  rintro D W ⟨⟨hd,hb,hq⟩,hall⟩ hdef;rw [List.take_length] at hall;have cc:=cell_of_one hb;have zz:=free_of_one hb
  gi_wp2
  have Xq:LM.heap.size≠w.heap.size+1:=by omega
  have hd2:(W.setCell ⟨w.heap.size+1,0,none⟩ (.bool true)).heap[LM.heap.size]?=some (.deferred (some [])):=by
   rw [Below.heap_setCell _ _ _ _ (fun e=>Xq e)];exact hdef
  refine ⟨by simp,.inl ⟨_,_,rfl,run_takeDeferred hd2,?_⟩⟩;have hfp:=Fr.putObj (fun k=>k=LM.heap.size) (W.setCell ⟨w.heap.size+1,0,none⟩ (.bool true)) LM.heap.size (.deferred none) rfl;have cr:=cell_of_one (aC hfp (by omega) (one_setCell hb));refine ⟨_,by simp [results,Tryd.results35,go_sem,cr];rfl,?_,?_⟩
  ·rw [hall]
  ·exact (hq.trans' (Fr.setCell (fun k=>k=w.heap.size+1) W ⟨w.heap.size+1,0,none⟩ (.bool true) rfl) (fun k hk e=>by omega)).trans' hfp (fun k hk e=>by omega)
 case stop =>
  rintro c W ⟨rfl,hb,hq,hx⟩ hdef
  gi_wp2
  refine ⟨by simp,.inl ⟨_,_,rfl,run_takeDeferred hdef,?_⟩⟩;have hfp:=Fr.putObj (fun k=>k=LM.heap.size) W LM.heap.size (.deferred none) rfl;have cr:=cell_of_one (aC hfp (by omega) hb);refine ⟨_,by simp [results,Tryd.results35,go_sem,cr];rfl,?_,?_⟩
  ·rw [hx]
  ·exact hq.trans' hfp (fun k hk e=>by omega)
end
section
open Go.RowKit Go.Shelf
def YK (h:Nd):Prop:=h.nm.size<=100000/\h.tp.size<=100000/\OW h.n
abbrev Cc (f:To):Bool:=f.flat.all LK
theorem oH (h:Nd) (ps r:To):Cc (.cons h ps r)=((fK h ps.length && Cc ps) && Cc r):=by
 simp [Cc,To.flat,List.all_append,Bool.and_assoc,LK]
end
section
open Go.RowKit
def zh (h:Nd):Bool:=decide (60 < h.nm.size) || zi h.tp
namespace To
def room:Nat->Int->To->Int
 | _,m,nil=>m
 | d, m, cons h ps r => if m < 0 then m else
     match d with
     | 0=>room 0 (-1) r
     | d+1=>room (d+1) (if zh h then -1 else room d (m-1) ps) r
theorem fE:∀ (f:To) (d:Nat) (m:Int),m < 0->room d m f=m
 | nil,_,_,_=>by unfold room;rfl
 | cons h ps r,d,m,e=>by unfold room;rw [if_pos e]
theorem room_le:∀ (f:To) (d:Nat) (m:Int),0<=m->room d m f<=m/\-1<=room d m f
 | nil,_,_,_=>by unfold room;omega
 | cons h ps r,d,m,e=>by
  unfold room;rw [if_neg (by omega)];cases d with
  | zero=>simp only;rw [fE r 0 (-1) (by omega)];omega
  | succ d =>
   simp only;cases hb:zh h
   ·simp only [Bool.false_eq_true,if_false]
    by_cases hm:0<=m-1
    ·have h1:=room_le ps d (m-1) hm
     by_cases h0:0<=room d (m-1) ps
     ·have h2:=room_le r (d+1) _ h0;omega
     ·rw [fE r _ _ (by omega)];omega
    ·rw [fE ps _ _ (by omega),fE r _ _ (by omega)];omega
   ·simp only [if_true];rw [fE r _ _ (by omega)];omega
theorem Ce:∀ (f:To) (d:Nat) (m:Int),0<=room d m f->room d m f=m-f.size/\0<=m/\f.depth<=d/\allT (fun h=>zh h=false) f
 | nil,_,m,h=>by unfold room at h ⊢;simp [size,depth,allT];exact h
 | cons h ps r,d,m,e=>by
  unfold room at e ⊢
  by_cases hm:m < 0
  ·rw [if_pos hm] at e;omega
  ·rw [if_neg hm] at e ⊢;cases d with
   | zero=>simp only at e;rw [fE r 0 (-1) (by omega)] at e;omega
   | succ d =>
    simp only at e ⊢;obtain ⟨h1,h2,h3,h4⟩:=Ce r (d+1) _ e;cases hb:zh h
    ·rw [hb] at h1 h2 e;simp only [Bool.false_eq_true,if_false] at h1 h2 e ⊢;obtain ⟨g1,g2,g3,g4⟩:=Ce ps d (m-1) h2;rw [h1,g1];refine ⟨by simp only [size];omega,by omega,by simp only [depth];omega,hb,g4,h4⟩
    ·rw [hb] at h2;simp at h2
end To
def fP (d:Nat) (m:Int) (h:Nd) (ps:To):Int:=if d=0 then -1 else if zh h then -1 else To.room (d-1) (m-1) ps
theorem PO (d:Nat) (m:Int) (h:Nd) (ps r:To) (hm:0<=m):To.room d m (.cons h ps r)=To.room d (fP d m h ps) r:=by
 conv=>lhs;unfold To.room
 rw [if_neg (by omega)];unfold fP;cases d with
 | zero=>rfl
 | succ d=>rfl
theorem LP (d:Nat) (m:Int) (h:Nd) (ps:To) (hm:0<=m):-1<=fP d m h ps/\fP d m h ps<=m:=by
 unfold fP
 split
 ·omega
 ·split
  ·omega
  ·by_cases h1:0<=m-1
   ·have:=To.room_le ps (d-1) (m-1) h1;omega
   ·rw [To.fE _ _ _ (by omega)];omega
def TI (h:Nd) (ps:To):Prop:=∀ (w:World) (R:Nat->Prop) (o1:Option Addr) (l1 c1:Nat) (o2:Option Addr) (l2 c2:Nat) (d:Nat) (m:Int) (di:Int),di=d->aB R w o1 l1 h.tp->bC R w o2 l2 ps->h.nm.size<=9223372036854775807->allT (fun h=>h.nm.size<=9223372036854775807) ps->0<=m->m<=100000->d<=100000 ->
 Calls Tryd.prog 30 #[bP h o1 l1 c1 o2 l2 c2,.int .i64 m,.int .i64 di] w fun e w'=>e=.returned (.int .i64 (fP d m h ps))/\ah w w'
theorem PS (h:Nd) (ps:To):TI h ps:=by
 refine To.uY (T:=TI) ?_ h ps;intro h ps ih w R o1 l1 c1 o2 l2 c2 d m di ed hs1 hs hnm TJ hm0 hm1 hd1;subst ed;have HG:=hid (fun (W:World) (hq:ah w W)=>PU h.tk h.tn h.tp W o1 l1 c1 (hs1.slc.stay hq));have HS:=hid hs;have IH:=hid ih;have HL:=hid hs.1;have HNM:=hid TJ;have hmx:=hs.2.1;unfold maxLen at hmx;unfold fG at HG;clear hs ih TJ
 by_cases hd0:d=0
 ·subst hd0;unfold bP fP;go_enter Tryd.func30,Tryd.ntmps30;go_wp2_with fail;go_ret;exact ⟨rfl,ah.alloc _ _⟩
 ·obtain ⟨D,hD⟩:∃ D,D=d-1:=⟨_,rfl⟩;have acQ:((d:Int) == 0)=false:=by simp;omega
  have hdD:d=D+1:=by omega
  by_cases h60:60 < h.nm.size
  ·have acR:(60:Int) < (h.nm.size:Int):=by omega
   have HF:Hid (fP d m h ps=-1):=by show _=_;unfold fP zh;rw [if_neg hd0];simp [h60]
   rw [HF.out];clear hd0 hD;unfold bP;go_enter Tryd.func30,Tryd.ntmps30;go_wp2_with fail;go_ret;exact ⟨rfl,ah.alloc _ _⟩
  ·have acR:¬ (60:Int) < (h.nm.size:Int):=by omega
   cases hg:zi h.tp
   ·obtain ⟨res,hres⟩:∃ res,res=To.room D (m-1) ps:=⟨_,rfl⟩;have aQ:=hid hres;have HF:Hid (fP d m h ps=res):=by show _=_;unfold fP zh;rw [if_neg hd0,hres,hg,<-hD];simp [h60]
    rw [HF.out];rw [hg] at HG;have OY:=hid hdD;have hD1:D<=100000:=by omega
    have acS:1<=d:=by omega
    clear hres hd0 hD hdD hg h60;obtain ⟨W0,hW0⟩:∃ W0,W0=w.alloc (.cells (cells9 h o1 l1 c1 o2 l2 c2) 30):=⟨_,rfl⟩;have HB:Hid (∀ W,ah W0 W->W.cell? ⟨w.heap.size,6,none⟩=some (.slice o2 l2 c2)):=by
     intro W hq;rw [hW0] at hq;exact (PI w h o1 l1 c1 o2 l2 c2 _ W hq).2.2.2.2.2.2.1
    have bD:Hid (ah w W0):=by rw [hW0];exact ah.alloc _ _
    unfold bP;go_enter Tryd.func30,Tryd.ntmps30;go_wp2_with fail;change Calls _ _ _ (w.alloc (.cells (cells9 h o1 l1 c1 o2 l2 c2) 30)) _;rw [<-hW0];refine (HG.out _ bD.out).mono ?_;rintro e w1 ⟨rfl,hq1⟩;have fD:=hid hq1;clear hW0 hq1;go_wp2_with fail;generalize w.heap.size=nb at *;go_loopw [1,7] (fun s t wr=>∃ (i:Nat) (x:Int),t=.int .i64 i/\s=.int .i64 x/\i<=l2/\-1<=x/\x<=100000/\res=To.room D x (ps.drop i)/\ah W0 wr) (fun _ t _=>l2-(intOf t).toNat)
    case atStart=>exact ⟨0,m-1,rfl,rfl,Nat.zero_le _,by omega,by omega,by rw [To.drop_zero];exact aQ.out,fD.out⟩
    case round =>
     obtain ⟨i,x,rfl,rfl,hi,hx0,hx1,hr,hq⟩:=hrel;have HR:=hid hr;have HQ:=hid hq;have g2:=HB.out wr hq;clear hr hq
     by_cases hlt:i < l2
     ·have hlt':(i:Int) < l2:=by omega
      by_cases hx:0<=x
      ·obtain ⟨b,off,hd,qs,p1,m1,d1,p2,m2,d2,rfl,hdr,hg,hRb,⟨e0,e1,e2,e3,e4,e5,e6,e7,e8⟩,hsl,ht1⟩:=(HS.out.stay (bD.out.trans HQ.out)).nth hlt;have hna:=BX ps i hd qs HNM.out hg;have HC:=hid (IH.out i hd qs hg wr R p1 m1 d1 p2 m2 d2 D x ((d:Int)-1) (by have:=OY.out;omega) hsl ht1 hna.1 hna.2 hx hx1 hD1);obtain ⟨y,hy⟩:∃ y,y=fP D x hd qs:=⟨_,rfl⟩;have hyb:-1<=y/\y<=100000:=by have:=LP D x hd qs hx;omega
       have HY:Hid (res=To.room D y (ps.drop (i+1))):=by
        show _=_
        rw [HR.out,hdr,hy,PO _ _ _ _ _ hx]
       rw [<-hy] at HC;unfold bP at HC;clear hdr hg hsl ht1 hy hRb hna;go_wp2_with fail;refine HC.out.mono ?_;rintro e w1 ⟨rfl,hq1⟩;have fD:=hid (HQ.out.trans hq1);clear hq1;go_wp2_with fail;go_roundw
       case rel=>exact ⟨i+1,y,by go_num,rfl,by omega,hyb.1,hyb.2,HY.out,fD.out⟩
       case measure=>simp [intOf];omega
      ·have hx':x < 0:=by omega
       have HY:Hid (res=x):=by show _=_;rw [HR.out];exact To.fE _ _ _ hx'
       go_wp2_with fail;go_ret;exact ⟨by rw [HY.out];rfl,bD.out.trans HQ.out⟩
     ·have hlt':¬ (i:Int) < l2:=by omega
      have HY:Hid (res=x):=by
       show _=_
       rw [HR.out,To.drop_end ps i (by have:=HL.out;omega)];unfold To.room;rfl
      go_wp2_with fail;go_ret;exact ⟨by rw [HY.out];rfl,bD.out.trans HQ.out⟩
   ·have HF:Hid (fP d m h ps=-1):=by show _=_;unfold fP zh;rw [if_neg hd0,hg];simp
    rw [HF.out];rw [hg] at HG;clear hd0 hD hg h60;unfold bP;go_enter Tryd.func30,Tryd.ntmps30;go_wp2_with fail;refine (HG.out _ (ah.alloc _ _)).mono ?_;rintro e w1 ⟨rfl,hq1⟩;go_wp2_with fail;go_ret;exact ⟨rfl,(ah.alloc _ _).trans hq1⟩
def jW (h:Nd) (ps:To):Bool:=decide (fP 60 200 h ps < 0)
theorem LQ {h:Nd} {ps:To} (e:jW h ps=false):zh h=false/\allT (fun h=>zh h=false) ps/\ps.size+1<=200/\ps.depth+1<=60:=by
 unfold jW at e;have h0:0<=fP 60 200 h ps:=by simpa using e
 unfold fP at h0;rw [if_neg (by omega)] at h0;cases hb:zh h
 ·rw [hb] at h0;simp only [Bool.false_eq_true,if_false] at h0;obtain ⟨h1,h2,h3,h4⟩:=To.Ce ps _ _ h0;exact ⟨rfl,h4,by omega,by omega⟩
 ·rw [hb] at h0;simp at h0
theorem NS {h:Nd} (e:zh h=false):h.nm.size<=60/\h.tp.size+1<=300:=by
 unfold zh at e;rw [Bool.or_eq_false_iff] at e;exact ⟨by simpa using e.1,LU e.2⟩
theorem Ji (h : Nd) (ps : To) (w : World) (R : Nat -> Prop) (o1 : Option Addr) (l1 c1 : Nat) (o2 : Option Addr) (l2 c2 : Nat) (hs1 : aB R w o1 l1 h.tp) (hs : bC R w o2 l2 ps) (hnm : h.nm.size <= 9223372036854775807) (TJ : allT (fun h => h.nm.size <= 9223372036854775807) ps) :
    Calls Tryd.prog 17 #[bP h o1 l1 c1 o2 l2 c2] w fun e w'=>e=.returned (.bool (jW h ps))/\ah w w':=by
 have HC:=hid (fun (W:World) (hq:ah w W)=>PS h ps W R o1 l1 c1 o2 l2 c2 60 200 60 rfl (hs1.stay hq) (hs.stay hq) hnm TJ (by omega) (by omega) (by omega));unfold jW;generalize fP 60 200 h ps=r at *;clear hs1 hs hnm TJ;unfold bP at *;go_enter Tryd.func17,Tryd.ntmps17;go_wp2_with fail;refine (HC.out _ (ah.alloc _ _)).mono ?_;rintro e w1 ⟨rfl,hq⟩;go_wp2_with fail;go_ret;exact ⟨rfl,(ah.alloc _ _).trans hq⟩
end
section
open Go.RowKit
def ql (B:Nat) (W:World) (o:Option Addr) (n c:Nat) (xs:List Value):Prop :=
 W.ownsRow 0 30 9 (.slice o n c) n xs/\(∀ u∈xs,u.oneCell'=true)/\∀ k,(Value.slice o n c).ownBlock=some k->B<=k
theorem ql.stay {B:Nat} {W W':World} {o:Option Addr} {n c:Nat} {xs:List Value} (h:ql B W o n c xs) (hq:ah W W'):ql B W' o n c xs :=
 ⟨aU h.1 hq (fun _ _ h=>h),h.2⟩
def TK (h:Nd) (ps:To):Prop:=∀ (w:World) (R:Nat->Prop) (o1:Option Addr) (l1 c1:Nat) (o2:Option Addr) (l2 c2:Nat),bC R w o2 l2 ps->ps.size<=100000 ->
 Calls Tryd.prog 10 #[bP h o1 l1 c1 o2 l2 c2] w fun e w'=>∃ o c xs,e=.returned (.slice o (ps.size+1) c)/\ql w.heap.size w' o (ps.size+1) c xs/\ah w w'
theorem Hg (h:Nd) (ps:To):TK h ps:=by
 refine To.uY (T:=TK) ?_ h ps;intro h ps ih w R o1 l1 c1 o2 l2 c2 hs hsz;have HS:=hid hs;have IH:=hid ih;have hl:=hs.1;have hll:=To.length_le ps;rw [<-hl] at hll;have HL:=hid hl;clear hs ih hl;unfold bP;go_enter Tryd.func10,Tryd.ntmps10;go_wp2_with fail;obtain ⟨W0,hW0⟩:∃ W0,W0=w.alloc (.cells (cells9 h o1 l1 c1 o2 l2 c2) 30):=⟨_,rfl⟩;have HB:Hid (∀ W,ah W0 W->W.cell? ⟨w.heap.size,6,none⟩=some (.slice o2 l2 c2)):=by
  intro W hq;rw [hW0] at hq;exact (PI w h o1 l1 c1 o2 l2 c2 _ W hq).2.2.2.2.2.2.1
 have bD:Hid (ah w W0):=by rw [hW0];exact ah.alloc _ _
 have hz0:W0.heap.size=w.heap.size+1:=by rw [hW0];simp
 obtain ⟨W1,hW1⟩:∃ W1,W1=W0.alloc (.cells (cells9 h o1 l1 c1 o2 l2 c2) 30):=⟨_,rfl⟩;have hnew:=heap_alloc_new W0 (.cells (cells9 h o1 l1 c1 o2 l2 c2) 30);rw [<-hW1,hz0] at hnew;have fD:Hid (ah W0 W1):=by rw [hW1];exact ah.alloc _ _
 have kZ:Hid (ql (w.heap.size+1) W1 (some ⟨w.heap.size+1,0,none⟩) 1 1 (cells9 h o1 l1 c1 o2 l2 c2).toList):=by
  refine ⟨⟨rfl,.inr ⟨w.heap.size+1,1,cells9 h o1 l1 c1 o2 l2 c2,rfl,Nat.zero_le _,hnew,Nat.le_refl _,by decide,rfl,rfl⟩⟩,?_,?_⟩
  ·simp [Value.oneCell']
  ·intro k hk;simp [Value.ownBlock] at hk;omega
 change Code.wp _ _ _ _ ((w.alloc (.cells (cells9 h o1 l1 c1 o2 l2 c2) 30)).alloc (.cells (cells9 h o1 l1 c1 o2 l2 c2) 30));rw [<-hW0,<-hW1];clear hW0 hW1 hnew;have HZ:=hid hz0;clear hz0;generalize hnb:w.heap.size=nb at *;have yM:=hid hnb;clear hnb;go_loopw [3,4] (fun s t wr=>∃ (i n c:Nat) (o:Option Addr) (xs:List Value),t=.int .i64 i/\s=.slice o n c/\i<=l2/\n+(ps.drop i).size=ps.size+1/\ql (nb+1) wr o n c xs/\ah W0 wr) (fun _ t _=>l2-(intOf t).toNat)
 case atStart=>exact ⟨0,1,1,_,_,rfl,rfl,Nat.zero_le _,by rw [To.drop_zero];omega,kZ.out,fD.out⟩
 case round =>
  obtain ⟨i,n,c,o,xs,rfl,rfl,hi,hn,hrow,hq⟩:=hrel;have HN:=hid hn;have HR:=hid hrow;have HQ:=hid hq;have cc:=HB.out wr hq;have hnb:n<=100001:=by omega
  clear hn hrow hq
  by_cases hlt:i < l2
  ·have hlt':(i:Int) < l2:=by omega
   obtain ⟨b,off,hd,qs,p1,m1,d1,p2,m2,d2,rfl,hd1,hg,hRb,⟨e0,e1,e2,e3,e4,e5,e6,e7,e8⟩,hs1,ht1⟩:=(HS.out.stay (bD.out.trans HQ.out)).nth hlt;have Jf:=To.dG ps i hd qs hg;have HC:=hid (IH.out i hd qs hg wr R p1 m1 d1 p2 m2 d2 ht1 (by omega));have HD:Hid (n+(qs.size+1)+(ps.drop (i+1)).size=ps.size+1):=by
    have:=HN.out;rw [hd1] at this;simp only [To.size] at this;show _=_;omega
   have hqz:qs.size+1<=100001:=by omega
   unfold bP at HC;clear hd1 hg hs1 ht1 Jf hRb;go_wp2_with fail;refine HC.out.mono ?_;rintro e w1 ⟨q,d,ys,rfl,hrow1,hq1⟩;have TG:=hid (HQ.out.trans hq1);have HR1:=hid (HR.out.stay hq1);have HR2:=hid hrow1;have HBZ:Hid (nb+1<=w1.heap.size):=by have:=TG.out.size;have:=HZ.out;show _<=_;omega
   have Zw:Hid (∀ j u,ys[j]?=some u->∃ a,q=some a/\w1.cell? (a.add j)=some u):=by
    intro j u hu;rcases hrow1.1.2 with ⟨_,h2⟩ | ⟨g,cap',cur,he,_⟩
    ·omega
    ·injection he with h1 h2 h3
     subst h1;exact ⟨_,rfl,hrow1.1.cells rfl j u hu⟩
   clear hq1 hrow1 cc;go_wp2_with (at_builtin;(refine lK w1 rfl (.tmp 14) (.tmp 20) 26 rfl 30 _ 9 112 sZ (.slice o n c) n xs rfl HR1.out.1 q (qs.size+1) d ys rfl HR2.out.1.1 Zw.out HR2.out.2.1 (by unfold maxLen;omega) (by omega) ?_);intro o3 c3 w3 ho hf hob hnil);have HR3:Hid (ql (nb+1) w3 o3 (n+(qs.size+1)) c3 (xs++ys)):=by
    refine ⟨ho,?_,?_⟩
    ·intro u hu;rcases List.mem_append.1 hu with h | h
     ·exact HR1.out.2.1 u h
     ·exact HR2.out.2.1 u h
    ·intro k hk;rcases hob with h | h
     ·exact HR1.out.2.2 k (by rw [<-h];exact hk)
     ·rw [h] at hk;cases hk;exact HBZ.out
   have qI:Hid (ah W0 w3):=Fr.trans' TG.out hf (fun k hk hs=>by have:=HR1.out.2.2 k hs;have:=HZ.out;omega);clear ho hf hob hnil;go_wp2_with fail;go_roundw
   case rel=>exact ⟨i+1,n+(qs.size+1),c3,o3,xs++ys,by go_num,rfl,by omega,HD.out,HR3.out,qI.out⟩
   case measure=>simp [intOf];omega
  ·have hlt':¬ (i:Int) < l2:=by omega
   have HE:Hid (n=ps.size+1):=by
    have:=HN.out;rw [To.drop_end ps i (by have:=HL.out;omega)] at this
    show _=_
    simpa [To.size] using this
   go_wp2_with fail;go_ret;rw [yM.out,<-HE.out];exact ⟨o,c,rfl,⟨xs,HR.out.1,HR.out.2.1,fun k hk=>by have:=HR.out.2.2 k hk;omega⟩,bD.out.trans HQ.out⟩
end
end Go.Proofs.YtcninopmelmajaaDoor
