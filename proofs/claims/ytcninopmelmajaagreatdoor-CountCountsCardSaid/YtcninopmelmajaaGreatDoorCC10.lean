/-
  Texts laid together (TeRight, TyRefVars0, TyRefVars, TyRefVars2, TeRSound, TeRSound1, TeRSound2, TeRSound3, TeRSound4, TeRSound5, TeRSound6, TeRSound7, TeRSound8, TeRSound9): laws and walks, with their conditions.
-/
import Derived.Test.YtcninopmelmajaaGreatDoorCC9
set_option maxHeartbeats 8000000
set_option maxRecDepth 1000000
namespace Go.Proofs.YtcninopmelmajaaGreatDoor
open Go.Lib (hid)
section
open Go.RowKit Go.Shelf
attribute [local go_sem] Oper.semAt_some
def sJ (h:Nd):Prop:=h.nm.size<=100000/\h.tp.size<=100000/\sF h.tn/\VD h.tp
theorem JJ (h : Nd) (w : World) (R : Nat -> Prop) (o1 : Option Addr) (l1 c1 : Nat) (o2 : Option Addr) (l2 c2 : Nat) (hs : aC R w o1 l1 h.tp) (hg : sJ h) (hl2 : l2 <= 9223372036854775807) (ht : Lx.jO w) :
    Calls Tryz.prog 51 #[bC h o1 l1 c1 o2 l2 c2] w fun e w'=>e=.returned (.bool (aI h l2))/\ah w w':=by
 obtain ⟨k,nm,n,tk,tn,uJ,fr,en⟩:=h
 obtain ⟨g1,g2,g3,g4⟩:=hg
 by_cases h1:1<=k
 ·by_cases h2:k<=10
  ·exact QT k h1 h2 nm n tk tn uJ fr en w o1 l1 c1 o2 l2 c2 hs.slc g1 g2 g3 g4 hl2 ht
  ·have e:aI ⟨k,nm,n,tk,tn,uJ,fr,en⟩ l2=false:=by unfold aI;simp [h2]
   rw [e]
   have hk1:¬ k < 1:=by omega
   have hk2:10 < k:=by omega
   have HQ:=hid (ah.alloc w (.cells #[.int .i64 k,.string nm,.int .i64 n,.int .i64 tk,.int .i64 tn,.slice o1 l1 c1,.slice o2 l2 c2,.int .i64 fr,.int .i64 en] 29))
   clear hs g1 g2 g3 g4 ht e
   unfold bC
   go_enter Tryz.func51,Tryz.ntmps51
   go_wp2_with fail
   go_ret
   exact ⟨rfl,HQ.out⟩
 ·have e:aI ⟨k,nm,n,tk,tn,uJ,fr,en⟩ l2=false:=by unfold aI;simp [h1]
  rw [e]
  have hk1:k < 1:=by omega
  have HQ:=hid (ah.alloc w (.cells #[.int .i64 k,.string nm,.int .i64 n,.int .i64 tk,.int .i64 tn,.slice o1 l1 c1,.slice o2 l2 c2,.int .i64 fr,.int .i64 en] 29))
  clear hs g1 g2 g3 g4 ht e
  unfold bC
  go_enter Tryz.func51,Tryz.ntmps51
  go_wp2_with fail
  go_ret
  exact ⟨rfl,HQ.out⟩
abbrev JK (x:Nd × To):Bool:=aI x.1 x.2.length
def RtI (rb:Nat) (w:World) (xs:List (Nd × To)) (i:Nat) (D:Nat->Prop) (W:World):Prop :=
 ((∀ k,D k↔k=rb)/\W.heap[rb]?=some (.cells #[.bool false] 4 (0,0))/\ah w W)/\(xs.take i).all JK=true
theorem RtI.fr {rb:Nat} {w:World} {xs:List (Nd × To)} {i:Nat} {D S:Nat->Prop} {W W':World} (h:RtI rb w xs i D W) (hf:Fr S W W') (h1:¬ S rb) (h2:∀ k,k < w.heap.size->¬ S k):RtI rb w xs i D W' :=
 ⟨⟨h.1.1,(hf.block _ (lt_of_block h.1.2.1) h1).trans h.1.2.1,Fr.trans' h.1.2.2 hf (fun k hk hs=>h2 k hk hs)⟩,h.2⟩
theorem zB (h : Nd) (ps : To) (w : World) (R : Nat -> Prop) (o1 : Option Addr) (l1 c1 : Nat) (o2 : Option Addr) (l2 c2 : Nat) (hs1 : aC R w o1 l1 h.tp) (hs : aY R w o2 l2 ps) (hz : ps.size <= 100000) (hg : allT sJ (.cons h ps .nil)) (ht : Lx.jO w) :
    Calls Tryz.prog 30 #[bC h o1 l1 c1 o2 l2 c2] w fun e w'=>e=.returned (.bool ((To.cons h ps .nil).flat.all JK))/\ah w w':=by
 obtain ⟨xs,hxs⟩:∃ xs,(To.cons h ps .nil).flat=xs:=⟨_,rfl⟩
 rw [hxs]
 refine (callsIn_wide (n:=5)).1 ?_
 refine callsIn_of_wp_marks Tryz.func30 rfl trivial ?_ rfl
 simp only [Tryz.ntmps30,List.size_toArray,List.length_cons,List.length_nil,Nat.reduceAdd,Nat.reduceSub,Array.replicate_succ,Array.replicate_zero,List.push_toArray,List.append_toArray,List.nil_append,List.cons_append]
 have HC:=fun W=>(callsIn_wide (n:=4)).2 (QU h o1 l1 c1 o2 l2 c2 W)
 have HT:=hid ht
 have HG:=hid (yt _ hg)
 unfold bC at HC ⊢
 gi_wp2_with (fail)
 refine ⟨trivial,(HC _).mono ?_⟩;rintro e pI ⟨rfl,hW2⟩
 obtain ⟨W1,hW1⟩:∃ W1,W1=((w.alloc (.cells (cells9 h o1 l1 c1 o2 l2 c2) 29)).alloc (.cells #[.bool false] 4)):=⟨_,rfl⟩
 have hz1:W1.heap.size=w.heap.size+1+1:=by rw [hW1];simp
 have hq1:ah w W1:=by rw [hW1];exact (ah.alloc _ _).trans (ah.alloc _ _)
 have hb1:W1.heap[w.heap.size+1]?=some (.cells #[.bool false] 4 (0,0)):=by
  rw [hW1]
  have:=heap_alloc_new (w.alloc (.cells (cells9 h o1 l1 c1 o2 l2 c2) 29)) (.cells #[.bool false] 4)
  simpa using this
 have rV:pI=W1.alloc (.cells (cells9 h o1 l1 c1 o2 l2 c2) 29):=by rw [hW1];exact hW2
 have hq2:ah w pI:=by rw [rV];exact hq1.trans (ah.alloc _ _)
 have hb2:pI.heap[w.heap.size+1]?=some (.cells #[.bool false] 4 (0,0)):=by
  rw [rV,Below.heap_alloc _ _ _ (by omega)];exact hb1
 have htb:pI.heap[W1.heap.size]?=some (.cells (cells9 h o1 l1 c1 o2 l2 c2) 29 (0,0)):=by rw [rV];exact heap_alloc_new W1 _
 have hz2:pI.heap.size=w.heap.size+3:=by rw [rV];simp;omega
 have hseq:=VE (5 - 1) (fun k=>k < w.heap.size∨k=W1.heap.size) h ps o1 l1 c1 o2 l2 c2 W1.heap.size pI (fun k hk=>by omega) htb (.inr rfl) ((hs1.mono (T:=fun k=>k < w.heap.size∨k=W1.heap.size) (fun k hk _=>.inl hk)).stay hq2) ((hs.mono (T:=fun k=>k < w.heap.size∨k=W1.heap.size) (fun k hk _=>.inl hk)).stay hq2) hz
 rw [hz1] at hseq
 rw [hxs] at hseq HG
 have QV:=hid hseq
 have HB2:=hid hb2
 have dO:=hid hq2
 clear hW1 hW2 rV hq1 hb1 hq2 hb2 htb hseq HC hxs hg ht
 gi_wp2_with (fail)
 refine qO (w:=pI) rfl (enters_of Tryz.func83 (by kernel_rfl) rfl) QV.out (fun k hk=>by omega) (Fr.refl _ _) (fun i x va W he=>N9 he)
  (RtI (w.heap.size+1) w xs)
  (fun i x a' D W=>RtI (w.heap.size+1) w xs i D W/\∃ (xb:Nat) (t7 t8:Value) (p1:Option Addr) (m1 d1:Nat) (p2:Option Addr) (m2 d2:Nat),W.heap[xb]?=some (.cells (cells9 x.1 p1 m1 d1 p2 m2 d2) 29 (0,0))/\xb≠pI.heap.size+1/\aC (fun k=>k < w.heap.size∨k=w.heap.size+1+1) W p1 m1 x.1.tp/\aY (fun k=>k < w.heap.size∨k=w.heap.size+1+1) W p2 m2 x.2/\a'={ tmps:=#[.agg #[.int .i64 h.k,.string h.nm,.int .i64 h.n,.int .i64 h.tk,.int .i64 h.tn,.slice o1 l1 c1,.slice o2 l2 c2,.int .i64 h.fr,.int .i64 h.en],.pointer (some ⟨w.heap.size,0,none⟩),.pointer (some ⟨w.heap.size+1,0,none⟩),undef,.pointer (some ⟨xb,0,none⟩),.agg #[.int .i64 h.k,.string h.nm,.int .i64 h.n,.int .i64 h.tk,.int .i64 h.tn,.slice o1 l1 c1,.slice o2 l2 c2,.int .i64 h.fr,.int .i64 h.en],.func (.func 83) #[] #[.pointer (some ⟨w.heap.size+1+1,0,none⟩)],t7,t8,undef,undef,undef],defers:=[] })
  (fun c W=>c=.ret/\W.heap[w.heap.size+1]?=some (.cells #[.bool false] 4 (0,0))/\ah w W/\xs.all JK=false) (fun k=>k=w.heap.size+1) ?own ?stay ?G7 ?G8 ?start ?assign ?body ?done ?stop
 case own =>
  rintro i D A ⟨⟨hd,hb,hq⟩,_⟩ k hk
  have e:=(hd k).1 hk
  have hl:=lt_of_block hb
  exact ⟨by omega,by omega,.inl (by omega)⟩
 case stay =>
  rintro i D A B hI hf
  exact hI.fr hf (fun h=>h.2 ((hI.1.1 _).2 rfl)) (fun k hk h=>by have:=h.1;omega)
 case G7 =>
  rintro i x a' D A B ⟨hI,xb,t7,t8,p1,m1,d1,p2,m2,d2,hxb,hne,hp1,hp2,ha⟩ hf
  exact ⟨hI.fr hf (by omega) (fun k hk h=>by omega),xb,t7,t8,p1,m1,d1,p2,m2,d2,ay hf hne hxb,hne,hp1.fr hf (fun k _ h=>⟨h,by omega⟩),hp2.fr hf (fun k _ h=>⟨h,by omega⟩),ha⟩
 case G8 =>
  rintro c A B ⟨hc,hb,hq,hx⟩ hf
  exact ⟨hc,ay hf (by omega) hb,hq.trans' hf (fun k hk h=>by omega),hx⟩
 case start=>exact ⟨⟨fun k=>Iff.rfl,HB2.out,dO.out⟩,rfl⟩
 case assign =>
  rintro l i x va D W K hx ⟨p1,m1,d1,p2,m2,d2,rfl,hp1,hp2⟩ hI hWs hK
  unfold bC
  have hq:=ah.alloc W (.cells (cells9 x.1 p1 m1 d1 p2 m2 d2) 29)
  have hnew:=heap_alloc_new W (.cells (cells9 x.1 p1 m1 d1 p2 m2 d2) 29)
  have hne:W.heap.size≠pI.heap.size+1:=by omega
  have hI2:=hI.fr (S:=fun _=>False) hq (fun h=>h) (fun _ _ h=>h)
  have hp1':=hp1.stay hq
  have hp2':=hp2.stay hq
  clear hI hWs
  gi_wp2
  exact hK _ _ ⟨hI2,W.heap.size,.int .i64 (i:Int),bC x.1 p1 m1 d1 p2 m2 d2,p1,m1,d1,p2,m2,d2,hnew,hne,hp1',hp2',by simp [bC]⟩ hq
 case body =>
  rintro l i x a' D W hx ⟨hI,xb,t7,t8,p1,m1,d1,p2,m2,d2,hxb,hne,hp1,hp2,rfl⟩ hW
  obtain ⟨a0,a1,a2,a3,a4,a5,a6,a7,a8⟩:=aA hxb
  have hxm:=HG.out x (List.mem_of_getElem? hx)
  have hl2:m2<=9223372036854775807:=by have:=hp2.2.1;unfold maxLen at this;omega
  have hCS:=(callsIn_wide (n:=5 - 1 - 1)).2 (JJ x.1 W _ p1 m1 d1 p2 m2 d2 hp1 hxm.1 hl2 (HT.out.stay hI.1.2.2))
  have hlen:m2=x.2.length:=hp2.1
  rw [hlen] at hCS
  unfold bC at hCS
  cases hb:aI x.1 x.2.length
  ·rw [hb] at hCS
   gi_wp2_with (fail)
   refine ⟨trivial,(CallsIn.inRound l hCS).mono ?_⟩;rintro e w1 ⟨rfl,hq1⟩
   have hI1:=hI.fr (S:=fun _=>False) hq1 (fun h=>h) (fun _ _ h=>h)
   have cc:=cell_of_one hI1.1.2.1
   have zz:=free_of_one hI1.1.2.1
   have hal:xs.all JK=false:=by
    rw [List.all_eq_false];exact ⟨x,List.mem_of_getElem? hx,by show ¬ aI x.1 x.2.length=true;rw [hb];simp⟩
   gi_wp2
   have hfs:=Fr.setCell (fun k=>k=w.heap.size+1) w1 ⟨w.heap.size+1,0,none⟩ (.bool false) rfl
   exact ⟨⟨rfl,one_setCell hI1.1.2.1,hI1.1.2.2.trans' hfs (fun k hk e=>by omega),hal⟩,Fr.trans hq1.fr (hfs.mono (fun k _ e=>(hI.1.1 k).2 e))⟩
  ·rw [hb] at hCS
   gi_wp2_with (fail)
   refine ⟨trivial,(CallsIn.inRound l hCS).mono ?_⟩;rintro e w1 ⟨rfl,hq1⟩
   have hI1:=hI.fr (S:=fun _=>False) hq1 (fun h=>h) (fun _ _ h=>h)
   gi_wp2
   refine ⟨D,⟨hI1.1,?_⟩,hq1.fr,fun k hk=>.inl hk⟩
   rw [List.take_add_one,hx,List.all_append,hI.2]
   simp [JK,hb]
 case done =>
  rintro D W ⟨⟨hd,hb,hq⟩,hall⟩ hdef
  rw [List.take_length] at hall
  have cc:=cell_of_one hb
  have zz:=free_of_one hb
  gi_wp2
  have JL:pI.heap.size≠w.heap.size+1:=by omega
  have hd2:(W.setCell ⟨w.heap.size+1,0,none⟩ (.bool true)).heap[pI.heap.size]?=some (.deferred (some [])):=by
   rw [Below.heap_setCell _ _ _ _ (fun e=>JL e)];exact hdef
  refine ⟨by simp,.inl ⟨_,_,rfl,run_takeDeferred hd2,?_⟩⟩
  have hfp:=Fr.putObj (fun k=>k=pI.heap.size) (W.setCell ⟨w.heap.size+1,0,none⟩ (.bool true)) pI.heap.size (.deferred none) rfl
  have cr:=cell_of_one (ay hfp (by omega) (one_setCell hb))
  refine ⟨_,by simp [results,Tryz.results30,go_sem,cr];rfl,?_,?_⟩
  ·rw [hall]
  ·exact (hq.trans' (Fr.setCell (fun k=>k=w.heap.size+1) W ⟨w.heap.size+1,0,none⟩ (.bool true) rfl) (fun k hk e=>by omega)).trans' hfp (fun k hk e=>by omega)
 case stop =>
  rintro c W ⟨rfl,hb,hq,hx⟩ hdef
  gi_wp2
  refine ⟨by simp,.inl ⟨_,_,rfl,run_takeDeferred hdef,?_⟩⟩
  have hfp:=Fr.putObj (fun k=>k=pI.heap.size) W pI.heap.size (.deferred none) rfl
  have cr:=cell_of_one (ay hfp (by omega) hb)
  refine ⟨_,by simp [results,Tryz.results30,go_sem,cr];rfl,?_,?_⟩
  ·rw [hx]
  ·exact hq.trans' hfp (fun k hk e=>by omega)
end
section
open Go.RowKit Go.Maps
def AL (w:World) (v:Value) (l:List Int):Prop:=∃ a c,v=.slice a l.length c/\dV w a l
theorem JM {w:World} {v:Value} {l:List Int} (h:w.ownsRow 0 3 1 v l.length (ints l)):AL w v l:=by
 obtain ⟨a,c,rfl,_,_,h'⟩:=FM.at (B:=0) ⟨h,fun _ _=>Nat.zero_le _⟩
 refine ⟨a,c,rfl,fun i x hx=>?_⟩
 obtain ⟨g,rfl,hc⟩:=VF h' hx
 exact ⟨g,0,rfl,by simpa using hc⟩
theorem gB {w:World} {b:Nat} (h:w.heap[b]?=some (.cells #[] 3 (0,0))):w.ownsRow 0 3 1 (.slice (some ⟨b,0,none⟩) 0 0) ([]:List Int).length (ints []):=by
 refine ⟨rfl,.inr ⟨b,0,#[],rfl,Nat.zero_le _,h,Nat.le_refl _,Nat.zero_le _,rfl,rfl⟩⟩
theorem run_append_nothing (w : World) (ty : TypeId) (v : Value) (n : Nat) (xs : List Value) (hown : w.ownsRow 0 3 1 v n xs) (hv : v ≠ .slice none 0 0) (o : Option Addr) (c : Nat) :
    (Builtin.append_ #[35,35] ty #[v,.slice o 0 c]).run Tryz.prog w=.ok v w:=by
 rcases hown.2 with ⟨rfl,_⟩ | ⟨g,cap,cur,rfl,_,hg,hc,hm,hs,_⟩
 ·exact absurd rfl hv
 ·obtain ⟨i0,hi,hz0,hz1,hz2⟩:=info_parts jH.info
  have hu:=jH.under
  cases o<;>simp [Builtin.append_,run_underlying hu,sizeOf,typeInfo,hi,Builtin.lenOf,Builtin.firstCells,loadCells,loadCellsFrom,storeCells,hc]
end
section
open Go.RowKit Go.Maps
theorem qC {ops : Array Oper} {o : Oper} {a : Act} {K : Act -> World -> Prop} {Q : Exit -> Act -> World -> Prop} {E : Prop} (W : World)
    (hg:o.guard=none) (s x:Operand) (hop:o.op=Op.call { callee:=Callee.builtin Builtin.append,args:=#[s,x],argTypes:=#[35,35] })
    (v:Value) (xs:List Int) (hs:a.eval s=v) (hown:W.ownsRow 0 3 1 v xs.length (ints xs)) (va:Option Addr) (ys:List Int) (m c:Nat) (hm:m=ys.length) (hx:a.eval x=.slice va m c) (hat:dV W va ys) (hb:xs.length+ys.length<=1000000) (hne:v≠.slice none 0 0)
    (hK:∀ v' w',w'.ownsRow 0 3 1 v' (xs++ys).length (ints (xs++ys))->Fr (fun k=>v.ownBlock=some k) W w'->(∀ g,v'.ownBlock=some g->v.ownBlock=some g∨g=W.heap.size)->v'≠.slice none 0 0->K (a.put o.dst v') w') :
    if Region.wanted o (yielded ops a.tmps)=true then Oper.wp Tryz.prog o a W K Q else E:=by
 subst hm
 rw [if_pos (by unfold Region.wanted;rw [hg])]
 by_cases h0:ys=[]
 ·subst h0
  have hr:=run_append_nothing W o.type v _ _ hown hne va c
  unfold Oper.wp execOp
  simp only [hop,resolve,invoke,builtin,Sem.run_bind,Sem.run_pure,Result.andThen_ok,List.map_toArray,List.map_cons,List.map_nil,hs,hx,List.length_nil,hr]
  exact hK v W (by simpa using hown) (Fr.refl _ _) (fun g h=>.inl h) hne
 ·obtain ⟨y,r,rfl⟩:=List.exists_cons_of_ne_nil h0
  obtain ⟨b,off,rfl,_⟩:=hat 0 y rfl
  obtain ⟨i0,hi,hz0,hz1,hz2⟩:=info_parts jH.info
  refine wp_append_lies (P:=Tryz.prog) W s x 35 hop 0 3 i0 (.int .i64 0) 1 8 jH.under hi hz0 hz1 hz2 (by decide) (by decide) v xs.length (ints xs) hs hown ⟨b,off,none⟩ (y::r).length c (ints (y::r)) hx (by simp [ints]) ?_ (by unfold ints;intro u hu;obtain ⟨z,_,rfl⟩:=List.mem_map.1 hu;rfl) (by simp) (by unfold maxLen;omega) (by omega) (Nat.zero_le _) _ rfl ?_
  ·intro j u hj
   unfold ints at hj
   rw [List.getElem?_map] at hj
   cases hz:(y::r)[j]? with
   | none=>rw [hz] at hj;cases hj
   | some z =>
    rw [hz] at hj
    cases hj
    obtain ⟨b',off',he,hc⟩:=hat j z hz
    cases he
    simpa [Addr.add_lit] using hc
  ·intro g cap w' ho hgr hg' _
   refine hK _ w' ?_ (Fr.grown hgr (fun k hk=>hk)) ?_ (by simp)
   ·rw [List.length_append];unfold ints at *;rw [List.map_append];exact ho
   ·intro g2 h2
    simp [Value.ownBlock] at h2
    subst h2
    exact hg'
theorem ou {W:World} {b:Nat} {n:Int} (h:W.heap[b]?=some (.cells #[.int .i64 n] 3 (0,0))):dV W (some ⟨b,0,none⟩) [n]:=by
 intro i x hx
 cases i with
 | zero =>
  simp at hx
  subst hx
  exact ⟨b,0,rfl,by rw [cell_of_row _ _ _ _ _ (0,0) h];rfl⟩
 | succ i=>simp at hx
end
section
open Go.RowKit Go.Maps
def XE (k n:Int) (ps:Fo):Prop:=∀ (w:World) (o:Option Addr) (len cap:Nat) (vo:Value) (L:List Int),qm w o len ps->AL w vo L->L.length+ps.size<=199000+999 ->
 Calls Tryz.prog 57 #[kL k n o len cap,vo] w fun e w'=>∃ vo',e=.returned vo'/\AL w' vo' (Fo.vars L (.cons k n ps .nil))/\ah w w'
theorem G9 (k n:Int) (ps:Fo):XE k n ps:=by
 refine Fo.qE (T:=XE) ?_ k n ps
 intro k n ps ih w o len cap vo L hs hv hsz
 obtain ⟨va,vc,rfl,hat⟩:=hv
 have HS:=hid hs
 have HL:=hid hs.1
 have hmx:=hs.2.1
 unfold maxLen at hmx
 have IH:=hid ih
 have Ym:=hid hat
 obtain ⟨RES,hres⟩:∃ RES,RES=Fo.vars L (.cons k n ps .nil):=⟨_,rfl⟩
 have aW:Hid (RES=Fo.vars (dw L k n ps) ps):=hres
 have kR:=hid (fun (W:World) (hq:ah w W)=>Oa va L.length vc L n W (hat.stay hq) rfl (by omega))
 obtain ⟨W0,hW0⟩:∃ W0,W0=w.alloc (.cells #[.int .i64 k,.int .i64 n,.slice o len cap] 24):=⟨_,rfl⟩
 have aK:Hid (ah w W0):=by rw [hW0];exact ah.alloc _ _
 have uZ:Hid (∀ W,ah W0 W->W.cell? ⟨w.heap.size,0,none⟩=some (.int .i64 k)/\W.cell? ⟨w.heap.size,1,none⟩=some (.int .i64 n)/\W.cell? ⟨w.heap.size,2,none⟩=some (.slice o len cap)):=by
  intro W hq;rw [hW0] at hq;exact gG w k n o len cap _ W hq
 rw [<-hres]
 clear hs hat ih hres
 unfold kL
 cases hk:(k == 1)
 ·have HST:Hid (dw L k n ps=L):=by show _=_;unfold dw;rw [hk];rfl
  go_enter Tryz.func57,Tryz.ntmps57
  generalize hB:w.heap.size=B at *
  go_upto_region 1 with fail
  rw [<-hW0]
  clear hW0
  obtain ⟨a0,a1,a2⟩:=uZ.out W0 (ah.refl _)
  go_wp2_with fail
  go_loopw [1,5] (fun v t wr=>∃ (i:Nat) (l:List Int),t=.int .i64 i/\i<=len/\AL wr v l/\Fo.vars l (ps.drop i)=RES/\l.length+(ps.drop i).size<=200000/\ah W0 wr) (fun _ t _=>len - (intOf t).toNat)
  case atStart=>exact ⟨0,L,rfl,Nat.zero_le _,⟨va,vc,rfl,Ym.out.stay aK.out⟩,by rw [Fo.drop_zero,aW.out,HST.out],by rw [Fo.drop_zero];omega,ah.refl _⟩
  case round =>
   obtain ⟨i,l,rfl,hi,hv,hr,hz,hq⟩:=hrel
   have HV:=hid hv
   have HR:=hid hr
   have HZ:=hid hz
   have HQ:=hid hq
   obtain ⟨b0,b1,b2⟩:=uZ.out wr hq
   clear hv hr hz hq
   by_cases hlt:i < len
   ·have hlt':(i:Int) < len:=by omega
    obtain ⟨b,off,k1,n1,qs,o1,len1,cap1,rfl,hd,hg,e0,e1,e2,hs1⟩:=(HS.out.stay (aK.out.trans HQ.out)).nth hlt
    have hzz:l.length+qs.size+1+(ps.drop (i+1)).size<=200000:=by have:=HZ.out;rw [hd] at this;simp only [Fo.size] at this;omega
    have HC:=hid (IH.out i k1 n1 qs hg wr o1 len1 cap1 u1 l hs1 HV.out (by omega))
    have HR2:Hid (Fo.vars (Fo.vars l (.cons k1 n1 qs .nil)) (ps.drop (i+1))=RES):=by
     show _=_
     rw [<-HR.out,hd];rfl
    have HZ2:Hid ((Fo.vars l (.cons k1 n1 qs .nil)).length+(ps.drop (i+1)).size<=200000):=by
     show _<=_
     have:=sK (.cons k1 n1 qs .nil) l
     simp only [Fo.size] at this
     omega
    unfold kL at HC
    generalize Fo.vars l (.cons k1 n1 qs .nil)=l2 at *
    clear hd hg hs1 hzz
    go_wp2_with fail
    refine HC.out.mono ?_;rintro e w2 ⟨v2,rfl,hv2,hq2⟩
    have Yn:=hid hv2
    have dO:=hid (HQ.out.trans hq2)
    clear hv2 hq2
    go_wp2_with fail
    go_roundw
    case rel=>exact ⟨i+1,l2,by go_num,by omega,Yn.out,HR2.out,HZ2.out,dO.out⟩
    case measure=>simp [intOf];omega
   ·have hlt':¬ (i:Int) < len:=by omega
    have hfin:l=RES:=by have:=HR.out;rw [Fo.drop_end ps i (by have:=HL.out;omega)] at this;exact this
    have bJ:=hid hfin
    clear hfin
    go_wp2_with fail
    go_ret
    exact ⟨_,rfl,bJ.out ▸ HV.out,aK.out.trans HQ.out⟩
 ·cases hin:inB L n
  ·have HST:Hid (dw L k n ps=L++[n]):=by show _=_;unfold dw;rw [hk,hin];rfl
   rw [hin] at kR
   go_enter Tryz.func57,Tryz.ntmps57
   generalize hB:w.heap.size=B at *
   go_upto_region 1 with fail
   rw [<-hW0]
   clear hW0
   obtain ⟨a0,a1,a2⟩:=uZ.out W0 (ah.refl _)
   go_wp2_with fail
   refine (kR.out _ aK.out).mono ?_;rintro e W1' ⟨rfl,rfl⟩
   have hq1:=ah.refl W0
   have bI:=hid hq1
   clear a0 a1 a2
   go_upto_region 2 with fail
   obtain ⟨a0,a1,a2⟩:=uZ.out W0 hq1
   clear hq1
   have HAT:=hid (Ym.out.stay (aK.out.trans bI.out))
   have nH:Hid (∀ W,ah W0 W->W.cell? ⟨B,1,none⟩=some (.int .i64 n)):=fun W hq=>(uZ.out W (bI.out.trans hq)).2.1
   go_cut [1] (fun v wx=>AL wx v (L++[n])/\ah W0 wx)
   case first =>
    have hqc:=ah.refl W0
    go_region_held3 (fun w'=>w'.cell? ⟨B,1,none⟩=some (.int .i64 n))
     (((refine nH.out _ ?_);(repeat with_reducible first | exact hqc | exact ah.refl _ | refine jq ?_ | refine jr ?_)))
     (first
      | ((refine qC _ rfl (.tmp 16) (.tmp 17) rfl (.slice (some ⟨W0.heap.size,0,none⟩) 0 0) [] rfl ?hown va L L.length vc rfl rfl ?hat ?hbd ?hne ?_);(case hown=>((refine gB ?_);(repeat (first | ((with_reducible refine dM _ _ _ _ ?hbe);(case hbe=>(simp;done))) | with_reducible refine ak (ah.alloc _ _) ?_ | with_reducible refine bT ?_ | ((with_reducible refine ay hf3 ?pJ ?_);(case pJ=>(simp [Value.ownBlock];done))) | ((with_reducible refine ay hf3 ?pJ ?_);(case pJ=>(simp [Value.ownBlock];omega))) | fail))));(case hat=>(repeat (first | with_reducible exact HAT.out | with_reducible refine dV.stay ?_ (ah.alloc _ _) | with_reducible refine dV.stay ?_ (ah.drew _) | fail)));(case hbd=>(simp;omega));(case hne=>simp);intro v3 w3 ho3 hf3 hg3 hn3;(refine fO (w0:=W0) ?hch hf3 ?hlo ?_);(case hch=>(repeat with_reducible first | exact hqc | exact ah.refl _ | refine jq ?_ | refine jr ?_));(case hlo=>(intro k hk;simp [Value.ownBlock] at hk;omega));intro hqc hw3)
      | ((refine qC _ rfl (.tmp 16) (.tmp 17) rfl (.slice (some ⟨W0.heap.size+1,0,none⟩) 0 0) [] rfl ?hown va L L.length vc rfl rfl ?hat ?hbd ?hne ?_);(case hown=>((refine gB ?_);(repeat (first | ((with_reducible refine dM _ _ _ _ ?hbe);(case hbe=>(simp;done))) | with_reducible refine ak (ah.alloc _ _) ?_ | with_reducible refine bT ?_ | ((with_reducible refine ay hf3 ?pJ ?_);(case pJ=>(simp [Value.ownBlock];done))) | ((with_reducible refine ay hf3 ?pJ ?_);(case pJ=>(simp [Value.ownBlock];omega))) | fail))));(case hat=>(repeat (first | with_reducible exact HAT.out | with_reducible refine dV.stay ?_ (ah.alloc _ _) | with_reducible refine dV.stay ?_ (ah.drew _) | fail)));(case hbd=>(simp;omega));(case hne=>simp);intro v3 w3 ho3 hf3 hg3 hn3;(refine fO (w0:=W0) ?hch hf3 ?hlo ?_);(case hch=>(repeat with_reducible first | exact hqc | exact ah.refl _ | refine jq ?_ | refine jr ?_));(case hlo=>(intro k hk;simp [Value.ownBlock] at hk;omega));intro hqc hw3)
      | ((refine qC _ rfl (.tmp 18) (.tmp 21) rfl v3 ([]++L) rfl ?hown (some ⟨W0.heap.size,0,none⟩) [n] 1 1 rfl rfl ?hat ?hbd hn3 ?_);(case hown=>(first | with_reducible exact ho3 | with_reducible exact ho3.alloc _ | fail));(case hat=>((refine ou ?_);(repeat (first | ((with_reducible refine dM _ _ _ _ ?hbe);(case hbe=>(simp;done))) | with_reducible refine ak (ah.alloc _ _) ?_ | with_reducible refine bT ?_ | ((with_reducible refine ay hf3 ?pJ ?_);(case pJ=>(simp [Value.ownBlock];done))) | ((with_reducible refine ay hf3 ?pJ ?_);(case pJ=>(simp [Value.ownBlock];omega))) | fail))));(case hbd=>(simp;omega));intro v4 w4 kX hf4 hg4 hn4;(refine fO (w0:=W0) ?hch hf4 ?hlo ?_);(case hch=>(repeat with_reducible first | exact hqc | exact ah.refl _ | refine jq ?_ | refine jr ?_));(case hlo=>(intro k hk;rcases hg3 k hk with h | h;(simp [Value.ownBlock] at h;omega);(simp at h;omega)));intro hqc hw4)
      | ((refine qC _ rfl (.tmp 18) (.tmp 21) rfl v3 ([]++L) rfl ?hown (some ⟨W0.heap.size+1,0,none⟩) [n] 1 1 rfl rfl ?hat ?hbd hn3 ?_);(case hown=>(first | with_reducible exact ho3 | with_reducible exact ho3.alloc _ | fail));(case hat=>((refine ou ?_);(repeat (first | ((with_reducible refine dM _ _ _ _ ?hbe);(case hbe=>(simp;done))) | with_reducible refine ak (ah.alloc _ _) ?_ | with_reducible refine bT ?_ | ((with_reducible refine ay hf3 ?pJ ?_);(case pJ=>(simp [Value.ownBlock];done))) | ((with_reducible refine ay hf3 ?pJ ?_);(case pJ=>(simp [Value.ownBlock];omega))) | fail))));(case hbd=>(simp;omega));intro v4 w4 kX hf4 hg4 hn4;(refine fO (w0:=W0) ?hch hf4 ?hlo ?_);(case hch=>(repeat with_reducible first | exact hqc | exact ah.refl _ | refine jq ?_ | refine jr ?_));(case hlo=>(intro k hk;rcases hg3 k hk with h | h;(simp [Value.ownBlock] at h;omega);(simp at h;omega)));intro hqc hw4)
      | ((refine qC _ rfl (.tmp 18) (.tmp 21) rfl v3 ([]++L) rfl ?hown (some ⟨w3.heap.size,0,none⟩) [n] 1 1 rfl rfl ?hat ?hbd hn3 ?_);(case hown=>(first | with_reducible exact ho3 | with_reducible exact ho3.alloc _ | fail));(case hat=>((refine ou ?_);(repeat (first | ((with_reducible refine dM _ _ _ _ ?hbe);(case hbe=>(simp;done))) | with_reducible refine ak (ah.alloc _ _) ?_ | with_reducible refine bT ?_ | ((with_reducible refine ay hf3 ?pJ ?_);(case pJ=>(simp [Value.ownBlock];done))) | ((with_reducible refine ay hf3 ?pJ ?_);(case pJ=>(simp [Value.ownBlock];omega))) | fail))));(case hbd=>(simp;omega));intro v4 w4 kX hf4 hg4 hn4;(refine fO (w0:=W0) ?hch hf4 ?hlo ?_);(case hch=>(repeat with_reducible first | exact hqc | exact ah.refl _ | refine jq ?_ | refine jr ?_));(case hlo=>(intro k hk;rcases hg3 k hk with h | h;(simp [Value.ownBlock] at h;omega);(simp at h;omega)));intro hqc hw4)
      | fail)
    all_goals
     go_wp2_with fail
     go_meet
     exact ⟨by have:=JM kX;simpa using this,hqc⟩
   case rest =>
    obtain ⟨hvn,Ob⟩:=hcut
    have HVN:=hid hvn
    have HQN:=hid (bI.out.trans Ob)
    clear a0 a1 a2 hvn Ob
    go_wp2_with fail
    go_loopw [1,5] (fun v t wr=>∃ (i:Nat) (l:List Int),t=.int .i64 i/\i<=len/\AL wr v l/\Fo.vars l (ps.drop i)=RES/\l.length+(ps.drop i).size<=200000/\ah W0 wr) (fun _ t _=>len - (intOf t).toNat)
    case atStart=>exact ⟨0,L++[n],rfl,Nat.zero_le _,HVN.out,by rw [Fo.drop_zero,aW.out,HST.out],by rw [Fo.drop_zero];simp;omega,HQN.out⟩
    case round =>
     obtain ⟨i,l,rfl,hi,hv,hr,hz,hq⟩:=hrel
     have HV:=hid hv
     have HR:=hid hr
     have HZ:=hid hz
     have HQ:=hid hq
     obtain ⟨b0,b1,b2⟩:=uZ.out wr hq
     clear hv hr hz hq
     by_cases hlt:i < len
     ·have hlt':(i:Int) < len:=by omega
      obtain ⟨b,off,k1,n1,qs,o1,len1,cap1,rfl,hd,hg,e0,e1,e2,hs1⟩:=(HS.out.stay (aK.out.trans HQ.out)).nth hlt
      have hzz:l.length+qs.size+1+(ps.drop (i+1)).size<=200000:=by have:=HZ.out;rw [hd] at this;simp only [Fo.size] at this;omega
      have HC:=hid (IH.out i k1 n1 qs hg wr o1 len1 cap1 u1 l hs1 HV.out (by omega))
      have HR2:Hid (Fo.vars (Fo.vars l (.cons k1 n1 qs .nil)) (ps.drop (i+1))=RES):=by
       show _=_
       rw [<-HR.out,hd];rfl
      have HZ2:Hid ((Fo.vars l (.cons k1 n1 qs .nil)).length+(ps.drop (i+1)).size<=200000):=by
       show _<=_
       have:=sK (.cons k1 n1 qs .nil) l
       simp only [Fo.size] at this
       omega
      unfold kL at HC
      generalize Fo.vars l (.cons k1 n1 qs .nil)=l2 at *
      clear hd hg hs1 hzz
      go_wp2_with fail
      refine HC.out.mono ?_;rintro e w2 ⟨v2,rfl,hv2,hq2⟩
      have Yn:=hid hv2
      have dO:=hid (HQ.out.trans hq2)
      clear hv2 hq2
      go_wp2_with fail
      go_roundw
      case rel=>exact ⟨i+1,l2,by go_num,by omega,Yn.out,HR2.out,HZ2.out,dO.out⟩
      case measure=>simp [intOf];omega
     ·have hlt':¬ (i:Int) < len:=by omega
      have hfin:l=RES:=by have:=HR.out;rw [Fo.drop_end ps i (by have:=HL.out;omega)] at this;exact this
      have bJ:=hid hfin
      clear hfin
      go_wp2_with fail
      go_ret
      exact ⟨_,rfl,bJ.out ▸ HV.out,aK.out.trans HQ.out⟩
  ·have HST:Hid (dw L k n ps=L):=by show _=_;unfold dw;rw [hk,hin];rfl
   rw [hin] at kR
   go_enter Tryz.func57,Tryz.ntmps57
   generalize hB:w.heap.size=B at *
   go_upto_region 1 with fail
   rw [<-hW0]
   clear hW0
   obtain ⟨a0,a1,a2⟩:=uZ.out W0 (ah.refl _)
   go_wp2_with fail
   refine (kR.out _ aK.out).mono ?_;rintro e W1' ⟨rfl,rfl⟩
   have hq1:=ah.refl W0
   have bI:=hid hq1
   clear a0 a1 a2 hq1
   go_wp2_with fail
   go_loopw [1,5] (fun v t wr=>∃ (i:Nat) (l:List Int),t=.int .i64 i/\i<=len/\AL wr v l/\Fo.vars l (ps.drop i)=RES/\l.length+(ps.drop i).size<=200000/\ah W0 wr) (fun _ t _=>len - (intOf t).toNat)
   case atStart=>exact ⟨0,L,rfl,Nat.zero_le _,⟨va,vc,rfl,Ym.out.stay (aK.out.trans bI.out)⟩,by rw [Fo.drop_zero,aW.out,HST.out],by rw [Fo.drop_zero];omega,bI.out⟩
   case round =>
    obtain ⟨i,l,rfl,hi,hv,hr,hz,hq⟩:=hrel
    have HV:=hid hv
    have HR:=hid hr
    have HZ:=hid hz
    have HQ:=hid hq
    obtain ⟨b0,b1,b2⟩:=uZ.out wr hq
    clear hv hr hz hq
    by_cases hlt:i < len
    ·have hlt':(i:Int) < len:=by omega
     obtain ⟨b,off,k1,n1,qs,o1,len1,cap1,rfl,hd,hg,e0,e1,e2,hs1⟩:=(HS.out.stay (aK.out.trans HQ.out)).nth hlt
     have hzz:l.length+qs.size+1+(ps.drop (i+1)).size<=200000:=by have:=HZ.out;rw [hd] at this;simp only [Fo.size] at this;omega
     have HC:=hid (IH.out i k1 n1 qs hg wr o1 len1 cap1 u1 l hs1 HV.out (by omega))
     have HR2:Hid (Fo.vars (Fo.vars l (.cons k1 n1 qs .nil)) (ps.drop (i+1))=RES):=by
      show _=_
      rw [<-HR.out,hd];rfl
     have HZ2:Hid ((Fo.vars l (.cons k1 n1 qs .nil)).length+(ps.drop (i+1)).size<=200000):=by
      show _<=_
      have:=sK (.cons k1 n1 qs .nil) l
      simp only [Fo.size] at this
      omega
     unfold kL at HC
     generalize Fo.vars l (.cons k1 n1 qs .nil)=l2 at *
     clear hd hg hs1 hzz
     go_wp2_with fail
     refine HC.out.mono ?_;rintro e w2 ⟨v2,rfl,hv2,hq2⟩
     have Yn:=hid hv2
     have dO:=hid (HQ.out.trans hq2)
     clear hv2 hq2
     go_wp2_with fail
     go_roundw
     case rel=>exact ⟨i+1,l2,by go_num,by omega,Yn.out,HR2.out,HZ2.out,dO.out⟩
     case measure=>simp [intOf];omega
    ·have hlt':¬ (i:Int) < len:=by omega
     have hfin:l=RES:=by have:=HR.out;rw [Fo.drop_end ps i (by have:=HL.out;omega)] at this;exact this
     have bJ:=hid hfin
     clear hfin
     go_wp2_with fail
     go_ret
     exact ⟨_,rfl,bJ.out ▸ HV.out,aK.out.trans HQ.out⟩
end
section
open Go.RowKit Go.Shelf
theorem FN (k:Int) (w:World):Calls Tryz.prog 54 #[.int .i64 k] w fun e w'=>e=.returned (.bool (fC k))/\ah w w':=by
 unfold fC
 cases h1:(k == 1)<;>cases h4:(k == 4)<;>cases h6:(k == 6)<;>cases h7:(k == 7)
 all_goals
  go_enter Tryz.func54,Tryz.ntmps54
  go_wp2_with fail
  go_ret
  exact ⟨by simp,ah.refl _⟩
structure yu (h:Nd) (W0:World) (o1:Option Addr) (l1 c1:Nat) (o2:Option Addr) (l2 c2:Nat) (nb:Nat):Prop where
 box:∀ W,ah W0 W->bF W nb 0 h o1 l1 c1 o2 l2 c2
 named:∀ W,Calls Tryz.prog 54 #[.int .i64 h.k] W fun e w'=>e=.returned (.bool (fC h.k))/\ah W w'
 name:∀ W,Calls Tryz.prog 55 #[.string h.nm] W fun e w'=>e=.returned (.bool (Lx.nameB h.nm.data.toList))/\ah W w'
 right:∀ W,ah W0 W->Calls Tryz.prog 56 #[.agg #[.int .i64 h.tk,.int .i64 h.tn,.slice o1 l1 c1]] W fun e w'=>e=.returned (.bool (iH h.tk h.tn h.tp))/\ah W w'
 vars:∀ W,ah W0 W->Calls Tryz.prog 57 #[.agg #[.int .i64 h.tk,.int .i64 h.tn,.slice o1 l1 c1],.slice none 0 0] W fun e w'=>∃ va vc,e=.returned (.slice va (Fo.vars [] (.cons h.tk h.tn h.tp .nil)).length vc)/\ah W w'
 same:∀ W,ah W0 W->Calls Tryz.prog 38 #[.agg #[.int .i64 h.tk,.int .i64 h.tn,.slice o1 l1 c1],.agg #[.int .i64 0,.int .i64 0,.slice none 0 0]] W fun e w'=>e=.returned (.bool (gJ h.tk h.tn h.tp 0 0 .nil))/\ah W w'
theorem VG (h : Nd) (w : World) (R : Nat -> Prop) (o1 : Option Addr) (l1 c1 : Nat) (o2 : Option Addr) (l2 c2 : Nat) (hs : aC R w o1 l1 h.tp) (hnm : h.nm.size <= 100000) (htz : h.tp.size <= 100000) :
    yu h (w.alloc (.cells (cells9 h o1 l1 c1 o2 l2 c2) 29)) o1 l1 c1 o2 l2 c2 w.heap.size:=by
 have hq0:=ah.alloc w (.cells (cells9 h o1 l1 c1 o2 l2 c2) 29)
 refine ⟨fun W hq=>FQ w h o1 l1 c1 o2 l2 c2 _ W hq,fun W=>FN h.k W,fun W=>Lx.He h.nm hnm W,fun W hq=>FT h.tk h.tn h.tp W o1 l1 c1 (hs.slc.stay (hq0.trans hq)),fun W hq=>?_,fun W hq=>Hf h.tk h.tn h.tp 0 0 .nil W o1 l1 c1 none 0 0 (hs.slc.stay (hq0.trans hq)) (qm.nil _ _)⟩
 refine (G9 h.tk h.tn h.tp W o1 l1 c1 (.slice none 0 0) [] (hs.slc.stay (hq0.trans hq)) ⟨none,0,rfl,?_⟩ (by simp;omega)).mono ?_
 ·intro i x h;simp at h
 ·rintro e w' ⟨vo,rfl,⟨va,vc,rfl,_⟩,hq⟩
  exact ⟨va,vc,rfl,hq⟩
end
section
open Go.RowKit Go.Shelf
theorem JO (nm : ByteArray) (n tk tn : Int) (tp : Fo) (fr en : Int) (w : World) (o1 : Option Addr) (l1 c1 : Nat) (o2 : Option Addr) (l2 c2 : Nat) (hw : sF n)
    (SC:yu ⟨1,nm,n,tk,tn,tp,fr,en⟩ (w.alloc (.cells (cells9 ⟨1,nm,n,tk,tn,tp,fr,en⟩ o1 l1 c1 o2 l2 c2) 29)) o1 l1 c1 o2 l2 c2 w.heap.size) :
    Calls Tryz.prog 34 #[bC ⟨1,nm,n,tk,tn,tp,fr,en⟩ o1 l1 c1 o2 l2 c2] w fun e w'=>e=.returned (.bool (aI ⟨1,nm,n,tk,tn,tp,fr,en⟩ l2))/\ah w w':=by
 have fV:=hid SC
 have HW:=hid hw
 have HN:Hid (∀ W,Calls Tryz.prog 54 #[.int .i64 1] W fun e w'=>e=.returned (.bool true)/\ah W w'):=SC.named
 obtain ⟨W0,hW0⟩:∃ W0,W0=w.alloc (.cells (cells9 ⟨1,nm,n,tk,tn,tp,fr,en⟩ o1 l1 c1 o2 l2 c2) 29):=⟨_,rfl⟩
 have aK:Hid (ah w W0):=by rw [hW0];exact ah.alloc _ _
 clear SC hw
 rw [<-hW0] at fV
 unfold bC
 go_enter Tryz.func34,Tryz.ntmps34
 go_upto_region 1 with fail
 change Code.wp _ _ _ _ (w.alloc (.cells (cells9 ⟨1,nm,n,tk,tn,tp,fr,en⟩ o1 l1 c1 o2 l2 c2) 29))
 rw [<-hW0]
 clear hW0
 generalize w.heap.size=B at *
 obtain ⟨x0,x1,x2,x3,x4,x5,x6,x7,x8⟩:=fV.out.box W0 (ah.refl _)
 dsimp only at x0 x1 x2 x3 x4 x5 x6 x7 x8
 go_quiet (fail)
 go_wp2_with fail
 refine (HN.out _).mono ?_;rintro e w1 ⟨rfl,hq1⟩
 have bI:Hid (ah W0 w1):=ah.trans (Fr.drewN _ _ _) hq1
 clear x0 x1 x2 x3 x4 x5 x6 x7 x8 hq1
 obtain ⟨x0,x1,x2,x3,x4,x5,x6,x7,x8⟩:=fV.out.box w1 bI.out
 dsimp only at x0 x1 x2 x3 x4 x5 x6 x7 x8
 cases hA:Lx.nameB nm.data.toList
 ·have yw:=hid fV.out.name
  rw [hA] at yw
  go_wp2_with fail
  refine (yw.out _).mono ?_;rintro e w2 ⟨rfl,hq2⟩
  go_wp2_with fail
  go_ret
  exact ⟨by simp [aI,fF,fC,hA],aK.out.trans (bI.out.trans hq2)⟩
 ·have yw:=hid fV.out.name
  rw [hA] at yw
  have FU:=hid hA
  clear hA
  go_wp2_with fail
  refine (yw.out _).mono ?_;rintro e w2 ⟨rfl,hq2⟩
  have dO:=hid (bI.out.trans hq2)
  clear x0 x1 x2 x3 x4 x5 x6 x7 x8 hq2
  go_wp2_with fail
  refine (HN.out _).mono ?_;rintro e w3 ⟨rfl,hq3⟩
  have dG:=hid (dO.out.trans hq3)
  clear hq3
  obtain ⟨x0,x1,x2,x3,x4,x5,x6,x7,x8⟩:=fV.out.box w3 dG.out
  dsimp only at x0 x1 x2 x3 x4 x5 x6 x7 x8
  have je:=hid fV.out.same
  cases hT:gJ tk tn tp 0 0 .nil
  ·rw [hT] at je
   go_wp2_with fail
   refine (je.out _ dG.out).mono ?_;rintro e w4 ⟨rfl,hq4⟩
   go_wp2_with fail
   go_ret
   exact ⟨by simp [aI,dW,hT],aK.out.trans (dG.out.trans hq4)⟩
  ·rw [hT] at je
   have FV:=hid hT
   clear hT
   go_wp2_with fail
   refine (je.out _ dG.out).mono ?_;rintro e w4 ⟨rfl,hq4⟩
   have gY:=hid (dG.out.trans hq4)
   clear x0 x1 x2 x3 x4 x5 x6 x7 x8 hq4
   obtain ⟨x0,x1,x2,x3,x4,x5,x6,x7,x8⟩:=fV.out.box w4 gY.out
   dsimp only at x0 x1 x2 x3 x4 x5 x6 x7 x8
   by_cases hn:n < 0
   ·go_wp2_with fail
    go_ret
    exact ⟨by simp [aI];omega,aK.out.trans gY.out⟩
   ·have hwn:n<=9223372036854775807:=by have:=HW.out;unfold sF at this;simp only [Lit.wf,IntKind.min,IntKind.max,IntKind.signed,IntKind.bits,Bool.and_eq_true,decide_eq_true_eq,if_true] at this;omega
    go_wp2_with fail
    all_goals
     go_ret
     refine ⟨?_,aK.out.trans gY.out⟩
     have h1:=FU.out
     have h2:=FV.out
     refine congrArg (fun b=>Ending.returned (Value.bool b)) ?_
     rw [Bool.eq_iff_iff]
     simp [aI,fF,dW,fC,oz,iI,mQ,h1,h2]
     omega
end
section
open Go.RowKit Go.Shelf
theorem JQ (nm : ByteArray) (n tk tn : Int) (tp : Fo) (fr en : Int) (w : World) (o1 : Option Addr) (l1 c1 : Nat) (o2 : Option Addr) (l2 c2 : Nat) (hw : sF n)
    (SC:yu ⟨2,nm,n,tk,tn,tp,fr,en⟩ (w.alloc (.cells (cells9 ⟨2,nm,n,tk,tn,tp,fr,en⟩ o1 l1 c1 o2 l2 c2) 29)) o1 l1 c1 o2 l2 c2 w.heap.size) :
    Calls Tryz.prog 34 #[bC ⟨2,nm,n,tk,tn,tp,fr,en⟩ o1 l1 c1 o2 l2 c2] w fun e w'=>e=.returned (.bool (aI ⟨2,nm,n,tk,tn,tp,fr,en⟩ l2))/\ah w w':=by
 have fV:=hid SC
 have HW:=hid hw
 have HN:Hid (∀ W,Calls Tryz.prog 54 #[.int .i64 2] W fun e w'=>e=.returned (.bool false)/\ah W w'):=SC.named
 obtain ⟨W0,hW0⟩:∃ W0,W0=w.alloc (.cells (cells9 ⟨2,nm,n,tk,tn,tp,fr,en⟩ o1 l1 c1 o2 l2 c2) 29):=⟨_,rfl⟩
 have aK:Hid (ah w W0):=by rw [hW0];exact ah.alloc _ _
 clear SC hw
 rw [<-hW0] at fV
 unfold bC
 go_enter Tryz.func34,Tryz.ntmps34
 go_upto_region 1 with fail
 change Code.wp _ _ _ _ (w.alloc (.cells (cells9 ⟨2,nm,n,tk,tn,tp,fr,en⟩ o1 l1 c1 o2 l2 c2) 29))
 rw [<-hW0]
 clear hW0
 generalize w.heap.size=B at *
 obtain ⟨x0,x1,x2,x3,x4,x5,x6,x7,x8⟩:=fV.out.box W0 (ah.refl _)
 dsimp only at x0 x1 x2 x3 x4 x5 x6 x7 x8
 go_quiet (fail)
 go_wp2_with fail
 refine (HN.out _).mono ?_;rintro e w1 ⟨rfl,hq1⟩
 have bI:Hid (ah W0 w1):=ah.trans (Fr.drewN _ _ _) hq1
 clear x0 x1 x2 x3 x4 x5 x6 x7 x8 hq1
 obtain ⟨x0,x1,x2,x3,x4,x5,x6,x7,x8⟩:=fV.out.box w1 bI.out
 dsimp only at x0 x1 x2 x3 x4 x5 x6 x7 x8
 go_wp2_with fail
 refine (HN.out _).mono ?_;rintro e w3 ⟨rfl,hq3⟩
 have dG:=hid (bI.out.trans hq3)
 clear x0 x1 x2 x3 x4 x5 x6 x7 x8 hq3
 obtain ⟨x0,x1,x2,x3,x4,x5,x6,x7,x8⟩:=fV.out.box w3 dG.out
 dsimp only at x0 x1 x2 x3 x4 x5 x6 x7 x8
 cases hA:nm.toList.isEmpty
 ·have e3:nm.toList.isEmpty=false:=hA
  go_wp2_with fail
  go_ret
  exact ⟨by simp [aI,fF,fC,hA],aK.out.trans dG.out⟩
 ·have e3:nm.toList.isEmpty=true:=hA
  have FU:=hid hA
  clear hA
  have je:=hid fV.out.same
  cases hT:gJ tk tn tp 0 0 .nil
  ·rw [hT] at je
   go_wp2_with fail
   refine (je.out _ dG.out).mono ?_;rintro e w4 ⟨rfl,hq4⟩
   go_wp2_with fail
   go_ret
   exact ⟨by simp [aI,dW,hT],aK.out.trans (dG.out.trans hq4)⟩
  ·rw [hT] at je
   have FV:=hid hT
   clear hT
   go_wp2_with fail
   refine (je.out _ dG.out).mono ?_;rintro e w4 ⟨rfl,hq4⟩
   have gY:=hid (dG.out.trans hq4)
   clear x0 x1 x2 x3 x4 x5 x6 x7 x8 hq4
   obtain ⟨x0,x1,x2,x3,x4,x5,x6,x7,x8⟩:=fV.out.box w4 gY.out
   dsimp only at x0 x1 x2 x3 x4 x5 x6 x7 x8
   by_cases hn:n < 0
   ·go_wp2_with fail
    go_ret
    exact ⟨by simp [aI];omega,aK.out.trans gY.out⟩
   ·by_cases ht:999999999 < n
    ·go_wp2_with fail
     go_ret
     exact ⟨by simp [aI,oz];omega,aK.out.trans gY.out⟩
    ·have hwn:n<=9223372036854775807:=by have:=HW.out;unfold sF at this;simp only [Lit.wf,IntKind.min,IntKind.max,IntKind.signed,IntKind.bits,Bool.and_eq_true,decide_eq_true_eq,if_true] at this;omega
     go_wp2_with fail
     all_goals
      go_ret
      refine ⟨?_,aK.out.trans gY.out⟩
      have h1:=FU.out
      have h2:=FV.out
      refine congrArg (fun b=>Ending.returned (Value.bool b)) ?_
      rw [Bool.eq_iff_iff]
      simp [aI,fF,dW,fC,oz,iI,mQ,h1,h2]
      omega
end
section
open Go.RowKit Go.Shelf
theorem JR (nm : ByteArray) (n tk tn : Int) (tp : Fo) (fr en : Int) (w : World) (o1 : Option Addr) (l1 c1 : Nat) (o2 : Option Addr) (l2 c2 : Nat) (hw : sF n)
    (SC:yu ⟨3,nm,n,tk,tn,tp,fr,en⟩ (w.alloc (.cells (cells9 ⟨3,nm,n,tk,tn,tp,fr,en⟩ o1 l1 c1 o2 l2 c2) 29)) o1 l1 c1 o2 l2 c2 w.heap.size) :
    Calls Tryz.prog 34 #[bC ⟨3,nm,n,tk,tn,tp,fr,en⟩ o1 l1 c1 o2 l2 c2] w fun e w'=>e=.returned (.bool (aI ⟨3,nm,n,tk,tn,tp,fr,en⟩ l2))/\ah w w':=by
 have fV:=hid SC
 have HW:=hid hw
 have HN:Hid (∀ W,Calls Tryz.prog 54 #[.int .i64 3] W fun e w'=>e=.returned (.bool false)/\ah W w'):=SC.named
 obtain ⟨W0,hW0⟩:∃ W0,W0=w.alloc (.cells (cells9 ⟨3,nm,n,tk,tn,tp,fr,en⟩ o1 l1 c1 o2 l2 c2) 29):=⟨_,rfl⟩
 have aK:Hid (ah w W0):=by rw [hW0];exact ah.alloc _ _
 clear SC hw
 rw [<-hW0] at fV
 unfold bC
 go_enter Tryz.func34,Tryz.ntmps34
 go_upto_region 1 with fail
 change Code.wp _ _ _ _ (w.alloc (.cells (cells9 ⟨3,nm,n,tk,tn,tp,fr,en⟩ o1 l1 c1 o2 l2 c2) 29))
 rw [<-hW0]
 clear hW0
 generalize w.heap.size=B at *
 obtain ⟨x0,x1,x2,x3,x4,x5,x6,x7,x8⟩:=fV.out.box W0 (ah.refl _)
 dsimp only at x0 x1 x2 x3 x4 x5 x6 x7 x8
 go_quiet (fail)
 go_wp2_with fail
 refine (HN.out _).mono ?_;rintro e w1 ⟨rfl,hq1⟩
 have bI:Hid (ah W0 w1):=ah.trans (Fr.drewN _ _ _) hq1
 clear x0 x1 x2 x3 x4 x5 x6 x7 x8 hq1
 obtain ⟨x0,x1,x2,x3,x4,x5,x6,x7,x8⟩:=fV.out.box w1 bI.out
 dsimp only at x0 x1 x2 x3 x4 x5 x6 x7 x8
 go_wp2_with fail
 refine (HN.out _).mono ?_;rintro e w3 ⟨rfl,hq3⟩
 have dG:=hid (bI.out.trans hq3)
 clear x0 x1 x2 x3 x4 x5 x6 x7 x8 hq3
 obtain ⟨x0,x1,x2,x3,x4,x5,x6,x7,x8⟩:=fV.out.box w3 dG.out
 dsimp only at x0 x1 x2 x3 x4 x5 x6 x7 x8
 cases hA:nm.toList.isEmpty
 ·have e3:nm.toList.isEmpty=false:=hA
  go_wp2_with fail
  go_ret
  exact ⟨by simp [aI,fF,fC,hA],aK.out.trans dG.out⟩
 ·have e3:nm.toList.isEmpty=true:=hA
  have FU:=hid hA
  clear hA
  have je:=hid fV.out.same
  cases hT:gJ tk tn tp 0 0 .nil
  ·rw [hT] at je
   go_wp2_with fail
   refine (je.out _ dG.out).mono ?_;rintro e w4 ⟨rfl,hq4⟩
   go_wp2_with fail
   go_ret
   exact ⟨by simp [aI,dW,hT],aK.out.trans (dG.out.trans hq4)⟩
  ·rw [hT] at je
   have FV:=hid hT
   clear hT
   go_wp2_with fail
   refine (je.out _ dG.out).mono ?_;rintro e w4 ⟨rfl,hq4⟩
   have gY:=hid (dG.out.trans hq4)
   clear x0 x1 x2 x3 x4 x5 x6 x7 x8 hq4
   obtain ⟨x0,x1,x2,x3,x4,x5,x6,x7,x8⟩:=fV.out.box w4 gY.out
   dsimp only at x0 x1 x2 x3 x4 x5 x6 x7 x8
   by_cases hn:n < 0
   ·go_wp2_with fail
    go_ret
    exact ⟨by simp [aI];omega,aK.out.trans gY.out⟩
   ·by_cases ht:1 < n
    ·go_wp2_with fail
     go_ret
     exact ⟨by simp [aI,oz];omega,aK.out.trans gY.out⟩
    ·have hwn:n<=9223372036854775807:=by have:=HW.out;unfold sF at this;simp only [Lit.wf,IntKind.min,IntKind.max,IntKind.signed,IntKind.bits,Bool.and_eq_true,decide_eq_true_eq,if_true] at this;omega
     go_wp2_with fail
     all_goals
      go_ret
      refine ⟨?_,aK.out.trans gY.out⟩
      have h1:=FU.out
      have h2:=FV.out
      refine congrArg (fun b=>Ending.returned (Value.bool b)) ?_
      rw [Bool.eq_iff_iff]
      simp [aI,fF,dW,fC,oz,iI,mQ,h1,h2]
      omega
end
section
open Go.RowKit Go.Shelf
theorem JU (nm : ByteArray) (n tk tn : Int) (tp : Fo) (fr en : Int) (w : World) (o1 : Option Addr) (l1 c1 : Nat) (o2 : Option Addr) (l2 c2 : Nat) (hw : sF n)
    (SC:yu ⟨4,nm,n,tk,tn,tp,fr,en⟩ (w.alloc (.cells (cells9 ⟨4,nm,n,tk,tn,tp,fr,en⟩ o1 l1 c1 o2 l2 c2) 29)) o1 l1 c1 o2 l2 c2 w.heap.size) :
    Calls Tryz.prog 34 #[bC ⟨4,nm,n,tk,tn,tp,fr,en⟩ o1 l1 c1 o2 l2 c2] w fun e w'=>e=.returned (.bool (aI ⟨4,nm,n,tk,tn,tp,fr,en⟩ l2))/\ah w w':=by
 have fV:=hid SC
 have HW:=hid hw
 have HN:Hid (∀ W,Calls Tryz.prog 54 #[.int .i64 4] W fun e w'=>e=.returned (.bool true)/\ah W w'):=SC.named
 obtain ⟨W0,hW0⟩:∃ W0,W0=w.alloc (.cells (cells9 ⟨4,nm,n,tk,tn,tp,fr,en⟩ o1 l1 c1 o2 l2 c2) 29):=⟨_,rfl⟩
 have aK:Hid (ah w W0):=by rw [hW0];exact ah.alloc _ _
 clear SC hw
 rw [<-hW0] at fV
 unfold bC
 go_enter Tryz.func34,Tryz.ntmps34
 go_upto_region 1 with fail
 change Code.wp _ _ _ _ (w.alloc (.cells (cells9 ⟨4,nm,n,tk,tn,tp,fr,en⟩ o1 l1 c1 o2 l2 c2) 29))
 rw [<-hW0]
 clear hW0
 generalize w.heap.size=B at *
 obtain ⟨x0,x1,x2,x3,x4,x5,x6,x7,x8⟩:=fV.out.box W0 (ah.refl _)
 dsimp only at x0 x1 x2 x3 x4 x5 x6 x7 x8
 go_quiet (fail)
 go_wp2_with fail
 refine (HN.out _).mono ?_;rintro e w1 ⟨rfl,hq1⟩
 have bI:Hid (ah W0 w1):=ah.trans (Fr.drewN _ _ _) hq1
 clear x0 x1 x2 x3 x4 x5 x6 x7 x8 hq1
 obtain ⟨x0,x1,x2,x3,x4,x5,x6,x7,x8⟩:=fV.out.box w1 bI.out
 dsimp only at x0 x1 x2 x3 x4 x5 x6 x7 x8
 cases hA:Lx.nameB nm.data.toList
 ·have yw:=hid fV.out.name
  rw [hA] at yw
  go_wp2_with fail
  refine (yw.out _).mono ?_;rintro e w2 ⟨rfl,hq2⟩
  go_wp2_with fail
  go_ret
  exact ⟨by simp [aI,fF,fC,hA],aK.out.trans (bI.out.trans hq2)⟩
 ·have yw:=hid fV.out.name
  rw [hA] at yw
  have FU:=hid hA
  clear hA
  go_wp2_with fail
  refine (yw.out _).mono ?_;rintro e w2 ⟨rfl,hq2⟩
  have dO:=hid (bI.out.trans hq2)
  clear x0 x1 x2 x3 x4 x5 x6 x7 x8 hq2
  go_wp2_with fail
  refine (HN.out _).mono ?_;rintro e w3 ⟨rfl,hq3⟩
  have dG:=hid (dO.out.trans hq3)
  clear hq3
  obtain ⟨x0,x1,x2,x3,x4,x5,x6,x7,x8⟩:=fV.out.box w3 dG.out
  dsimp only at x0 x1 x2 x3 x4 x5 x6 x7 x8
  have je:=hid fV.out.same
  cases hT:gJ tk tn tp 0 0 .nil
  ·rw [hT] at je
   go_wp2_with fail
   refine (je.out _ dG.out).mono ?_;rintro e w4 ⟨rfl,hq4⟩
   go_wp2_with fail
   go_ret
   exact ⟨by simp [aI,dW,hT],aK.out.trans (dG.out.trans hq4)⟩
  ·rw [hT] at je
   have FV:=hid hT
   clear hT
   go_wp2_with fail
   refine (je.out _ dG.out).mono ?_;rintro e w4 ⟨rfl,hq4⟩
   have gY:=hid (dG.out.trans hq4)
   clear x0 x1 x2 x3 x4 x5 x6 x7 x8 hq4
   obtain ⟨x0,x1,x2,x3,x4,x5,x6,x7,x8⟩:=fV.out.box w4 gY.out
   dsimp only at x0 x1 x2 x3 x4 x5 x6 x7 x8
   by_cases hn:n < 0
   ·go_wp2_with fail
    go_ret
    exact ⟨by simp [aI];omega,aK.out.trans gY.out⟩
   ·by_cases ht:0 < n
    ·go_wp2_with fail
     go_ret
     exact ⟨by simp [aI,oz];omega,aK.out.trans gY.out⟩
    ·have hwn:n<=9223372036854775807:=by have:=HW.out;unfold sF at this;simp only [Lit.wf,IntKind.min,IntKind.max,IntKind.signed,IntKind.bits,Bool.and_eq_true,decide_eq_true_eq,if_true] at this;omega
     go_wp2_with fail
     all_goals
      go_ret
      refine ⟨?_,aK.out.trans gY.out⟩
      have h1:=FU.out
      have h2:=FV.out
      refine congrArg (fun b=>Ending.returned (Value.bool b)) ?_
      rw [Bool.eq_iff_iff]
      simp [aI,fF,dW,fC,oz,iI,mQ,h1,h2]
      omega
end
section
open Go.RowKit Go.Shelf
theorem JV (nm : ByteArray) (n tk tn : Int) (tp : Fo) (fr en : Int) (w : World) (o1 : Option Addr) (l1 c1 : Nat) (o2 : Option Addr) (l2 c2 : Nat) (hw : sF n)
    (SC:yu ⟨5,nm,n,tk,tn,tp,fr,en⟩ (w.alloc (.cells (cells9 ⟨5,nm,n,tk,tn,tp,fr,en⟩ o1 l1 c1 o2 l2 c2) 29)) o1 l1 c1 o2 l2 c2 w.heap.size) :
    Calls Tryz.prog 34 #[bC ⟨5,nm,n,tk,tn,tp,fr,en⟩ o1 l1 c1 o2 l2 c2] w fun e w'=>e=.returned (.bool (aI ⟨5,nm,n,tk,tn,tp,fr,en⟩ l2))/\ah w w':=by
 have fV:=hid SC
 have HW:=hid hw
 have HN:Hid (∀ W,Calls Tryz.prog 54 #[.int .i64 5] W fun e w'=>e=.returned (.bool false)/\ah W w'):=SC.named
 obtain ⟨W0,hW0⟩:∃ W0,W0=w.alloc (.cells (cells9 ⟨5,nm,n,tk,tn,tp,fr,en⟩ o1 l1 c1 o2 l2 c2) 29):=⟨_,rfl⟩
 have aK:Hid (ah w W0):=by rw [hW0];exact ah.alloc _ _
 clear SC hw
 rw [<-hW0] at fV
 unfold bC
 go_enter Tryz.func34,Tryz.ntmps34
 go_upto_region 1 with fail
 change Code.wp _ _ _ _ (w.alloc (.cells (cells9 ⟨5,nm,n,tk,tn,tp,fr,en⟩ o1 l1 c1 o2 l2 c2) 29))
 rw [<-hW0]
 clear hW0
 generalize w.heap.size=B at *
 obtain ⟨x0,x1,x2,x3,x4,x5,x6,x7,x8⟩:=fV.out.box W0 (ah.refl _)
 dsimp only at x0 x1 x2 x3 x4 x5 x6 x7 x8
 go_quiet (fail)
 go_wp2_with fail
 refine (HN.out _).mono ?_;rintro e w1 ⟨rfl,hq1⟩
 have bI:Hid (ah W0 w1):=ah.trans (Fr.drewN _ _ _) hq1
 clear x0 x1 x2 x3 x4 x5 x6 x7 x8 hq1
 obtain ⟨x0,x1,x2,x3,x4,x5,x6,x7,x8⟩:=fV.out.box w1 bI.out
 dsimp only at x0 x1 x2 x3 x4 x5 x6 x7 x8
 go_wp2_with fail
 refine (HN.out _).mono ?_;rintro e w3 ⟨rfl,hq3⟩
 have dG:=hid (bI.out.trans hq3)
 clear x0 x1 x2 x3 x4 x5 x6 x7 x8 hq3
 obtain ⟨x0,x1,x2,x3,x4,x5,x6,x7,x8⟩:=fV.out.box w3 dG.out
 dsimp only at x0 x1 x2 x3 x4 x5 x6 x7 x8
 cases hA:nm.toList.isEmpty
 ·have e3:nm.toList.isEmpty=false:=hA
  go_wp2_with fail
  go_ret
  exact ⟨by simp [aI,fF,fC,hA],aK.out.trans dG.out⟩
 ·have e3:nm.toList.isEmpty=true:=hA
  have FU:=hid hA
  clear hA
  have je:=hid fV.out.same
  cases hT:gJ tk tn tp 0 0 .nil
  ·rw [hT] at je
   go_wp2_with fail
   refine (je.out _ dG.out).mono ?_;rintro e w4 ⟨rfl,hq4⟩
   go_wp2_with fail
   go_ret
   exact ⟨by simp [aI,dW,hT],aK.out.trans (dG.out.trans hq4)⟩
  ·rw [hT] at je
   have FV:=hid hT
   clear hT
   go_wp2_with fail
   refine (je.out _ dG.out).mono ?_;rintro e w4 ⟨rfl,hq4⟩
   have gY:=hid (dG.out.trans hq4)
   clear x0 x1 x2 x3 x4 x5 x6 x7 x8 hq4
   obtain ⟨x0,x1,x2,x3,x4,x5,x6,x7,x8⟩:=fV.out.box w4 gY.out
   dsimp only at x0 x1 x2 x3 x4 x5 x6 x7 x8
   by_cases hn:n < 0
   ·go_wp2_with fail
    go_ret
    exact ⟨by simp [aI];omega,aK.out.trans gY.out⟩
   ·by_cases ht:0 < n
    ·go_wp2_with fail
     go_ret
     exact ⟨by simp [aI,oz];omega,aK.out.trans gY.out⟩
    ·have hwn:n<=9223372036854775807:=by have:=HW.out;unfold sF at this;simp only [Lit.wf,IntKind.min,IntKind.max,IntKind.signed,IntKind.bits,Bool.and_eq_true,decide_eq_true_eq,if_true] at this;omega
     go_wp2_with fail
     all_goals
      go_ret
      refine ⟨?_,aK.out.trans gY.out⟩
      have h1:=FU.out
      have h2:=FV.out
      refine congrArg (fun b=>Ending.returned (Value.bool b)) ?_
      rw [Bool.eq_iff_iff]
      simp [aI,fF,dW,fC,oz,iI,mQ,h1,h2]
      omega
end
section
open Go.RowKit Go.Shelf
theorem JW (nm : ByteArray) (n tk tn : Int) (tp : Fo) (fr en : Int) (w : World) (o1 : Option Addr) (l1 c1 : Nat) (o2 : Option Addr) (l2 c2 : Nat) (hw : sF n)
    (SC:yu ⟨6,nm,n,tk,tn,tp,fr,en⟩ (w.alloc (.cells (cells9 ⟨6,nm,n,tk,tn,tp,fr,en⟩ o1 l1 c1 o2 l2 c2) 29)) o1 l1 c1 o2 l2 c2 w.heap.size) :
    Calls Tryz.prog 34 #[bC ⟨6,nm,n,tk,tn,tp,fr,en⟩ o1 l1 c1 o2 l2 c2] w fun e w'=>e=.returned (.bool (aI ⟨6,nm,n,tk,tn,tp,fr,en⟩ l2))/\ah w w':=by
 have fV:=hid SC
 have HW:=hid hw
 have HN:Hid (∀ W,Calls Tryz.prog 54 #[.int .i64 6] W fun e w'=>e=.returned (.bool true)/\ah W w'):=SC.named
 obtain ⟨W0,hW0⟩:∃ W0,W0=w.alloc (.cells (cells9 ⟨6,nm,n,tk,tn,tp,fr,en⟩ o1 l1 c1 o2 l2 c2) 29):=⟨_,rfl⟩
 have aK:Hid (ah w W0):=by rw [hW0];exact ah.alloc _ _
 clear SC hw
 rw [<-hW0] at fV
 unfold bC
 go_enter Tryz.func34,Tryz.ntmps34
 go_upto_region 1 with fail
 change Code.wp _ _ _ _ (w.alloc (.cells (cells9 ⟨6,nm,n,tk,tn,tp,fr,en⟩ o1 l1 c1 o2 l2 c2) 29))
 rw [<-hW0]
 clear hW0
 generalize w.heap.size=B at *
 obtain ⟨x0,x1,x2,x3,x4,x5,x6,x7,x8⟩:=fV.out.box W0 (ah.refl _)
 dsimp only at x0 x1 x2 x3 x4 x5 x6 x7 x8
 go_quiet (fail)
 go_wp2_with fail
 refine (HN.out _).mono ?_;rintro e w1 ⟨rfl,hq1⟩
 have bI:Hid (ah W0 w1):=ah.trans (Fr.drewN _ _ _) hq1
 clear x0 x1 x2 x3 x4 x5 x6 x7 x8 hq1
 obtain ⟨x0,x1,x2,x3,x4,x5,x6,x7,x8⟩:=fV.out.box w1 bI.out
 dsimp only at x0 x1 x2 x3 x4 x5 x6 x7 x8
 cases hA:Lx.nameB nm.data.toList
 ·have yw:=hid fV.out.name
  rw [hA] at yw
  go_wp2_with fail
  refine (yw.out _).mono ?_;rintro e w2 ⟨rfl,hq2⟩
  go_wp2_with fail
  go_ret
  exact ⟨by simp [aI,fF,fC,hA],aK.out.trans (bI.out.trans hq2)⟩
 ·have yw:=hid fV.out.name
  rw [hA] at yw
  have FU:=hid hA
  clear hA
  go_wp2_with fail
  refine (yw.out _).mono ?_;rintro e w2 ⟨rfl,hq2⟩
  have dO:=hid (bI.out.trans hq2)
  clear x0 x1 x2 x3 x4 x5 x6 x7 x8 hq2
  go_wp2_with fail
  refine (HN.out _).mono ?_;rintro e w3 ⟨rfl,hq3⟩
  have dG:=hid (dO.out.trans hq3)
  clear hq3
  obtain ⟨x0,x1,x2,x3,x4,x5,x6,x7,x8⟩:=fV.out.box w3 dG.out
  dsimp only at x0 x1 x2 x3 x4 x5 x6 x7 x8
  have je:=hid fV.out.same
  cases hT:gJ tk tn tp 0 0 .nil
  ·rw [hT] at je
   go_wp2_with fail
   refine (je.out _ dG.out).mono ?_;rintro e w4 ⟨rfl,hq4⟩
   go_wp2_with fail
   go_ret
   exact ⟨by simp [aI,dW,hT],aK.out.trans (dG.out.trans hq4)⟩
  ·rw [hT] at je
   have FV:=hid hT
   clear hT
   go_wp2_with fail
   refine (je.out _ dG.out).mono ?_;rintro e w4 ⟨rfl,hq4⟩
   have gY:=hid (dG.out.trans hq4)
   clear x0 x1 x2 x3 x4 x5 x6 x7 x8 hq4
   obtain ⟨x0,x1,x2,x3,x4,x5,x6,x7,x8⟩:=fV.out.box w4 gY.out
   dsimp only at x0 x1 x2 x3 x4 x5 x6 x7 x8
   by_cases hn:n < 0
   ·go_wp2_with fail
    go_ret
    exact ⟨by simp [aI];omega,aK.out.trans gY.out⟩
   ·by_cases ht:0 < n
    ·go_wp2_with fail
     go_ret
     exact ⟨by simp [aI,oz];omega,aK.out.trans gY.out⟩
    ·have hwn:n<=9223372036854775807:=by have:=HW.out;unfold sF at this;simp only [Lit.wf,IntKind.min,IntKind.max,IntKind.signed,IntKind.bits,Bool.and_eq_true,decide_eq_true_eq,if_true] at this;omega
     go_wp2_with fail
     all_goals
      go_ret
      refine ⟨?_,aK.out.trans gY.out⟩
      have h1:=FU.out
      have h2:=FV.out
      refine congrArg (fun b=>Ending.returned (Value.bool b)) ?_
      rw [Bool.eq_iff_iff]
      simp [aI,fF,dW,fC,oz,iI,mQ,h1,h2]
      omega
end
section
open Go.RowKit Go.Shelf
theorem JX (nm : ByteArray) (n tk tn : Int) (tp : Fo) (fr en : Int) (w : World) (o1 : Option Addr) (l1 c1 : Nat) (o2 : Option Addr) (l2 c2 : Nat) (hw : sF n)
    (SC:yu ⟨7,nm,n,tk,tn,tp,fr,en⟩ (w.alloc (.cells (cells9 ⟨7,nm,n,tk,tn,tp,fr,en⟩ o1 l1 c1 o2 l2 c2) 29)) o1 l1 c1 o2 l2 c2 w.heap.size) :
    Calls Tryz.prog 34 #[bC ⟨7,nm,n,tk,tn,tp,fr,en⟩ o1 l1 c1 o2 l2 c2] w fun e w'=>e=.returned (.bool (aI ⟨7,nm,n,tk,tn,tp,fr,en⟩ l2))/\ah w w':=by
 have fV:=hid SC
 have HW:=hid hw
 have HN:Hid (∀ W,Calls Tryz.prog 54 #[.int .i64 7] W fun e w'=>e=.returned (.bool true)/\ah W w'):=SC.named
 obtain ⟨W0,hW0⟩:∃ W0,W0=w.alloc (.cells (cells9 ⟨7,nm,n,tk,tn,tp,fr,en⟩ o1 l1 c1 o2 l2 c2) 29):=⟨_,rfl⟩
 have aK:Hid (ah w W0):=by rw [hW0];exact ah.alloc _ _
 clear SC hw
 rw [<-hW0] at fV
 unfold bC
 go_enter Tryz.func34,Tryz.ntmps34
 go_upto_region 1 with fail
 change Code.wp _ _ _ _ (w.alloc (.cells (cells9 ⟨7,nm,n,tk,tn,tp,fr,en⟩ o1 l1 c1 o2 l2 c2) 29))
 rw [<-hW0]
 clear hW0
 generalize w.heap.size=B at *
 obtain ⟨x0,x1,x2,x3,x4,x5,x6,x7,x8⟩:=fV.out.box W0 (ah.refl _)
 dsimp only at x0 x1 x2 x3 x4 x5 x6 x7 x8
 go_quiet (fail)
 go_wp2_with fail
 refine (HN.out _).mono ?_;rintro e w1 ⟨rfl,hq1⟩
 have bI:Hid (ah W0 w1):=ah.trans (Fr.drewN _ _ _) hq1
 clear x0 x1 x2 x3 x4 x5 x6 x7 x8 hq1
 obtain ⟨x0,x1,x2,x3,x4,x5,x6,x7,x8⟩:=fV.out.box w1 bI.out
 dsimp only at x0 x1 x2 x3 x4 x5 x6 x7 x8
 cases hA:Lx.nameB nm.data.toList
 ·have yw:=hid fV.out.name
  rw [hA] at yw
  go_wp2_with fail
  refine (yw.out _).mono ?_;rintro e w2 ⟨rfl,hq2⟩
  go_wp2_with fail
  go_ret
  exact ⟨by simp [aI,fF,fC,hA],aK.out.trans (bI.out.trans hq2)⟩
 ·have yw:=hid fV.out.name
  rw [hA] at yw
  have FU:=hid hA
  clear hA
  go_wp2_with fail
  refine (yw.out _).mono ?_;rintro e w2 ⟨rfl,hq2⟩
  have dO:=hid (bI.out.trans hq2)
  clear x0 x1 x2 x3 x4 x5 x6 x7 x8 hq2
  go_wp2_with fail
  refine (HN.out _).mono ?_;rintro e w3 ⟨rfl,hq3⟩
  have dG:=hid (dO.out.trans hq3)
  clear hq3
  obtain ⟨x0,x1,x2,x3,x4,x5,x6,x7,x8⟩:=fV.out.box w3 dG.out
  dsimp only at x0 x1 x2 x3 x4 x5 x6 x7 x8
  have je:=hid fV.out.same
  cases hT:gJ tk tn tp 0 0 .nil
  ·rw [hT] at je
   go_wp2_with fail
   refine (je.out _ dG.out).mono ?_;rintro e w4 ⟨rfl,hq4⟩
   go_wp2_with fail
   go_ret
   exact ⟨by simp [aI,dW,hT],aK.out.trans (dG.out.trans hq4)⟩
  ·rw [hT] at je
   have FV:=hid hT
   clear hT
   go_wp2_with fail
   refine (je.out _ dG.out).mono ?_;rintro e w4 ⟨rfl,hq4⟩
   have gY:=hid (dG.out.trans hq4)
   clear x0 x1 x2 x3 x4 x5 x6 x7 x8 hq4
   obtain ⟨x0,x1,x2,x3,x4,x5,x6,x7,x8⟩:=fV.out.box w4 gY.out
   dsimp only at x0 x1 x2 x3 x4 x5 x6 x7 x8
   by_cases hn:n < 0
   ·go_wp2_with fail
    go_ret
    exact ⟨by simp [aI];omega,aK.out.trans gY.out⟩
   ·by_cases ht:0 < n
    ·go_wp2_with fail
     go_ret
     exact ⟨by simp [aI,oz];omega,aK.out.trans gY.out⟩
    ·have hwn:n<=9223372036854775807:=by have:=HW.out;unfold sF at this;simp only [Lit.wf,IntKind.min,IntKind.max,IntKind.signed,IntKind.bits,Bool.and_eq_true,decide_eq_true_eq,if_true] at this;omega
     go_wp2_with fail
     all_goals
      go_ret
      refine ⟨?_,aK.out.trans gY.out⟩
      have h1:=FU.out
      have h2:=FV.out
      refine congrArg (fun b=>Ending.returned (Value.bool b)) ?_
      rw [Bool.eq_iff_iff]
      simp [aI,fF,dW,fC,oz,iI,mQ,h1,h2]
      omega
end
section
open Go.RowKit Go.Shelf
theorem JY (nm : ByteArray) (n tk tn : Int) (tp : Fo) (fr en : Int) (w : World) (o1 : Option Addr) (l1 c1 : Nat) (o2 : Option Addr) (l2 c2 : Nat) (hw : sF n)
    (SC:yu ⟨8,nm,n,tk,tn,tp,fr,en⟩ (w.alloc (.cells (cells9 ⟨8,nm,n,tk,tn,tp,fr,en⟩ o1 l1 c1 o2 l2 c2) 29)) o1 l1 c1 o2 l2 c2 w.heap.size) :
    Calls Tryz.prog 34 #[bC ⟨8,nm,n,tk,tn,tp,fr,en⟩ o1 l1 c1 o2 l2 c2] w fun e w'=>e=.returned (.bool (aI ⟨8,nm,n,tk,tn,tp,fr,en⟩ l2))/\ah w w':=by
 have fV:=hid SC
 have HW:=hid hw
 have HN:Hid (∀ W,Calls Tryz.prog 54 #[.int .i64 8] W fun e w'=>e=.returned (.bool false)/\ah W w'):=SC.named
 obtain ⟨W0,hW0⟩:∃ W0,W0=w.alloc (.cells (cells9 ⟨8,nm,n,tk,tn,tp,fr,en⟩ o1 l1 c1 o2 l2 c2) 29):=⟨_,rfl⟩
 have aK:Hid (ah w W0):=by rw [hW0];exact ah.alloc _ _
 clear SC hw
 rw [<-hW0] at fV
 unfold bC
 go_enter Tryz.func34,Tryz.ntmps34
 go_upto_region 1 with fail
 change Code.wp _ _ _ _ (w.alloc (.cells (cells9 ⟨8,nm,n,tk,tn,tp,fr,en⟩ o1 l1 c1 o2 l2 c2) 29))
 rw [<-hW0]
 clear hW0
 generalize w.heap.size=B at *
 obtain ⟨x0,x1,x2,x3,x4,x5,x6,x7,x8⟩:=fV.out.box W0 (ah.refl _)
 dsimp only at x0 x1 x2 x3 x4 x5 x6 x7 x8
 go_quiet (fail)
 go_wp2_with fail
 refine (HN.out _).mono ?_;rintro e w1 ⟨rfl,hq1⟩
 have bI:Hid (ah W0 w1):=ah.trans (Fr.drewN _ _ _) hq1
 clear x0 x1 x2 x3 x4 x5 x6 x7 x8 hq1
 obtain ⟨x0,x1,x2,x3,x4,x5,x6,x7,x8⟩:=fV.out.box w1 bI.out
 dsimp only at x0 x1 x2 x3 x4 x5 x6 x7 x8
 go_wp2_with fail
 refine (HN.out _).mono ?_;rintro e w3 ⟨rfl,hq3⟩
 have dG:=hid (bI.out.trans hq3)
 clear x0 x1 x2 x3 x4 x5 x6 x7 x8 hq3
 obtain ⟨x0,x1,x2,x3,x4,x5,x6,x7,x8⟩:=fV.out.box w3 dG.out
 dsimp only at x0 x1 x2 x3 x4 x5 x6 x7 x8
 cases hA:nm.toList.isEmpty
 ·have e3:nm.toList.isEmpty=false:=hA
  go_wp2_with fail
  go_ret
  exact ⟨by simp [aI,fF,fC,hA],aK.out.trans dG.out⟩
 ·have e3:nm.toList.isEmpty=true:=hA
  have FU:=hid hA
  clear hA
  have je:=hid fV.out.same
  cases hT:gJ tk tn tp 0 0 .nil
  ·rw [hT] at je
   go_wp2_with fail
   refine (je.out _ dG.out).mono ?_;rintro e w4 ⟨rfl,hq4⟩
   go_wp2_with fail
   go_ret
   exact ⟨by simp [aI,dW,hT],aK.out.trans (dG.out.trans hq4)⟩
  ·rw [hT] at je
   have FV:=hid hT
   clear hT
   go_wp2_with fail
   refine (je.out _ dG.out).mono ?_;rintro e w4 ⟨rfl,hq4⟩
   have gY:=hid (dG.out.trans hq4)
   clear x0 x1 x2 x3 x4 x5 x6 x7 x8 hq4
   obtain ⟨x0,x1,x2,x3,x4,x5,x6,x7,x8⟩:=fV.out.box w4 gY.out
   dsimp only at x0 x1 x2 x3 x4 x5 x6 x7 x8
   by_cases hn:n < 0
   ·go_wp2_with fail
    go_ret
    exact ⟨by simp [aI];omega,aK.out.trans gY.out⟩
   ·by_cases ht:0 < n
    ·go_wp2_with fail
     go_ret
     exact ⟨by simp [aI,oz];omega,aK.out.trans gY.out⟩
    ·have hwn:n<=9223372036854775807:=by have:=HW.out;unfold sF at this;simp only [Lit.wf,IntKind.min,IntKind.max,IntKind.signed,IntKind.bits,Bool.and_eq_true,decide_eq_true_eq,if_true] at this;omega
     go_wp2_with fail
     all_goals
      go_ret
      refine ⟨?_,aK.out.trans gY.out⟩
      have h1:=FU.out
      have h2:=FV.out
      refine congrArg (fun b=>Ending.returned (Value.bool b)) ?_
      rw [Bool.eq_iff_iff]
      simp [aI,fF,dW,fC,oz,iI,mQ,h1,h2]
      omega
end
section
open Go.RowKit Go.Shelf
theorem JZ (nm : ByteArray) (n tk tn : Int) (tp : Fo) (fr en : Int) (w : World) (o1 : Option Addr) (l1 c1 : Nat) (o2 : Option Addr) (l2 c2 : Nat) (hw : sF n)
    (SC:yu ⟨9,nm,n,tk,tn,tp,fr,en⟩ (w.alloc (.cells (cells9 ⟨9,nm,n,tk,tn,tp,fr,en⟩ o1 l1 c1 o2 l2 c2) 29)) o1 l1 c1 o2 l2 c2 w.heap.size) :
    Calls Tryz.prog 34 #[bC ⟨9,nm,n,tk,tn,tp,fr,en⟩ o1 l1 c1 o2 l2 c2] w fun e w'=>e=.returned (.bool (aI ⟨9,nm,n,tk,tn,tp,fr,en⟩ l2))/\ah w w':=by
 have fV:=hid SC
 have HW:=hid hw
 have HN:Hid (∀ W,Calls Tryz.prog 54 #[.int .i64 9] W fun e w'=>e=.returned (.bool false)/\ah W w'):=SC.named
 obtain ⟨W0,hW0⟩:∃ W0,W0=w.alloc (.cells (cells9 ⟨9,nm,n,tk,tn,tp,fr,en⟩ o1 l1 c1 o2 l2 c2) 29):=⟨_,rfl⟩
 have aK:Hid (ah w W0):=by rw [hW0];exact ah.alloc _ _
 clear SC hw
 rw [<-hW0] at fV
 unfold bC
 go_enter Tryz.func34,Tryz.ntmps34
 go_upto_region 1 with fail
 change Code.wp _ _ _ _ (w.alloc (.cells (cells9 ⟨9,nm,n,tk,tn,tp,fr,en⟩ o1 l1 c1 o2 l2 c2) 29))
 rw [<-hW0]
 clear hW0
 generalize w.heap.size=B at *
 obtain ⟨x0,x1,x2,x3,x4,x5,x6,x7,x8⟩:=fV.out.box W0 (ah.refl _)
 dsimp only at x0 x1 x2 x3 x4 x5 x6 x7 x8
 go_quiet (fail)
 go_wp2_with fail
 refine (HN.out _).mono ?_;rintro e w1 ⟨rfl,hq1⟩
 have bI:Hid (ah W0 w1):=ah.trans (Fr.drewN _ _ _) hq1
 clear x0 x1 x2 x3 x4 x5 x6 x7 x8 hq1
 obtain ⟨x0,x1,x2,x3,x4,x5,x6,x7,x8⟩:=fV.out.box w1 bI.out
 dsimp only at x0 x1 x2 x3 x4 x5 x6 x7 x8
 go_wp2_with fail
 refine (HN.out _).mono ?_;rintro e w3 ⟨rfl,hq3⟩
 have dG:=hid (bI.out.trans hq3)
 clear x0 x1 x2 x3 x4 x5 x6 x7 x8 hq3
 obtain ⟨x0,x1,x2,x3,x4,x5,x6,x7,x8⟩:=fV.out.box w3 dG.out
 dsimp only at x0 x1 x2 x3 x4 x5 x6 x7 x8
 cases hA:nm.toList.isEmpty
 ·have e3:nm.toList.isEmpty=false:=hA
  go_wp2_with fail
  go_ret
  exact ⟨by simp [aI,fF,fC,hA],aK.out.trans dG.out⟩
 ·have e3:nm.toList.isEmpty=true:=hA
  have FU:=hid hA
  clear hA
  have je:=hid fV.out.same
  cases hT:gJ tk tn tp 0 0 .nil
  ·rw [hT] at je
   go_wp2_with fail
   refine (je.out _ dG.out).mono ?_;rintro e w4 ⟨rfl,hq4⟩
   go_wp2_with fail
   go_ret
   exact ⟨by simp [aI,dW,hT],aK.out.trans (dG.out.trans hq4)⟩
  ·rw [hT] at je
   have FV:=hid hT
   clear hT
   go_wp2_with fail
   refine (je.out _ dG.out).mono ?_;rintro e w4 ⟨rfl,hq4⟩
   have gY:=hid (dG.out.trans hq4)
   clear x0 x1 x2 x3 x4 x5 x6 x7 x8 hq4
   obtain ⟨x0,x1,x2,x3,x4,x5,x6,x7,x8⟩:=fV.out.box w4 gY.out
   dsimp only at x0 x1 x2 x3 x4 x5 x6 x7 x8
   by_cases hn:n < 0
   ·go_wp2_with fail
    go_ret
    exact ⟨by simp [aI];omega,aK.out.trans gY.out⟩
   ·by_cases ht:0 < n
    ·go_wp2_with fail
     go_ret
     exact ⟨by simp [aI,oz];omega,aK.out.trans gY.out⟩
    ·have hwn:n<=9223372036854775807:=by have:=HW.out;unfold sF at this;simp only [Lit.wf,IntKind.min,IntKind.max,IntKind.signed,IntKind.bits,Bool.and_eq_true,decide_eq_true_eq,if_true] at this;omega
     go_wp2_with fail
     all_goals
      go_ret
      refine ⟨?_,aK.out.trans gY.out⟩
      have h1:=FU.out
      have h2:=FV.out
      refine congrArg (fun b=>Ending.returned (Value.bool b)) ?_
      rw [Bool.eq_iff_iff]
      simp [aI,fF,dW,fC,oz,iI,mQ,h1,h2]
      omega
end
end Go.Proofs.YtcninopmelmajaaGreatDoor
