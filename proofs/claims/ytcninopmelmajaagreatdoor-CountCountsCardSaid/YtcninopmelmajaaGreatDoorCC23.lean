/-
  Texts laid together (RqVal, RqAdd, RqArr, RqTm, RqEnv, RqLook): laws and walks, with their conditions.
-/
import Derived.Test.YtcninopmelmajaaGreatDoorCC22
set_option maxHeartbeats 8000000
set_option maxRecDepth 1000000
namespace Go.Proofs.YtcninopmelmajaaGreatDoor
open Go.Lib (hid)
section
open Go.RowKit
namespace Em
abbrev r5 (lo:Option Addr) (ln lc:Nat) (next:Int) (most:Nat) (oo:Option Addr) (on oc:Nat) (inn:Int):Array Value:=#[.slice lo ln lc,.int .i64 next,.int .i64 most,.slice oo on oc,.int .i64 inn]
abbrev gZ (lo:Option Addr) (ln lc:Nat) (next:Int) (most:Nat) (oo:Option Addr) (on oc:Nat) (inn:Int):Value:=.agg (r5 lo ln lc next most oo on oc inn)
def OwnAt (R:Nat->Prop) (w:World) (oo:Option Addr) (on:Nat):Prop:=on=0∨∃ b off,oo=some ⟨b,off,none⟩/\R b/\∃ vl:List Int,vl.length=on/\∀ j x,vl[j]?=some x->w.cell? ⟨b,off+j,none⟩=some (.int .i64 x)
theorem OwnAt.fr {R T S:Nat->Prop} {w w':World} {oo:Option Addr} {on:Nat} (h:OwnAt R w oo on) (hf:Fr S w w') (hR:∀ k,k < w.heap.size->R k->T k/\¬ S k):OwnAt T w' oo on:=by
 rcases h with h | ⟨b,off,e,hb,vl,h1,h2⟩
 ·exact .inl h
 ·cases vl with
  | nil=>exact .inl h1.symm
  | cons v r =>
   have hlt:=World.block_lt_of_cell? w _ (h2 0 v rfl)
   exact .inr ⟨b,off,e,(hR b hlt hb).1,_,h1,fun j x hj=>(hf.bG hlt (hR b hlt hb).2).trans (h2 j x hj)⟩
def Vt (R:Nat->Prop) (w:World) (o:Option Addr) (l:List qK):Prop:=l.length<=4096/\(∀ t∈l,t.1.2.2.size<=100000/\t.2.1.2.2.size<=100000)/\(l=[]∨∃ b off,o=some ⟨b,off,none⟩/\R b/\QC R w b off l)
theorem QC.fr {R T S:Nat->Prop} {w w':World} {b off:Nat} {l:List qK} (h:QC R w b off l) (hf:Fr S w w') (hR:∀ k,k < w.heap.size->R k->T k/\¬ S k) (hb:R b):QC T w' b off l:=by
 intro i t hi
 obtain ⟨o1,l1,c1,o2,l2,c2,s1,s2,a0,a1,a2,a3,a4,a5,a6,a7⟩:=h i t hi
 have hlt:=World.block_lt_of_cell? w _ a0
 have hs:=(hR b hlt hb).2
 exact ⟨o1,l1,c1,o2,l2,c2,s1.fr hf hR,s2.fr hf hR,(hf.bG hlt hs).trans a0,(hf.bG hlt hs).trans a1,(hf.bG hlt hs).trans a2,(hf.bG hlt hs).trans a3,(hf.bG hlt hs).trans a4,(hf.bG hlt hs).trans a5,(hf.bG hlt hs).trans a6,(hf.bG hlt hs).trans a7⟩
theorem Vt.fr {R T S:Nat->Prop} {w w':World} {o:Option Addr} {l:List qK} (h:Vt R w o l) (hf:Fr S w w') (hR:∀ k,k < w.heap.size->R k->T k/\¬ S k):Vt T w' o l:=by
 refine ⟨h.1,h.2.1,?_⟩
 rcases h.2.2 with e | ⟨b,off,h1,h2,h3⟩
 ·exact .inl e
 ·cases l with
  | nil=>exact .inl rfl
  | cons t r =>
   obtain ⟨_,_,_,_,_,_,_,_,a0,_⟩:=h3 0 t rfl
   exact .inr ⟨b,off,h1,(hR b (World.block_lt_of_cell? w _ a0) h2).1,h3.fr hf hR h2⟩
structure fJ (R:Nat->Prop) (w:World) (most:Nat) (d:Dk) (lo:Option Addr) (ln lc:Nat) (oo:Option Addr) (on oc:Nat):Prop where
 len:ln=d.L.length
 cap:ln<=lc
 eqs:Vt R w lo d.L
 few:d.L.length<=most+1
 own:OwnAt R w oo on
 onl:on<=d.next
 onc:on<=oc
theorem fJ.fr {R T S:Nat->Prop} {w w':World} {most:Nat} {d:Dk} {lo:Option Addr} {ln lc:Nat} {oo:Option Addr} {on oc:Nat} (h:fJ R w most d lo ln lc oo on oc) (hf:Fr S w w') (hR:∀ k,k < w.heap.size->R k->T k/\¬ S k):fJ T w' most d lo ln lc oo on oc :=
 ⟨h.len,h.cap,h.eqs.fr hf hR,h.few,h.own.fr hf hR,h.onl,h.onc⟩
theorem fJ.stay {R:Nat->Prop} {w w':World} {most:Nat} {d:Dk} {lo:Option Addr} {ln lc:Nat} {oo:Option Addr} {on oc:Nat} (h:fJ R w most d lo ln lc oo on oc) (hq:ah w w'):fJ R w' most d lo ln lc oo on oc:=h.fr hq (fun _ _ hk=>⟨hk,fun h=>h⟩)
theorem fJ.mono {R T:Nat->Prop} {w:World} {most:Nat} {d:Dk} {lo:Option Addr} {ln lc:Nat} {oo:Option Addr} {on oc:Nat} (h:fJ R w most d lo ln lc oo on oc) (hk:∀ k,k < w.heap.size->R k->T k):fJ T w most d lo ln lc oo on oc:=h.fr (Fr.refl (fun _=>False) w) (fun k hl hr=>⟨hk k hl hr,fun h=>h⟩)
def sH (R:Nat->Prop) (w:World) (most:Nat) (d:Dk) (x:Ending) (w':World):Prop:=∃ lo ln lc oo on oc inn,x=.returned (gZ lo ln lc d.next most oo on oc inn)/\fJ (fun k=>R k∨w.heap.size<=k) w' most d lo ln lc oo on oc/\ah w w'
theorem five {W : World} {b : Nat} {v0 v1 v2 v3 v4 : Value} {t : TypeId} (h : W.heap[b]? = some (.cells #[v0, v1, v2, v3, v4] t (0, 0))) : (W.cell? ⟨b, 0, none⟩ = some v0 /\ W.cell? ⟨b, 1, none⟩ = some v1 /\ W.cell? ⟨b, 2, none⟩ = some v2 /\ W.cell? ⟨b, 3, none⟩ = some v3 /\ W.cell? ⟨b, 4, none⟩ = some v4) /\
    W.frozen? ⟨b,0,none⟩=false/\W.frozen? ⟨b,1,none⟩=false/\W.frozen? ⟨b,2,none⟩=false/\W.frozen? ⟨b,3,none⟩=false/\W.frozen? ⟨b,4,none⟩=false:=by
 refine ⟨⟨?_,?_,?_,?_,?_⟩,?_,?_,?_,?_,?_⟩
 all_goals first | (rw [cell_of_row _ _ _ _ _ (0,0) h];rfl) | simp [World.frozen?,h]
def iK (w:World) (B:Nat) (a b c d e:Value):World:=((((w.setCell ⟨B,0,none⟩ a).setCell ⟨B,1,none⟩ b).setCell ⟨B,2,none⟩ c).setCell ⟨B,3,none⟩ d).setCell ⟨B,4,none⟩ e
theorem eP (w:World) (B:Nat) (a b c d e:Value):Fr (fun k=>k=B) w (iK w B a b c d e) :=
 ((((Fr.setCell (fun k=>k=B) w ⟨B,0,none⟩ a rfl).trans (Fr.setCell (fun k=>k=B) _ ⟨B,1,none⟩ b rfl)).trans (Fr.setCell (fun k=>k=B) _ ⟨B,2,none⟩ c rfl)).trans (Fr.setCell (fun k=>k=B) _ ⟨B,3,none⟩ d rfl)).trans (Fr.setCell (fun k=>k=B) _ ⟨B,4,none⟩ e rfl)
theorem bQ {w:World} {B:Nat} {a b c d e a' b' c' d' e':Value} {t:TypeId} (h:w.heap[B]?=some (.cells #[a',b',c',d',e'] t (0,0))):(iK w B a b c d e).heap[B]?=some (.cells #[a,b,c,d,e] t (0,0)) :=
 aB (i:=4) (u:=e) (aB (i:=3) (u:=d) (aB (i:=2) (u:=c) (aB (i:=1) (u:=b) (aB (i:=0) (u:=a) h))))
theorem gB {w:World} {b size:Nat} {e:TypeId} (h:w.heap[b]?=some (.cells #[] e (0,0))):w.ownsRow 0 e size (.slice (some ⟨b,0,none⟩) 0 0) 0 [] :=
 ⟨by simp,.inr ⟨b,0,#[],rfl,Nat.zero_le _,h,Nat.le_refl _,Nat.zero_le _,by simp,by simp⟩⟩
theorem Vt.row {R:Nat->Prop} {w:World} {o:Option Addr} {l:List qK} (h:Vt R w o l):∃ xs,nC R w xs l/\xs.length=l.length * 8/\(∀ u∈xs,u.oneCell'=true)/\∀ j u,xs[j]?=some u->∃ b off,o=some ⟨b,off,none⟩/\w.cell? ⟨b,off+j,none⟩=some u:=by
 have key:∀ (l:List qK) (b off:Nat),QC R w b off l->∃ xs,nC R w xs l/\(∀ u∈xs,u.oneCell'=true)/\∀ j u,xs[j]?=some u->w.cell? ⟨b,off+j,none⟩=some u:=by
  intro l
  induction l with
  | nil=>intro b off _;exact ⟨[],rfl,fun u hu=>(by cases hu),fun j u hj=>by simp at hj⟩
  | cons t r ih =>
   intro b off hq
   obtain ⟨o1,l1,c1,o2,l2,c2,s1,s2,a0,a1,a2,a3,a4,a5,a6,a7⟩:=hq 0 t rfl
   obtain ⟨ys,hy1,hy2,hy3⟩:=ih b (off+8) (fun i u hi=>by
    obtain ⟨p1,m1,d1,p2,m2,d2,q1,q2,b0,b1,b2,b3,b4,b5,b6,b7⟩:=hq (i+1) u (by simpa using hi)
    have e:∀ j,off+(i+1) * 8+j=off+8+i * 8+j:=fun j=>by omega
    have e0:off+(i+1) * 8=off+8+i * 8:=by omega
    rw [e0] at b0
    rw [e] at b1 b2 b3 b4 b5 b6 b7
    exact ⟨p1,m1,d1,p2,m2,d2,q1,q2,b0,b1,b2,b3,b4,b5,b6,b7⟩)
   refine ⟨(ec t o1 l1 c1 o2 l2 c2).toList++ys,⟨o1,l1,c1,o2,l2,c2,ys,rfl,s1,s2,hy1⟩,fun u hu=>?_,fun j u hj=>?_⟩
   ·rcases List.mem_append.1 hu with hu | hu
    ·simp at hu
     rcases hu with rfl | rfl | rfl | rfl | rfl | rfl | rfl | rfl<;>rfl
    ·exact hy2 u hu
   ·simp only [Nat.zero_mul,Nat.add_zero] at a0 a1 a2 a3 a4 a5 a6 a7
    by_cases h8:j < 8
    ·rw [List.getElem?_append_left (by simpa using h8)] at hj
     match j,h8,hj with
     | 0,_,hj=>simp at hj;subst hj;exact a0
     | 1,_,hj=>simp at hj;subst hj;exact a1
     | 2,_,hj=>simp at hj;subst hj;exact a2
     | 3,_,hj=>simp at hj;subst hj;exact a3
     | 4,_,hj=>simp at hj;subst hj;exact a4
     | 5,_,hj=>simp at hj;subst hj;exact a5
     | 6,_,hj=>simp at hj;subst hj;exact a6
     | 7,_,hj=>simp at hj;subst hj;exact a7
    ·have k:=hy3 (j - 8) u (by rw [List.getElem?_append_right (by simp;omega)] at hj;simpa using hj)
     rw [<-k];congr 2;omega
 rcases h.2.2 with e | ⟨b,off,rfl,_,hq⟩
 ·subst e;exact ⟨[],rfl,rfl,fun u hu=>(by cases hu),fun j u hj=>by simp at hj⟩
 ·obtain ⟨xs,h1,h2,h3⟩:=key l b off hq
  exact ⟨xs,h1,nC.length _ _ h1,h2,fun j u hj=>⟨_,_,rfl,h3 j u hj⟩⟩
theorem PO {R : Nat -> Prop} {w : World} {l : List qK} {t : qK} {xs : List Value} {g n c : Nat} {o1 : Option Addr} {l1 c1 : Nat} {o2 : Option Addr} {l2 c2 : Nat} (hg : R g) (hx : nC R w xs l) (s1 : aC R w o1 l1 t.1.2.2) (s2 : aC R w o2 l2 t.2.1.2.2)
    (ho:w.ownsRow 0 74 8 (.slice (some ⟨g,0,none⟩) n c) n (xs++(ec t o1 l1 c1 o2 l2 c2).toList)) (hz:l.length+1<=4096) (hs:∀ u∈l,u.1.2.2.size<=100000/\u.2.1.2.2.size<=100000) (ht:t.1.2.2.size<=100000/\t.2.1.2.2.size<=100000):Vt R w (some ⟨g,0,none⟩) (l++[t]):=by
 refine ⟨by simp;omega,fun u hu=>?_,.inr ⟨g,0,rfl,hg,QC.Y7 (nC.snoc (c1:=c1) (c2:=c2) s1 s2 l xs hx) (fun j u hj=>?_)⟩⟩
 ·rcases List.mem_append.1 hu with hu | hu
  ·exact hs u hu
  ·rw [List.mem_singleton.1 hu];exact ht
 ·have:=ho.cells (g:=g) rfl j u hj
  simpa [Addr.add_lit] using this
end Em
end
section
open Go.RowKit
namespace Em
theorem gy (n:Int) (w:World):Calls Tryz.prog 59 #[.int .i64 n] w fun e w'=>e=.returned (.agg #[.int .i64 1,.int .i64 n,.slice none 0 0])/\ah w w':=by
 have hb:=heap_alloc_new w (.cells #[.int .i64 0,.int .i64 0,.slice none 0 0] 24)
 have HB:=hid hb
 have HQ:=hid (ah.alloc w (.cells #[.int .i64 0,.int .i64 0,.slice none 0 0] 24))
 clear hb
 go_enter Tryz.func59,Tryz.ntmps59
 obtain ⟨W0,hW0⟩:∃ W0,W0=w.alloc (.cells #[.int .i64 0,.int .i64 0,.slice none 0 0] 24):=⟨_,rfl⟩
 generalize eX:w.heap.size=B at *
 go_upto_region 1 with fail
 rw [<-hW0] at HB HQ ⊢
 clear hW0
 obtain ⟨d0,d1,d2,y0,y1,y2⟩:=aF HB.out
 go_wp2_with fail
 clear d0 d1 d2 y0 y1 y2
 have hf:=gQ W0 B (.int .i64 1) (.int .i64 n) (.slice none 0 0)
 obtain ⟨f0,f1,f2⟩:=iw (a:=.int .i64 1) (b:=.int .i64 n) (c:=.slice none 0 0) HB.out
 change bodyPost _ _ _ _ _ (eF W0 B (.int .i64 1) (.int .i64 n) (.slice none 0 0))
 generalize eF W0 B (.int .i64 1) (.int .i64 n) (.slice none 0 0)=wf at *
 refine bodyPost_ret (by simp [results,Tryz.results59,go_sem,f0,f1,f2];rfl) rfl ?_
 exact ⟨rfl,Fr.trans' HQ.out hf (fun i hi h=>by have h':i=B:=h;omega)⟩
theorem uH {w:World} {base size:Nat} {e:TypeId} {o:Option Addr} {n c m:Nat} {xs:List Value} (h:w.ownsRow base e size (.slice o n c) m xs):m<=c/\(0 < m->∃ g,o=some ⟨g,0,none⟩):=by
 rcases h.2 with ⟨h1,h2⟩ | ⟨g,cap,cur,h1,_,_,h4,_⟩
 ·injection h1 with e1 e2 e3
  exact ⟨by omega,fun h=>by omega⟩
 ·injection h1 with e1 e2 e3
  exact ⟨by omega,fun _=>⟨g,e1⟩⟩
theorem WS {R T S : Nat -> Prop} {w0 w : World} {most : Nat} {d : Dk} {lo : Option Addr} {ln lc : Nat} {oo : Option Addr} {on oc : Nat} (hk : fJ R w0 most d lo ln lc oo on oc) (hf : Fr S w0 w) (hR : ∀ k, k < w0.heap.size -> R k -> T k /\ ¬ S k) {xs : List Value} (hrow : nC R w0 xs d.L) {l r : Ty} {fr en : Int} {o1 : Option Addr} {l1 c1 : Nat} {o2 : Option Addr} {l2 c2 : Nat} (s1 : aC R w0 o1 l1 l.2.2) (s2 : aC R w0 o2 l2 r.2.2) {o4 : Option Addr} {c4 : Nat}
    (ho:w.ownsRow 0 74 8 (.slice o4 (ln+1) c4) (ln+1) (xs++(ec (l,r,fr,en) o1 l1 c1 o2 l2 c2).toList)) (hT:∀ k,(Value.slice o4 (ln+1) c4).ownBlock=some k->T k) (z1:l.2.2.size<=100000) (z2:r.2.2.size<=100000) (hl:ln=d.L.length) (hle:ln<=most) (hm:most<=4000):Vt T w o4 (d.L++[(l,r,fr,en)]):=by
 obtain ⟨g,rfl⟩:=(uH ho).2 (by omega)
 exact PO (t:=(l,r,fr,en)) (hT g rfl) (nC.fr hf hR _ _ hrow) (s1.fr hf hR) (s2.fr hf hR) ho (by omega) hk.eqs.2.1 ⟨z1,z2⟩
def aaS (R:Nat->Prop) (w:World) (B:Nat) (fin:Dk) (most:Nat) (z5:Array Value) (nx:Int) (oo:Option Addr) (on oc:Nat) (inn:Int) (wx:World):Prop :=
 ∃ lo ln lc,(∀ wf,Fr (fun i=>i=B+1+1+1+1) wx wf->fJ (fun k=>R k∨B<=k) wf most fin lo ln lc oo on oc/\ah w wf)/\wx.heap[B]?=some (.cells #[.slice lo ln lc,.int .i64 nx,.int .i64 most,.slice oo on oc,.int .i64 inn] 70 (0,0))/\wx.heap[B+1+1+1+1]?=some (.cells z5 70 (0,0))
theorem CY {R : Nat -> Prop} {w W0 w4 : World} {B : Nat} {d fin : Dk} {most : Nat} {lo : Option Addr} {ln lc : Nat} {oo : Option Addr} {on oc : Nat} {inn : Int} {z5 : Array Value} {o4 : Option Addr} {c4 : Nat} {l r : Ty} {fr en : Int} {o1 : Option Addr} {l1 c1 : Nat} {o2 : Option Addr} {l2 c2 : Nat} {xs : List Value} (hq0 : ah w W0) (hb0 : W0.heap[B]? = some (.cells #[.slice lo ln lc, .int .i64 d.next, .int .i64 most, .slice oo on oc, .int .i64 inn] 70 (0, 0))) (hb4 : W0.heap[B + 1 + 1 + 1 + 1]? = some (.cells z5 70 (0, 0))) (hk : fJ R w most d lo ln lc oo on oc)
    (hrow:nC R w xs d.L) (s1:aC R w o1 l1 l.2.2) (s2:aC R w o2 l2 r.2.2) (hf:fin={ d with L:=d.L++[(l,r,fr,en)] }) (hq:ah W0 w4) (ho:w4.ownsRow 0 74 8 (.slice o4 (ln+1) c4) (ln+1) (xs++(ec (l,r,fr,en) o1 l1 c1 o2 l2 c2).toList)) (hob:∀ k,(Value.slice o4 (ln+1) c4).ownBlock=some k->W0.heap.size<=k) (z1:l.2.2.size<=100000) (z2:r.2.2.size<=100000) (hl:ln=d.L.length) (hle:ln<=most) (hm:most<=4000) (hz:B+1+1+1+1 < W0.heap.size) (hB:w.heap.size=B) :
    aaS R w B fin most z5 d.next oo on oc inn (w4.setCell ⟨B,0,none⟩ (.slice o4 (ln+1) c4)):=by
 have hs:=Fr.setCell (fun i=>i=B) w4 ⟨B,0,none⟩ (.slice o4 (ln+1) c4) rfl
 refine ⟨o4,ln+1,c4,fun wf hwf=>?_,aB (i:=0) (ak hq hb0),ay hs (by intro h;have h':B+1+1+1+1=B:=h;omega) (ak hq hb4)⟩
 have jQ:ah w wf:=Fr.trans' (Fr.trans' (hq0.trans hq) hs (fun i hi e=>by have e':i=B:=e;omega)) hwf (fun i hi e=>by have e':i=B+1+1+1+1:=e;omega)
 have hok:wf.ownsRow 0 74 8 (.slice o4 (ln+1) c4) (ln+1) (xs++(ec (l,r,fr,en) o1 l1 c1 o2 l2 c2).toList) :=
  aZ (aZ ho hs (fun k hk e=>by have e':k=B:=e;have:=hob k hk;omega)) hwf (fun k hk e=>by have e':k=B+1+1+1+1:=e;have:=hob k hk;omega)
 have hRT:∀ k,k < w.heap.size->R k->(R k∨B<=k)/\¬ False:=fun k _ h=>⟨.inl h,fun h=>h⟩
 have hex:=WS (T:=fun k=>R k∨B<=k) hk jQ hRT hrow s1 s2 hok (fun k hk=>.inr (by have:=hob k hk;omega)) z1 z2 hl hle hm
 have hko:=hk.fr jQ hRT
 refine ⟨?_,jQ⟩
 subst hf
 exact ⟨by simp [hl],(uH ho).1,hex,by simp;omega,hko.own,hko.onl,hko.onc⟩
theorem add_any {R : Nat -> Prop} {w : World} {most : Nat} {d : Dk} {lo : Option Addr} {ln lc : Nat} {oo : Option Addr} {on oc : Nat} (inn : Int) (hk : fJ R w most d lo ln lc oo on oc) (hm : most <= 4000) (l r : Ty) (fr en : Int) {o1 : Option Addr} {l1 c1 : Nat} {o2 : Option Addr} {l2 c2 : Nat} (s1 : aC R w o1 l1 l.2.2) (s2 : aC R w o2 l2 r.2.2) (z1 : l.2.2.size <= 100000) (z2 : r.2.2.size <= 100000) :
    Calls Tryz.prog 58 #[gZ lo ln lc d.next most oo on oc inn,kL l.1 l.2.1 o1 l1 c1,kL r.1 r.2.1 o2 l2 c2,.agg #[.int .i64 fr,.int .i64 en]] w (sH R w most (dK most l r fr en d).2):=by
 obtain ⟨W0,hW0⟩:∃ W0,W0=(((((w.alloc (.cells #[.slice lo ln lc,.int .i64 d.next,.int .i64 most,.slice oo on oc,.int .i64 inn] 70)).alloc (.cells #[.int .i64 l.1,.int .i64 l.2.1,.slice o1 l1 c1] 24)).alloc (.cells #[.int .i64 r.1,.int .i64 r.2.1,.slice o2 l2 c2] 24)).alloc (.cells #[.int .i64 fr,.int .i64 en] 27)).alloc (.cells #[.slice none 0 0,.int .i64 0,.int .i64 0,.slice none 0 0,.int .i64 0] 70)):=⟨_,rfl⟩
 have uS:ah w W0:=by rw [hW0];exact ((((ah.alloc _ _).trans (ah.alloc _ _)).trans (ah.alloc _ _)).trans (ah.alloc _ _)).trans (ah.alloc _ _)
 have xH:(w.alloc (.cells #[.slice lo ln lc,.int .i64 d.next,.int .i64 most,.slice oo on oc,.int .i64 inn] 70)).heap.size=w.heap.size+1:=by simp
 have xI:((w.alloc (.cells #[.slice lo ln lc,.int .i64 d.next,.int .i64 most,.slice oo on oc,.int .i64 inn] 70)).alloc (.cells #[.int .i64 l.1,.int .i64 l.2.1,.slice o1 l1 c1] 24)).heap.size=w.heap.size+1+1:=by simp
 have aaT:(((w.alloc (.cells #[.slice lo ln lc,.int .i64 d.next,.int .i64 most,.slice oo on oc,.int .i64 inn] 70)).alloc (.cells #[.int .i64 l.1,.int .i64 l.2.1,.slice o1 l1 c1] 24)).alloc (.cells #[.int .i64 r.1,.int .i64 r.2.1,.slice o2 l2 c2] 24)).heap.size=w.heap.size+1+1+1:=by simp
 have aaU:((((w.alloc (.cells #[.slice lo ln lc,.int .i64 d.next,.int .i64 most,.slice oo on oc,.int .i64 inn] 70)).alloc (.cells #[.int .i64 l.1,.int .i64 l.2.1,.slice o1 l1 c1] 24)).alloc (.cells #[.int .i64 r.1,.int .i64 r.2.1,.slice o2 l2 c2] 24)).alloc (.cells #[.int .i64 fr,.int .i64 en] 27)).heap.size=w.heap.size+1+1+1+1:=by simp
 have xJ:W0.heap[w.heap.size]?=some (.cells #[.slice lo ln lc,.int .i64 d.next,.int .i64 most,.slice oo on oc,.int .i64 inn] 70 (0,0)):=by
  rw [hW0]
  have k:=heap_alloc_new w (.cells #[.slice lo ln lc,.int .i64 d.next,.int .i64 most,.slice oo on oc,.int .i64 inn] 70)
  exact ak ((((ah.alloc _ _).trans (ah.alloc _ _)).trans (ah.alloc _ _)).trans (ah.alloc _ _)) k
 have xK:W0.heap[w.heap.size+1]?=some (.cells #[.int .i64 l.1,.int .i64 l.2.1,.slice o1 l1 c1] 24 (0,0)):=by
  rw [hW0]
  have k:=heap_alloc_new (w.alloc (.cells #[.slice lo ln lc,.int .i64 d.next,.int .i64 most,.slice oo on oc,.int .i64 inn] 70)) (.cells #[.int .i64 l.1,.int .i64 l.2.1,.slice o1 l1 c1] 24)
  rw [xH] at k
  exact ak (((ah.alloc _ _).trans (ah.alloc _ _)).trans (ah.alloc _ _)) k
 have uf:W0.heap[w.heap.size+1+1]?=some (.cells #[.int .i64 r.1,.int .i64 r.2.1,.slice o2 l2 c2] 24 (0,0)):=by
  rw [hW0]
  have k:=heap_alloc_new ((w.alloc (.cells #[.slice lo ln lc,.int .i64 d.next,.int .i64 most,.slice oo on oc,.int .i64 inn] 70)).alloc (.cells #[.int .i64 l.1,.int .i64 l.2.1,.slice o1 l1 c1] 24)) (.cells #[.int .i64 r.1,.int .i64 r.2.1,.slice o2 l2 c2] 24)
  rw [xI] at k
  exact ak ((ah.alloc _ _).trans (ah.alloc _ _)) k
 have aaV:W0.heap[w.heap.size+1+1+1]?=some (.cells #[.int .i64 fr,.int .i64 en] 27 (0,0)):=by
  rw [hW0]
  have k:=heap_alloc_new (((w.alloc (.cells #[.slice lo ln lc,.int .i64 d.next,.int .i64 most,.slice oo on oc,.int .i64 inn] 70)).alloc (.cells #[.int .i64 l.1,.int .i64 l.2.1,.slice o1 l1 c1] 24)).alloc (.cells #[.int .i64 r.1,.int .i64 r.2.1,.slice o2 l2 c2] 24)) (.cells #[.int .i64 fr,.int .i64 en] 27)
  rw [aaT] at k
  exact ak (ah.alloc _ _) k
 have Zo:W0.heap[w.heap.size+1+1+1+1]?=some (.cells #[.slice none 0 0,.int .i64 0,.int .i64 0,.slice none 0 0,.int .i64 0] 70 (0,0)):=by
  rw [hW0]
  have k:=heap_alloc_new ((((w.alloc (.cells #[.slice lo ln lc,.int .i64 d.next,.int .i64 most,.slice oo on oc,.int .i64 inn] 70)).alloc (.cells #[.int .i64 l.1,.int .i64 l.2.1,.slice o1 l1 c1] 24)).alloc (.cells #[.int .i64 r.1,.int .i64 r.2.1,.slice o2 l2 c2] 24)).alloc (.cells #[.int .i64 fr,.int .i64 en] 27)) (.cells #[.slice none 0 0,.int .i64 0,.int .i64 0,.slice none 0 0,.int .i64 0] 70)
  rw [aaU] at k
  exact k
 clear xH xI aaT aaU
 have aK:=hid uS
 have HB0:=hid xJ
 have HB1:=hid xK
 have HB2:=hid uf
 have HB3:=hid aaV
 have HB4:=hid Zo
 have HK:=hid hk
 have hk0:=hk
 have nH:=hid s1
 have HS2:=hid s2
 obtain ⟨fin,hfin⟩:∃ fin,(dK most l r fr en d).2=fin:=⟨_,rfl⟩
 have bJ:=hid hfin
 have Ae:=hid hk.len
 have hfew:=hk.few
 have aaW:=hk.eqs.1
 rw [<-hk.len] at hfew aaW
 rw [hfin]
 have hz0:w.heap.size+1+1+1+1 < W0.heap.size:=lt_of_block Zo
 clear hk s1 s2 uS xJ xK uf aaV Zo hfin
 unfold kL
 unfold gZ
 by_cases hle:ln<=most
 ·have hle':(ln:Int)<=most:=by omega
  have HF2:Hid (fin={ d with L:=d.L++[(l,r,fr,en)] }):=by show _=_;rw [<-bJ.out];unfold dK;dsimp only;rw [if_pos (by rw [<-Ae.out];exact hle)]
  go_enter Tryz.func58,Tryz.ntmps58
  generalize eX:w.heap.size=B at *
  go_upto_region 1 with fail
  rw [<-hW0]
  clear hW0
  obtain ⟨⟨p0,p1,p2,p3,p4⟩,y0,y1,y2,y3,y4⟩:=five HB0.out
  obtain ⟨u0,u1,u2,_⟩:=aF HB1.out
  obtain ⟨v0,v1,v2,_⟩:=aF HB2.out
  obtain ⟨x0,x1⟩:=EL HB3.out
  have dL:Hid (∀ W,ah W0 W->(fun (W:World)=>(W.cell? ⟨B,0,none⟩=some (.slice lo ln lc))/\(W.cell? ⟨B+1,0,none⟩=some (.int .i64 l.1)/\W.cell? ⟨B+1,1,none⟩=some (.int .i64 l.2.1)/\W.cell? ⟨B+1,2,none⟩=some (.slice o1 l1 c1))/\(W.cell? ⟨B+1+1,0,none⟩=some (.int .i64 r.1)/\W.cell? ⟨B+1+1,1,none⟩=some (.int .i64 r.2.1)/\W.cell? ⟨B+1+1,2,none⟩=some (.slice o2 l2 c2))/\(W.cell? ⟨B+1+1+1,0,none⟩=some (.int .i64 fr)/\W.cell? ⟨B+1+1+1,1,none⟩=some (.int .i64 en))) W):=fun W hq=>by
   obtain ⟨⟨p0,p1,p2,p3,p4⟩,_⟩:=five HB0.out
   obtain ⟨u0,u1,u2,_⟩:=aF HB1.out
   obtain ⟨v0,v1,v2,_⟩:=aF HB2.out
   obtain ⟨x0,x1⟩:=EL HB3.out
   exact ⟨hq.at p0,⟨hq.at u0,hq.at u1,hq.at u2⟩,⟨hq.at v0,hq.at v1,hq.at v2⟩,hq.at x0,hq.at x1⟩
  obtain ⟨xs,hrow,hxl,hxo,hxc⟩:=HK.out.eqs.row
  have KZ:=hid hxc
  have lS:=hid hrow
  have Zp:xs.length=ln * 8:=by rw [hxl,<-Ae.out]
  clear hxc hrow hxl
  go_upto_region 2 with fail
  clear p0 p1 p2 p3 p4 y0 y1 y2 y3 y4 u0 u1 u2 v0 v1 v2 x0 x1
  go_cut [] (fun wx=>aaS R w B fin most (#[.slice none 0 0,.int .i64 0,.int .i64 0,.slice none 0 0,.int .i64 0]) d.next oo on oc inn wx)
  case first =>
   refine HT.begin_ 11 (S:=(fun (W:World)=>(W.cell? ⟨B,0,none⟩=some (.slice lo ln lc))/\(W.cell? ⟨B+1,0,none⟩=some (.int .i64 l.1)/\W.cell? ⟨B+1,1,none⟩=some (.int .i64 l.2.1)/\W.cell? ⟨B+1,2,none⟩=some (.slice o1 l1 c1))/\(W.cell? ⟨B+1+1,0,none⟩=some (.int .i64 r.1)/\W.cell? ⟨B+1+1,1,none⟩=some (.int .i64 r.2.1)/\W.cell? ⟨B+1+1,2,none⟩=some (.slice o2 l2 c2))/\(W.cell? ⟨B+1+1+1,0,none⟩=some (.int .i64 fr)/\W.cell? ⟨B+1+1+1,1,none⟩=some (.int .i64 en)))) (by kernel_rfl) ?aaX (fun hHeld=>?_)
   case aaX=>exact dL.out _ (ah.drew W0)
   (try dsimp only at hHeld)
   have gI:=ah.drew W0
   generalize W0.drew=wd at *
   refine HT.tk 1 rfl ?_
   go_frame
   refine HT.tk 2 rfl ?_
   go_frame
   refine HT.tk 4 rfl ?_
   go_frame
   refine HT.tk 5 rfl ?_
   go_frame
   refine HT.tk 6 rfl ?_
   go_frame
   refine HT.tk 7 rfl ?_
   go_frame
   refine HT.branch (rs:=[0,8]) (by kernel_rfl) (by simp) ?_
   refine HT.TJ (fun K hK=>?_) ?_
   ·go_simp
    obtain ⟨qy,qZ⟩:∃ wa,wa=wd.alloc (.cells #[] 74):=⟨_,rfl⟩
    have hqa:ah wd qy:=by rw [qZ];exact ah.alloc _ _
    have hown:=gB (size:=8) (show qy.heap[wd.heap.size]?=some (.cells #[] 74 (0,0)) by rw [qZ];exact heap_alloc_new wd _)
    have hgl:W0.heap.size<=wd.heap.size:=(gI).size
    have mg:=(gI).trans hqa
    rw [<-qZ]
    clear qZ
    generalize wd.heap.size=ga at *
    refine hK.out _ _ ?TQ (fun hHeld=>?_)
    case TQ=>exact dL.out _ mg
    clear hK K
    (try go_frame)
    refine HT.branch (rs:=[3,8]) (by kernel_rfl) (by simp) ?_
    refine HT.Nu (fun K hK=>?_) ?_
    ·refine aJ qy rfl (.tmp 15) (.tmp 17) 42 rfl 74 _ 8 96 EK (.slice (some ⟨ga,0,none⟩) 0 0) 0 [] rfl hown lo ln lc xs rfl Zp ?aaY hxo (by unfold maxLen;omega) (by omega) ?_
     case aaY=>(intro j u hj;obtain ⟨b,off,e,hc⟩:=KZ.out j u hj;subst e;exact ⟨_,rfl,by rw [Addr.add_lit];exact (aK.out.trans (mg)).at hc⟩)
     intro o3 c3 jE ho3 hf3 fE hnil3
     simp only [Nat.zero_add,List.nil_append] at ho3 fE hnil3 ⊢
     have oN:ah W0 jE:=Fr.trans' (mg) hf3 (fun i hi e=>by simp [Value.ownBlock] at e;omega)
     have iL:∀ k,(Value.slice o3 ln c3).ownBlock=some k->W0.heap.size<=k:=fun k hk=>by
      rcases fE with e | e
      ·rw [e] at hk;simp [Value.ownBlock] at hk;omega
      ·rw [e] at hk;cases hk;exact ((mg)).size
     refine hK.out _ _ ?Zq (fun hHeld=>?_)
     case Zq=>exact dL.out _ oN
     clear hK K
     (try go_frame)
     refine HT.branch (rs:=[8]) (by kernel_rfl) (by simp) ?_
     refine HT.EU (fun K hK=>?_) ?_
     ·go_simp
      obtain ⟨lI,hwb⟩:∃ wb,wb=jE.alloc (.cells (ec (l,r,fr,en) o1 l1 c1 o2 l2 c2) 74):=⟨_,rfl⟩
      have pR:ah jE lI:=by rw [hwb];exact ah.alloc _ _
      have hb8:lI.heap[jE.heap.size]?=some (.cells (ec (l,r,fr,en) o1 l1 c1 o2 l2 c2) 74 (0,0)):=by rw [hwb];exact heap_alloc_new jE _
      have BL:W0.heap.size<=jE.heap.size:=(oN).size
      have kG:=(oN).trans pR
      have oO:=lt_of_block hb8
      change K _ (jE.alloc (.cells (ec (l,r,fr,en) o1 l1 c1 o2 l2 c2) 74))
      rw [<-hwb]
      clear hwb
      replace ho3:=aZ ho3 pR (fun _ _ h=>h)
      generalize jE.heap.size=g8 at *
      refine hK.out _ _ ?TR (fun hHeld=>?_)
      case TR=>exact dL.out _ kG
      clear hK K
      (try go_frame)
      refine HT.branch (rs:=[9]) (by kernel_rfl) (by simp) ?_
      refine HT.EW (fun K hK=>?_) ?_
      ·have hc8:∀ j u,(ec (l,r,fr,en) o1 l1 c1 o2 l2 c2).toList[j]?=some u->∃ a,some (⟨g8,0,none⟩:Addr)=some a/\lI.cell? (a.add j)=some u:=fun j u hj=>⟨_,rfl,by rw [Addr.add_lit,Nat.zero_add,cell_of_row _ _ _ _ _ (0,0) hb8];simpa using hj⟩
       refine aJ lI rfl (.tmp 18) (.tmp 23) 42 rfl 74 _ 8 96 EK (.slice o3 ln c3) ln xs rfl ho3 (some ⟨g8,0,none⟩) 1 1 (ec (l,r,fr,en) o1 l1 c1 o2 l2 c2).toList rfl rfl hc8 (by simp [Value.oneCell']) (by unfold maxLen;omega) (by omega) ?_
       intro o4 c4 vZ kX hf4 oP ug
       have dQ:ah W0 vZ:=Fr.trans' (kG) hf4 (fun i hi e=>by have:=iL i e;omega)
       have oQ:∀ k,(Value.slice o4 (ln+1) c4).ownBlock=some k->W0.heap.size<=k:=fun k hk=>by
        rcases oP with e | e
        ·rw [e] at hk;exact iL k hk
        ·rw [e] at hk;cases hk;exact ((kG)).size
       refine hK.out _ _ ?TS (fun hHeld=>?_)
       case TS=>exact dL.out _ dQ
       clear hK K
       (try go_frame)
       refine HT.tk 10 rfl ?_
       go_frame
       refine HT.CX (by kernel_rfl) (fun K hK=>?_)
       have hbs:=ak dQ HB0.out
       obtain ⟨⟨p0,p1,p2,p3,p4⟩,y0,y1,y2,y3,y4⟩:=five hbs
       have hend:=CY aK.out HB0.out HB4.out HK.out lS.out nH.out HS2.out HF2.out dQ kX oQ z1 z2 Ae.out hle hm hz0 eX
       clear p1 p2 p3 p4 y1 y2 y3 y4
       go_simp
       refine hK.out _ _ ?_
       clear hK K
       (try go_frame)
       refine HT.done (by kernel_rfl) ?_ _
       go_wp2_with fail
       go_meet
       exact hend
      exact HT.aU.nil
     exact HT.aU.nil
    refine HT.EU (fun K hK=>?_) ?_
    ·go_simp
     obtain ⟨wu,hwb⟩:∃ wb,wb=qy.alloc (.cells (ec (l,r,fr,en) o1 l1 c1 o2 l2 c2) 74):=⟨_,rfl⟩
     have pR:ah qy wu:=by rw [hwb];exact ah.alloc _ _
     have hb8:wu.heap[qy.heap.size]?=some (.cells (ec (l,r,fr,en) o1 l1 c1 o2 l2 c2) 74 (0,0)):=by rw [hwb];exact heap_alloc_new qy _
     have BL:W0.heap.size<=qy.heap.size:=(mg).size
     have lJ:=(mg).trans pR
     have oO:=lt_of_block hb8
     change K _ (qy.alloc (.cells (ec (l,r,fr,en) o1 l1 c1 o2 l2 c2) 74))
     rw [<-hwb]
     clear hwb
     have PS:=(hown.lt ga rfl).2
     replace hown:=aZ hown pR (fun _ _ h=>h)
     generalize qy.heap.size=g8 at *
     refine hK.out _ _ ?TT (fun hHeld=>?_)
     case TT=>exact dL.out _ lJ
     clear hK K
     (try go_frame)
     refine HT.branch (rs:=[3]) (by kernel_rfl) (by simp) ?_
     refine HT.Nu (fun K hK=>?_) ?_
     ·refine aJ wu rfl (.tmp 15) (.tmp 17) 42 rfl 74 _ 8 96 EK (.slice (some ⟨ga,0,none⟩) 0 0) 0 [] rfl hown lo ln lc xs rfl Zp ?aaZ hxo (by unfold maxLen;omega) (by omega) ?_
      case aaZ=>(intro j u hj;obtain ⟨b,off,e,hc⟩:=KZ.out j u hj;subst e;exact ⟨_,rfl,by rw [Addr.add_lit];exact (aK.out.trans (lJ)).at hc⟩)
      intro o3 c3 oU ho3 hf3 fE hnil3
      simp only [Nat.zero_add,List.nil_append] at ho3 fE hnil3 ⊢
      have kH:ah W0 oU:=Fr.trans' (lJ) hf3 (fun i hi e=>by simp [Value.ownBlock] at e;omega)
      have iL:∀ k,(Value.slice o3 ln c3).ownBlock=some k->W0.heap.size<=k:=fun k hk=>by
       rcases fE with e | e
       ·rw [e] at hk;simp [Value.ownBlock] at hk;omega
       ·rw [e] at hk;cases hk;exact ((lJ)).size
      refine hK.out _ _ ?TU (fun hHeld=>?_)
      case TU=>exact dL.out _ kH
      clear hK K
      (try go_frame)
      replace hb8:=ay hf3 (fun e=>by simp [Value.ownBlock] at e;omega) hb8
      refine HT.branch (rs:=[9]) (by kernel_rfl) (by simp) ?_
      refine HT.EW (fun K hK=>?_) ?_
      ·have hc8:∀ j u,(ec (l,r,fr,en) o1 l1 c1 o2 l2 c2).toList[j]?=some u->∃ a,some (⟨g8,0,none⟩:Addr)=some a/\oU.cell? (a.add j)=some u:=fun j u hj=>⟨_,rfl,by rw [Addr.add_lit,Nat.zero_add,cell_of_row _ _ _ _ _ (0,0) hb8];simpa using hj⟩
       refine aJ oU rfl (.tmp 18) (.tmp 23) 42 rfl 74 _ 8 96 EK (.slice o3 ln c3) ln xs rfl ho3 (some ⟨g8,0,none⟩) 1 1 (ec (l,r,fr,en) o1 l1 c1 o2 l2 c2).toList rfl rfl hc8 (by simp [Value.oneCell']) (by unfold maxLen;omega) (by omega) ?_
       intro o4 c4 wz kX hf4 oP ug
       have dR:ah W0 wz:=Fr.trans' (kH) hf4 (fun i hi e=>by have:=iL i e;omega)
       have oQ:∀ k,(Value.slice o4 (ln+1) c4).ownBlock=some k->W0.heap.size<=k:=fun k hk=>by
        rcases oP with e | e
        ·rw [e] at hk;exact iL k hk
        ·rw [e] at hk;cases hk;exact ((kH)).size
       refine hK.out _ _ ?TV (fun hHeld=>?_)
       case TV=>exact dL.out _ dR
       clear hK K
       (try go_frame)
       refine HT.tk 10 rfl ?_
       go_frame
       refine HT.CX (by kernel_rfl) (fun K hK=>?_)
       have hbs:=ak dR HB0.out
       obtain ⟨⟨p0,p1,p2,p3,p4⟩,y0,y1,y2,y3,y4⟩:=five hbs
       have hend:=CY aK.out HB0.out HB4.out HK.out lS.out nH.out HS2.out HF2.out dR kX oQ z1 z2 Ae.out hle hm hz0 eX
       clear p1 p2 p3 p4 y1 y2 y3 y4
       go_simp
       refine hK.out _ _ ?_
       clear hK K
       (try go_frame)
       refine HT.done (by kernel_rfl) ?_ _
       go_wp2_with fail
       go_meet
       exact hend
      exact HT.aU.nil
     exact HT.aU.nil
    exact HT.aU.nil
   refine HT.EU (fun K hK=>?_) ?_
   ·go_simp
    obtain ⟨uh,hwb⟩:∃ wb,wb=wd.alloc (.cells (ec (l,r,fr,en) o1 l1 c1 o2 l2 c2) 74):=⟨_,rfl⟩
    have pR:ah wd uh:=by rw [hwb];exact ah.alloc _ _
    have hb8:uh.heap[wd.heap.size]?=some (.cells (ec (l,r,fr,en) o1 l1 c1 o2 l2 c2) 74 (0,0)):=by rw [hwb];exact heap_alloc_new wd _
    have BL:W0.heap.size<=wd.heap.size:=(gI).size
    have wB:=(gI).trans pR
    have oO:=lt_of_block hb8
    change K _ (wd.alloc (.cells (ec (l,r,fr,en) o1 l1 c1 o2 l2 c2) 74))
    rw [<-hwb]
    clear hwb
    generalize wd.heap.size=g8 at *
    refine hK.out _ _ ?Jb (fun hHeld=>?_)
    case Jb=>exact dL.out _ wB
    clear hK K
    (try go_frame)
    refine HT.branch (rs:=[0]) (by kernel_rfl) (by simp) ?_
    refine HT.TJ (fun K hK=>?_) ?_
    ·go_simp
     obtain ⟨wC,qZ⟩:∃ wa,wa=uh.alloc (.cells #[] 74):=⟨_,rfl⟩
     have hqa:ah uh wC:=by rw [qZ];exact ah.alloc _ _
     have hown:=gB (size:=8) (show wC.heap[uh.heap.size]?=some (.cells #[] 74 (0,0)) by rw [qZ];exact heap_alloc_new uh _)
     have hgl:W0.heap.size<=uh.heap.size:=(wB).size
     have lK:=(wB).trans hqa
     rw [<-qZ]
     clear qZ
     generalize uh.heap.size=ga at *
     refine hK.out _ _ ?TW (fun hHeld=>?_)
     case TW=>exact dL.out _ lK
     clear hK K
     (try go_frame)
     replace hb8:=ak hqa hb8
     refine HT.branch (rs:=[3]) (by kernel_rfl) (by simp) ?_
     refine HT.Nu (fun K hK=>?_) ?_
     ·refine aJ wC rfl (.tmp 15) (.tmp 17) 42 rfl 74 _ 8 96 EK (.slice (some ⟨ga,0,none⟩) 0 0) 0 [] rfl hown lo ln lc xs rfl Zp ?Zr hxo (by unfold maxLen;omega) (by omega) ?_
      case Zr=>(intro j u hj;obtain ⟨b,off,e,hc⟩:=KZ.out j u hj;subst e;exact ⟨_,rfl,by rw [Addr.add_lit];exact (aK.out.trans (lK)).at hc⟩)
      intro o3 c3 oW ho3 hf3 fE hnil3
      simp only [Nat.zero_add,List.nil_append] at ho3 fE hnil3 ⊢
      have kJ:ah W0 oW:=Fr.trans' (lK) hf3 (fun i hi e=>by simp [Value.ownBlock] at e;omega)
      have iL:∀ k,(Value.slice o3 ln c3).ownBlock=some k->W0.heap.size<=k:=fun k hk=>by
       rcases fE with e | e
       ·rw [e] at hk;simp [Value.ownBlock] at hk;omega
       ·rw [e] at hk;cases hk;exact ((lK)).size
      refine hK.out _ _ ?Jc (fun hHeld=>?_)
      case Jc=>exact dL.out _ kJ
      clear hK K
      (try go_frame)
      replace hb8:=ay hf3 (fun e=>by simp [Value.ownBlock] at e;omega) hb8
      refine HT.branch (rs:=[9]) (by kernel_rfl) (by simp) ?_
      refine HT.EW (fun K hK=>?_) ?_
      ·have hc8:∀ j u,(ec (l,r,fr,en) o1 l1 c1 o2 l2 c2).toList[j]?=some u->∃ a,some (⟨g8,0,none⟩:Addr)=some a/\oW.cell? (a.add j)=some u:=fun j u hj=>⟨_,rfl,by rw [Addr.add_lit,Nat.zero_add,cell_of_row _ _ _ _ _ (0,0) hb8];simpa using hj⟩
       refine aJ oW rfl (.tmp 18) (.tmp 23) 42 rfl 74 _ 8 96 EK (.slice o3 ln c3) ln xs rfl ho3 (some ⟨g8,0,none⟩) 1 1 (ec (l,r,fr,en) o1 l1 c1 o2 l2 c2).toList rfl rfl hc8 (by simp [Value.oneCell']) (by unfold maxLen;omega) (by omega) ?_
       intro o4 c4 wE kX hf4 oP ug
       have dS:ah W0 wE:=Fr.trans' (kJ) hf4 (fun i hi e=>by have:=iL i e;omega)
       have oQ:∀ k,(Value.slice o4 (ln+1) c4).ownBlock=some k->W0.heap.size<=k:=fun k hk=>by
        rcases oP with e | e
        ·rw [e] at hk;exact iL k hk
        ·rw [e] at hk;cases hk;exact ((kJ)).size
       refine hK.out _ _ ?Jd (fun hHeld=>?_)
       case Jd=>exact dL.out _ dS
       clear hK K
       (try go_frame)
       refine HT.tk 10 rfl ?_
       go_frame
       refine HT.CX (by kernel_rfl) (fun K hK=>?_)
       have hbs:=ak dS HB0.out
       obtain ⟨⟨p0,p1,p2,p3,p4⟩,y0,y1,y2,y3,y4⟩:=five hbs
       have hend:=CY aK.out HB0.out HB4.out HK.out lS.out nH.out HS2.out HF2.out dS kX oQ z1 z2 Ae.out hle hm hz0 eX
       clear p1 p2 p3 p4 y1 y2 y3 y4
       go_simp
       refine hK.out _ _ ?_
       clear hK K
       (try go_frame)
       refine HT.done (by kernel_rfl) ?_ _
       go_wp2_with fail
       go_meet
       exact hend
      exact HT.aU.nil
     exact HT.aU.nil
    exact HT.aU.nil
   exact HT.aU.nil
  case rest =>
   rename World=>w5
   obtain ⟨rC,rD,rE,h5,hb5,hb8⟩:=hcut
   obtain ⟨⟨p0,p1,p2,p3,p4⟩,_⟩:=five hb5
   obtain ⟨⟨d0,d1,d2,d3,d4⟩,y0,y1,y2,y3,y4⟩:=five hb8
   go_wp2_with fail
   clear d0 d1 d2 d3 d4 y0 y1 y2 y3 y4
   have hf:=eP w5 (B+1+1+1+1) (.slice rC rD rE) (.int .i64 d.next) (.int .i64 most) (.slice oo on oc) (.int .i64 inn)
   obtain ⟨⟨f0,f1,f2,f3,f4⟩,_⟩:=five (bQ (a:=.slice rC rD rE) (b:=.int .i64 d.next) (c:=.int .i64 most) (d:=.slice oo on oc) (e:=.int .i64 inn) hb8)
   change bodyPost _ _ _ _ _ (iK w5 (B+1+1+1+1) (.slice rC rD rE) (.int .i64 d.next) (.int .i64 most) (.slice oo on oc) (.int .i64 inn))
   have hend:=h5 _ hf
   generalize iK w5 (B+1+1+1+1) (.slice rC rD rE) (.int .i64 d.next) (.int .i64 most) (.slice oo on oc) (.int .i64 inn)=wf at *
   refine bodyPost_ret (by simp [results,Tryz.results58,go_sem,f0,f1,f2,f3,f4];rfl) rfl ?_
   exact ⟨rC,rD,rE,oo,on,oc,inn,by rw [HF2.out],eX ▸ hend.1,hend.2⟩
 ·have hle':¬ (ln:Int)<=most:=by omega
  have HF2:Hid (fin=d):=by show _=_;rw [<-bJ.out];unfold dK;dsimp only;rw [if_neg (by rw [<-Ae.out];exact hle)]
  go_enter Tryz.func58,Tryz.ntmps58
  generalize eX:w.heap.size=B at *
  go_upto_region 1 with fail
  rw [<-hW0]
  clear hW0
  obtain ⟨⟨p0,p1,p2,p3,p4⟩,_⟩:=five HB0.out
  obtain ⟨⟨d0,d1,d2,d3,d4⟩,y0,y1,y2,y3,y4⟩:=five HB4.out
  go_wp2_with fail
  clear d0 d1 d2 d3 d4 y0 y1 y2 y3 y4
  have hf:=eP W0 (B+1+1+1+1) (.slice lo ln lc) (.int .i64 d.next) (.int .i64 most) (.slice oo on oc) (.int .i64 inn)
  obtain ⟨⟨f0,f1,f2,f3,f4⟩,_⟩:=five (bQ (a:=.slice lo ln lc) (b:=.int .i64 d.next) (c:=.int .i64 most) (d:=.slice oo on oc) (e:=.int .i64 inn) HB4.out)
  change bodyPost _ _ _ _ _ (iK W0 (B+1+1+1+1) (.slice lo ln lc) (.int .i64 d.next) (.int .i64 most) (.slice oo on oc) (.int .i64 inn))
  have dN:ah w (iK W0 (B+1+1+1+1) (.slice lo ln lc) (.int .i64 d.next) (.int .i64 most) (.slice oo on oc) (.int .i64 inn)):=Fr.trans' aK.out hf (fun i hi h=>by have h':i=B+1+1+1+1:=h;omega)
  have hqk:Fr (fun i=>i=B+1+1+1+1) W0 (iK W0 (B+1+1+1+1) (.slice lo ln lc) (.int .i64 d.next) (.int .i64 most) (.slice oo on oc) (.int .i64 inn)):=hf
  have lT:=hk0.fr (T:=fun k=>R k∨w.heap.size<=k) dN (fun k _ h=>⟨.inl h,fun h=>h⟩)
  generalize iK W0 (B+1+1+1+1) (.slice lo ln lc) (.int .i64 d.next) (.int .i64 most) (.slice oo on oc) (.int .i64 inn)=wf at *
  refine bodyPost_ret (by simp [results,Tryz.results58,go_sem,f0,f1,f2,f3,f4];rfl) rfl ?_
  exact ⟨lo,ln,lc,oo,on,oc,inn,by rw [HF2.out],by rw [HF2.out];exact lT,dN⟩
end Em
end
section
open Go.RowKit
namespace Em
theorem Zt {R:Nat->Prop} {W:World} {g a b:Nat} {o1:Option Addr} {c1:Nat} {o2:Option Addr} {c2:Nat} (hg:R g) (h:W.heap[g]?=some (.cells #[.int .i64 1,.int .i64 a,.slice o1 0 c1,.int .i64 1,.int .i64 b,.slice o2 0 c2] 24 (0,0))):aC R W (some ⟨g,0,none⟩) 2 (pO (tv a) (tv b)).2.2:=by
 refine ⟨rfl,by unfold maxLen;omega,fun _=>⟨g,0,rfl,?_⟩⟩
 have c:∀ j (hj:j < 6),W.cell? ⟨g,j,none⟩=(#[Value.int .i64 1,.int .i64 a,.slice o1 0 c1,.int .i64 1,.int .i64 b,.slice o2 0 c2]:Array Value)[j]?:=fun j hj=>by rw [cell_of_row _ _ _ _ _ (0,0) h]
 exact ⟨hg,c 0 (by omega),c 1 (by omega),⟨o1,0,c1,c 2 (by omega),rfl,Nat.zero_le _,fun h=>absurd h (Nat.lt_irrefl _)⟩,hg,c 3 (by omega),c 4 (by omega),⟨o2,0,c2,c 5 (by omega),rfl,Nat.zero_le _,fun h=>absurd h (Nat.lt_irrefl _)⟩,trivial⟩
theorem zM {w : World} (a b : Nat) {o1 : Option Addr} {c1 : Nat} {o2 : Option Addr} {c2 : Nat} :
    Calls Tryz.prog 61 #[.agg #[.int .i64 1,.int .i64 a,.slice o1 0 c1],.agg #[.int .i64 1,.int .i64 b,.slice o2 0 c2]] w (ArQ w a b):=by
 obtain ⟨W0,hW0⟩:∃ W0,W0=(((w.alloc (.cells #[.int .i64 1,.int .i64 a,.slice o1 0 c1] 24)).alloc (.cells #[.int .i64 1,.int .i64 b,.slice o2 0 c2] 24)).alloc (.cells #[.int .i64 0,.int .i64 0,.slice none 0 0] 24)):=⟨_,rfl⟩
 have uS:ah w W0:=by rw [hW0];exact ((ah.alloc _ _).trans (ah.alloc _ _)).trans (ah.alloc _ _)
 have xH:(w.alloc (.cells #[.int .i64 1,.int .i64 a,.slice o1 0 c1] 24)).heap.size=w.heap.size+1:=by simp
 have xI:((w.alloc (.cells #[.int .i64 1,.int .i64 a,.slice o1 0 c1] 24)).alloc (.cells #[.int .i64 1,.int .i64 b,.slice o2 0 c2] 24)).heap.size=w.heap.size+1+1:=by simp
 have xJ:W0.heap[w.heap.size]?=some (.cells #[.int .i64 1,.int .i64 a,.slice o1 0 c1] 24 (0,0)):=by
  rw [hW0]
  have k:=heap_alloc_new w (.cells #[.int .i64 1,.int .i64 a,.slice o1 0 c1] 24)
  exact ak ((ah.alloc _ _).trans (ah.alloc _ _)) k
 have xK:W0.heap[w.heap.size+1]?=some (.cells #[.int .i64 1,.int .i64 b,.slice o2 0 c2] 24 (0,0)):=by
  rw [hW0]
  have k:=heap_alloc_new (w.alloc (.cells #[.int .i64 1,.int .i64 a,.slice o1 0 c1] 24)) (.cells #[.int .i64 1,.int .i64 b,.slice o2 0 c2] 24)
  rw [xH] at k
  exact ak (ah.alloc _ _) k
 have uf:W0.heap[w.heap.size+1+1]?=some (.cells #[.int .i64 0,.int .i64 0,.slice none 0 0] 24 (0,0)):=by
  rw [hW0]
  have k:=heap_alloc_new ((w.alloc (.cells #[.int .i64 1,.int .i64 a,.slice o1 0 c1] 24)).alloc (.cells #[.int .i64 1,.int .i64 b,.slice o2 0 c2] 24)) (.cells #[.int .i64 0,.int .i64 0,.slice none 0 0] 24)
  rw [xI] at k
  exact k
 clear xH xI
 have HQ:=hid uS
 have HB0:=hid xJ
 have HB1:=hid xK
 have HB2:=hid uf
 clear uS xJ xK uf
 go_enter Tryz.func61,Tryz.ntmps61
 generalize eX:w.heap.size=B at *
 go_upto_region 1 with fail
 rw [<-hW0]
 clear hW0
 obtain ⟨u0,u1,u2,_⟩:=aF HB0.out
 obtain ⟨v0,v1,v2,_⟩:=aF HB1.out
 have jQ:=ah.alloc W0 (.cells #[.int .i64 1,.int .i64 a,.slice o1 0 c1,.int .i64 1,.int .i64 b,.slice o2 0 c2] 24)
 have hbx:=heap_alloc_new W0 (.cells #[.int .i64 1,.int .i64 a,.slice o1 0 c1,.int .i64 1,.int .i64 b,.slice o2 0 c2] 24)
 have hlt:=lt_of_block HB2.out
 have HB3:=ak jQ HB2.out
 obtain ⟨d0,d1,d2,y0,y1,y2⟩:=aF HB3
 have HB4:(W0.setCell ⟨B+1+1,0,none⟩ (.int .i64 4)).heap[B+1+1]?=some (.cells #[.int .i64 4,.int .i64 0,.slice none 0 0] 24 (0,0)):=qH HB2.out
 have XM:((W0.setCell ⟨B+1+1,0,none⟩ (.int .i64 4)).setCell ⟨B+1+1,1,none⟩ (.int .i64 0)).heap[B+1+1]?=some (.cells #[.int .i64 4,.int .i64 0,.slice none 0 0] 24 (0,0)):=oJ HB4
 obtain ⟨_,x1,_,_,x2,_⟩:=aF (ak (ah.alloc _ (.cells #[.int .i64 1,.int .i64 a,.slice o1 0 c1,.int .i64 1,.int .i64 b,.slice o2 0 c2] 24)) HB4)
 obtain ⟨_,_,x3,_,_,x4⟩:=aF (ak (ah.alloc _ (.cells #[.int .i64 1,.int .i64 a,.slice o1 0 c1,.int .i64 1,.int .i64 b,.slice o2 0 c2] 24)) XM)
 go_wp2_with fail
 clear u0 u1 u2 v0 v1 v2 d0 d1 d2 y0 y1 y2 x1 x2 x3 x4
 have hf:=gQ W0 (B+1+1) (.int .i64 4) (.int .i64 0) (.slice (some ⟨W0.heap.size,0,none⟩) 2 2)
 have hc:(eF W0 (B+1+1) (.int .i64 4) (.int .i64 0) (.slice (some ⟨W0.heap.size,0,none⟩) 2 2)).heap[B+1+1]?=some (.cells #[.int .i64 4,.int .i64 0,.slice (some ⟨W0.heap.size,0,none⟩) 2 2] 24 (0,0)):=qG (oJ (qH HB2.out))
 have hsz:(eF W0 (B+1+1) (.int .i64 4) (.int .i64 0) (.slice (some ⟨W0.heap.size,0,none⟩) 2 2)).heap.size=W0.heap.size:=by simp [eF]
 have hba:=heap_alloc_new (eF W0 (B+1+1) (.int .i64 4) (.int .i64 0) (.slice (some ⟨W0.heap.size,0,none⟩) 2 2)) (.cells #[.int .i64 1,.int .i64 a,.slice o1 0 c1,.int .i64 1,.int .i64 b,.slice o2 0 c2] 24)
 rw [hsz] at hba
 have hqa:=ah.alloc (eF W0 (B+1+1) (.int .i64 4) (.int .i64 0) (.slice (some ⟨W0.heap.size,0,none⟩) 2 2)) (.cells #[.int .i64 1,.int .i64 a,.slice o1 0 c1,.int .i64 1,.int .i64 b,.slice o2 0 c2] 24)
 change bodyPost _ _ _ _ _ (World.alloc (eF W0 (B+1+1) (.int .i64 4) (.int .i64 0) (.slice (some ⟨W0.heap.size,0,none⟩) 2 2)) (.cells #[.int .i64 1,.int .i64 a,.slice o1 0 c1,.int .i64 1,.int .i64 b,.slice o2 0 c2] 24))
 clear jQ hbx HB3 HB4 XM
 generalize (eF W0 (B+1+1) (.int .i64 4) (.int .i64 0) (.slice (some ⟨W0.heap.size,0,none⟩) 2 2))=WP at *
 generalize WP.alloc (.cells #[.int .i64 1,.int .i64 a,.slice o1 0 c1,.int .i64 1,.int .i64 b,.slice o2 0 c2] 24)=wf at *
 have hgw:w.heap.size<=W0.heap.size:=HQ.out.size
 generalize W0.heap.size=G at *
 obtain ⟨f0,f1,f2,_⟩:=aF (ak hqa hc)
 have dN:ah w wf:=(Fr.trans' HQ.out hf (fun i hi h=>by have h':i=B+1+1:=h;omega)).trans hqa
 refine bodyPost_ret (by simp [results,Tryz.results61,go_sem,f0,f1,f2];rfl) rfl ?_
 exact ⟨_,_,rfl,Zt hgw hba,dN⟩
end Em
end
section
open Go.RowKit
namespace Em
def KpQ (R:Nat->Prop) (w:World) (most:Nat) (r:Nat × Dk) (x:Ending) (w':World):Prop:=∃ lo ln lc oo on oc inn,x=.returned (.tuple #[gZ lo ln lc r.2.next most oo on oc inn,.int .i64 r.1])/\fJ (fun k=>R k∨w.heap.size<=k) w' most r.2 lo ln lc oo on oc/\ah w w'
def Zu (most:Nat) (h:Nd) (ps:To) (ar:Ev):Prop:=∀ (R:Nat->Prop) (W:World) (d:Dk) (inn:Int) (lo:Option Addr) (ln lc:Nat) (oo:Option Addr) (on oc:Nat) (o1:Option Addr) (l1 c1:Nat) (o2:Option Addr) (l2 c2:Nat) (eo:Option Addr) (en ec:Nat),
 fJ R W most d lo ln lc oo on oc->aC R W o1 l1 h.tp->aY R W o2 l2 ps->EvS R W eo en ar->en<=ec->(jM most h (dD most ps) (kY most ar) d).2.next<=1000000 ->
 Calls Tryz.prog 60 #[gZ lo ln lc d.next most oo on oc inn,bC h o1 l1 c1 o2 l2 c2,.slice eo en ec] W (KpQ R W most (jM most h (dD most ps) (kY most ar) d))
def Good (most:Nat):Ev->Prop
 | .nil=>True
 | .cons _ _ ag h ps ar r=>(ag=true->Zu most h ps ar)/\Good most r
theorem Good.snoc {most:Nat} {nm:ByteArray} {v:Nat} {ag:Bool} {h:Nd} {ps:To} {ar:Ev} (hk:ag=true->Zu most h ps ar):∀ {e:Ev},Good most e->Good most (e.snoc nm v ag h ps ar)
 | .nil,_=>⟨hk,trivial⟩
 | .cons _ _ _ _ _ _ _,he=>⟨he.1,Good.snoc hk he.2⟩
def jL (most:Nat) (h:Nd) (ps:To):Prop:=∀ (R:Nat->Prop) (W:World) (d:Dk) (inn:Int) (lo:Option Addr) (ln lc:Nat) (oo:Option Addr) (on oc:Nat) (o1:Option Addr) (l1 c1:Nat) (o2:Option Addr) (l2 c2:Nat) (eo:Option Addr) (en ec:Nat) (ev:Ev),
 fJ R W most d lo ln lc oo on oc->aC R W o1 l1 h.tp->aY R W o2 l2 ps->EvS R W eo en ev->en<=ec->en+ps.size<=100000->Good most ev->Zb h ps.length->D6 ps->(dP most h ps (kY most ev) d).2.next<=1000000 ->
 Calls Tryz.prog 37 #[gZ lo ln lc d.next most oo on oc inn,bC h o1 l1 c1 o2 l2 c2,.slice eo en ec] W (sH R W most (dP most h ps (kY most ev) d).2)
theorem mJ (most:Nat):∀ e:Ev,TN (kY most e)
 | .nil=>fun x hx=>by cases hx
 | .cons nm v ag h ps ar r=>fun x hx=>by
  unfold kY at hx
  rcases List.mem_append.1 hx with hx | hx
  ·exact mJ most r x hx
  ·rw [List.mem_singleton.1 hx]
   by_cases hg:ag=true
   ·rw [if_pos hg];exact CU most h (ng most ps) (mJ most ar)
   ·rw [if_neg hg];exact NR.pure v
theorem PU (most:Nat) (h:Nd) (ps:To) (vs:List (aS->Dm Nat)) (e:aS) (own:Nat) (d:Dk):(kP most h ps vs e own d).1=own:=by
 unfold kP
 repeat' split
 all_goals rfl
theorem kQ (most:Nat) (h:Nd) (ps:To) (e:aS) (d:Dk):(dP most h ps e d).1=d.next:=by
 show (uQ most d.next (kP most h ps (dD most ps) e d.next) { d with next:=d.next+1 }).1=_
 unfold uQ
 split
 ·rfl
 ·exact PU _ _ _ _ _ _ _
theorem xM (most:Nat) (h:Nd) (ps:To) {e:aS} (he:TN e) (d:Dk):d.next+1<=(dP most h ps e d).2.next :=
 NR.ov most d.next (Ja most h ps (ng most ps) he d.next) { d with next:=d.next+1 }
theorem La {most:Nat} {h:Nd} {ps:To} {e:aS} {d:Dk} (hd:most < d.L.length):(dP most h ps e d).2={ d with next:=d.next+1 }:=by
 show (uQ most d.next (kP most h ps (dD most ps) e d.next) { d with next:=d.next+1 }).2=_
 unfold uQ
 rw [if_pos hd]
theorem jc {most:Nat} {h:Nd} {ps:To} {e:aS} {d:Dk} (hd:¬ most < d.L.length):(dP most h ps e d).2=(kP most h ps (dD most ps) e d.next { d with next:=d.next+1 }).2:=by
 show (uQ most d.next (kP most h ps (dD most ps) e d.next) { d with next:=d.next+1 }).2=_
 unfold uQ
 rw [if_neg hd]
def RB (R:Nat->Prop) (B k:Nat):Prop:=R k/\k < B∨B+1+1 < k
def TmS (R:Nat->Prop) (w:World) (B:Nat) (d1:Dk) (most:Nat) (h:Nd) (o1:Option Addr) (l1 c1:Nat) (o2:Option Addr) (l2 c2:Nat) (lo:Option Addr) (ln lc:Nat) (inn:Int) (wx:World):Prop :=
 ∃ oo on oc,wx.heap[B]?=some (.cells (r5 lo ln lc d1.next most oo on oc inn) 70 (0,0))/\wx.heap[B+1]?=some (.cells (cells9 h o1 l1 c1 o2 l2 c2) 29 (0,0))/\wx.heap[B+1+1]?=some (.cells #[.slice none 0 0,.int .i64 0,.int .i64 0,.slice none 0 0,.int .i64 0] 70 (0,0)) /\
  fJ (RB R B) wx most d1 lo ln lc oo on oc/\ah w wx
theorem TY {w:World} {base size:Nat} {e:TypeId} {o:Option Addr} {n c m:Nat} {xs:List Value} (h:w.ownsRow base e size (.slice o n c) m xs):m<=c:=(uH h).1
theorem WT {w1 w3 w4:World} {B g4 on c3:Nat} {o3:Option Addr} {c0:Obj} (hz:B+1+1 < w1.heap.size) (hq3:ah w1 w3) (fE:(Value.slice o3 on c3).ownBlock=(Value.slice (some ⟨w1.heap.size,0,none⟩) 0 0).ownBlock∨(Value.slice o3 on c3).ownBlock=some (w1.alloc c0).heap.size) (hf4:Fr (fun k=>(Value.slice o3 on c3).ownBlock=some k) w3 w4) (hg4:(Value.slice o3 on c3).ownBlock=some g4∨w3.heap.size<=g4):ah w1 w4/\B+1+1 < g4:=by
 have hw1:(w1.alloc c0).heap.size=w1.heap.size+1:=by simp
 have hob:∀ k,(Value.slice o3 on c3).ownBlock=some k->w1.heap.size<=k:=fun k hk=>by
  rcases fE with e | e
  ·rw [e] at hk;simp [Value.ownBlock] at hk;omega
  ·rw [e] at hk;cases hk;omega
 refine ⟨Fr.trans' hq3 hf4 (fun i hi e=>by have:=hob i e;omega),?_⟩
 rcases hg4 with e | e
 ·have:=hob _ e;omega
 ·have:=hq3.size;omega
theorem WU {R : Nat -> Prop} {W w1 w4 : World} {B most : Nat} {d1 : Dk} {own : Nat} {h : Nd} {o1 : Option Addr} {l1 c1 : Nat} {o2 : Option Addr} {l2 c2 : Nat} {lo : Option Addr} {ln lc : Nat} {oo : Option Addr} {on oc : Nat} {inn : Int} {g c : Nat} {vl : List Int} (hk : fJ (RB R B) w1 most d1 lo ln lc oo on oc) (hon : on + 1 <= d1.next) (hq1 : ah W w1) (hq : ah w1 w4) (hB : W.heap.size = B)
    (hb0:w1.heap[B]?=some (.cells (r5 lo ln lc d1.next most oo on oc inn) 70 (0,0))) (hb1:w1.heap[B+1]?=some (.cells (cells9 h o1 l1 c1 o2 l2 c2) 29 (0,0))) (hb2:w1.heap[B+1+1]?=some (.cells #[.slice none 0 0,.int .i64 0,.int .i64 0,.slice none 0 0,.int .i64 0] 70 (0,0)))
    (ho:w4.ownsRow 0 3 1 (.slice (some ⟨g,0,none⟩) (on+1) c) (on+1) (vl.map (Value.int .i64)++[.int .i64 (own:Int)])) (hvl:vl.length=on) (hg:B+1+1 < g) :
    TmS R W B d1 most h o1 l1 c1 o2 l2 c2 lo ln lc inn (w4.setCell ⟨B,3,none⟩ (.slice (some ⟨g,0,none⟩) (on+1) c)):=by
 have hs:=Fr.setCell (fun i=>i=B) w4 ⟨B,3,none⟩ (.slice (some ⟨g,0,none⟩) (on+1) c) rfl
 have hf:Fr (fun i=>i=B) w1 (w4.setCell ⟨B,3,none⟩ (.slice (some ⟨g,0,none⟩) (on+1) c)):=(hq.mono (fun _ _ h=>h.elim)).trans hs
 have hR:∀ k,k < w1.heap.size->RB R B k->RB R B k/\¬ k=B:=fun k _ h=>⟨h,fun e=>by rcases h with h | h<;>omega⟩
 have hk':=hk.fr hf hR
 refine ⟨some ⟨g,0,none⟩,on+1,c,aB (i:=3) (ak hq hb0),ay hs (by intro h;have h':B+1=B:=h;omega) (ak hq hb1),ay hs (by intro h;have h':B+1+1=B:=h;omega) (ak hq hb2),⟨hk'.len,hk'.cap,hk'.eqs,hk'.few,.inr ⟨g,0,rfl,.inr hg,vl++[(own:Int)],by simp [hvl],fun j x hj=>?_⟩,hon,(TY ho)⟩,Fr.trans' hq1 hf (fun i hi e=>by have e':i=B:=e;omega)⟩
 have hc:=ho.cells (g:=g) rfl j (.int .i64 x) (by
  have:=congrArg (Option.map (Value.int .i64)) hj
  rw [<-List.getElem?_map] at this
  simpa using this)
 rw [Addr.add_lit] at hc
 exact (hs.bG (World.block_lt_of_cell? w4 _ hc) (by intro e;have e':g=B:=e;omega)).trans hc
theorem mD {R:Nat->Prop} {W w5 wf:World} {B most:Nat} {fin:Dk} {lo:Option Addr} {ln lc:Nat} {oo:Option Addr} {on oc:Nat} (hk:fJ (RB R B) w5 most fin lo ln lc oo on oc) (hq:ah W w5) (hf:Fr (fun k=>k=B+1+1) w5 wf) (hB:W.heap.size=B):fJ (fun k=>R k∨W.heap.size<=k) wf most fin lo ln lc oo on oc/\ah W wf :=
 ⟨hk.fr hf (fun k _ h=>⟨by rcases h with h | h;exact .inl h.1;exact .inr (by omega),fun e=>by have e':k=B+1+1:=e;rcases h with h | h<;>omega⟩),Fr.trans' hq hf (fun i hi e=>by have e':i=B+1+1:=e;omega)⟩
theorem iO {R:Nat->Prop} {w w':World} {B most:Nat} {fin:Dk} {lo:Option Addr} {ln lc:Nat} {oo:Option Addr} {on oc:Nat} (hk:fJ (fun k=>RB R B k∨w.heap.size<=k) w' most fin lo ln lc oo on oc) (hz:B+1+1 < w.heap.size):fJ (RB R B) w' most fin lo ln lc oo on oc :=
 hk.mono (fun k _ h=>h.elim id (fun h=>.inr (by omega)))
end Em
end
section
open Go.RowKit
namespace Em
theorem jk:Elem Tryz.prog 105 108 (.agg #[.string ⟨#[]⟩,.int .i64 0,.bool false,.int .i64 0,.string ⟨#[]⟩,.int .i64 0,.int .i64 0,.int .i64 0,.slice none 0 0,.slice none 0 0,.int .i64 0,.int .i64 0,.slice none 0 0]) 13 168 :=
 ⟨Tryz.underlying105,by kernel_rfl,by decide,by decide⟩
theorem EvS.row {R:Nat->Prop} {w:World} {o:Option Addr} {n:Nat} {e:Ev} (h:EvS R w o n e):∃ xs,oM R w xs e/\xs.length=n * 13/\(∀ u∈xs,u.oneCell'=true)/\∀ j u,xs[j]?=some u->∃ b off,o=some ⟨b,off,none⟩/\w.cell? ⟨b,off+j,none⟩=some u:=by
 obtain ⟨h1,h2,h3⟩:=h
 cases e with
 | nil=>exact ⟨[],rfl,by rw [h1];rfl,fun u hu=>(by cases hu),fun j u hj=>by simp at hj⟩
 | cons nm v ag h ps ar r =>
  obtain ⟨b,off,e,ha⟩:=h3 (by rw [h1];exact Nat.succ_pos _)
  obtain ⟨xs,k1,k2⟩:=rZ.row _ b off ha
  obtain ⟨k3,k4⟩:=oM.length _ _ k1
  exact ⟨xs,k1,by rw [k3,h1],k4,fun j u hj=>⟨b,off,e,k2 j u hj⟩⟩
theorem WV {T : Nat -> Prop} {w : World} {xs : List Value} {ev : Ev} {nm : ByteArray} {v : Nat} {ag : Bool} {h : Nd} {ps : To} {ar : Ev} {o1 : Option Addr} {l1 c1 : Nat} {o2 : Option Addr} {l2 c2 : Nat} {ao : Option Addr} {an ac : Nat} {o4 : Option Addr} {en c : Nat} (hx : oM T w xs ev) (hs : aC T w o1 l1 h.tp) (ht : aY T w o2 l2 ps) (he : EvS T w ao an ar) (hl : an <= ac)
    (ho:w.ownsRow 0 108 13 (.slice o4 (en+1) c) (en+1) (xs++(eY nm v ag h o1 l1 c1 o2 l2 c2 ao an ac).toList)) (hn:en=ev.length) (hz:en+1<=1000000) (hg:∀ k,(Value.slice o4 (en+1) c).ownBlock=some k->T k):EvS T w o4 (en+1) (ev.snoc nm v ag h ps ar)/\en+1<=c:=by
 obtain ⟨hc,hh⟩:=uH ho
 obtain ⟨g,rfl⟩:=hh (by omega)
 refine ⟨⟨by rw [Ev.zL,hn],hz,fun _=>⟨g,0,rfl,oM.at (hg g rfl) _ _ 0 (oM.snoc (c1:=c1) (c2:=c2) hs ht he hl _ _ hx) (fun j u hj=>?_)⟩⟩,hc⟩
 have:=ho.cells (g:=g) rfl j u hj
 simpa [Addr.add_lit] using this
end Em
end
section
open Go.RowKit
namespace Em
abbrev En:Type:=ByteArray × Nat × Bool × Nd × To × Ev
abbrev en0:En:=(⟨#[]⟩,0,false,nd0,.nil,.nil)
def rF:Ev->ByteArray->En->En
 | .nil,_,a=>a
 | .cons nm v ag h ps ar r,s,a=>rF r s (if nm=s then (nm,v,ag,h,ps,ar) else a)
def ND (most:Nat) (a:En):Dm Nat:=if a.2.2.1 then jM most a.2.2.2.1 (dD most a.2.2.2.2.1) (kY most a.2.2.2.2.2) else jG a.2.1
def lookO:aS->ByteArray->Dm Nat->Dm Nat
 | [],_,x=>x
 | y::r,s,x=>if y.1=s then y.2 else lookO r s x
theorem EY:∀ (e:aS) (s:ByteArray),lookO e s (jG 0)=jU e s
 | [],_=>rfl
 | y::r,s=>by unfold lookO jU;rw [EY r s]
theorem EZ (y:ByteArray × Dm Nat) (s:ByteArray) (x:Dm Nat):∀ e:aS,lookO (e++[y]) s x=lookO e s (if y.1=s then y.2 else x)
 | []=>rfl
 | z::r=>by
  show (if z.1=s then z.2 else lookO (r++[y]) s x)=(if z.1=s then z.2 else lookO r s _)
  rw [EZ y s x r]
theorem E5 (most:Nat) (s:ByteArray):∀ (e:Ev) (a:En),lookO (kY most e) s (ND most a)=ND most (rF e s a)
 | .nil,a=>rfl
 | .cons nm v ag h ps ar r,a=>by
  unfold kY rF
  rw [EZ,<-E5 most s r]
  congr 1
  by_cases hn:nm=s
  ·rw [if_pos hn,if_pos hn];rfl
  ·rw [if_neg hn,if_neg hn]
theorem Lc (most:Nat) (e:Ev) (s:ByteArray):jU (kY most e) s=ND most (rF e s en0):=by
 rw [<-E5,<-EY]
 rfl
def X3 (most:Nat) (a:En):Prop:=a.2.2.1=true->Zu most a.2.2.2.1 a.2.2.2.2.1 a.2.2.2.2.2
theorem Ua (most:Nat):X3 most en0:=fun h=>by cases h
def aa0 (R:Nat->Prop) (w:World) (a:En) (o1:Option Addr) (l1:Nat) (o2:Option Addr) (l2:Nat) (ao:Option Addr) (an ac:Nat):Prop:=aC R w o1 l1 a.2.2.2.1.tp/\aY R w o2 l2 a.2.2.2.2.1/\EvS R w ao an a.2.2.2.2.2/\an<=ac
theorem Zv (R:Nat->Prop) (w:World):aa0 R w en0 none 0 none 0 none 0 0:=⟨aC.nil _ _ _,aY.nil _ _ _,EvS.nil _ _ _,Nat.le_refl _⟩
abbrev WW (a:En) (o1:Option Addr) (l1 c1:Nat) (o2:Option Addr) (l2 c2:Nat) (ao:Option Addr) (an ac:Nat):Array Value:=eY a.1 a.2.1 a.2.2.1 a.2.2.2.1 o1 l1 c1 o2 l2 c2 ao an ac
end Em
end
end Go.Proofs.YtcninopmelmajaaGreatDoor
