/-
  Texts laid together (RqVal, RqAdd, RqArr): laws and walks, with their conditions.
-/
import Derived.Test.YtcninopmelmajaaDoorTX33
set_option maxHeartbeats 8000000
set_option maxRecDepth 1000000
namespace Go.Proofs.YtcninopmelmajaaDoor
open Go.Lib (hid)
section
open Go.RowKit
namespace Em
abbrev r5 (lo:Option Addr) (ln lc:Nat) (next:Int) (most:Nat) (oo:Option Addr) (on oc:Nat) (inn:Int):Array Value:=#[.slice lo ln lc,.int .i64 next,.int .i64 most,.slice oo on oc,.int .i64 inn]
abbrev gK (lo:Option Addr) (ln lc:Nat) (next:Int) (most:Nat) (oo:Option Addr) (on oc:Nat) (inn:Int):Value:=.agg (r5 lo ln lc next most oo on oc inn)
def OwnAt (R:Nat->Prop) (w:World) (oo:Option Addr) (on:Nat):Prop:=on=0∨∃ b off,oo=some ⟨b,off,none⟩/\R b/\∃ vl:List Int,vl.length=on/\∀ j x,vl[j]?=some x->w.cell? ⟨b,off+j,none⟩=some (.int .i64 x)
theorem OwnAt.fr {R T S:Nat->Prop} {w w':World} {oo:Option Addr} {on:Nat} (h:OwnAt R w oo on) (hf:Fr S w w') (hR:∀ k,k < w.heap.size->R k->T k/\¬ S k):OwnAt T w' oo on:=by
 rcases h with h | ⟨b,off,e,hb,vl,h1,h2⟩
 ·exact .inl h
 ·cases vl with
  | nil=>exact .inl h1.symm
  | cons v r =>
   have hlt:=World.block_lt_of_cell? w _ (h2 0 v rfl);exact .inr ⟨b,off,e,(hR b hlt hb).1,_,h1,fun j x hj=>(hf.aY hlt (hR b hlt hb).2).trans (h2 j x hj)⟩
def WQ (R:Nat->Prop) (w:World) (o:Option Addr) (l:List lF):Prop:=l.length<=4096/\(∀ t∈l,t.1.2.2.size<=100000/\t.2.1.2.2.size<=100000)/\(l=[]∨∃ b off,o=some ⟨b,off,none⟩/\R b/\Ep R w b off l)
theorem Ep.fr {R T S:Nat->Prop} {w w':World} {b off:Nat} {l:List lF} (h:Ep R w b off l) (hf:Fr S w w') (hR:∀ k,k < w.heap.size->R k->T k/\¬ S k) (hb:R b):Ep T w' b off l:=by
 intro i t hi;obtain ⟨o1,l1,c1,o2,l2,c2,s1,s2,a0,a1,a2,a3,a4,a5,a6,a7⟩:=h i t hi;have hlt:=World.block_lt_of_cell? w _ a0;have hs:=(hR b hlt hb).2;exact ⟨o1,l1,c1,o2,l2,c2,s1.fr hf hR,s2.fr hf hR,(hf.aY hlt hs).trans a0,(hf.aY hlt hs).trans a1,(hf.aY hlt hs).trans a2,(hf.aY hlt hs).trans a3,(hf.aY hlt hs).trans a4,(hf.aY hlt hs).trans a5,(hf.aY hlt hs).trans a6,(hf.aY hlt hs).trans a7⟩
theorem WQ.fr {R T S:Nat->Prop} {w w':World} {o:Option Addr} {l:List lF} (h:WQ R w o l) (hf:Fr S w w') (hR:∀ k,k < w.heap.size->R k->T k/\¬ S k):WQ T w' o l:=by
 refine ⟨h.1,h.2.1,?_⟩;rcases h.2.2 with e | ⟨b,off,h1,h2,h3⟩
 ·exact .inl e
 ·cases l with
  | nil=>exact .inl rfl
  | cons t r =>
   obtain ⟨_,_,_,_,_,_,_,_,a0,_⟩:=h3 0 t rfl;exact .inr ⟨b,off,h1,(hR b (World.block_lt_of_cell? w _ a0) h2).1,h3.fr hf hR h2⟩
structure fH (R:Nat->Prop) (w:World) (most:Nat) (d:Dk) (lo:Option Addr) (ln lc:Nat) (oo:Option Addr) (on oc:Nat):Prop where
 len:ln=d.L.length
 cap:ln<=lc
 eqs:WQ R w lo d.L
 few:d.L.length<=most+1
 own:OwnAt R w oo on
 onl:on<=d.next
 onc:on<=oc
theorem fH.fr {R T S:Nat->Prop} {w w':World} {most:Nat} {d:Dk} {lo:Option Addr} {ln lc:Nat} {oo:Option Addr} {on oc:Nat} (h:fH R w most d lo ln lc oo on oc) (hf:Fr S w w') (hR:∀ k,k < w.heap.size->R k->T k/\¬ S k):fH T w' most d lo ln lc oo on oc :=
 ⟨h.len,h.cap,h.eqs.fr hf hR,h.few,h.own.fr hf hR,h.onl,h.onc⟩
theorem fH.stay {R:Nat->Prop} {w w':World} {most:Nat} {d:Dk} {lo:Option Addr} {ln lc:Nat} {oo:Option Addr} {on oc:Nat} (h:fH R w most d lo ln lc oo on oc) (hq:ah w w'):fH R w' most d lo ln lc oo on oc:=h.fr hq (fun _ _ hk=>⟨hk,fun h=>h⟩)
theorem fH.mono {R T:Nat->Prop} {w:World} {most:Nat} {d:Dk} {lo:Option Addr} {ln lc:Nat} {oo:Option Addr} {on oc:Nat} (h:fH R w most d lo ln lc oo on oc) (hk:∀ k,k < w.heap.size->R k->T k):fH T w most d lo ln lc oo on oc:=h.fr (Fr.refl (fun _=>False) w) (fun k hl hr=>⟨hk k hl hr,fun h=>h⟩)
def sW (R:Nat->Prop) (w:World) (most:Nat) (d:Dk) (x:Ending) (w':World):Prop:=∃ lo ln lc oo on oc inn,x=.returned (gK lo ln lc d.next most oo on oc inn)/\fH (fun k=>R k∨w.heap.size<=k) w' most d lo ln lc oo on oc/\ah w w'
theorem five {W : World} {b : Nat} {v0 v1 v2 v3 v4 : Value} {t : TypeId} (h : W.heap[b]? = some (.cells #[v0, v1, v2, v3, v4] t (0, 0))) : (W.cell? ⟨b, 0, none⟩ = some v0 /\ W.cell? ⟨b, 1, none⟩ = some v1 /\ W.cell? ⟨b, 2, none⟩ = some v2 /\ W.cell? ⟨b, 3, none⟩ = some v3 /\ W.cell? ⟨b, 4, none⟩ = some v4) /\
    W.frozen? ⟨b,0,none⟩=false/\W.frozen? ⟨b,1,none⟩=false/\W.frozen? ⟨b,2,none⟩=false/\W.frozen? ⟨b,3,none⟩=false/\W.frozen? ⟨b,4,none⟩=false:=by
 refine ⟨⟨?_,?_,?_,?_,?_⟩,?_,?_,?_,?_,?_⟩
 all_goals first | (rw [cell_of_row _ _ _ _ _ (0,0) h];rfl) | simp [World.frozen?,h]
def iD (w:World) (B:Nat) (a b c d e:Value):World:=((((w.setCell ⟨B,0,none⟩ a).setCell ⟨B,1,none⟩ b).setCell ⟨B,2,none⟩ c).setCell ⟨B,3,none⟩ d).setCell ⟨B,4,none⟩ e
theorem eU (w:World) (B:Nat) (a b c d e:Value):Fr (fun k=>k=B) w (iD w B a b c d e) :=
 ((((Fr.setCell (fun k=>k=B) w ⟨B,0,none⟩ a rfl).trans (Fr.setCell (fun k=>k=B) _ ⟨B,1,none⟩ b rfl)).trans (Fr.setCell (fun k=>k=B) _ ⟨B,2,none⟩ c rfl)).trans (Fr.setCell (fun k=>k=B) _ ⟨B,3,none⟩ d rfl)).trans (Fr.setCell (fun k=>k=B) _ ⟨B,4,none⟩ e rfl)
theorem bV {w:World} {B:Nat} {a b c d e a' b' c' d' e':Value} {t:TypeId} (h:w.heap[B]?=some (.cells #[a',b',c',d',e'] t (0,0))):(iD w B a b c d e).heap[B]?=some (.cells #[a,b,c,d,e] t (0,0)) :=
 aF (i:=4) (u:=e) (aF (i:=3) (u:=d) (aF (i:=2) (u:=c) (aF (i:=1) (u:=b) (aF (i:=0) (u:=a) h))))
theorem iZ {w:World} {b size:Nat} {e:TypeId} (h:w.heap[b]?=some (.cells #[] e (0,0))):w.ownsRow 0 e size (.slice (some ⟨b,0,none⟩) 0 0) 0 [] :=
 ⟨by simp,.inr ⟨b,0,#[],rfl,Nat.zero_le _,h,Nat.le_refl _,Nat.zero_le _,by simp,by simp⟩⟩
theorem WQ.row {R:Nat->Prop} {w:World} {o:Option Addr} {l:List lF} (h:WQ R w o l):∃ xs,jI R w xs l/\xs.length=l.length*8/\(∀ u∈xs,u.oneCell'=true)/\∀ j u,xs[j]?=some u->∃ b off,o=some ⟨b,off,none⟩/\w.cell? ⟨b,off+j,none⟩=some u:=by
 have key:∀ (l:List lF) (b off:Nat),Ep R w b off l->∃ xs,jI R w xs l/\(∀ u∈xs,u.oneCell'=true)/\∀ j u,xs[j]?=some u->w.cell? ⟨b,off+j,none⟩=some u:=by
  intro l
  induction l with
  | nil=>intro b off _;exact ⟨[],rfl,fun u hu=>(by cases hu),fun j u hj=>by simp at hj⟩
  | cons t r ih =>
   intro b off hq;obtain ⟨o1,l1,c1,o2,l2,c2,s1,s2,a0,a1,a2,a3,a4,a5,a6,a7⟩:=hq 0 t rfl;obtain ⟨ys,hy1,hy2,hy3⟩:=ih b (off+8) (fun i u hi=>by
    obtain ⟨p1,m1,d1,p2,m2,d2,q1,q2,b0,b1,b2,b3,b4,b5,b6,b7⟩:=hq (i+1) u (by simpa using hi);have e:∀ j,off+(i+1)*8+j=off+8+i*8+j:=fun j=>by omega
    have e0:off+(i+1)*8=off+8+i*8:=by omega
    rw [e0] at b0;rw [e] at b1 b2 b3 b4 b5 b6 b7;exact ⟨p1,m1,d1,p2,m2,d2,q1,q2,b0,b1,b2,b3,b4,b5,b6,b7⟩)
   refine ⟨(ec t o1 l1 c1 o2 l2 c2).toList++ys,⟨o1,l1,c1,o2,l2,c2,ys,rfl,s1,s2,hy1⟩,fun u hu=>?_,fun j u hj=>?_⟩
   ·rcases List.mem_append.1 hu with hu | hu
    ·simp at hu;rcases hu with rfl | rfl | rfl | rfl | rfl | rfl | rfl | rfl<;>rfl
    ·exact hy2 u hu
   ·simp only [Nat.zero_mul,Nat.add_zero] at a0 a1 a2 a3 a4 a5 a6 a7
    by_cases h8:j < 8
    ·rw [List.getElem?_append_left (by simpa using h8)] at hj
     match j,h8,hj with
     | 0,_,hj=>simp at hj;subst hj;exact a0
     | 1,_,hj=>simp at hj;subst hj;exact a1
     | 2,_,hj=>simp at hj;subst hj;exact a2
     | 3,_,hj=>simp at hj;subst hj;exact a3
     | 4,_,hj=>simp at hj;subst hj;exact a4
     | 5,_,hj=>simp at hj;subst hj;exact a5
     | 6,_,hj=>simp at hj;subst hj;exact a6
     | 7,_,hj=>simp at hj;subst hj;exact a7
    ·have k:=hy3 (j-8) u (by rw [List.getElem?_append_right (by simp;omega)] at hj;simpa using hj);rw [<-k];congr 2;omega
 rcases h.2.2 with e | ⟨b,off,rfl,_,hq⟩
 ·subst e;exact ⟨[],rfl,rfl,fun u hu=>(by cases hu),fun j u hj=>by simp at hj⟩
 ·obtain ⟨xs,h1,h2,h3⟩:=key l b off hq;exact ⟨xs,h1,jI.length _ _ h1,h2,fun j u hj=>⟨_,_,rfl,h3 j u hj⟩⟩
theorem QH {R : Nat -> Prop} {w : World} {l : List lF} {t : lF} {xs : List Value} {g n c : Nat} {o1 : Option Addr} {l1 c1 : Nat} {o2 : Option Addr} {l2 c2 : Nat} (hg : R g) (hx : jI R w xs l) (s1 : aB R w o1 l1 t.1.2.2) (s2 : aB R w o2 l2 t.2.1.2.2)
    (ho:w.ownsRow 0 43 8 (.slice (some ⟨g,0,none⟩) n c) n (xs++(ec t o1 l1 c1 o2 l2 c2).toList)) (hz:l.length+1<=4096) (hs:∀ u∈l,u.1.2.2.size<=100000/\u.2.1.2.2.size<=100000) (ht:t.1.2.2.size<=100000/\t.2.1.2.2.size<=100000):WQ R w (some ⟨g,0,none⟩) (l++[t]):=by
 refine ⟨by simp;omega,fun u hu=>?_,.inr ⟨g,0,rfl,hg,Ep.Lj (jI.snoc (c1:=c1) (c2:=c2) s1 s2 l xs hx) (fun j u hj=>?_)⟩⟩
 ·rcases List.mem_append.1 hu with hu | hu
  ·exact hs u hu
  ·rw [List.mem_singleton.1 hu];exact ht
 ·have:=ho.cells (g:=g) rfl j u hj;simpa [Addr.add_lit] using this
end Em
end
section
open Go.RowKit
namespace Em
theorem fZ (n:Int) (w:World):Calls Tryd.prog 32 #[.int .i64 n] w fun e w'=>e=.returned (.agg #[.int .i64 1,.int .i64 n,.slice none 0 0])/\ah w w':=by
 have hb:=heap_alloc_new w (.cells #[.int .i64 0,.int .i64 0,.slice none 0 0] 25);have HB:=hid hb;have HQ:=hid (ah.alloc w (.cells #[.int .i64 0,.int .i64 0,.slice none 0 0] 25));clear hb;go_enter Tryd.func32,Tryd.ntmps32;obtain ⟨W0,hW0⟩:∃ W0,W0=w.alloc (.cells #[.int .i64 0,.int .i64 0,.slice none 0 0] 25):=⟨_,rfl⟩;generalize dV:w.heap.size=B at *;go_upto_region 1 with fail
 rw [<-hW0] at HB HQ ⊢;clear hW0;obtain ⟨d0,d1,d2,y0,y1,y2⟩:=ay HB.out;go_wp2_with fail;clear d0 d1 d2 y0 y1 y2;have hf:=aZ W0 B (.int .i64 1) (.int .i64 n) (.slice none 0 0);obtain ⟨f0,f1,f2⟩:=aV (a:=.int .i64 1) (b:=.int .i64 n) (c:=.slice none 0 0) HB.out;change bodyPost _ _ _ _ _ (bf W0 B (.int .i64 1) (.int .i64 n) (.slice none 0 0));generalize bf W0 B (.int .i64 1) (.int .i64 n) (.slice none 0 0)=wf at *;refine bodyPost_ret (by simp [results,Tryd.results32,go_sem,f0,f1,f2];rfl) rfl ?_;exact ⟨rfl,Fr.trans' HQ.out hf (fun i hi h=>by have h':i=B:=h;omega)⟩
theorem uP {w:World} {base size:Nat} {e:TypeId} {o:Option Addr} {n c m:Nat} {xs:List Value} (h:w.ownsRow base e size (.slice o n c) m xs):m<=c/\(0 < m->∃ g,o=some ⟨g,0,none⟩):=by
 rcases h.2 with ⟨h1,h2⟩ | ⟨g,cap,cur,h1,_,_,h4,_⟩
 ·injection h1 with e1 e2 e3
  exact ⟨by omega,fun h=>by omega⟩
 ·injection h1 with e1 e2 e3
  exact ⟨by omega,fun _=>⟨g,e1⟩⟩
theorem X6 {R T S : Nat -> Prop} {w0 w : World} {most : Nat} {d : Dk} {lo : Option Addr} {ln lc : Nat} {oo : Option Addr} {on oc : Nat} (hk : fH R w0 most d lo ln lc oo on oc) (hf : Fr S w0 w) (hR : ∀ k, k < w0.heap.size -> R k -> T k /\ ¬ S k) {xs : List Value} (hrow : jI R w0 xs d.L) {l r : Ty} {fr en : Int} {o1 : Option Addr} {l1 c1 : Nat} {o2 : Option Addr} {l2 c2 : Nat} (s1 : aB R w0 o1 l1 l.2.2) (s2 : aB R w0 o2 l2 r.2.2) {o4 : Option Addr} {c4 : Nat}
    (ho:w.ownsRow 0 43 8 (.slice o4 (ln+1) c4) (ln+1) (xs++(ec (l,r,fr,en) o1 l1 c1 o2 l2 c2).toList)) (hT:∀ k,(Value.slice o4 (ln+1) c4).ownBlock=some k->T k) (z1:l.2.2.size<=100000) (z2:r.2.2.size<=100000) (hl:ln=d.L.length) (hle:ln<=most) (hm:most<=4000):WQ T w o4 (d.L++[(l,r,fr,en)]):=by
 obtain ⟨g,rfl⟩:=(uP ho).2 (by omega);exact QH (t:=(l,r,fr,en)) (hT g rfl) (jI.fr hf hR _ _ hrow) (s1.fr hf hR) (s2.fr hf hR) ho (by omega) hk.eqs.2.1 ⟨z1,z2⟩
def abD (R:Nat->Prop) (w:World) (B:Nat) (fin:Dk) (most:Nat) (z5:Array Value) (nx:Int) (oo:Option Addr) (on oc:Nat) (inn:Int) (wx:World):Prop :=
 ∃ lo ln lc,(∀ wf,Fr (fun i=>i=B+1+1+1+1) wx wf->fH (fun k=>R k∨B<=k) wf most fin lo ln lc oo on oc/\ah w wf)/\wx.heap[B]?=some (.cells #[.slice lo ln lc,.int .i64 nx,.int .i64 most,.slice oo on oc,.int .i64 inn] 61 (0,0))/\wx.heap[B+1+1+1+1]?=some (.cells z5 61 (0,0))
theorem DT {R : Nat -> Prop} {w W0 w4 : World} {B : Nat} {d fin : Dk} {most : Nat} {lo : Option Addr} {ln lc : Nat} {oo : Option Addr} {on oc : Nat} {inn : Int} {z5 : Array Value} {o4 : Option Addr} {c4 : Nat} {l r : Ty} {fr en : Int} {o1 : Option Addr} {l1 c1 : Nat} {o2 : Option Addr} {l2 c2 : Nat} {xs : List Value} (hq0 : ah w W0) (hb0 : W0.heap[B]? = some (.cells #[.slice lo ln lc, .int .i64 d.next, .int .i64 most, .slice oo on oc, .int .i64 inn] 61 (0, 0))) (hb4 : W0.heap[B + 1 + 1 + 1 + 1]? = some (.cells z5 61 (0, 0))) (hk : fH R w most d lo ln lc oo on oc)
    (hrow:jI R w xs d.L) (s1:aB R w o1 l1 l.2.2) (s2:aB R w o2 l2 r.2.2) (hf:fin={ d with L:=d.L++[(l,r,fr,en)] }) (hq:ah W0 w4) (ho:w4.ownsRow 0 43 8 (.slice o4 (ln+1) c4) (ln+1) (xs++(ec (l,r,fr,en) o1 l1 c1 o2 l2 c2).toList)) (hob:∀ k,(Value.slice o4 (ln+1) c4).ownBlock=some k->W0.heap.size<=k) (z1:l.2.2.size<=100000) (z2:r.2.2.size<=100000) (hl:ln=d.L.length) (hle:ln<=most) (hm:most<=4000) (hz:B+1+1+1+1 < W0.heap.size) (hB:w.heap.size=B) :
    abD R w B fin most z5 d.next oo on oc inn (w4.setCell ⟨B,0,none⟩ (.slice o4 (ln+1) c4)):=by
 have hs:=Fr.setCell (fun i=>i=B) w4 ⟨B,0,none⟩ (.slice o4 (ln+1) c4) rfl;refine ⟨o4,ln+1,c4,fun wf hwf=>?_,aF (i:=0) (au hq hb0),aC hs (by intro h;have h':B+1+1+1+1=B:=h;omega) (au hq hb4)⟩;have fJ:ah w wf:=Fr.trans' (Fr.trans' (hq0.trans hq) hs (fun i hi e=>by have e':i=B:=e;omega)) hwf (fun i hi e=>by have e':i=B+1+1+1+1:=e;omega);have hok:wf.ownsRow 0 43 8 (.slice o4 (ln+1) c4) (ln+1) (xs++(ec (l,r,fr,en) o1 l1 c1 o2 l2 c2).toList) :=
  aU (aU ho hs (fun k hk e=>by have e':k=B:=e;have:=hob k hk;omega)) hwf (fun k hk e=>by have e':k=B+1+1+1+1:=e;have:=hob k hk;omega)
 have hRT:∀ k,k < w.heap.size->R k->(R k∨B<=k)/\¬ False:=fun k _ h=>⟨.inl h,fun h=>h⟩
 have hex:=X6 (T:=fun k=>R k∨B<=k) hk fJ hRT hrow s1 s2 hok (fun k hk=>.inr (by have:=hob k hk;omega)) z1 z2 hl hle hm;have hko:=hk.fr fJ hRT;refine ⟨?_,fJ⟩;subst hf;exact ⟨by simp [hl],(uP ho).1,hex,by simp;omega,hko.own,hko.onl,hko.onc⟩
theorem add_any {R : Nat -> Prop} {w : World} {most : Nat} {d : Dk} {lo : Option Addr} {ln lc : Nat} {oo : Option Addr} {on oc : Nat} (inn : Int) (hk : fH R w most d lo ln lc oo on oc) (hm : most <= 4000) (l r : Ty) (fr en : Int) {o1 : Option Addr} {l1 c1 : Nat} {o2 : Option Addr} {l2 c2 : Nat} (s1 : aB R w o1 l1 l.2.2) (s2 : aB R w o2 l2 r.2.2) (z1 : l.2.2.size <= 100000) (z2 : r.2.2.size <= 100000) :
    Calls Tryd.prog 31 #[gK lo ln lc d.next most oo on oc inn,fG l.1 l.2.1 o1 l1 c1,fG r.1 r.2.1 o2 l2 c2,.agg #[.int .i64 fr,.int .i64 en]] w (sW R w most (dP most l r fr en d).2):=by
 obtain ⟨W0,hW0⟩:∃ W0,W0=(((((w.alloc (.cells #[.slice lo ln lc,.int .i64 d.next,.int .i64 most,.slice oo on oc,.int .i64 inn] 61)).alloc (.cells #[.int .i64 l.1,.int .i64 l.2.1,.slice o1 l1 c1] 25)).alloc (.cells #[.int .i64 r.1,.int .i64 r.2.1,.slice o2 l2 c2] 25)).alloc (.cells #[.int .i64 fr,.int .i64 en] 28)).alloc (.cells #[.slice none 0 0,.int .i64 0,.int .i64 0,.slice none 0 0,.int .i64 0] 61)):=⟨_,rfl⟩;have vG:ah w W0:=by rw [hW0];exact ((((ah.alloc _ _).trans (ah.alloc _ _)).trans (ah.alloc _ _)).trans (ah.alloc _ _)).trans (ah.alloc _ _)
 have yC:(w.alloc (.cells #[.slice lo ln lc,.int .i64 d.next,.int .i64 most,.slice oo on oc,.int .i64 inn] 61)).heap.size=w.heap.size+1:=by simp
 have yD:((w.alloc (.cells #[.slice lo ln lc,.int .i64 d.next,.int .i64 most,.slice oo on oc,.int .i64 inn] 61)).alloc (.cells #[.int .i64 l.1,.int .i64 l.2.1,.slice o1 l1 c1] 25)).heap.size=w.heap.size+1+1:=by simp
 have abE:(((w.alloc (.cells #[.slice lo ln lc,.int .i64 d.next,.int .i64 most,.slice oo on oc,.int .i64 inn] 61)).alloc (.cells #[.int .i64 l.1,.int .i64 l.2.1,.slice o1 l1 c1] 25)).alloc (.cells #[.int .i64 r.1,.int .i64 r.2.1,.slice o2 l2 c2] 25)).heap.size=w.heap.size+1+1+1:=by simp
 have abG:((((w.alloc (.cells #[.slice lo ln lc,.int .i64 d.next,.int .i64 most,.slice oo on oc,.int .i64 inn] 61)).alloc (.cells #[.int .i64 l.1,.int .i64 l.2.1,.slice o1 l1 c1] 25)).alloc (.cells #[.int .i64 r.1,.int .i64 r.2.1,.slice o2 l2 c2] 25)).alloc (.cells #[.int .i64 fr,.int .i64 en] 28)).heap.size=w.heap.size+1+1+1+1:=by simp
 have yE:W0.heap[w.heap.size]?=some (.cells #[.slice lo ln lc,.int .i64 d.next,.int .i64 most,.slice oo on oc,.int .i64 inn] 61 (0,0)):=by
  rw [hW0];have k:=heap_alloc_new w (.cells #[.slice lo ln lc,.int .i64 d.next,.int .i64 most,.slice oo on oc,.int .i64 inn] 61);exact au ((((ah.alloc _ _).trans (ah.alloc _ _)).trans (ah.alloc _ _)).trans (ah.alloc _ _)) k
 have yF:W0.heap[w.heap.size+1]?=some (.cells #[.int .i64 l.1,.int .i64 l.2.1,.slice o1 l1 c1] 25 (0,0)):=by
  rw [hW0];have k:=heap_alloc_new (w.alloc (.cells #[.slice lo ln lc,.int .i64 d.next,.int .i64 most,.slice oo on oc,.int .i64 inn] 61)) (.cells #[.int .i64 l.1,.int .i64 l.2.1,.slice o1 l1 c1] 25);rw [yC] at k;exact au (((ah.alloc _ _).trans (ah.alloc _ _)).trans (ah.alloc _ _)) k
 have um:W0.heap[w.heap.size+1+1]?=some (.cells #[.int .i64 r.1,.int .i64 r.2.1,.slice o2 l2 c2] 25 (0,0)):=by
  rw [hW0];have k:=heap_alloc_new ((w.alloc (.cells #[.slice lo ln lc,.int .i64 d.next,.int .i64 most,.slice oo on oc,.int .i64 inn] 61)).alloc (.cells #[.int .i64 l.1,.int .i64 l.2.1,.slice o1 l1 c1] 25)) (.cells #[.int .i64 r.1,.int .i64 r.2.1,.slice o2 l2 c2] 25);rw [yD] at k;exact au ((ah.alloc _ _).trans (ah.alloc _ _)) k
 have abH:W0.heap[w.heap.size+1+1+1]?=some (.cells #[.int .i64 fr,.int .i64 en] 28 (0,0)):=by
  rw [hW0];have k:=heap_alloc_new (((w.alloc (.cells #[.slice lo ln lc,.int .i64 d.next,.int .i64 most,.slice oo on oc,.int .i64 inn] 61)).alloc (.cells #[.int .i64 l.1,.int .i64 l.2.1,.slice o1 l1 c1] 25)).alloc (.cells #[.int .i64 r.1,.int .i64 r.2.1,.slice o2 l2 c2] 25)) (.cells #[.int .i64 fr,.int .i64 en] 28);rw [abE] at k;exact au (ah.alloc _ _) k
 have aaq:W0.heap[w.heap.size+1+1+1+1]?=some (.cells #[.slice none 0 0,.int .i64 0,.int .i64 0,.slice none 0 0,.int .i64 0] 61 (0,0)):=by
  rw [hW0];have k:=heap_alloc_new ((((w.alloc (.cells #[.slice lo ln lc,.int .i64 d.next,.int .i64 most,.slice oo on oc,.int .i64 inn] 61)).alloc (.cells #[.int .i64 l.1,.int .i64 l.2.1,.slice o1 l1 c1] 25)).alloc (.cells #[.int .i64 r.1,.int .i64 r.2.1,.slice o2 l2 c2] 25)).alloc (.cells #[.int .i64 fr,.int .i64 en] 28)) (.cells #[.slice none 0 0,.int .i64 0,.int .i64 0,.slice none 0 0,.int .i64 0] 61);rw [abG] at k;exact k
 clear yC yD abE abG;have bD:=hid vG;have HB0:=hid yE;have HB1:=hid yF;have HB2:=hid um;have HB3:=hid abH;have HB4:=hid aaq;have HK:=hid hk;have hk0:=hk;have nH:=hid s1;have HS2:=hid s2;obtain ⟨fin,hfin⟩:∃ fin,(dP most l r fr en d).2=fin:=⟨_,rfl⟩;have bF:=hid hfin;have qX:=hid hk.len;have hfew:=hk.few;have abI:=hk.eqs.1;rw [<-hk.len] at hfew abI;rw [hfin];have hz0:w.heap.size+1+1+1+1 < W0.heap.size:=lt_of_block aaq;clear hk s1 s2 vG yE yF um abH aaq hfin;unfold fG;unfold gK
 by_cases hle:ln<=most
 ·have hle':(ln:Int)<=most:=by omega
  have HF2:Hid (fin={ d with L:=d.L++[(l,r,fr,en)] }):=by show _=_;rw [<-bF.out];unfold dP;dsimp only;rw [if_pos (by rw [<-qX.out];exact hle)]
  go_enter Tryd.func31,Tryd.ntmps31;generalize dV:w.heap.size=B at *;go_upto_region 1 with fail
  rw [<-hW0];clear hW0;obtain ⟨⟨p0,p1,p2,p3,p4⟩,y0,y1,y2,y3,y4⟩:=five HB0.out;obtain ⟨u0,u1,u2,_⟩:=ay HB1.out;obtain ⟨v0,v1,v2,_⟩:=ay HB2.out;obtain ⟨x0,x1⟩:=yR HB3.out;have bK:Hid (∀ W,ah W0 W->(fun (W:World)=>(W.cell? ⟨B,0,none⟩=some (.slice lo ln lc))/\(yB W (B+1) (.int .i64 l.1) (.int .i64 l.2.1) (.slice o1 l1 c1))/\(yB W (B+1+1) (.int .i64 r.1) (.int .i64 r.2.1) (.slice o2 l2 c2))/\(W.cell? ⟨B+1+1+1,0,none⟩=some (.int .i64 fr)/\W.cell? ⟨B+1+1+1,1,none⟩=some (.int .i64 en))) W):=fun W hq=>by
   obtain ⟨⟨p0,p1,p2,p3,p4⟩,_⟩:=five HB0.out;obtain ⟨u0,u1,u2,_⟩:=ay HB1.out;obtain ⟨v0,v1,v2,_⟩:=ay HB2.out;obtain ⟨x0,x1⟩:=yR HB3.out;exact ⟨hq.at p0,⟨hq.at u0,hq.at u1,hq.at u2⟩,⟨hq.at v0,hq.at v1,hq.at v2⟩,hq.at x0,hq.at x1⟩
  obtain ⟨xs,hrow,hxl,hxo,hxc⟩:=HK.out.eqs.row;have MR:=hid hxc;have kZ:=hid hrow;have aar:xs.length=ln*8:=by rw [hxl,<-qX.out]
  clear hxc hrow hxl;go_upto_region 2 with fail
  clear p0 p1 p2 p3 p4 y0 y1 y2 y3 y4 u0 u1 u2 v0 v1 v2 x0 x1;go_cut [] (fun wx=>abD R w B fin most (#[.slice none 0 0,.int .i64 0,.int .i64 0,.slice none 0 0,.int .i64 0]) d.next oo on oc inn wx)
  case first =>
   refine HT.begin_ 11 (S:=(fun (W:World)=>(W.cell? ⟨B,0,none⟩=some (.slice lo ln lc))/\(yB W (B+1) (.int .i64 l.1) (.int .i64 l.2.1) (.slice o1 l1 c1))/\(yB W (B+1+1) (.int .i64 r.1) (.int .i64 r.2.1) (.slice o2 l2 c2))/\(W.cell? ⟨B+1+1+1,0,none⟩=some (.int .i64 fr)/\W.cell? ⟨B+1+1+1,1,none⟩=some (.int .i64 en)))) (by kernel_rfl) ?JZ (fun hHeld=>?_)
   case JZ=>exact bK.out _ (ah.drew W0)
   (try dsimp only at hHeld)
   have gq:=ah.drew W0;generalize W0.drew=wd at *;refine HT.tk 1 rfl ?_;go_frame;refine HT.tk 2 rfl ?_;go_frame;refine HT.tk 4 rfl ?_;go_frame;refine HT.tk 5 rfl ?_;go_frame;refine HT.tk 6 rfl ?_;go_frame;refine HT.tk 7 rfl ?_;go_frame;refine HT.branch (rs:=[0,8]) (by kernel_rfl) (by simp) ?_;refine HT.cn 0 rfl (fun K hK=>?_) ?_
   ·go_simp;obtain ⟨qB,kG⟩:∃ wa,wa=wd.alloc (.cells #[] 43):=⟨_,rfl⟩;have hqa:ah wd qB:=by rw [kG];exact ah.alloc _ _
    have hown:=iZ (size:=8) (show qB.heap[wd.heap.size]?=some (.cells #[] 43 (0,0)) by rw [kG];exact heap_alloc_new wd _);have hgl:W0.heap.size<=wd.heap.size:=(gq).size;have mQ:=(gq).trans hqa;rw [<-kG];clear kG;generalize wd.heap.size=ga at *;refine hK.out _ _ ?Vk (fun hHeld=>?_)
    case Vk=>exact bK.out _ mQ
    clear hK K
    (try go_frame)
    refine HT.branch (rs:=[3,8]) (by kernel_rfl) (by simp) ?_;refine HT.cn 3 rfl (fun K hK=>?_) ?_
    ·refine aI qB rfl (.tmp 15) (.tmp 17) 35 rfl 43 _ 8 96 BG (.slice (some ⟨ga,0,none⟩) 0 0) 0 [] rfl hown lo ln lc xs rfl aar ?abJ hxo (by unfold maxLen;omega) (by omega) ?_
     case abJ=>(intro j u hj;obtain ⟨b,off,e,hc⟩:=MR.out j u hj;subst e;exact ⟨_,rfl,by rw [Addr.add_lit];exact (bD.out.trans (mQ)).at hc⟩)
     intro o3 c3 jE ho3 hf3 iE hnil3;simp only [Nat.zero_add,List.nil_append] at ho3 iE hnil3 ⊢;have o8:ah W0 jE:=Fr.trans' (mQ) hf3 (fun i hi e=>by simp [Value.ownBlock] at e;omega);have jF:∀ k,(Value.slice o3 ln c3).ownBlock=some k->W0.heap.size<=k:=fun k hk=>by
      rcases iE with e | e
      ·rw [e] at hk;simp [Value.ownBlock] at hk;omega
      ·rw [e] at hk;cases hk;exact ((mQ)).size
     refine hK.out _ _ ?aas (fun hHeld=>?_)
     case aas=>exact bK.out _ o8
     clear hK K
     (try go_frame)
     refine HT.branch (rs:=[8]) (by kernel_rfl) (by simp) ?_;refine HT.cn 8 rfl (fun K hK=>?_) ?_
     ·go_simp;obtain ⟨lU,hwb⟩:∃ wb,wb=jE.alloc (.cells (ec (l,r,fr,en) o1 l1 c1 o2 l2 c2) 43):=⟨_,rfl⟩;have pX:ah jE lU:=by rw [hwb];exact ah.alloc _ _
      have hb8:lU.heap[jE.heap.size]?=some (.cells (ec (l,r,fr,en) o1 l1 c1 o2 l2 c2) 43 (0,0)):=by rw [hwb];exact heap_alloc_new jE _
      have Cm:W0.heap.size<=jE.heap.size:=(o8).size;have kH:=(o8).trans pX;have pq:=lt_of_block hb8;change K _ (jE.alloc (.cells (ec (l,r,fr,en) o1 l1 c1 o2 l2 c2) 43));rw [<-hwb];clear hwb;replace ho3:=aU ho3 pX (fun _ _ h=>h);generalize jE.heap.size=g8 at *;refine hK.out _ _ ?Vl (fun hHeld=>?_)
      case Vl=>exact bK.out _ kH
      clear hK K
      (try go_frame)
      refine HT.branch (rs:=[9]) (by kernel_rfl) (by simp) ?_;refine HT.cn 9 rfl (fun K hK=>?_) ?_
      ·have hc8:∀ j u,(ec (l,r,fr,en) o1 l1 c1 o2 l2 c2).toList[j]?=some u->∃ a,some (⟨g8,0,none⟩:Addr)=some a/\lU.cell? (a.add j)=some u:=fun j u hj=>⟨_,rfl,by rw [Addr.add_lit,Nat.zero_add,cell_of_row _ _ _ _ _ (0,0) hb8];simpa using hj⟩
       refine aI lU rfl (.tmp 18) (.tmp 23) 35 rfl 43 _ 8 96 BG (.slice o3 ln c3) ln xs rfl ho3 (some ⟨g8,0,none⟩) 1 1 (ec (l,r,fr,en) o1 l1 c1 o2 l2 c2).toList rfl rfl hc8 (by simp [Value.oneCell']) (by unfold maxLen;omega) (by omega) ?_;intro o4 c4 wV nM hf4 pz uo;have dW:ah W0 wV:=Fr.trans' (kH) hf4 (fun i hi e=>by have:=jF i e;omega);have pF:∀ k,(Value.slice o4 (ln+1) c4).ownBlock=some k->W0.heap.size<=k:=fun k hk=>by
        rcases pz with e | e
        ·rw [e] at hk;exact jF k hk
        ·rw [e] at hk;cases hk;exact ((kH)).size
       refine hK.out _ _ ?Vm (fun hHeld=>?_)
       case Vm=>exact bK.out _ dW
       clear hK K
       (try go_frame)
       refine HT.tk 10 rfl ?_;go_frame;refine HT.last rfl (by kernel_rfl) (fun K hK=>?_);have hbs:=au dW HB0.out;obtain ⟨⟨p0,p1,p2,p3,p4⟩,y0,y1,y2,y3,y4⟩:=five hbs;have hend:=DT bD.out HB0.out HB4.out HK.out kZ.out nH.out HS2.out HF2.out dW nM pF z1 z2 qX.out hle hm hz0 dV;clear p1 p2 p3 p4 y1 y2 y3 y4;go_simp;refine hK.out _ _ ?_;clear hK K
       (try go_frame)
       refine HT.done (by kernel_rfl) ?_ _;go_wp2_with fail;go_meet;exact hend
      exact HT.bG.nil
     exact HT.bG.nil
    refine HT.cn 8 rfl (fun K hK=>?_) ?_
    ·go_simp;obtain ⟨wW,hwb⟩:∃ wb,wb=qB.alloc (.cells (ec (l,r,fr,en) o1 l1 c1 o2 l2 c2) 43):=⟨_,rfl⟩;have pX:ah qB wW:=by rw [hwb];exact ah.alloc _ _
     have hb8:wW.heap[qB.heap.size]?=some (.cells (ec (l,r,fr,en) o1 l1 c1 o2 l2 c2) 43 (0,0)):=by rw [hwb];exact heap_alloc_new qB _
     have Cm:W0.heap.size<=qB.heap.size:=(mQ).size;have lV:=(mQ).trans pX;have pq:=lt_of_block hb8;change K _ (qB.alloc (.cells (ec (l,r,fr,en) o1 l1 c1 o2 l2 c2) 43));rw [<-hwb];clear hwb;have QI:=(hown.lt ga rfl).2;replace hown:=aU hown pX (fun _ _ h=>h);generalize qB.heap.size=g8 at *;refine hK.out _ _ ?Vo (fun hHeld=>?_)
     case Vo=>exact bK.out _ lV
     clear hK K
     (try go_frame)
     refine HT.branch (rs:=[3]) (by kernel_rfl) (by simp) ?_;refine HT.cn 3 rfl (fun K hK=>?_) ?_
     ·refine aI wW rfl (.tmp 15) (.tmp 17) 35 rfl 43 _ 8 96 BG (.slice (some ⟨ga,0,none⟩) 0 0) 0 [] rfl hown lo ln lc xs rfl aar ?abK hxo (by unfold maxLen;omega) (by omega) ?_
      case abK=>(intro j u hj;obtain ⟨b,off,e,hc⟩:=MR.out j u hj;subst e;exact ⟨_,rfl,by rw [Addr.add_lit];exact (bD.out.trans (lV)).at hc⟩)
      intro o3 c3 pG ho3 hf3 iE hnil3;simp only [Nat.zero_add,List.nil_append] at ho3 iE hnil3 ⊢;have kJ:ah W0 pG:=Fr.trans' (lV) hf3 (fun i hi e=>by simp [Value.ownBlock] at e;omega);have jF:∀ k,(Value.slice o3 ln c3).ownBlock=some k->W0.heap.size<=k:=fun k hk=>by
       rcases iE with e | e
       ·rw [e] at hk;simp [Value.ownBlock] at hk;omega
       ·rw [e] at hk;cases hk;exact ((lV)).size
      refine hK.out _ _ ?Vp (fun hHeld=>?_)
      case Vp=>exact bK.out _ kJ
      clear hK K
      (try go_frame)
      replace hb8:=aC hf3 (fun e=>by simp [Value.ownBlock] at e;omega) hb8;refine HT.branch (rs:=[9]) (by kernel_rfl) (by simp) ?_;refine HT.cn 9 rfl (fun K hK=>?_) ?_
      ·have hc8:∀ j u,(ec (l,r,fr,en) o1 l1 c1 o2 l2 c2).toList[j]?=some u->∃ a,some (⟨g8,0,none⟩:Addr)=some a/\pG.cell? (a.add j)=some u:=fun j u hj=>⟨_,rfl,by rw [Addr.add_lit,Nat.zero_add,cell_of_row _ _ _ _ _ (0,0) hb8];simpa using hj⟩
       refine aI pG rfl (.tmp 18) (.tmp 23) 35 rfl 43 _ 8 96 BG (.slice o3 ln c3) ln xs rfl ho3 (some ⟨g8,0,none⟩) 1 1 (ec (l,r,fr,en) o1 l1 c1 o2 l2 c2).toList rfl rfl hc8 (by simp [Value.oneCell']) (by unfold maxLen;omega) (by omega) ?_;intro o4 c4 wX nM hf4 pz uo;have dX:ah W0 wX:=Fr.trans' (kJ) hf4 (fun i hi e=>by have:=jF i e;omega);have pF:∀ k,(Value.slice o4 (ln+1) c4).ownBlock=some k->W0.heap.size<=k:=fun k hk=>by
        rcases pz with e | e
        ·rw [e] at hk;exact jF k hk
        ·rw [e] at hk;cases hk;exact ((kJ)).size
       refine hK.out _ _ ?Vq (fun hHeld=>?_)
       case Vq=>exact bK.out _ dX
       clear hK K
       (try go_frame)
       refine HT.tk 10 rfl ?_;go_frame;refine HT.last rfl (by kernel_rfl) (fun K hK=>?_);have hbs:=au dX HB0.out;obtain ⟨⟨p0,p1,p2,p3,p4⟩,y0,y1,y2,y3,y4⟩:=five hbs;have hend:=DT bD.out HB0.out HB4.out HK.out kZ.out nH.out HS2.out HF2.out dX nM pF z1 z2 qX.out hle hm hz0 dV;clear p1 p2 p3 p4 y1 y2 y3 y4;go_simp;refine hK.out _ _ ?_;clear hK K
       (try go_frame)
       refine HT.done (by kernel_rfl) ?_ _;go_wp2_with fail;go_meet;exact hend
      exact HT.bG.nil
     exact HT.bG.nil
    exact HT.bG.nil
   refine HT.cn 8 rfl (fun K hK=>?_) ?_
   ·go_simp;obtain ⟨uq,hwb⟩:∃ wb,wb=wd.alloc (.cells (ec (l,r,fr,en) o1 l1 c1 o2 l2 c2) 43):=⟨_,rfl⟩;have pX:ah wd uq:=by rw [hwb];exact ah.alloc _ _
    have hb8:uq.heap[wd.heap.size]?=some (.cells (ec (l,r,fr,en) o1 l1 c1 o2 l2 c2) 43 (0,0)):=by rw [hwb];exact heap_alloc_new wd _
    have Cm:W0.heap.size<=wd.heap.size:=(gq).size;have wY:=(gq).trans pX;have pq:=lt_of_block hb8;change K _ (wd.alloc (.cells (ec (l,r,fr,en) o1 l1 c1 o2 l2 c2) 43));rw [<-hwb];clear hwb;generalize wd.heap.size=g8 at *;refine hK.out _ _ ?Kr (fun hHeld=>?_)
    case Kr=>exact bK.out _ wY
    clear hK K
    (try go_frame)
    refine HT.branch (rs:=[0]) (by kernel_rfl) (by simp) ?_;refine HT.cn 0 rfl (fun K hK=>?_) ?_
    ·go_simp;obtain ⟨wZ,kG⟩:∃ wa,wa=uq.alloc (.cells #[] 43):=⟨_,rfl⟩;have hqa:ah uq wZ:=by rw [kG];exact ah.alloc _ _
     have hown:=iZ (size:=8) (show wZ.heap[uq.heap.size]?=some (.cells #[] 43 (0,0)) by rw [kG];exact heap_alloc_new uq _);have hgl:W0.heap.size<=uq.heap.size:=(wY).size;have lW:=(wY).trans hqa;rw [<-kG];clear kG;generalize uq.heap.size=ga at *;refine hK.out _ _ ?Vr (fun hHeld=>?_)
     case Vr=>exact bK.out _ lW
     clear hK K
     (try go_frame)
     replace hb8:=au hqa hb8;refine HT.branch (rs:=[3]) (by kernel_rfl) (by simp) ?_;refine HT.cn 3 rfl (fun K hK=>?_) ?_
     ·refine aI wZ rfl (.tmp 15) (.tmp 17) 35 rfl 43 _ 8 96 BG (.slice (some ⟨ga,0,none⟩) 0 0) 0 [] rfl hown lo ln lc xs rfl aar ?aat hxo (by unfold maxLen;omega) (by omega) ?_
      case aat=>(intro j u hj;obtain ⟨b,off,e,hc⟩:=MR.out j u hj;subst e;exact ⟨_,rfl,by rw [Addr.add_lit];exact (bD.out.trans (lW)).at hc⟩)
      intro o3 c3 pI ho3 hf3 iE hnil3;simp only [Nat.zero_add,List.nil_append] at ho3 iE hnil3 ⊢;have kK:ah W0 pI:=Fr.trans' (lW) hf3 (fun i hi e=>by simp [Value.ownBlock] at e;omega);have jF:∀ k,(Value.slice o3 ln c3).ownBlock=some k->W0.heap.size<=k:=fun k hk=>by
       rcases iE with e | e
       ·rw [e] at hk;simp [Value.ownBlock] at hk;omega
       ·rw [e] at hk;cases hk;exact ((lW)).size
      refine hK.out _ _ ?Kt (fun hHeld=>?_)
      case Kt=>exact bK.out _ kK
      clear hK K
      (try go_frame)
      replace hb8:=aC hf3 (fun e=>by simp [Value.ownBlock] at e;omega) hb8;refine HT.branch (rs:=[9]) (by kernel_rfl) (by simp) ?_;refine HT.cn 9 rfl (fun K hK=>?_) ?_
      ·have hc8:∀ j u,(ec (l,r,fr,en) o1 l1 c1 o2 l2 c2).toList[j]?=some u->∃ a,some (⟨g8,0,none⟩:Addr)=some a/\pI.cell? (a.add j)=some u:=fun j u hj=>⟨_,rfl,by rw [Addr.add_lit,Nat.zero_add,cell_of_row _ _ _ _ _ (0,0) hb8];simpa using hj⟩
       refine aI pI rfl (.tmp 18) (.tmp 23) 35 rfl 43 _ 8 96 BG (.slice o3 ln c3) ln xs rfl ho3 (some ⟨g8,0,none⟩) 1 1 (ec (l,r,fr,en) o1 l1 c1 o2 l2 c2).toList rfl rfl hc8 (by simp [Value.oneCell']) (by unfold maxLen;omega) (by omega) ?_;intro o4 c4 xg nM hf4 pz uo;have dY:ah W0 xg:=Fr.trans' (kK) hf4 (fun i hi e=>by have:=jF i e;omega);have pF:∀ k,(Value.slice o4 (ln+1) c4).ownBlock=some k->W0.heap.size<=k:=fun k hk=>by
        rcases pz with e | e
        ·rw [e] at hk;exact jF k hk
        ·rw [e] at hk;cases hk;exact ((kK)).size
       refine hK.out _ _ ?Ku (fun hHeld=>?_)
       case Ku=>exact bK.out _ dY
       clear hK K
       (try go_frame)
       refine HT.tk 10 rfl ?_;go_frame;refine HT.last rfl (by kernel_rfl) (fun K hK=>?_);have hbs:=au dY HB0.out;obtain ⟨⟨p0,p1,p2,p3,p4⟩,y0,y1,y2,y3,y4⟩:=five hbs;have hend:=DT bD.out HB0.out HB4.out HK.out kZ.out nH.out HS2.out HF2.out dY nM pF z1 z2 qX.out hle hm hz0 dV;clear p1 p2 p3 p4 y1 y2 y3 y4;go_simp;refine hK.out _ _ ?_;clear hK K
       (try go_frame)
       refine HT.done (by kernel_rfl) ?_ _;go_wp2_with fail;go_meet;exact hend
      exact HT.bG.nil
     exact HT.bG.nil
    exact HT.bG.nil
   exact HT.bG.nil
  case rest =>
   rename World=>w5
   obtain ⟨rU,rV,rW,h5,hb5,hb8⟩:=hcut;obtain ⟨⟨p0,p1,p2,p3,p4⟩,_⟩:=five hb5;obtain ⟨⟨d0,d1,d2,d3,d4⟩,y0,y1,y2,y3,y4⟩:=five hb8;go_wp2_with fail;clear d0 d1 d2 d3 d4 y0 y1 y2 y3 y4;have hf:=eU w5 (B+1+1+1+1) (.slice rU rV rW) (.int .i64 d.next) (.int .i64 most) (.slice oo on oc) (.int .i64 inn);obtain ⟨⟨f0,f1,f2,f3,f4⟩,_⟩:=five (bV (a:=.slice rU rV rW) (b:=.int .i64 d.next) (c:=.int .i64 most) (d:=.slice oo on oc) (e:=.int .i64 inn) hb8);change bodyPost _ _ _ _ _ (iD w5 (B+1+1+1+1) (.slice rU rV rW) (.int .i64 d.next) (.int .i64 most) (.slice oo on oc) (.int .i64 inn));have hend:=h5 _ hf;generalize iD w5 (B+1+1+1+1) (.slice rU rV rW) (.int .i64 d.next) (.int .i64 most) (.slice oo on oc) (.int .i64 inn)=wf at *;refine bodyPost_ret (by simp [results,Tryd.results31,go_sem,f0,f1,f2,f3,f4];rfl) rfl ?_;exact ⟨rU,rV,rW,oo,on,oc,inn,by rw [HF2.out],dV ▸ hend.1,hend.2⟩
 ·have hle':¬ (ln:Int)<=most:=by omega
  have HF2:Hid (fin=d):=by show _=_;rw [<-bF.out];unfold dP;dsimp only;rw [if_neg (by rw [<-qX.out];exact hle)]
  go_enter Tryd.func31,Tryd.ntmps31;generalize dV:w.heap.size=B at *;go_upto_region 1 with fail
  rw [<-hW0];clear hW0;obtain ⟨⟨p0,p1,p2,p3,p4⟩,_⟩:=five HB0.out;obtain ⟨⟨d0,d1,d2,d3,d4⟩,y0,y1,y2,y3,y4⟩:=five HB4.out;go_wp2_with fail;clear d0 d1 d2 d3 d4 y0 y1 y2 y3 y4;have hf:=eU W0 (B+1+1+1+1) (.slice lo ln lc) (.int .i64 d.next) (.int .i64 most) (.slice oo on oc) (.int .i64 inn);obtain ⟨⟨f0,f1,f2,f3,f4⟩,_⟩:=five (bV (a:=.slice lo ln lc) (b:=.int .i64 d.next) (c:=.int .i64 most) (d:=.slice oo on oc) (e:=.int .i64 inn) HB4.out);change bodyPost _ _ _ _ _ (iD W0 (B+1+1+1+1) (.slice lo ln lc) (.int .i64 d.next) (.int .i64 most) (.slice oo on oc) (.int .i64 inn));have dU:ah w (iD W0 (B+1+1+1+1) (.slice lo ln lc) (.int .i64 d.next) (.int .i64 most) (.slice oo on oc) (.int .i64 inn)):=Fr.trans' bD.out hf (fun i hi h=>by have h':i=B+1+1+1+1:=h;omega);have hqk:Fr (fun i=>i=B+1+1+1+1) W0 (iD W0 (B+1+1+1+1) (.slice lo ln lc) (.int .i64 d.next) (.int .i64 most) (.slice oo on oc) (.int .i64 inn)):=hf;have mg:=hk0.fr (T:=fun k=>R k∨w.heap.size<=k) dU (fun k _ h=>⟨.inl h,fun h=>h⟩);generalize iD W0 (B+1+1+1+1) (.slice lo ln lc) (.int .i64 d.next) (.int .i64 most) (.slice oo on oc) (.int .i64 inn)=wf at *;refine bodyPost_ret (by simp [results,Tryd.results31,go_sem,f0,f1,f2,f3,f4];rfl) rfl ?_;exact ⟨lo,ln,lc,oo,on,oc,inn,by rw [HF2.out],by rw [HF2.out];exact mg,dU⟩
end Em
end
section
open Go.RowKit
namespace Em
theorem aau {R:Nat->Prop} {W:World} {g a b:Nat} {o1:Option Addr} {c1:Nat} {o2:Option Addr} {c2:Nat} (hg:R g) (h:W.heap[g]?=some (.cells #[.int .i64 1,.int .i64 a,.slice o1 0 c1,.int .i64 1,.int .i64 b,.slice o2 0 c2] 25 (0,0))):aB R W (some ⟨g,0,none⟩) 2 (iO (tv a) (tv b)).2.2:=by
 refine ⟨rfl,by unfold maxLen;omega,fun _=>⟨g,0,rfl,?_⟩⟩;have c:∀ j (hj:j < 6),W.cell? ⟨g,j,none⟩=(#[Value.int .i64 1,.int .i64 a,.slice o1 0 c1,.int .i64 1,.int .i64 b,.slice o2 0 c2]:Array Value)[j]?:=fun j hj=>by rw [cell_of_row _ _ _ _ _ (0,0) h]
 exact ⟨hg,c 0 (by omega),c 1 (by omega),⟨o1,0,c1,c 2 (by omega),rfl,Nat.zero_le _,fun h=>absurd h (Nat.lt_irrefl _)⟩,hg,c 3 (by omega),c 4 (by omega),⟨o2,0,c2,c 5 (by omega),rfl,Nat.zero_le _,fun h=>absurd h (Nat.lt_irrefl _)⟩,trivial⟩
theorem Ap {w : World} (a b : Nat) {o1 : Option Addr} {c1 : Nat} {o2 : Option Addr} {c2 : Nat} :
    Calls Tryd.prog 34 #[.agg #[.int .i64 1,.int .i64 a,.slice o1 0 c1],.agg #[.int .i64 1,.int .i64 b,.slice o2 0 c2]] w (ArQ w a b):=by
 obtain ⟨W0,hW0⟩:∃ W0,W0=(((w.alloc (.cells #[.int .i64 1,.int .i64 a,.slice o1 0 c1] 25)).alloc (.cells #[.int .i64 1,.int .i64 b,.slice o2 0 c2] 25)).alloc (.cells #[.int .i64 0,.int .i64 0,.slice none 0 0] 25)):=⟨_,rfl⟩;have vG:ah w W0:=by rw [hW0];exact ((ah.alloc _ _).trans (ah.alloc _ _)).trans (ah.alloc _ _)
 have yC:(w.alloc (.cells #[.int .i64 1,.int .i64 a,.slice o1 0 c1] 25)).heap.size=w.heap.size+1:=by simp
 have yD:((w.alloc (.cells #[.int .i64 1,.int .i64 a,.slice o1 0 c1] 25)).alloc (.cells #[.int .i64 1,.int .i64 b,.slice o2 0 c2] 25)).heap.size=w.heap.size+1+1:=by simp
 have yE:W0.heap[w.heap.size]?=some (.cells #[.int .i64 1,.int .i64 a,.slice o1 0 c1] 25 (0,0)):=by
  rw [hW0];have k:=heap_alloc_new w (.cells #[.int .i64 1,.int .i64 a,.slice o1 0 c1] 25);exact au ((ah.alloc _ _).trans (ah.alloc _ _)) k
 have yF:W0.heap[w.heap.size+1]?=some (.cells #[.int .i64 1,.int .i64 b,.slice o2 0 c2] 25 (0,0)):=by
  rw [hW0];have k:=heap_alloc_new (w.alloc (.cells #[.int .i64 1,.int .i64 a,.slice o1 0 c1] 25)) (.cells #[.int .i64 1,.int .i64 b,.slice o2 0 c2] 25);rw [yC] at k;exact au (ah.alloc _ _) k
 have um:W0.heap[w.heap.size+1+1]?=some (.cells #[.int .i64 0,.int .i64 0,.slice none 0 0] 25 (0,0)):=by
  rw [hW0];have k:=heap_alloc_new ((w.alloc (.cells #[.int .i64 1,.int .i64 a,.slice o1 0 c1] 25)).alloc (.cells #[.int .i64 1,.int .i64 b,.slice o2 0 c2] 25)) (.cells #[.int .i64 0,.int .i64 0,.slice none 0 0] 25);rw [yD] at k;exact k
 clear yC yD;have HQ:=hid vG;have HB0:=hid yE;have HB1:=hid yF;have HB2:=hid um;clear vG yE yF um;go_enter Tryd.func34,Tryd.ntmps34;generalize dV:w.heap.size=B at *;go_upto_region 1 with fail
 rw [<-hW0];clear hW0;obtain ⟨u0,u1,u2,_⟩:=ay HB0.out;obtain ⟨v0,v1,v2,_⟩:=ay HB1.out;have fJ:=ah.alloc W0 (.cells #[.int .i64 1,.int .i64 a,.slice o1 0 c1,.int .i64 1,.int .i64 b,.slice o2 0 c2] 25);have hbx:=heap_alloc_new W0 (.cells #[.int .i64 1,.int .i64 a,.slice o1 0 c1,.int .i64 1,.int .i64 b,.slice o2 0 c2] 25);have hlt:=lt_of_block HB2.out;have HB3:=au fJ HB2.out;obtain ⟨d0,d1,d2,y0,y1,y2⟩:=ay HB3;have HB4:(W0.setCell ⟨B+1+1,0,none⟩ (.int .i64 4)).heap[B+1+1]?=some (.cells #[.int .i64 4,.int .i64 0,.slice none 0 0] 25 (0,0)):=jk HB2.out;have HB5:((W0.setCell ⟨B+1+1,0,none⟩ (.int .i64 4)).setCell ⟨B+1+1,1,none⟩ (.int .i64 0)).heap[B+1+1]?=some (.cells #[.int .i64 4,.int .i64 0,.slice none 0 0] 25 (0,0)):=iW HB4;obtain ⟨_,x1,_,_,x2,_⟩:=ay (au (ah.alloc _ (.cells #[.int .i64 1,.int .i64 a,.slice o1 0 c1,.int .i64 1,.int .i64 b,.slice o2 0 c2] 25)) HB4);obtain ⟨_,_,x3,_,_,x4⟩:=ay (au (ah.alloc _ (.cells #[.int .i64 1,.int .i64 a,.slice o1 0 c1,.int .i64 1,.int .i64 b,.slice o2 0 c2] 25)) HB5);go_wp2_with fail;clear u0 u1 u2 v0 v1 v2 d0 d1 d2 y0 y1 y2 x1 x2 x3 x4;have hf:=aZ W0 (B+1+1) (.int .i64 4) (.int .i64 0) (.slice (some ⟨W0.heap.size,0,none⟩) 2 2);have hc:(bf W0 (B+1+1) (.int .i64 4) (.int .i64 0) (.slice (some ⟨W0.heap.size,0,none⟩) 2 2)).heap[B+1+1]?=some (.cells #[.int .i64 4,.int .i64 0,.slice (some ⟨W0.heap.size,0,none⟩) 2 2] 25 (0,0)):=ji (iW (jk HB2.out));have hsz:(bf W0 (B+1+1) (.int .i64 4) (.int .i64 0) (.slice (some ⟨W0.heap.size,0,none⟩) 2 2)).heap.size=W0.heap.size:=by simp [bf]
 have hba:=heap_alloc_new (bf W0 (B+1+1) (.int .i64 4) (.int .i64 0) (.slice (some ⟨W0.heap.size,0,none⟩) 2 2)) (.cells #[.int .i64 1,.int .i64 a,.slice o1 0 c1,.int .i64 1,.int .i64 b,.slice o2 0 c2] 25);rw [hsz] at hba;have hqa:=ah.alloc (bf W0 (B+1+1) (.int .i64 4) (.int .i64 0) (.slice (some ⟨W0.heap.size,0,none⟩) 2 2)) (.cells #[.int .i64 1,.int .i64 a,.slice o1 0 c1,.int .i64 1,.int .i64 b,.slice o2 0 c2] 25);change bodyPost _ _ _ _ _ (World.alloc (bf W0 (B+1+1) (.int .i64 4) (.int .i64 0) (.slice (some ⟨W0.heap.size,0,none⟩) 2 2)) (.cells #[.int .i64 1,.int .i64 a,.slice o1 0 c1,.int .i64 1,.int .i64 b,.slice o2 0 c2] 25));clear fJ hbx HB3 HB4 HB5;generalize (bf W0 (B+1+1) (.int .i64 4) (.int .i64 0) (.slice (some ⟨W0.heap.size,0,none⟩) 2 2))=WP at *;generalize WP.alloc (.cells #[.int .i64 1,.int .i64 a,.slice o1 0 c1,.int .i64 1,.int .i64 b,.slice o2 0 c2] 25)=wf at *;have hgw:w.heap.size<=W0.heap.size:=HQ.out.size;generalize W0.heap.size=G at *;obtain ⟨f0,f1,f2,_⟩:=ay (au hqa hc);have dU:ah w wf:=(Fr.trans' HQ.out hf (fun i hi h=>by have h':i=B+1+1:=h;omega)).trans hqa;refine bodyPost_ret (by simp [results,Tryd.results34,go_sem,f0,f1,f2];rfl) rfl ?_;exact ⟨_,_,rfl,aau hgw hba,dU⟩
end Em
end
end Go.Proofs.YtcninopmelmajaaDoor
