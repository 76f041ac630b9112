/-
  Texts laid together (TeList, CnGreat, EmPlain, EqMem, EqStep, EmRen, EmPos, EmCnt, EmNext, EqRun, EmDoc): laws and walks, with their conditions.
-/
import Derived.WalkMore
import Derived.Test.YtcninopmelmajaaGreatDoorCC12
set_option maxHeartbeats 8000000
set_option maxRecDepth 1000000
namespace Go.Proofs.YtcninopmelmajaaGreatDoor
open Go.Lib (hid)
section
open Go.RowKit
def pY (B:Nat) (W:World) (o:Option Addr) (n c:Nat) (xs:List Value):Prop :=
 W.ownsRow 0 29 9 (.slice o n c) n xs/\(∀ u∈xs,u.oneCell'=true)/\∀ k,(Value.slice o n c).ownBlock=some k->B<=k
theorem pY.stay {B:Nat} {W W':World} {o:Option Addr} {n c:Nat} {xs:List Value} (h:pY B W o n c xs) (hq:ah W W'):pY B W' o n c xs :=
 ⟨aZ h.1 hq (fun _ _ h=>h),h.2⟩
def S9 (h:Nd) (ps:To):Prop:=∀ (w:World) (R:Nat->Prop) (o1:Option Addr) (l1 c1:Nat) (o2:Option Addr) (l2 c2:Nat),aY R w o2 l2 ps->ps.size<=100000 ->
 Calls Tryz.prog 25 #[bC h o1 l1 c1 o2 l2 c2] w fun e w'=>∃ o c xs,e=.returned (.slice o (ps.size+1) c)/\pY w.heap.size w' o (ps.size+1) c xs/\ah w w'
theorem Gm (h:Nd) (ps:To):S9 h ps:=by
 refine To.qE (T:=S9) ?_ h ps
 intro h ps ih w R o1 l1 c1 o2 l2 c2 hs hsz
 have HS:=hid hs
 have IH:=hid ih
 have hl:=hs.1
 have hll:=To.length_le ps
 rw [<-hl] at hll
 have HL:=hid hl
 clear hs ih hl
 unfold bC
 go_enter Tryz.func25,Tryz.ntmps25
 go_wp2_with fail
 obtain ⟨W0,hW0⟩:∃ W0,W0=w.alloc (.cells (cells9 h o1 l1 c1 o2 l2 c2) 29):=⟨_,rfl⟩
 have HB:Hid (∀ W,ah W0 W->W.cell? ⟨w.heap.size,6,none⟩=some (.slice o2 l2 c2)):=by
  intro W hq;rw [hW0] at hq;exact (FQ w h o1 l1 c1 o2 l2 c2 _ W hq).2.2.2.2.2.2.1
 have aK:Hid (ah w W0):=by rw [hW0];exact ah.alloc _ _
 have hz0:W0.heap.size=w.heap.size+1:=by rw [hW0];simp
 obtain ⟨W1,hW1⟩:∃ W1,W1=W0.alloc (.cells (cells9 h o1 l1 c1 o2 l2 c2) 29):=⟨_,rfl⟩
 have hnew:=heap_alloc_new W0 (.cells (cells9 h o1 l1 c1 o2 l2 c2) 29)
 rw [<-hW1,hz0] at hnew
 have bI:Hid (ah W0 W1):=by rw [hW1];exact ah.alloc _ _
 have lS:Hid (pY (w.heap.size+1) W1 (some ⟨w.heap.size+1,0,none⟩) 1 1 (cells9 h o1 l1 c1 o2 l2 c2).toList):=by
  refine ⟨⟨rfl,.inr ⟨w.heap.size+1,1,cells9 h o1 l1 c1 o2 l2 c2,rfl,Nat.zero_le _,hnew,Nat.le_refl _,by decide,rfl,rfl⟩⟩,?_,?_⟩
  ·simp [Value.oneCell']
  ·intro k hk
   simp [Value.ownBlock] at hk
   omega
 change Code.wp _ _ _ _ ((w.alloc (.cells (cells9 h o1 l1 c1 o2 l2 c2) 29)).alloc (.cells (cells9 h o1 l1 c1 o2 l2 c2) 29))
 rw [<-hW0,<-hW1]
 clear hW0 hW1 hnew
 have HZ:=hid hz0
 clear hz0
 generalize hnb:w.heap.size=nb at *
 have MZ:=hid hnb
 clear hnb
 go_loopw [3,4] (fun s t wr=>∃ (i n c:Nat) (o:Option Addr) (xs:List Value),t=.int .i64 i/\s=.slice o n c/\i<=l2/\n+(ps.drop i).size=ps.size+1/\pY (nb+1) wr o n c xs/\ah W0 wr) (fun _ t _=>l2 - (intOf t).toNat)
 case atStart=>exact ⟨0,1,1,_,_,rfl,rfl,Nat.zero_le _,by rw [To.drop_zero];omega,lS.out,bI.out⟩
 case round =>
  obtain ⟨i,n,c,o,xs,rfl,rfl,hi,hn,hrow,hq⟩:=hrel
  have HN:=hid hn
  have HR:=hid hrow
  have HQ:=hid hq
  have cc:=HB.out wr hq
  have hnb:n<=100001:=by omega
  clear hn hrow hq
  by_cases hlt:i < l2
  ·have hlt':(i:Int) < l2:=by omega
   obtain ⟨b,off,hd,qs,p1,m1,d1,p2,m2,d2,rfl,hd1,hg,hRb,⟨e0,e1,e2,e3,e4,e5,e6,e7,e8⟩,hs1,ht1⟩:=(HS.out.stay (aK.out.trans HQ.out)).nth hlt
   have QA:=To.bV ps i hd qs hg
   have HC:=hid (IH.out i hd qs hg wr R p1 m1 d1 p2 m2 d2 ht1 (by omega))
   have HD:Hid (n+(qs.size+1)+(ps.drop (i+1)).size=ps.size+1):=by
    have:=HN.out;rw [hd1] at this;simp only [To.size] at this;show _=_;omega
   have hqz:qs.size+1<=100001:=by omega
   unfold bC at HC
   clear hd1 hg hs1 ht1 QA hRb
   go_wp2_with fail
   refine HC.out.mono ?_;rintro e w1 ⟨q,d,ys,rfl,hrow1,hq1⟩
   have aaN:=hid (HQ.out.trans hq1)
   have HR1:=hid (HR.out.stay hq1)
   have HR2:=hid hrow1
   have HBZ:Hid (nb+1<=w1.heap.size):=by have:=aaN.out.size;have:=HZ.out;show _<=_;omega
   have HNW:Hid (∀ j u,ys[j]?=some u->∃ a,q=some a/\w1.cell? (a.add j)=some u):=by
    intro j u hu
    rcases hrow1.1.2 with ⟨_,h2⟩ | ⟨g,cap',cur,he,_⟩
    ·omega
    ·injection he with h1 h2 h3
     subst h1
     exact ⟨_,rfl,hrow1.1.cells rfl j u hu⟩
   clear hq1 hrow1 cc
   go_wp2_with (at_builtin;(refine gK w1 rfl (.tmp 14) (.tmp 20) 25 rfl 29 _ 9 112 vU (.slice o n c) n xs rfl HR1.out.1 q (qs.size+1) d ys rfl HR2.out.1.1 HNW.out HR2.out.2.1 (by unfold maxLen;omega) (by omega) ?_);intro o3 c3 w3 ho hf hob hnil)
   have HR3:Hid (pY (nb+1) w3 o3 (n+(qs.size+1)) c3 (xs++ys)):=by
    refine ⟨ho,?_,?_⟩
    ·intro u hu
     rcases List.mem_append.1 hu with h | h
     ·exact HR1.out.2.1 u h
     ·exact HR2.out.2.1 u h
    ·intro k hk
     rcases hob with h | h
     ·exact HR1.out.2.2 k (by rw [<-h];exact hk)
     ·rw [h] at hk;cases hk;exact HBZ.out
   have dG:Hid (ah W0 w3):=Fr.trans' aaN.out hf (fun k hk hs=>by have:=HR1.out.2.2 k hs;have:=HZ.out;omega)
   clear ho hf hob hnil
   go_wp2_with fail
   go_roundw
   case rel=>exact ⟨i+1,n+(qs.size+1),c3,o3,xs++ys,by go_num,rfl,by omega,HD.out,HR3.out,dG.out⟩
   case measure=>simp [intOf];omega
  ·have hlt':¬ (i:Int) < l2:=by omega
   have HE:Hid (n=ps.size+1):=by
    have:=HN.out
    rw [To.drop_end ps i (by have:=HL.out;omega)] at this
    show _=_
    simpa [To.size] using this
   go_wp2_with fail
   go_ret
   rw [MZ.out,<-HE.out]
   exact ⟨o,c,rfl,⟨xs,HR.out.1,HR.out.2.1,fun k hk=>by have:=HR.out.2.2 k hk;omega⟩,aK.out.trans HQ.out⟩
end
section
open Go.RowKit Go.Shelf
namespace Cn
def fG (h:Nd) (ps:To):Bool:=jW h ps || decide (60 < ps.size+1)
theorem Iw (h : Nd) (ps : To) (w W : World) (o1 : Option Addr) (l1 c1 : Nat) (o2 : Option Addr) (l2 c2 : Nat) (h1 : aC (Low w) w o1 l1 h.tp) (h2 : aY (Low w) w o2 l2 ps) (ho : F6 h) (hop : allT F6 ps) (hq : ah w W) :
    Calls Tryz.prog 8 #[bC h o1 l1 c1 o2 l2 c2] W fun e w'=>e=.returned (.bool (fG h ps))/\ah W w':=by
 obtain ⟨W0,hW0⟩:∃ W0,W0=W.alloc (.cells (cells9 h o1 l1 c1 o2 l2 c2) 29):=⟨_,rfl⟩
 have hq0:ah W W0:=by rw [hW0];exact ah.alloc _ _
 have aK:=hid hq0
 have HB:Hid (∀ V,ah W0 V->(V.cell? ⟨W.heap.size,0,none⟩=some (.int .i64 h.k)/\V.cell? ⟨W.heap.size,1,none⟩=some (.string h.nm)/\V.cell? ⟨W.heap.size,2,none⟩=some (.int .i64 h.n)/\V.cell? ⟨W.heap.size,3,none⟩=some (.int .i64 h.tk)/\V.cell? ⟨W.heap.size,4,none⟩=some (.int .i64 h.tn)/\V.cell? ⟨W.heap.size,5,none⟩=some (.slice o1 l1 c1)/\V.cell? ⟨W.heap.size,6,none⟩=some (.slice o2 l2 c2)/\V.cell? ⟨W.heap.size,7,none⟩=some (.int .i64 h.fr)/\V.cell? ⟨W.heap.size,8,none⟩=some (.int .i64 h.en))):=by
  intro V hq;rw [hW0] at hq;exact FQ W h o1 l1 c1 o2 l2 c2 _ V hq
 have HG:Hid (∀ V,ah W0 V->Calls Tryz.prog 24 #[bC h o1 l1 c1 o2 l2 c2] V fun e w'=>e=.returned (.bool (jW h ps))/\ah V w'):=fun V hv=>Sc.Kq h ps w V o1 l1 c1 o2 l2 c2 h1 h2 ho hop (hq.trans (hq0.trans hv))
 have HL:Hid (jW h ps=false->∀ V,ah W0 V->Calls Tryz.prog 25 #[bC h o1 l1 c1 o2 l2 c2] V fun e w'=>∃ o c xs,e=.returned (.slice o (ps.size+1) c)/\pY V.heap.size w' o (ps.size+1) c xs/\ah V w'):=fun hg V hv=>Gm h ps V _ o1 l1 c1 o2 l2 c2 (h2.stay (hq.trans (hq0.trans hv))) (by have:=(Sc.fP hg ho hop).size;omega)
 clear h1 h2 ho hop hq0
 unfold bC at HG HL ⊢
 unfold fG
 generalize jW h ps=g at *
 go_enter Tryz.func8,Tryz.ntmps8
 go_upto_region 1 with fail
 rw [<-hW0]
 clear hW0
 generalize eX:W.heap.size=B at *
 clear eX
 obtain ⟨a0,a1,a2,a3,a4,a5,a6,a7,a8⟩:=HB.out W0 (ah.refl _)
 go_wp2_with fail
 refine (HG.out _ (ah.refl _)).mono ?_;rintro x w1 ⟨rfl,hq1⟩
 clear a0 a1 a2 a3 a4 a5 a6 a7 a8
 obtain ⟨a0,a1,a2,a3,a4,a5,a6,a7,a8⟩:=HB.out w1 hq1
 have bI:=hid hq1
 clear hq1
 cases g
 case true =>
  go_wp2_with fail
  go_ret
  exact ⟨by simp,aK.out.trans bI.out⟩
 case false =>
  go_wp2_with fail
  refine (HL.out (by trivial) _ bI.out).mono ?_;rintro x w2 ⟨o,c,xs,rfl,_,hq2⟩
  have dO:=hid hq2
  clear hq2
  go_wp2_with fail
  go_ret
  refine ⟨?_,aK.out.trans (bI.out.trans dO.out)⟩
  first | rfl | (congr 2;simp;omega) | (simp;omega)
theorem iZ {h:Nd} {ps:To} (hg:fG h ps=false):jW h ps=false:=by
 unfold fG at hg
 cases h1:jW h ps
 ·rfl
 ·rw [h1] at hg;exact hg
end Cn
end
section
namespace Em
abbrev Ty:=Int × Int × Fo
abbrev qK:=Ty × Ty × Int × Int
structure Mk where
 eqs:List qK
 next:Nat
 many:Bool
abbrev Pm (α:Type):=Mk->α × Mk
def bd {α β:Type} (f:Pm α) (g:α->Pm β):Pm β:=fun m=>g (f m).1 (f m).2
def pu {α:Type} (a:α):Pm α:=fun m=>(a,m)
def Ac:Pm Mk:=fun m=>(m,m)
def tv (n:Nat):Ty:=(1,(n:Int),.nil)
def jm:Pm Ty:=fun m=>(tv m.next,{ m with next:=m.next+1 })
def zJ (d:Nat):Pm Unit:=fun m=>((),{ m with next:=m.next+d })
def jv (most:Int) (l r:Ty) (fr en:Int):Pm Unit:=fun m=>((),if most<=m.eqs.length then { m with many:=true } else { m with eqs:=m.eqs++[(l,r,fr,en)] })
def cO {α:Type} (x:α) (f:Pm α):Pm α:=fun m=>if m.many then (x,m) else f m
def pO (a b:Ty):Ty:=(4,0,.cons a.1 a.2.1 a.2.2 (.cons b.1 b.2.1 b.2.2 .nil))
def oL:List Ty->Fo
 | []=>.nil
 | t::r=>.cons t.1 t.2.1 t.2.2 (oL r)
def QB (fr tt by_:Nat) (n:Int):Int:=if (fr:Int)<=n/\n < tt then n+by_ else n
def Na (fr tt by_:Nat) (t:Ty):Ty:=(t.1,if t.1 == 1 then QB fr tt by_ t.2.1 else t.2.1,t.2.2.change (QB fr tt by_))
abbrev Env:=List (ByteArray × Pm Ty)
def iD (most:Int) (sh:Ty->Ty):List qK->Pm Unit
 | []=>pu ()
 | e::r=>cO () (bd (jv most (sh e.1) (sh e.2.1) e.2.2.1 e.2.2.2) fun _=>iD most sh r)
def copied (most:Int) (kept:List qK) (v:Ty) (fr tt:Nat):Pm Ty:=bd Ac fun a=>bd (zJ (tt - fr)) fun _=>bd (iD most (Na fr tt (a.next - fr)) kept) fun _=>pu (Na fr tt (a.next - fr) v)
def tV:Env->ByteArray->Pm Ty
 | [],_=>pu (tv 0)
 | x::r,s=>if x.1=s then x.2 else tV r s
def Iy (e:Env):List (Env->Pm Ty)->Pm (List Ty)
 | []=>pu []
 | v::r=>bd (v e) fun t=>bd (Iy e r) fun l=>pu (t::l)
abbrev Pz (vs:List (Env->Pm Ty)) (i:Nat) (e:Env):Pm Ty:=vs.getD i (fun _=>pu (tv 0)) e
abbrev Nb (l:List Ty) (i:Nat):Ty:=l.getD i (0,0,.nil)
def aX (ps:To) (i:Nat):Int × Int:=match ps.get i with
 | some (h,_)=>(h.fr,h.en)
 | none=>(0,0)
def Gn (most:Int) (_:Nd) (first:Pm Ty) (second:Pm Ty->Pm Ty):Pm Ty :=
 bd Ac fun a=>bd first fun v=>bd Ac fun b=>second (copied most (b.eqs.drop a.eqs.length) v a.next b.next)
def xw (most:Int) (h:Nd) (ps:To) (vs:List (Env->Pm Ty)) (e:Env):Pm Ty:=bd jm fun own=>cO own (
 if h.k=2 then bd (jv most own (2,0,.nil) h.fr h.en) fun _=>pu own
 else if h.k=3 then bd (jv most own (3,0,.nil) h.fr h.en) fun _=>pu own
 else if h.k=1 then bd (tV e h.nm) fun t=>bd (jv most own t h.fr h.en) fun _=>pu own
 else if h.k=4 then bd jm fun b=>bd (Pz vs 0 ((h.nm,pu b)::e)) fun t=>bd (jv most own (pO b t) h.fr h.en) fun _=>pu own
 else if h.k=6 then bd (Gn most h (Pz vs 0 e) fun c=>Pz vs 1 ((h.nm,c)::e)) fun t=>bd (jv most own t h.fr h.en) fun _=>pu own
 else if h.k=7 then bd (Gn most h (bd jm fun v=>bd (Pz vs 0 ((h.nm,pu v)::e)) fun t=>bd (jv most v t h.fr h.en) fun _=>pu v) fun c=>Pz vs 1 ((h.nm,c)::e)) fun t=>bd (jv most own t h.fr h.en) fun _=>pu own
 else bd (Iy e vs) fun p =>
  if h.k=5 then bd (jv most (Nb p 0) (pO (Nb p 1) own) h.fr h.en) fun _=>pu own
  else if h.k=8 then bd (jv most (Nb p 0) (3,0,.nil) (aX ps 0).1 (aX ps 0).2) fun _=>bd (jv most own (Nb p 1) (aX ps 1).1 (aX ps 1).2) fun _=>bd (jv most own (Nb p 2) (aX ps 2).1 (aX ps 2).2) fun _=>pu own
  else if h.k=9 then bd (jv most own (5,0,oL p) h.fr h.en) fun _=>pu own
  else if h.k=10 then bd (jv most (Nb p 0) (h.tk,h.tn,h.tp) (aX ps 0).1 (aX ps 0).2) fun _=>bd (jv most own (h.tk,h.tn,h.tp) h.fr h.en) fun _=>pu own
  else pu own)
def vF (most:Int):To->List (Env->Pm Ty)
 | .nil=>[]
 | .cons h ps r=>xw most h ps (vF most ps)::vF most r
def EH (most:Int) (h:Nd) (ps:To) (e:Env):Pm Ty:=xw most h ps (vF most ps) e
structure Step {α:Type} (N:Nat) (f g:Pm α):Prop where
 up:∀ m,m.eqs.length<=(f m).2.eqs.length/\(m.many=true->(f m).2.many=true)
 up':∀ m,m.many=true->(g m).2.many=true
 lock:∀ m,m.many=false->m.eqs.length<=N->((f m).2.many=false/\(f m).2.eqs.length<=N/\g m=f m)∨((g m).2.many=true/\((f m).2.many=true∨N < (f m).2.eqs.length))
theorem Step.pu {α:Type} (N:Nat) (a:α):Step N (pu a) (pu a):=⟨fun _=>⟨Nat.le_refl _,id⟩,fun _ h=>h,fun _ h1 h2=>.inl ⟨h1,h2,rfl⟩⟩
theorem Step.Ac (N:Nat):Step N Ac Ac:=⟨fun _=>⟨Nat.le_refl _,id⟩,fun _ h=>h,fun _ h1 h2=>.inl ⟨h1,h2,rfl⟩⟩
theorem Step.jm (N:Nat):Step N jm jm:=⟨fun _=>⟨Nat.le_refl _,id⟩,fun _ h=>h,fun _ h1 h2=>.inl ⟨h1,h2,rfl⟩⟩
theorem Step.zJ (N d:Nat):Step N (zJ d) (zJ d):=⟨fun _=>⟨Nat.le_refl _,id⟩,fun _ h=>h,fun _ h1 h2=>.inl ⟨h1,h2,rfl⟩⟩
theorem Step.bd {α β:Type} {N:Nat} {f f':Pm α} {g g':α->Pm β} (h:Step N f f') (k:∀ a,Step N (g a) (g' a)):Step N (bd f g) (bd f' g'):=by
 refine ⟨fun m=>?_,fun m hm=>?_,fun m hm hn=>?_⟩
 ·have h1:=h.up m
  have h2:=(k (f m).1).up (f m).2
  exact ⟨Nat.le_trans h1.1 h2.1,fun e=>h2.2 (h1.2 e)⟩
 ·exact (k (f' m).1).up' _ (h.up' m hm)
 ·rcases h.lock m hm hn with ⟨h1,h2,h3⟩ | ⟨h1,h2⟩
  ·have h4:=(k (f m).1).lock (f m).2 h1 h2
   unfold Em.bd
   rw [h3]
   exact h4
  ·refine .inr ⟨(k (f' m).1).up' _ h1,?_⟩
   have h4:=(k (f m).1).up (f m).2
   rcases h2 with h2 | h2
   ·exact .inl (h4.2 h2)
   ·exact .inr (Nat.lt_of_lt_of_le h2 h4.1)
theorem Step.cO {α:Type} {N:Nat} (x:α) {f f':Pm α} (h:Step N f f'):Step N (cO x f) (cO x f'):=by
 refine ⟨fun m=>?_,fun m hm=>?_,fun m hm hn=>?_⟩
 ·unfold Em.cO
  cases hm:m.many
  ·simp only [Bool.false_eq_true,if_false];exact ⟨(h.up m).1,fun e=>absurd e (by simp)⟩
  ·simp only [if_true];exact ⟨Nat.le_refl _,fun _=>hm⟩
 ·unfold Em.cO;rw [hm];exact hm
 ·unfold Em.cO;rw [hm];simp only [Bool.false_eq_true,if_false];exact h.lock m hm hn
theorem Step.ite {α:Type} {N:Nat} {c:Prop} [Decidable c] {f f' g g':Pm α} (h1:Step N f f') (h2:Step N g g'):Step N (if c then f else g) (if c then f' else g'):=by
 by_cases hc:c
 ·rw [if_pos hc,if_pos hc];exact h1
 ·rw [if_neg hc,if_neg hc];exact h2
theorem Step.jv {M N:Int} {n:Nat} (hN:N=n) (hM:N<=M) (l r:Ty) (fr en:Int):Step n (jv M l r fr en) (jv N l r fr en):=by
 subst hN
 refine ⟨fun m=>?_,fun m hm=>?_,fun m hm hn=>?_⟩
 ·unfold Em.jv;dsimp only;split
  ·exact ⟨Nat.le_refl _,fun _=>rfl⟩
  ·exact ⟨by simp,id⟩
 ·unfold Em.jv;dsimp only;split
  ·rfl
  ·exact hm
 ·unfold Em.jv;dsimp only
  by_cases h1:(n:Int)<=m.eqs.length
  ·refine .inr ⟨by rw [if_pos h1],?_⟩
   split
   ·exact .inl rfl
   ·refine .inr ?_
    simp;omega
  ·rw [if_neg h1,if_neg (by omega)]
   exact .inl ⟨hm,by simp;omega,rfl⟩
inductive Iz (N:Nat):Env->Env->Prop
 | nil:Iz N [] []
 | cons {s:ByteArray} {f g:Pm Ty} {e e':Env}:Step N f g->Iz N e e'->Iz N ((s,f)::e) ((s,g)::e')
theorem Iz.look {N:Nat} {e e':Env} (h:Iz N e e') (s:ByteArray):Step N (tV e s) (tV e' s):=by
 induction h with
 | nil=>exact Step.pu N _
 | cons h1 _ ih =>
  unfold tV
  split
  ·exact h1
  ·exact ih
def VS (N:Nat) (v v':Env->Pm Ty):Prop:=∀ e e',Iz N e e'->Step N (v e) (v' e')
inductive Vr (N:Nat):List (Env->Pm Ty)->List (Env->Pm Ty)->Prop
 | nil:Vr N [] []
 | cons {v v':Env->Pm Ty} {l l':List (Env->Pm Ty)}:VS N v v'->Vr N l l'->Vr N (v::l) (v'::l')
theorem Vr.at {N:Nat} {l l':List (Env->Pm Ty)} (h:Vr N l l'):∀ (i:Nat) {e e':Env},Iz N e e'->Step N (Pz l i e) (Pz l' i e'):=by
 induction h with
 | nil=>intro i e e' _;exact Step.pu N _
 | cons h1 _ ih =>
  intro i e e' he
  cases i with
  | zero=>exact h1 _ _ he
  | succ i=>exact ih i he
theorem Vr.map {N:Nat} {e e':Env} (he:Iz N e e') {l l':List (Env->Pm Ty)} (h:Vr N l l'):Step N (Iy e l) (Iy e' l'):=by
 induction h with
 | nil=>exact Step.pu N _
 | cons h1 _ ih=>exact Step.bd (h1 _ _ he) fun t=>Step.bd ih fun l=>Step.pu N _
section
variable {M N:Int} {n:Nat}
theorem Cb (hN:N=n) (hM:N<=M) (sh:Ty->Ty):∀ l:List qK,Step n (iD M sh l) (iD N sh l)
 | []=>Step.pu n _
 | _::r=>Step.cO _ (Step.bd (Step.jv hN hM _ _ _ _) fun _=>Cb hN hM sh r)
theorem IB (hN:N=n) (hM:N<=M) (kept:List qK) (v:Ty) (fr tt:Nat):Step n (copied M kept v fr tt) (copied N kept v fr tt) :=
 Step.bd (Step.Ac n) fun _=>Step.bd (Step.zJ n _) fun _=>Step.bd (Cb hN hM _ kept) fun _=>Step.pu n _
theorem EI (hN:N=n) (hM:N<=M) (h:Nd) {f f':Pm Ty} {g g':Pm Ty->Pm Ty} (hf:Step n f f') (hg:∀ c c',Step n c c'->Step n (g c) (g' c')):Step n (Gn M h f g) (Gn N h f' g') :=
 Step.bd (Step.Ac n) fun _=>Step.bd hf fun _=>Step.bd (Step.Ac n) fun _=>hg _ _ (IB hN hM _ _ _ _)
theorem EJ (hN:N=n) (hM:N<=M) (h:Nd) (ps:To) {vs vs':List (Env->Pm Ty)} (hv:Vr n vs vs'):VS n (xw M h ps vs) (xw N h ps vs'):=by
 intro e e' he
 have q:∀ (l r:Ty) (fr en:Int),Step n (jv M l r fr en) (jv N l r fr en):=Step.jv hN hM
 unfold xw
 refine Step.bd (Step.jm n) fun own=>Step.cO _ ?_
 have fin:∀ (l r:Ty) (fr en:Int),Step n (bd (jv M l r fr en) fun _=>pu own) (bd (jv N l r fr en) fun _=>pu own):=fun l r fr en=>Step.bd (q _ _ _ _) fun _=>Step.pu n _
 refine Step.ite (fin _ _ _ _) (Step.ite (fin _ _ _ _) (Step.ite (Step.bd (he.look _) fun t=>fin _ _ _ _) (Step.ite ?_ (Step.ite ?_ (Step.ite ?_ ?_)))))
 ·exact Step.bd (Step.jm n) fun b=>Step.bd (hv.at 0 (.cons (Step.pu n b) he)) fun t=>fin _ _ _ _
 ·exact Step.bd (EI hN hM h (hv.at 0 he) fun c c' hc=>hv.at 1 (.cons hc he)) fun t=>fin _ _ _ _
 ·exact Step.bd (EI hN hM h (Step.bd (Step.jm n) fun v=>Step.bd (hv.at 0 (.cons (Step.pu n v) he)) fun t=>Step.bd (q _ _ _ _) fun _=>Step.pu n _) fun c c' hc=>hv.at 1 (.cons hc he)) fun t=>fin _ _ _ _
 refine Step.bd (Vr.map he hv) fun p=>?_
 exact Step.ite (fin _ _ _ _) (Step.ite (Step.bd (q _ _ _ _) fun _=>Step.bd (q _ _ _ _) fun _=>fin _ _ _ _) (Step.ite (fin _ _ _ _) (Step.ite (Step.bd (q _ _ _ _) fun _=>fin _ _ _ _) (Step.pu n _))))
theorem vX (hN:N=n) (hM:N<=M):∀ f:To,Vr n (vF M f) (vF N f)
 | .nil=>.nil
 | .cons h ps r=>.cons (EJ hN hM h ps (vX hN hM ps)) (vX hN hM r)
theorem KO (hN:N=n) (hM:N<=M) (h:Nd) (ps:To):Step n (EH M h ps []) (EH N h ps []):=EJ hN hM h ps (vX hN hM ps) [] [] .nil
end
end Em
end
section
open Go.RowKit
namespace Em
abbrev ec (t:qK) (o1:Option Addr) (l1 c1:Nat) (o2:Option Addr) (l2 c2:Nat):Array Value :=
 #[.int .i64 t.1.1,.int .i64 t.1.2.1,.slice o1 l1 c1,.int .i64 t.2.1.1,.int .i64 t.2.1.2.1,.slice o2 l2 c2,.int .i64 t.2.2.1,.int .i64 t.2.2.2]
def nC (R:Nat->Prop) (w:World):List Value->List qK->Prop
 | xs,[]=>xs=[]
 | xs,t::r=>∃ o1 l1 c1 o2 l2 c2 ys,xs=(ec t o1 l1 c1 o2 l2 c2).toList++ys/\aC R w o1 l1 t.1.2.2/\aC R w o2 l2 t.2.1.2.2/\nC R w ys r
theorem nC.fr {R T S:Nat->Prop} {w w':World} (hf:Fr S w w') (hR:∀ k,k < w.heap.size->R k->T k/\¬ S k):∀ (l:List qK) (xs:List Value),nC R w xs l->nC T w' xs l
 | [],_,h=>h
 | t::r,xs,h=>by
  obtain ⟨o1,l1,c1,o2,l2,c2,ys,rfl,s1,s2,hr⟩:=h
  exact ⟨o1,l1,c1,o2,l2,c2,ys,rfl,s1.fr hf hR,s2.fr hf hR,nC.fr hf hR r ys hr⟩
theorem nC.snoc {R:Nat->Prop} {w:World} {t:qK} {o1:Option Addr} {l1 c1:Nat} {o2:Option Addr} {l2 c2:Nat} (s1:aC R w o1 l1 t.1.2.2) (s2:aC R w o2 l2 t.2.1.2.2):∀ (l:List qK) (xs:List Value),nC R w xs l->nC R w (xs++(ec t o1 l1 c1 o2 l2 c2).toList) (l++[t])
 | [],xs,h=>by
  cases h
  exact ⟨o1,l1,c1,o2,l2,c2,[],by simp,s1,s2,rfl⟩
 | u::r,xs,h=>by
  obtain ⟨p1,m1,d1,p2,m2,d2,ys,rfl,s1',s2',hr⟩:=h
  exact ⟨p1,m1,d1,p2,m2,d2,_,by rw [List.append_assoc],s1',s2',nC.snoc s1 s2 r ys hr⟩
theorem nC.get {R:Nat->Prop} {w:World}:∀ (l:List qK) (xs:List Value) (i:Nat) (t:qK),nC R w xs l->l[i]?=some t->∃ o1 l1 c1 o2 l2 c2,aC R w o1 l1 t.1.2.2/\aC R w o2 l2 t.2.1.2.2/\∀ j,j < 8->xs[i * 8+j]?=(ec t o1 l1 c1 o2 l2 c2)[j]?
 | [],xs,i,t,_,h=>by simp at h
 | u::r,xs,0,t,h,hi=>by
  obtain ⟨o1,l1,c1,o2,l2,c2,ys,rfl,s1,s2,hr⟩:=h
  simp at hi;subst hi
  refine ⟨o1,l1,c1,o2,l2,c2,s1,s2,fun j hj=>?_⟩
  rw [Nat.zero_mul,Nat.zero_add,List.getElem?_append_left (by simpa using hj)]
  simp
 | u::r,xs,i+1,t,h,hi=>by
  obtain ⟨p1,m1,d1,p2,m2,d2,ys,rfl,s1,s2,hr⟩:=h
  obtain ⟨o1,l1,c1,o2,l2,c2,t1,t2,hj⟩:=nC.get r ys i t hr (by simpa using hi)
  refine ⟨o1,l1,c1,o2,l2,c2,t1,t2,fun j hj'=>?_⟩
  rw [List.getElem?_append_right (by simp;omega),<-hj j hj']
  congr 1
  simp;omega
theorem nC.length {R:Nat->Prop} {w:World}:∀ (l:List qK) (xs:List Value),nC R w xs l->xs.length=l.length * 8
 | [],xs,h=>by cases h;rfl
 | t::r,xs,h=>by
  obtain ⟨o1,l1,c1,o2,l2,c2,ys,rfl,_,_,hr⟩:=h
  have:=nC.length r ys hr
  simp;omega
def QC (R:Nat->Prop) (w:World) (b off:Nat) (l:List qK):Prop:=∀ i t,l[i]?=some t->∃ o1 l1 c1 o2 l2 c2,aC R w o1 l1 t.1.2.2/\aC R w o2 l2 t.2.1.2.2 /\
 w.cell? ⟨b,off+i * 8,none⟩=some (.int .i64 t.1.1)/\w.cell? ⟨b,off+i * 8+1,none⟩=some (.int .i64 t.1.2.1)/\w.cell? ⟨b,off+i * 8+2,none⟩=some (.slice o1 l1 c1) /\
 w.cell? ⟨b,off+i * 8+3,none⟩=some (.int .i64 t.2.1.1)/\w.cell? ⟨b,off+i * 8+4,none⟩=some (.int .i64 t.2.1.2.1)/\w.cell? ⟨b,off+i * 8+5,none⟩=some (.slice o2 l2 c2) /\
 w.cell? ⟨b,off+i * 8+6,none⟩=some (.int .i64 t.2.2.1)/\w.cell? ⟨b,off+i * 8+7,none⟩=some (.int .i64 t.2.2.2)
theorem QC.Y7 {R:Nat->Prop} {w:World} {b off:Nat} {l:List qK} {xs:List Value} (h:nC R w xs l) (hc:∀ j u,xs[j]?=some u->w.cell? ⟨b,off+j,none⟩=some u):QC R w b off l:=by
 intro i t hi
 obtain ⟨o1,l1,c1,o2,l2,c2,s1,s2,hj⟩:=nC.get l xs i t h hi
 have hc':∀ j (h8:j < 8),w.cell? ⟨b,off+i * 8+j,none⟩=(ec t o1 l1 c1 o2 l2 c2)[j]?:=by
  intro j h8
  have e:=hj j h8
  rw [Array.getElem?_eq_getElem (by simpa using h8)] at e ⊢
  have:=hc (i * 8+j) _ e
  rw [<-this];congr 2;omega
 exact ⟨o1,l1,c1,o2,l2,c2,s1,s2,hc' 0 (by omega),hc' 1 (by omega),hc' 2 (by omega),hc' 3 (by omega),hc' 4 (by omega),hc' 5 (by omega),hc' 6 (by omega),hc' 7 (by omega)⟩
end Em
end
section
open Go.RowKit
namespace Em
theorem EK:Elem Tryz.prog 42 74 (.agg #[.int .i64 0,.int .i64 0,.slice none 0 0,.int .i64 0,.int .i64 0,.slice none 0 0,.int .i64 0,.int .i64 0]) 8 96 :=
 ⟨Tryz.underlying42,by kernel_rfl,by decide,by decide⟩
theorem EL {W:World} {b:Nat} {v0 v1:Value} {t:TypeId} (h:W.heap[b]?=some (.cells #[v0,v1] t (0,0))):W.cell? ⟨b,0,none⟩=some v0/\W.cell? ⟨b,1,none⟩=some v1:=by
 refine ⟨?_,?_⟩<;>(rw [cell_of_row _ _ _ _ _ (0,0) h];rfl)
end Em
end
section
namespace Em
open Sc (iq dn ix ixE)
def run (most:Int) (h:Nd) (ps:To):Mk:=(EH most h ps [] ⟨[],0,false⟩).2
theorem Y8 {M:Nat} {h:Nd} {ps:To} (hm:(run M h ps).many=false):(run M h ps).eqs.length<=M:=by
 rcases (KO (M:=(M:Int)) (N:=(M:Int)) (n:=M) rfl (Int.le_refl _) h ps).lock ⟨[],0,false⟩ rfl (Nat.zero_le _) with ⟨_,h2,_⟩ | ⟨h1,_⟩
 ·exact h2
 ·unfold run at hm;rw [hm] at h1;cases h1
end Em
end
section
namespace Em
structure Has {α:Type} (most:Int) (E V:Nat) (f:Pm α):Prop where
 up:∀ m,m.many=true->(f m).2.many=true
 ct:∀ m,m.many=false->((f m).2.many=false/\(f m).2.eqs.length=m.eqs.length+E/\(f m).2.next=m.next+V)∨((f m).2.many=true/\most < (m.eqs.length:Int)+E)
theorem Has.pu {α:Type} (most:Int) (a:α):Has most 0 0 (pu a):=⟨fun _ h=>h,fun _ h=>.inl ⟨h,rfl,rfl⟩⟩
theorem Has.Ac (most:Int):Has most 0 0 Ac:=⟨fun _ h=>h,fun _ h=>.inl ⟨h,rfl,rfl⟩⟩
theorem Has.jm (most:Int):Has most 0 1 jm:=⟨fun _ h=>h,fun _ h=>.inl ⟨h,rfl,rfl⟩⟩
theorem Has.zJ (most:Int) (d:Nat):Has most 0 d (zJ d):=⟨fun _ h=>h,fun _ h=>.inl ⟨h,rfl,rfl⟩⟩
theorem Has.jv (most:Int) (l r:Ty) (fr en:Int):Has most 1 0 (jv most l r fr en):=by
 refine ⟨fun m hm=>?_,fun m hm=>?_⟩
 ·unfold Em.jv;dsimp only;split
  ·rfl
  ·exact hm
 ·unfold Em.jv;dsimp only
  by_cases h:most<=m.eqs.length
  ·rw [if_pos h];exact .inr ⟨rfl,by omega⟩
  ·rw [if_neg h];exact .inl ⟨hm,by simp,rfl⟩
theorem Has.bd {α β:Type} {most:Int} {E V E' V':Nat} {f:Pm α} {g:α->Pm β} (h:Has most E V f) (k:∀ a,Has most E' V' (g a)):Has most (E+E') (V+V') (bd f g):=by
 refine ⟨fun m hm=>(k _).up _ (h.up m hm),fun m hm=>?_⟩
 rcases h.ct m hm with ⟨h1,h2,h3⟩ | ⟨h1,h2⟩
 ·rcases (k (f m).1).ct (f m).2 h1 with ⟨k1,k2,k3⟩ | ⟨k1,k2⟩
  ·exact .inl ⟨k1,by unfold Em.bd;rw [k2,h2];omega,by unfold Em.bd;rw [k3,h3];omega⟩
  ·exact .inr ⟨k1,by rw [h2] at k2;omega⟩
 ·exact .inr ⟨(k _).up _ h1,by omega⟩
theorem Has.cO {α:Type} {most:Int} {E V:Nat} (x:α) {f:Pm α} (h:Has most E V f):Has most E V (cO x f):=by
 refine ⟨fun m hm=>?_,fun m hm=>?_⟩
 ·unfold Em.cO;rw [hm];exact hm
 ·unfold Em.cO;rw [hm];simp only [Bool.false_eq_true,if_false];exact h.ct m hm
theorem Has.cast {α:Type} {most:Int} {E V E' V':Nat} {f:Pm α} (h:Has most E V f) (he:E=E') (hv:V=V'):Has most E' V' f:=by subst he hv;exact h
theorem EM (most:Int) (sh:Ty->Ty):∀ l:List qK,Has most l.length 0 (iD most sh l)
 | []=>Has.pu most _
 | e::r=>Has.cO _ ((Has.bd (Has.jv most _ _ _ _) fun _=>EM most sh r).cast (by simp;omega) rfl)
theorem vY (most:Int) (kept:List qK) (v:Ty) (fr tt:Nat):Has most kept.length (tt - fr) (copied most kept v fr tt) :=
 (Has.bd (Has.Ac most) fun _=>Has.bd (Has.zJ most (tt - fr)) fun _=>Has.bd (EM most _ kept) fun _=>Has.pu most _).cast (by omega) (by omega)
theorem IC {most:Int} {E V:Nat} {E' V':Nat->Nat} (h:Nd) {f:Pm Ty} {g:Pm Ty->Pm Ty} (hf:Has most E V f) (hg:∀ c a b,Has most a b c->Has most (E' a) (V' b) (g c)):Has most (E+E' E) (V+V' V) (Gn most h f g):=by
 refine ⟨fun m hm=>?_,fun m hm=>?_⟩
 ·exact (hg _ _ _ (vY _ _ _ _ _)).up _ (hf.up m hm)
 ·rcases hf.ct m hm with ⟨h1,h2,h3⟩ | ⟨h1,h2⟩
  ·have hc:=vY most ((f m).2.eqs.drop m.eqs.length) (f m).1 m.next (f m).2.next
   have hc':Has most E V (copied most ((f m).2.eqs.drop m.eqs.length) (f m).1 m.next (f m).2.next):=hc.cast (by rw [List.length_drop,h2];omega) (by rw [h3];omega)
   rcases (hg _ _ _ hc').ct (f m).2 h1 with ⟨k1,k2,k3⟩ | ⟨k1,k2⟩
   ·exact .inl ⟨k1,k2.trans (by rw [h2];omega),k3.trans (by rw [h3];omega)⟩
   ·exact .inr ⟨k1,by rw [h2] at k2;omega⟩
  ·exact .inr ⟨(hg _ _ _ (vY _ _ _ _ _)).up _ h1,by omega⟩
end Em
end
section
namespace Em
abbrev gV:=List (ByteArray × Nat)
def qc:gV->ByteArray->Nat
 | [],_=>0
 | x::r,s=>if x.1=s then x.2 else qc r s
abbrev at0 (vs:List (gV->Nat)) (i:Nat) (e:gV):Nat:=vs.getD i (fun _=>0) e
def IE (e:gV):List (gV->Nat)->Nat
 | []=>0
 | v::r=>v e+IE e r
def uN (own:Int->Nat) (rc:Nat) (h:Nd) (vs:List (gV->Nat)) (e:gV):Nat :=
 if h.k=1 then own h.k+qc e h.nm
 else if h.k=4 then own h.k+at0 vs 0 ((h.nm,0)::e)
 else if h.k=6 then own h.k+(at0 vs 0 e+at0 vs 1 ((h.nm,at0 vs 0 e)::e))
 else if h.k=7 then own h.k+((rc+at0 vs 0 ((h.nm,0)::e))+at0 vs 1 ((h.nm,rc+at0 vs 0 ((h.nm,0)::e))::e))
 else own h.k+IE e vs
def EN (own:Int->Nat) (rc:Nat):To->List (gV->Nat)
 | .nil=>[]
 | .cons h ps r=>uN own rc h (EN own rc ps)::EN own rc r
def Cc (own:Int->Nat) (rc:Nat) (h:Nd) (ps:To) (e:gV):Nat:=uN own rc h (EN own rc ps) e
def IG (k:Int):Nat:=if k=8 then 3 else if k=10 then 2 else 1
def PD (k:Int):Nat:=if k=4 then 2 else 1
def WB:To->Prop
 | .nil=>True
 | .cons h ps r=>(1<=h.k/\h.k<=10/\((h.k=2∨h.k=3)->ps=.nil))/\WB ps/\WB r
inductive II (most:Int):Env->gV->gV->Prop
 | nil:II most [] [] []
 | cons {s:ByteArray} {f:Pm Ty} {a b:Nat} {e:Env} {eE eV:gV}:Has most a b f->II most e eE eV->II most ((s,f)::e) ((s,a)::eE) ((s,b)::eV)
theorem II.look {most:Int} {e:Env} {eE eV:gV} (h:II most e eE eV) (s:ByteArray):Has most (qc eE s) (qc eV s) (tV e s):=by
 induction h with
 | nil=>exact Has.pu most _
 | cons h1 _ ih =>
  unfold tV qc
  dsimp only
  split
  ·exact h1
  ·exact ih
def VH (most:Int) (v:Env->Pm Ty) (a b:gV->Nat):Prop:=∀ e eE eV,II most e eE eV->Has most (a eE) (b eV) (v e)
inductive Vs (most:Int):List (Env->Pm Ty)->List (gV->Nat)->List (gV->Nat)->Prop
 | nil:Vs most [] [] []
 | cons {v:Env->Pm Ty} {a b:gV->Nat} {l:List (Env->Pm Ty)} {la lb:List (gV->Nat)}:VH most v a b->Vs most l la lb->Vs most (v::l) (a::la) (b::lb)
theorem Vs.at {most:Int} {l:List (Env->Pm Ty)} {la lb:List (gV->Nat)} (h:Vs most l la lb):∀ (i:Nat) {e:Env} {eE eV:gV},II most e eE eV->Has most (at0 la i eE) (at0 lb i eV) (Pz l i e):=by
 induction h with
 | nil=>intro i e eE eV _;exact Has.pu most _
 | cons h1 _ ih =>
  intro i e eE eV he
  cases i with
  | zero=>exact h1 _ _ _ he
  | succ i=>exact ih i he
theorem Vs.map {most:Int} {e:Env} {eE eV:gV} (he:II most e eE eV) {l:List (Env->Pm Ty)} {la lb:List (gV->Nat)} (h:Vs most l la lb):Has most (IE eE la) (IE eV lb) (Iy e l):=by
 induction h with
 | nil=>exact Has.pu most _
 | cons h1 _ ih=>exact (Has.bd (h1 _ _ _ he) fun t=>Has.bd ih fun l=>Has.pu most _).cast (by simp [IE]) (by simp [IE])
theorem IJ (most:Int) (h:Nd) (ps:To) (hk:1<=h.k/\h.k<=10) {vs:List (Env->Pm Ty)} {la lb:List (gV->Nat)} (hp:(h.k=2∨h.k=3)->la=[]/\lb=[]) (hv:Vs most vs la lb):VH most (xw most h ps vs) (uN IG 1 h la) (uN PD 1 h lb):=by
 intro e eE eV he
 have q:∀ (l r:Ty) (fr en:Int),Has most 1 0 (jv most l r fr en):=Has.jv most
 unfold xw
 have key:∀ {E V:Nat} {F:Ty->Pm Ty},(∀ own,Has most E V (F own))->Has most E (V+1) (bd jm fun own=>cO own (F own)):=fun hF=>(Has.bd (Has.jm most) fun own=>Has.cO own (hF own)).cast (by omega) (by omega)
 have fin:∀ (own l r:Ty) (fr en:Int),Has most 1 0 (bd (jv most l r fr en) fun _=>pu own):=fun own l r fr en=>(Has.bd (q l r fr en) fun _=>Has.pu most own).cast rfl rfl
 obtain ⟨k1,k10⟩:=hk
 have XQ:∀ (ow:Int->Nat) (la:List (gV->Nat)) (e:gV),h.k=1->uN ow 1 h la e=ow h.k+qc e h.nm:=fun ow la e c=>by unfold uN;rw [if_pos c]
 have XR:∀ (ow:Int->Nat) (la:List (gV->Nat)) (e:gV),h.k=4->uN ow 1 h la e=ow h.k+at0 la 0 ((h.nm,0)::e):=fun ow la e c=>by unfold uN;rw [if_neg (by omega),if_pos c]
 have XT:∀ (ow:Int->Nat) (la:List (gV->Nat)) (e:gV),h.k=6->uN ow 1 h la e=ow h.k+(at0 la 0 e+at0 la 1 ((h.nm,at0 la 0 e)::e)):=fun ow la e c=>by unfold uN;rw [if_neg (by omega),if_neg (by omega),if_pos c]
 have XU:∀ (ow:Int->Nat) (la:List (gV->Nat)) (e:gV),h.k=7->uN ow 1 h la e=ow h.k+((1+at0 la 0 ((h.nm,0)::e))+at0 la 1 ((h.nm,1+at0 la 0 ((h.nm,0)::e))::e)):=fun ow la e c=>by unfold uN;rw [if_neg (by omega),if_neg (by omega),if_neg (by omega),if_pos c]
 have rQ:∀ (ow:Int->Nat) (la:List (gV->Nat)) (e:gV),h.k≠1->h.k≠4->h.k≠6->h.k≠7->uN ow 1 h la e=ow h.k+IE e la:=fun ow la e c1 c4 c6 c7=>by unfold uN;rw [if_neg c1,if_neg c4,if_neg c6,if_neg c7]
 have oE:h.k≠8->h.k≠10->IG h.k=1:=fun a b=>by unfold IG;rw [if_neg a,if_neg b]
 have oV:h.k≠4->PD h.k=1:=fun a=>by unfold PD;rw [if_neg a]
 by_cases c2:h.k=2
 ·obtain ⟨rfl,rfl⟩:=hp (.inl c2)
  simp only [if_pos c2]
  refine Has.cast (key fun own=>fin own _ _ _ _) ?_ ?_
  ·rw [rQ _ _ _ (by omega) (by omega) (by omega) (by omega),oE (by omega) (by omega)];rfl
  ·rw [rQ _ _ _ (by omega) (by omega) (by omega) (by omega),oV (by omega)];rfl
 by_cases c3:h.k=3
 ·obtain ⟨rfl,rfl⟩:=hp (.inr c3)
  simp only [if_neg c2,if_pos c3]
  refine Has.cast (key fun own=>fin own _ _ _ _) ?_ ?_
  ·rw [rQ _ _ _ (by omega) (by omega) (by omega) (by omega),oE (by omega) (by omega)];rfl
  ·rw [rQ _ _ _ (by omega) (by omega) (by omega) (by omega),oV (by omega)];rfl
 by_cases c1:h.k=1
 ·simp only [if_neg c2,if_neg c3,if_pos c1]
  refine Has.cast (key fun own=>(Has.bd (he.look h.nm) fun t=>fin own _ _ _ _)) ?_ ?_
  ·rw [XQ _ _ _ c1,oE (by omega) (by omega)];omega
  ·rw [XQ _ _ _ c1,oV (by omega)];omega
 by_cases c4:h.k=4
 ·simp only [if_neg c2,if_neg c3,if_neg c1,if_pos c4]
  refine Has.cast (key fun own=>(Has.bd (Has.jm most) fun b=>Has.bd (hv.at 0 (.cons (s:=h.nm) (Has.pu most b) he)) fun t=>fin own _ _ _ _)) ?_ ?_
  ·rw [XR _ _ _ c4,oE (by omega) (by omega)];omega
  ·rw [XR _ _ _ c4,show PD h.k=2 from by unfold PD;rw [if_pos c4]];omega
 by_cases c6:h.k=6
 ·simp only [if_neg c2,if_neg c3,if_neg c1,if_neg c4,if_pos c6]
  refine Has.cast (key fun own=>(Has.bd (IC (E':=fun a=>at0 la 1 ((h.nm,a)::eE)) (V':=fun b=>at0 lb 1 ((h.nm,b)::eV)) h (hv.at 0 he) fun c a b hc=>hv.at 1 (.cons (s:=h.nm) hc he)) fun t=>fin own _ _ _ _)) ?_ ?_
  ·rw [XT _ _ _ c6,oE (by omega) (by omega)];omega
  ·rw [XT _ _ _ c6,oV (by omega)];omega
 by_cases c7:h.k=7
 ·simp only [if_neg c2,if_neg c3,if_neg c1,if_neg c4,if_neg c6,if_pos c7]
  have hf:Has most (1+at0 la 0 ((h.nm,0)::eE)) (1+at0 lb 0 ((h.nm,0)::eV)) (bd jm fun v=>bd (Pz vs 0 ((h.nm,pu v)::e)) fun t=>bd (jv most v t h.fr h.en) fun _=>pu v) :=
   (Has.bd (Has.jm most) fun v=>Has.bd (hv.at 0 (.cons (s:=h.nm) (Has.pu most v) he)) fun t=>fin v _ _ _ _).cast (by omega) (by omega)
  refine Has.cast (key fun own=>(Has.bd (IC (E':=fun a=>at0 la 1 ((h.nm,a)::eE)) (V':=fun b=>at0 lb 1 ((h.nm,b)::eV)) h hf fun c a b hc=>hv.at 1 (.cons (s:=h.nm) hc he)) fun t=>fin own _ _ _ _)) ?_ ?_
  ·rw [XU _ _ _ c7,oE (by omega) (by omega)];omega
  ·rw [XU _ _ _ c7,oV (by omega)];omega
 have hm:=Vs.map he hv
 by_cases c5:h.k=5
 ·simp only [if_neg c2,if_neg c3,if_neg c1,if_neg c4,if_neg c6,if_neg c7,if_pos c5]
  refine Has.cast (key fun own=>Has.bd hm fun p=>fin own _ _ _ _) ?_ ?_
  ·rw [rQ _ _ _ c1 c4 c6 c7,oE (by omega) (by omega)];omega
  ·rw [rQ _ _ _ c1 c4 c6 c7,oV c4];omega
 by_cases c8:h.k=8
 ·simp only [if_neg c2,if_neg c3,if_neg c1,if_neg c4,if_neg c6,if_neg c7,if_neg c5,if_pos c8]
  refine Has.cast (key fun own=>Has.bd hm fun p=>Has.bd (q _ _ _ _) fun _=>Has.bd (q _ _ _ _) fun _=>fin own _ _ _ _) ?_ ?_
  ·rw [rQ _ _ _ c1 c4 c6 c7,show IG h.k=3 from by unfold IG;rw [if_pos c8]];omega
  ·rw [rQ _ _ _ c1 c4 c6 c7,oV c4];omega
 by_cases c9:h.k=9
 ·simp only [if_neg c2,if_neg c3,if_neg c1,if_neg c4,if_neg c6,if_neg c7,if_neg c5,if_neg c8,if_pos c9]
  refine Has.cast (key fun own=>Has.bd hm fun p=>fin own _ _ _ _) ?_ ?_
  ·rw [rQ _ _ _ c1 c4 c6 c7,oE (by omega) (by omega)];omega
  ·rw [rQ _ _ _ c1 c4 c6 c7,oV c4];omega
 have c10:h.k=10:=by omega
 simp only [if_neg c2,if_neg c3,if_neg c1,if_neg c4,if_neg c6,if_neg c7,if_neg c5,if_neg c8,if_neg c9,if_pos c10]
 refine Has.cast (key fun own=>Has.bd hm fun p=>Has.bd (q _ _ _ _) fun _=>fin own _ _ _ _) ?_ ?_
 ·rw [rQ _ _ _ c1 c4 c6 c7,show IG h.k=2 from by unfold IG;rw [if_neg c8,if_pos c10]];omega
 ·rw [rQ _ _ _ c1 c4 c6 c7,oV c4];omega
theorem yR (most:Int):∀ f:To,WB f->Vs most (vF most f) (EN IG 1 f) (EN PD 1 f)
 | .nil,_=>.nil
 | .cons h ps r,⟨⟨a,b,c⟩,hps,hr⟩=>.cons (IJ most h ps ⟨a,b⟩ (fun k=>by rw [c k];exact ⟨rfl,rfl⟩) (yR most ps hps)) (yR most r hr)
theorem WC (most:Int) (h:Nd) (ps:To) (hk:WB (.cons h ps .nil)):Has most (Cc IG 1 h ps []) (Cc PD 1 h ps []) (EH most h ps []):=by
 obtain ⟨⟨a,b,c⟩,hps,_⟩:=hk
 exact IJ most h ps ⟨a,b⟩ (fun k=>by rw [c k];exact ⟨rfl,rfl⟩) (yR most ps hps) [] [] [] .nil
end Em
end
section
namespace Em
theorem Tc (most:Int) (l r:Ty) (fr en:Int) (m:Mk):(jv most l r fr en m).2.next=m.next:=by unfold jv;dsimp only;split<;>rfl
def Mn (M s:Nat) {α:Type} (f:Pm α):Prop:=∀ m,m.eqs.length<=M->m.many=true->(f m).2.many=true/\m.eqs.length<=(f m).2.eqs.length/\(f m).2.eqs.length<=M/\(f m).2.next<=m.next+s
def Be (M s:Nat) (d:Int) {α:Type} (f:Pm α):Prop:=∀ m,m.eqs.length<=M->m.many=false->m.eqs.length<=(f m).2.eqs.length/\(f m).2.eqs.length<=M /\
 (((f m).2.many=false/\((f m).2.next:Int)+2 * m.eqs.length<=m.next+2 * (f m).2.eqs.length+d)∨((f m).2.many=true/\(f m).2.next+2 * m.eqs.length<=m.next+2 * (f m).2.eqs.length+s+2 * M))
section
variable {M:Nat}
theorem Mn.mono {s t:Nat} {α:Type} {f:Pm α} (h:Mn M s f) (hs:s<=t):Mn M t f:=fun m h1 h2=>by
 obtain ⟨a,b,c,d⟩:=h m h1 h2
 exact ⟨a,b,c,by omega⟩
theorem Be.mono {s t:Nat} {d e:Int} {α:Type} {f:Pm α} (h:Be M s d f) (hs:s<=t) (hd:d<=e):Be M t e f:=fun m h1 h2=>by
 obtain ⟨a,b,c⟩:=h m h1 h2
 exact ⟨a,b,c.imp (fun ⟨x,y⟩=>⟨x,by omega⟩) (fun ⟨x,y⟩=>⟨x,by omega⟩)⟩
theorem Mn.bind {s t:Nat} {α β:Type} {f:Pm α} {g:α->Pm β} (h:Mn M s f) (k:∀ a,Mn M t (g a)):Mn M (s+t) (bd f g):=fun m h1 h2=>by
 obtain ⟨a,b,c,d⟩:=h m h1 h2
 obtain ⟨a',b',c',d'⟩:=k (f m).1 (f m).2 c a
 exact ⟨a',Nat.le_trans b b',c',by show (g _ _).2.next<=_;omega⟩
theorem Be.bind {s t:Nat} {d e:Int} {α β:Type} {f:Pm α} {g:α->Pm β} (h:Be M s d f) (hd:d<=s) (k:∀ a,Be M t e (g a)) (l:∀ a,Mn M t (g a)):Be M (s+t) (d+e) (bd f g):=fun m h1 h2=>by
 obtain ⟨a,b,c⟩:=h m h1 h2
 rcases c with ⟨c1,c2⟩ | ⟨c1,c2⟩
 ·obtain ⟨a',b',c'⟩:=k (f m).1 (f m).2 b c1
  refine ⟨Nat.le_trans a a',b',?_⟩
  rcases c' with ⟨c3,c4⟩ | ⟨c3,c4⟩
  ·exact .inl ⟨c3,by show ((g _ _).2.next:Int)+_<=m.next+2 * ((g _ _).2.eqs.length:Int)+_;omega⟩
  ·exact .inr ⟨c3,by show (g _ _).2.next+_<=m.next+2 * (g _ _).2.eqs.length+_+_;omega⟩
 ·obtain ⟨a',b',c',d'⟩:=l (f m).1 (f m).2 b c1
  exact ⟨Nat.le_trans a b',c',.inr ⟨a',by show (g _ _).2.next+_<=m.next+2 * (g _ _).2.eqs.length+_+_;omega⟩⟩
theorem Mn.pure {α:Type} (a:α):Mn M 0 (pu a):=fun _ h1 h2=>⟨h2,Nat.le_refl _,h1,Nat.le_refl _⟩
theorem Be.pure {α:Type} (a:α):Be M 0 0 (pu a):=fun m h1 h2=>⟨Nat.le_refl _,h1,.inl ⟨h2,by show (m.next:Int)+2 * m.eqs.length<=m.next+2 * m.eqs.length+0;omega⟩⟩
theorem Mn.take:Mn M 1 jm:=fun _ h1 h2=>⟨h2,Nat.le_refl _,h1,Nat.le_refl _⟩
theorem Be.take:Be M 1 1 jm:=fun m h1 h2=>⟨Nat.le_refl _,h1,.inl ⟨h2,by show ((m.next+1:Nat):Int)+2 * m.eqs.length<=m.next+2 * m.eqs.length+1;omega⟩⟩
variable {most:Int} (hm:most<=M)
include hm
theorem Mn.eqn (l r:Ty) (fr en:Int):Mn M 0 (jv most l r fr en):=fun m h1 h2=>by
 unfold jv;dsimp only
 split
 ·exact ⟨rfl,Nat.le_refl _,h1,Nat.le_refl _⟩
 ·exact ⟨h2,by simp,by simp;omega,Nat.le_refl _⟩
theorem Be.eqn (l r:Ty) (fr en:Int):Be M 0 (-2) (jv most l r fr en):=fun m h1 h2=>by
 unfold jv;dsimp only
 split
 ·exact ⟨Nat.le_refl _,h1,.inr ⟨rfl,by show m.next+2 * m.eqs.length<=m.next+2 * m.eqs.length+0+2 * M;omega⟩⟩
 ·exact ⟨by simp,by simp;omega,.inl ⟨h2,by simp;omega⟩⟩
theorem Y9 (own l r:Ty) (fr en:Int):Mn M 0 (bd (jv most l r fr en) fun _=>pu own):=Mn.bind (Mn.eqn hm _ _ _ _) fun _=>Mn.pure _
theorem Za (own l r:Ty) (fr en:Int):Be M 0 (-2) (bd (jv most l r fr en) fun _=>pu own):=(Be.bind (Be.eqn hm _ _ _ _) (by decide) (fun _=>Be.pure own) (fun _=>Mn.pure own)).mono (Nat.le_refl _) (by decide)
theorem IK (sh:Ty->Ty):∀ (l:List qK) (m:Mk),m.eqs.length<=M->m.eqs.length<=(iD most sh l m).2.eqs.length/\(iD most sh l m).2.eqs.length<=M/\(iD most sh l m).2.next=m.next/\((iD most sh l m).2.many=false->(iD most sh l m).2.eqs.length=m.eqs.length+l.length)
 | [],m,h=>⟨Nat.le_refl _,h,rfl,fun _=>rfl⟩
 | e::r,m,h=>by
  unfold iD cO
  by_cases hmm:m.many=true
  ·rw [if_pos hmm]
   exact ⟨Nat.le_refl _,h,rfl,fun c=>absurd hmm (by show ¬ m.many=true;rw [show m.many=false from c];decide)⟩
  ·rw [if_neg hmm]
   show m.eqs.length<=(iD most sh r (jv most (sh e.1) (sh e.2.1) e.2.2.1 e.2.2.2 m).2).2.eqs.length/\(iD most sh r (jv most (sh e.1) (sh e.2.1) e.2.2.1 e.2.2.2 m).2).2.eqs.length<=M/\(iD most sh r (jv most (sh e.1) (sh e.2.1) e.2.2.1 e.2.2.2 m).2).2.next=m.next/\((iD most sh r (jv most (sh e.1) (sh e.2.1) e.2.2.1 e.2.2.2 m).2).2.many=false->(iD most sh r (jv most (sh e.1) (sh e.2.1) e.2.2.1 e.2.2.2 m).2).2.eqs.length=m.eqs.length+(r.length+1))
   have hm0:m.many=false:=by simpa using hmm
   obtain ⟨a,b,c⟩:=Be.eqn hm (sh e.1) (sh e.2.1) e.2.2.1 e.2.2.2 m h hm0
   have hn:=Tc most (sh e.1) (sh e.2.1) e.2.2.1 e.2.2.2 m
   obtain ⟨a',b',c',d'⟩:=IK sh r (jv most (sh e.1) (sh e.2.1) e.2.2.1 e.2.2.2 m).2 b
   refine ⟨Nat.le_trans a a',b',c'.trans hn,fun hf=>?_⟩
   rw [d' hf]
   have hone:(jv most (sh e.1) (sh e.2.1) e.2.2.1 e.2.2.2 m).2.many=true∨(jv most (sh e.1) (sh e.2.1) e.2.2.1 e.2.2.2 m).2.eqs.length=m.eqs.length+1:=by
    unfold jv;dsimp only
    split
    ·exact .inl rfl
    ·exact .inr (by simp)
   rcases hone with hx | hx
   ·have:=IL sh r _ hx
    rw [this] at hf;cases hf
   ·omega
where IL (sh:Ty->Ty):∀ (l:List qK) (m:Mk),m.many=true->(iD most sh l m).2.many=true
 | [],m,h=>h
 | e::r,m,h=>by unfold iD cO;rw [if_pos h];exact h
theorem PE {kept:List qK} {v:Ty} {fr tt:Nat} (h1:tt - fr<=2 * kept.length) (h2:kept.length<=M):Be M 0 0 (copied most kept v fr tt):=fun m hl hn=>by
 obtain ⟨a,b,c,d⟩:=IK hm (Na fr tt (m.next - fr)) kept { m with next:=m.next+(tt - fr) } hl
 have e:(copied most kept v fr tt m).2=(iD most (Na fr tt (m.next - fr)) kept { m with next:=m.next+(tt - fr) }).2:=rfl
 rw [e]
 generalize (iD most (Na fr tt (m.next - fr)) kept { m with next:=m.next+(tt - fr) }).2=q at *
 dsimp only at a b c d
 refine ⟨a,b,?_⟩
 cases hq:q.many
 ·have:=d hq
  exact .inl ⟨rfl,by rw [c,this];push_cast;omega⟩
 ·exact .inr ⟨rfl,by rw [c];omega⟩
theorem Nc (h:Nd) {s t:Nat} {d e:Int} {f:Pm Ty} {F:Pm Ty->Pm Ty} (hf:Be M s d f) (hd:d<=0) (hF:∀ c,Be M 0 0 c->Be M t e (F c)) (hG:∀ c,Mn M t (F c)):Be M (s+t) (d+e) (Gn most h f F):=fun m h1 h2=>by
 obtain ⟨a,b,c⟩:=hf m h1 h2
 have el:(Gn most h f F m).2=(F (copied most ((f m).2.eqs.drop m.eqs.length) (f m).1 m.next (f m).2.next) (f m).2).2:=rfl
 rw [el]
 rcases c with ⟨c1,c2⟩ | ⟨c1,c2⟩
 ·have hc:=PE hm (kept:=(f m).2.eqs.drop m.eqs.length) (v:=(f m).1) (fr:=m.next) (tt:=(f m).2.next) (by rw [List.length_drop];omega) (by rw [List.length_drop];omega)
  obtain ⟨a',b',c'⟩:=hF _ hc (f m).2 b c1
  generalize (F (copied most ((f m).2.eqs.drop m.eqs.length) (f m).1 m.next (f m).2.next) (f m).2).2=q at *
  refine ⟨Nat.le_trans a a',b',?_⟩
  rcases c' with ⟨c3,c4⟩ | ⟨c3,c4⟩
  ·exact .inl ⟨c3,by omega⟩
  ·exact .inr ⟨c3,by omega⟩
 ·obtain ⟨a',b',c',d'⟩:=hG (copied most ((f m).2.eqs.drop m.eqs.length) (f m).1 m.next (f m).2.next) (f m).2 b c1
  exact ⟨Nat.le_trans a b',c',.inr ⟨a',by omega⟩⟩
end
theorem Be.many {M s:Nat} {d:Int} {α:Type} (x:α) {f:Pm α} (h:Be M s d f):Be M s d (cO x f):=fun m h1 h2=>by
 unfold cO;rw [if_neg (by rw [h2];decide)];exact h m h1 h2
theorem Mn.many {M s:Nat} {α:Type} (x:α) (f:Pm α):Mn M s (cO x f):=fun m h1 h2=>by
 unfold cO;rw [if_pos h2];exact ⟨h2,Nat.le_refl _,h1,Nat.le_add_right _ _⟩
theorem Be.ite {M s:Nat} {d:Int} {α:Type} {c:Prop} [Decidable c] {f g:Pm α} (h1:c->Be M s d f) (h2:¬ c->Be M s d g):Be M s d (if c then f else g):=by
 by_cases hc:c
 ·rw [if_pos hc];exact h1 hc
 ·rw [if_neg hc];exact h2 hc
theorem Mn.ite {M s:Nat} {α:Type} {c:Prop} [Decidable c] {f g:Pm α} (h1:Mn M s f) (h2:Mn M s g):Mn M s (if c then f else g):=by
 by_cases hc:c
 ·rw [if_pos hc];exact h1
 ·rw [if_neg hc];exact h2
def BE (M:Nat) (e:Env):Prop:=∀ x∈e,Be M 0 0 x.2
theorem BE.cons {M:Nat} {e:Env} (h:BE M e) {s:ByteArray} {f:Pm Ty} (hf:Be M 0 0 f):BE M ((s,f)::e):=fun x hx=>by
 rcases List.mem_cons.1 hx with rfl | hx
 ·exact hf
 ·exact h x hx
theorem IQ {M:Nat}:∀ (e:Env) (s:ByteArray),BE M e->Be M 0 0 (tV e s)
 | [],s,_=>Be.pure _
 | x::r,s,h=>by
  unfold tV
  exact Be.ite (fun _=>h x (by simp)) (fun _=>IQ r s (fun y hy=>h y (by simp [hy])))
structure VBe (M s:Nat) (v:Env->Pm Ty):Prop where
 be:∀ e,BE M e->Be M s 0 (v e)
 mn:∀ e,Mn M s (v e)
inductive Gp (M:Nat):List (Env->Pm Ty)->List Nat->Prop
 | nil:Gp M [] []
 | cons {s:Nat} {v:Env->Pm Ty} {l:List (Env->Pm Ty)} {k:List Nat}:VBe M s v->Gp M l k->Gp M (v::l) (s::k)
theorem Gp.at {M:Nat} {l:List (Env->Pm Ty)} {k:List Nat} (h:Gp M l k):∀ (i:Nat),VBe M (k.getD i 0) (Pz l i):=by
 induction h with
 | nil=>intro i;exact ⟨fun e _=>Be.pure _,fun e=>Mn.pure _⟩
 | cons h1 _ ih =>
  intro i
  cases i with
  | zero=>exact h1
  | succ i=>exact ih i
theorem Gp.map {M:Nat} {e:Env} {l:List (Env->Pm Ty)} {k:List Nat} (h:Gp M l k):Mn M k.sum (Iy e l)/\(BE M e->Be M k.sum 0 (Iy e l)):=by
 induction h with
 | nil=>exact ⟨Mn.pure _,fun _=>Be.pure _⟩
 | @cons s v l k h1 _ ih =>
  refine ⟨by rw [List.sum_cons];exact Mn.bind (h1.mn e) fun t=>(Mn.bind ih.1 fun l=>Mn.pure _).mono (Nat.le_refl _),fun he=>?_⟩
  rw [List.sum_cons]
  exact (Be.bind (h1.be e he) (by omega) (fun t=>Be.bind (ih.2 he) (by omega) (fun l=>Be.pure _) (fun l=>Mn.pure _)) (fun t=>Mn.bind ih.1 fun l=>Mn.pure _)).mono (by simp) (by decide)
theorem aaO:∀ k:List Nat,k.getD 0 0<=k.sum
 | []=>Nat.le_refl _
 | a::r=>by simp
theorem XV:∀ k:List Nat,k.getD 0 0+k.getD 1 0<=k.sum
 | []=>Nat.le_refl _
 | [a]=>by simp
 | a::b::r=>by simp
theorem Nh {M:Nat} {most:Int} (hm:most<=M) (h:Nd) (ps:To) (hk:1<=h.k/\h.k<=10) {vs:List (Env->Pm Ty)} {k:List Nat} (hv:Gp M vs k):VBe M (2+k.sum) (xw most h ps vs):=by
 refine ⟨fun e he=>?_,fun e=>(Mn.bind (t:=1+k.sum) Mn.take fun own=>Mn.many own _).mono (by omega)⟩
 have q0:=aaO k
 have q01:=XV k
 have fin:=Za hm
 have Nj:=Y9 hm
 unfold xw
 refine (Be.bind (t:=1+k.sum) (e:=-1) Be.take (by decide) (fun own=>Be.many own ?_) (fun own=>Mn.many own _)).mono (by omega) (by decide)
 refine Be.ite (fun _=>(fin _ _ _ _ _).mono (by omega) (by decide)) fun _=>Be.ite (fun _=>(fin _ _ _ _ _).mono (by omega) (by decide)) fun _=>Be.ite (fun _=>?_) fun n1=>Be.ite (fun _=>?_) fun n4=>Be.ite (fun _=>?_) fun n6=>Be.ite (fun _=>?_) fun n7=>?_
 ·exact (Be.bind (IQ e _ he) (by decide) (fun t=>fin _ _ _ _ _) (fun t=>Nj _ _ _ _ _)).mono (by omega) (by decide)
 ·exact (Be.bind Be.take (by decide) (fun b=>Be.bind ((hv.at 0).be _ (he.cons (Be.pure b))) (by omega) (fun t=>fin _ _ _ _ _) (fun t=>Nj _ _ _ _ _)) (fun b=>Mn.bind ((hv.at 0).mn _) fun t=>Nj _ _ _ _ _)).mono (by omega) (by decide)
 ·exact (Be.bind (Nc hm h ((hv.at 0).be e he) (by decide) (fun c hc=>(hv.at 1).be _ (he.cons hc)) (fun c=>(hv.at 1).mn _)) (by omega) (fun t=>fin _ _ _ _ _) (fun t=>Nj _ _ _ _ _)).mono (by omega) (by decide)
 ·refine (Be.bind (Nc hm h (s:=1+k.getD 0 0) (d:=-1) ?_ (by decide) (fun c hc=>(hv.at 1).be _ (he.cons hc)) (fun c=>(hv.at 1).mn _)) (by omega) (fun t=>fin _ _ _ _ _) (fun t=>Nj _ _ _ _ _)).mono (by omega) (by decide)
  exact (Be.bind Be.take (by decide) (fun v=>Be.bind ((hv.at 0).be _ (he.cons (Be.pure v))) (by omega) (fun t=>fin _ _ _ _ _) (fun t=>Nj _ _ _ _ _)) (fun v=>Mn.bind ((hv.at 0).mn _) fun t=>Nj _ _ _ _ _)).mono (by omega) (by decide)
 refine (Be.bind (t:=0) (e:=-2) (hv.map.2 he) (by omega) (fun p=>?_) (fun p=>?_)).mono (by omega) (by decide)
 ·refine Be.ite (fun _=>fin _ _ _ _ _) fun n5=>Be.ite (fun _=>?_) fun n8=>Be.ite (fun _=>fin _ _ _ _ _) fun n9=>Be.ite (fun _=>?_) fun n10=>?_
  ·exact (Be.bind (Be.eqn hm _ _ _ _) (by decide) (fun _=>Be.bind (Be.eqn hm _ _ _ _) (by decide) (fun _=>fin _ _ _ _ _) (fun _=>Nj _ _ _ _ _)) (fun _=>Mn.bind (Mn.eqn hm _ _ _ _) fun _=>Nj _ _ _ _ _)).mono (by omega) (by decide)
  ·exact (Be.bind (Be.eqn hm _ _ _ _) (by decide) (fun _=>fin _ _ _ _ _) (fun _=>Nj _ _ _ _ _)).mono (by omega) (by decide)
  ·omega
 ·exact Mn.ite (Nj _ _ _ _ _) (Mn.ite (Mn.bind (Mn.eqn hm _ _ _ _) fun _=>Mn.bind (Mn.eqn hm _ _ _ _) fun _=>Nj _ _ _ _ _) (Mn.ite (Nj _ _ _ _ _) (Mn.ite (Mn.bind (Mn.eqn hm _ _ _ _) fun _=>Nj _ _ _ _ _) (Mn.pure _))))
def EO:To->List Nat
 | .nil=>[]
 | .cons _ ps r=>(2+(EO ps).sum)::EO r
theorem yS:∀ f:To,(EO f).sum=2 * f.size
 | .nil=>rfl
 | .cons _ ps r=>by
  show ((2+(EO ps).sum)::EO r).sum=2 * (To.cons _ ps r).size
  rw [List.sum_cons,yS ps,yS r]
  simp only [To.size];omega
theorem Ce {M:Nat} {most:Int} (hm:most<=M):∀ f:To,WB f->Gp M (vF most f) (EO f)
 | .nil,_=>.nil
 | .cons h ps r,⟨a,b,c⟩=>.cons (Nh hm h ps ⟨a.1,a.2.1⟩ (Ce hm ps b)) (Ce hm r c)
theorem Td {M:Nat} {most:Int} (hm:most<=M) (h:Nd) (ps:To) (hk:WB (.cons h ps .nil)):(EH most h ps [] ⟨[],0,false⟩).2.next<=4 * M+2 * ps.size+2:=by
 have h1:=(Nh hm h ps ⟨hk.1.1,hk.1.2.1⟩ (Ce hm ps hk.2.1)).be [] (fun x hx=>by cases hx) ⟨[],0,false⟩ (Nat.zero_le _) rfl
 rw [yS] at h1
 show (xw most h ps (vF most ps) [] ⟨[],0,false⟩).2.next<=_
 generalize (xw most h ps (vF most ps) [] ⟨[],0,false⟩).2=q at *
 obtain ⟨_,b,c⟩:=h1
 simp only [List.length_nil] at c
 rcases c with ⟨_,c⟩ | ⟨_,c⟩<;>omega
end Em
end
section
open Go.RowKit
namespace Em
def Zb (h:Nd) (m:Nat):Prop:=(1<=h.k/\h.k<=10)/\(h.k=4->1<=m)/\(h.k=5->2<=m)/\(h.k=6->2<=m)/\(h.k=7->2<=m)/\(h.k=8->3<=m)/\(h.k=10->1<=m)/\h.tp.size<=100000
def D6:To->Prop
 | .nil=>True
 | .cons h ps r=>Zb h ps.length/\D6 ps/\D6 r
theorem lG:∀ (f:To) (i:Nat) (h:Nd) (qs:To),D6 f->f.get i=some (h,qs)->Zb h qs.length/\D6 qs
 | .nil,i,h,qs,_,e=>by simp [To.get] at e
 | .cons h' ps r,0,h,qs,k,e=>by
  simp [To.get] at e
  obtain ⟨rfl,rfl⟩:=e
  exact ⟨k.1,k.2.1⟩
 | .cons h' ps r,i+1,h,qs,k,e=>lG r i h qs k.2.2 e
end Em
end
section
namespace Em
structure Dk where
 L:List qK
 next:Nat
abbrev Dm (α:Type):=Dk->α × Dk
def fH {α β:Type} (f:Dm α) (g:α->Dm β):Dm β:=fun d=>g (f d).1 (f d).2
def jG {α:Type} (a:α):Dm α:=fun d=>(a,d)
def kN:Dm Nat:=fun d=>(d.next,{ d with next:=d.next+1 })
def l9 (l r:Ty) (fr en:Int):Dm Unit:=fun d=>((),{ d with L:=d.L++[(l,r,fr,en)] })
abbrev aS:=List (ByteArray × Dm Nat)
def jU:aS->ByteArray->Dm Nat
 | [],_=>jG 0
 | x::r,s=>if x.1=s then x.2 else jU r s
def dmap (e:aS):List (aS->Dm Nat)->Dm (List Nat)
 | []=>jG []
 | v::r=>fH (v e) fun t=>fH (dmap e r) fun l=>jG (t::l)
abbrev dat (vs:List (aS->Dm Nat)) (i:Nat) (e:aS):Dm Nat:=vs.getD i (fun _=>jG 0) e
abbrev jP (l:List Nat) (i:Nat):Ty:=(l.map tv).getD i (0,0,.nil)
def nM (h:Nd) (vs:List (aS->Dm Nat)) (e:aS):Dm Nat :=
 if h.k=6 then dat vs 0 e
 else fH kN fun b=>fH (dat vs 0 ((h.nm,jG b)::e)) fun t=>fH (l9 (tv b) (tv t) h.fr h.en) fun _=>jG b
def D7 (h:Nd) (ps:To) (vs:List (aS->Dm Nat)) (e:aS):Dm Nat:=fH kN fun own =>
 if h.k=2 then fH (l9 (tv own) (2,0,.nil) h.fr h.en) fun _=>jG own
 else if h.k=3 then fH (l9 (tv own) (3,0,.nil) h.fr h.en) fun _=>jG own
 else if h.k=1 then fH (jU e h.nm) fun t=>fH (l9 (tv own) (tv t) h.fr h.en) fun _=>jG own
 else if h.k=4 then fH kN fun b=>fH (dat vs 0 ((h.nm,jG b)::e)) fun t=>fH (l9 (tv own) (pO (tv b) (tv t)) h.fr h.en) fun _=>jG own
 else if h.k=6∨h.k=7 then fH (nM h vs e) fun _=>fH (dat vs 1 ((h.nm,nM h vs e)::e)) fun t=>fH (l9 (tv own) (tv t) h.fr h.en) fun _=>jG own
 else fH (dmap e vs) fun p =>
  if h.k=5 then fH (l9 (jP p 0) (pO (jP p 1) (tv own)) h.fr h.en) fun _=>jG own
  else if h.k=8 then fH (l9 (jP p 0) (3,0,.nil) (aX ps 0).1 (aX ps 0).2) fun _=>fH (l9 (tv own) (jP p 1) (aX ps 1).1 (aX ps 1).2) fun _=>fH (l9 (tv own) (jP p 2) (aX ps 2).1 (aX ps 2).2) fun _=>jG own
  else if h.k=9 then fH (l9 (tv own) (5,0,oL (p.map tv)) h.fr h.en) fun _=>jG own
  else if h.k=10 then fH (l9 (jP p 0) (h.tk,h.tn,h.tp) (aX ps 0).1 (aX ps 0).2) fun _=>fH (l9 (tv own) (h.tk,h.tn,h.tp) h.fr h.en) fun _=>jG own
  else jG own
def valsD:To->List (aS->Dm Nat)
 | .nil=>[]
 | .cons h ps r=>D7 h ps (valsD ps)::valsD r
def xA (h:Nd) (ps:To) (e:aS):Dm Nat:=D7 h ps (valsD ps) e
def up (a d n:Nat):Nat:=if n < a then n else n+d
def PG (a d:Nat) (n:Int):Int:=if n < a then n else n+d
def Ad (a d:Nat) (t:Ty):Ty:=(t.1,if t.1 == 1 then PG a d t.2.1 else t.2.1,t.2.2.change (PG a d))
def upE (a d:Nat) (e:qK):qK:=(Ad a d e.1,Ad a d e.2.1,e.2.2)
theorem WE (a d n:Nat):PG a d (n:Int)=((up a d n:Nat):Int):=by
 unfold PG up
 by_cases h:n < a
 ·rw [if_pos h,if_pos (by omega)]
 ·rw [if_neg h,if_neg (by omega)];push_cast;rfl
theorem qo (a d n:Nat):Ad a d (tv n)=tv (up a d n):=by
 show ((1,PG a d (n:Int),Fo.nil):Ty)=(1,((up a d n:Nat):Int),Fo.nil)
 rw [WE]
structure RS {α:Type} (a d:Nat) (R:α->α->Prop) (g g':Dm α):Prop where
 run:∀ s s',a<=s.next->s'.next=s.next+d->∃ k,(g s).2.L=s.L++k/\(g' s').2.L=s'.L++k.map (upE a d)/\s.next<=(g s).2.next/\(g' s').2.next=(g s).2.next+d/\R (g s).1 (g' s').1
theorem RS.bind {α β:Type} {a d:Nat} {R:α->α->Prop} {S:β->β->Prop} {f f':Dm α} {g g':α->Dm β} (h:RS a d R f f') (k:∀ x x',R x x'->RS a d S (g x) (g' x')):RS a d S (fH f g) (fH f' g'):=by
 refine ⟨fun s s' hs hn=>?_⟩
 obtain ⟨k1,h1,h2,h3,h4,h5⟩:=h.run s s' hs hn
 obtain ⟨k2,j1,j2,j3,j4,j5⟩:=(k _ _ h5).run (f s).2 (f' s').2 (by omega) h4
 exact ⟨k1++k2,by show (g _ (f s).2).2.L=_;rw [j1,h1,List.append_assoc],by show (g' _ (f' s').2).2.L=_;rw [j2,h2,List.map_append,List.append_assoc],Nat.le_trans h3 j3,j4,j5⟩
theorem RS.pure {α:Type} {a d:Nat} {R:α->α->Prop} {x x':α} (h:R x x'):RS a d R (jG x) (jG x'):=⟨fun s s' _ hn=>⟨[],by show s.L=_;simp,by show s'.L=_;simp,Nat.le_refl _,hn,h⟩⟩
abbrev RN (a d:Nat):Nat->Nat->Prop:=fun n n'=>n'=up a d n
theorem RS.take (a d:Nat):RS a d (RN a d) kN kN:=⟨fun s s' hs hn=>⟨[],by show s.L=_;simp,by show s'.L=_;simp,Nat.le_succ _,by show s'.next+1=s.next+1+d;omega,by show s'.next=up a d s.next;unfold up;rw [if_neg (by omega)];exact hn⟩⟩
theorem RS.add {a d:Nat} {l r l' r':Ty} (fr en:Int) (hl:l'=Ad a d l) (hr:r'=Ad a d r):RS a d (fun _ _=>True) (l9 l r fr en) (l9 l' r' fr en):=⟨fun s s' _ hn=>⟨[(l,r,fr,en)],rfl,by subst hl hr;rfl,Nat.le_refl _,hn,trivial⟩⟩
theorem RS.ite {α:Type} {a d:Nat} {R:α->α->Prop} {c:Prop} [Decidable c] {f f' g g':Dm α} (h1:c->RS a d R f f') (h2:¬ c->RS a d R g g'):RS a d R (if c then f else g) (if c then f' else g'):=by
 by_cases hc:c
 ·rw [if_pos hc,if_pos hc];exact h1 hc
 ·rw [if_neg hc,if_neg hc];exact h2 hc
inductive vG (a d:Nat):aS->aS->Prop
 | nil:vG a d [] []
 | cons {s:ByteArray} {f f':Dm Nat} {e e':aS}:RS a d (RN a d) f f'->vG a d e e'->vG a d ((s,f)::e) ((s,f')::e')
theorem vG.look {a d:Nat} (ha:0 < a) {e e':aS} (h:vG a d e e') (s:ByteArray):RS a d (RN a d) (jU e s) (jU e' s):=by
 induction h with
 | nil=>exact RS.pure (by show 0=up a d 0;unfold up;rw [if_pos ha])
 | cons h1 _ ih =>
  unfold jU
  exact RS.ite (fun _=>h1) (fun _=>ih)
def Zc (v:aS->Dm Nat):Prop:=∀ a d e e',0 < a->vG a d e e'->RS a d (RN a d) (v e) (v e')
theorem Gq {vs:List (aS->Dm Nat)} (hv:∀ v∈vs,Zc v) (i:Nat) {a d:Nat} {e e':aS} (ha:0 < a) (he:vG a d e e'):RS a d (RN a d) (dat vs i e) (dat vs i e'):=by
 unfold dat
 rw [List.getD_eq_getElem?_getD]
 cases hi:vs[i]? with
 | none=>exact RS.pure (by show 0=up a d 0;unfold up;rw [if_pos ha])
 | some v=>exact hv v (List.mem_of_getElem? hi) a d e e' ha he
abbrev RL (a d:Nat):List Nat->List Nat->Prop:=fun l l'=>l'=l.map (up a d)
theorem Nk {a d:Nat} {e e':aS} (ha:0 < a) (he:vG a d e e'):∀ {vs:List (aS->Dm Nat)},(∀ v∈vs,Zc v)->RS a d (RL a d) (dmap e vs) (dmap e' vs)
 | [],_=>RS.pure rfl
 | v::r,h=>RS.bind (h v (by simp) a d e e' ha he) fun x x' hx=>RS.bind (Nk ha he (fun u hu=>h u (by simp [hu]))) fun l l' hl=>RS.pure (by
  have hx':x'=up a d x:=hx
  have hl':l'=l.map (up a d):=hl
  show x'::l'=(x::l).map (up a d);rw [hx',hl'];rfl)
theorem Ci (h:Nd) {vs:List (aS->Dm Nat)} (hv:∀ v∈vs,Zc v) {a d:Nat} {e e':aS} (ha:0 < a) (he:vG a d e e'):RS a d (RN a d) (nM h vs e) (nM h vs e'):=by
 unfold nM
 refine RS.ite (fun _=>Gq hv 0 ha he) fun _=>RS.bind (RS.take a d) fun b b' hb=>RS.bind (Gq hv 0 ha (.cons (RS.pure hb) he)) fun t t' ht=>RS.bind (RS.add _ _ ?_ ?_) fun _ _ _=>RS.pure hb
 ·rw [qo,show b'=up a d b from hb]
 ·rw [qo,show t'=up a d t from ht]
theorem Nl (a d:Nat) (x y:Ty):Ad a d (pO x y)=pO (Ad a d x) (Ad a d y):=rfl
theorem Tf (a d:Nat):∀ l:List Nat,(oL (l.map tv)).change (PG a d)=oL ((l.map (up a d)).map tv)
 | []=>rfl
 | n::r=>by
  have h1:Ad a d (tv n)=tv (up a d n):=qo a d n
  show (Fo.cons (Ad a d (tv n)).1 (Ad a d (tv n)).2.1 (Ad a d (tv n)).2.2 ((oL (r.map tv)).change (PG a d)))=_
  rw [h1,Tf a d r]
  rfl
theorem Zd (a d:Nat) (l:List Nat) (i:Nat):jP (l.map (up a d)) i=Ad a d (jP l i):=by
 unfold jP
 rw [List.getD_eq_getElem?_getD,List.getD_eq_getElem?_getD,List.getElem?_map,List.getElem?_map,List.getElem?_map]
 cases l[i]? with
 | none=>rfl
 | some n=>exact (qo a d n).symm
def gF:Fo->Prop
 | .nil=>True
 | .cons k _ ps r=>k≠1/\gF ps/\gF r
theorem yT (p:Int->Int):∀ f:Fo,gF f->f.change p=f
 | .nil,_=>rfl
 | .cons k n ps r,⟨h1,h2,h3⟩=>by
  show Fo.cons k (if k == 1 then p n else n) (ps.change p) (r.change p)=_
  rw [yT p ps h2,yT p r h3]
  have:(k == 1)=false:=by simpa using h1
  rw [this];rfl
def gT (t:Ty):Prop:=t.1≠1/\gF t.2.2
theorem Ti {a d:Nat} {t:Ty} (h:gT t):Ad a d t=t:=by
 unfold Ad
 rw [if_neg (by simpa using h.1),yT _ _ h.2]
def gA:To->Prop
 | .nil=>True
 | .cons h ps r=>(h.k=10->gT (h.tk,h.tn,h.tp))/\gA ps/\gA r
theorem WG (h:Nd) (ps:To) (hg:h.k=10->gT (h.tk,h.tn,h.tp)) {vs:List (aS->Dm Nat)} (hv:∀ v∈vs,Zc v):Zc (D7 h ps vs):=by
 intro a d e e' ha he
 unfold D7
 refine RS.bind (RS.take a d) fun own own' ho=>?_
 have ho':own'=up a d own:=ho
 have et:tv own'=Ad a d (tv own):=by rw [ho',qo]
 have z:∀ k:Int,k≠1->((k,0,Fo.nil):Ty)=Ad a d (k,0,.nil):=fun k hk=>(Ti (t:=(k,0,.nil)) ⟨hk,trivial⟩).symm
 have fin:∀ {l r l' r':Ty} (fr en:Int),l'=Ad a d l->r'=Ad a d r->RS a d (RN a d) (fH (l9 l r fr en) fun _=>jG own) (fH (l9 l' r' fr en) fun _=>jG own'):=fun fr en hl hr=>RS.bind (RS.add fr en hl hr) fun _ _ _=>RS.pure ho
 refine RS.ite (fun _=>fin _ _ et (z 2 (by decide))) fun _=>RS.ite (fun _=>fin _ _ et (z 3 (by decide))) fun _=>RS.ite (fun _=>?_) fun _=>RS.ite (fun _=>?_) fun _=>RS.ite (fun _=>?_) fun _=>?_
 ·exact RS.bind (he.look ha h.nm) fun t t' ht=>fin _ _ et (by rw [qo,show t'=up a d t from ht])
 ·exact RS.bind (RS.take a d) fun b b' hb=>RS.bind (Gq hv 0 ha (.cons (RS.pure hb) he)) fun t t' ht=>fin _ _ et (by rw [Nl,qo,qo,show t'=up a d t from ht,show b'=up a d b from hb])
 ·exact RS.bind (Ci h hv ha he) fun _ _ _=>RS.bind (Gq hv 1 ha (.cons (Ci h hv ha he) he)) fun t t' ht=>fin _ _ et (by rw [qo,show t'=up a d t from ht])
 refine RS.bind (Nk ha he hv) fun p p' hp=>?_
 have hp':p'=p.map (up a d):=hp
 subst hp'
 have n0:∀ i,jP (p.map (up a d)) i=Ad a d (jP p i):=Zd a d p
 have arr1:pO (jP (p.map (up a d)) 1) (tv own')=Ad a d (pO (jP p 1) (tv own)):=by
  rw [n0,et,Nl]
 refine RS.ite (fun _=>fin _ _ (n0 0) arr1) fun _=>RS.ite (fun _=>?_) fun _=>RS.ite (fun _=>fin _ _ et ?_) fun _=>RS.ite (fun h10=>?_) fun _=>RS.pure ho
 ·exact RS.bind (RS.add _ _ (n0 0) (z 3 (by decide))) fun _ _ _=>RS.bind (RS.add _ _ et (n0 1)) fun _ _ _=>fin _ _ et (n0 2)
 ·show ((5,0,oL ((p.map (up a d)).map tv)):Ty)=(5,if (5:Int) == 1 then PG a d 0 else 0,(oL (p.map tv)).change (PG a d))
  rw [Tf,if_neg (by decide)]
 ·have hT:=hg h10
  exact RS.bind (RS.add _ _ (n0 0) (Ti hT).symm) fun _ _ _=>fin _ _ et (Ti hT).symm
end Em
end
end Go.Proofs.YtcninopmelmajaaGreatDoor
