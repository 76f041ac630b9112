/-
  Texts laid together (CnMem, CnGreat, EmRen, EmPos, EmCnt, EmNext): laws and walks, with their conditions.
-/
import Derived.Test.YtcninopmelmajaaGreatDoorOF22
import Derived.Test.YtcninopmelmajaaGreatDoorOF28
set_option maxHeartbeats 8000000
set_option maxRecDepth 1000000
namespace Go.Proofs.YtcninopmelmajaaGreatDoor
open Go.Lib (hid)
section
open Go.RowKit Go.Shelf
namespace Cn
theorem add_any (l : List Int) (b n c : Nat) (w : World) (hn : n = l.length) (hz : n <= 1000) (hc : ∀ j x, l[j]? = some x -> w.cell? ⟨b, j, none⟩ = some (.int .i64 x)) (hl : ∀ x ∈ l, InT x) :
    Calls Tryz.prog 81 #[.slice (some ⟨b,0,none⟩) n c] w fun x w'=>x=.returned (.int .i64 (abl l))/\w=w':=by
 have HC:=hid hc;have HI:=hid hl;have HN:=hid hn;clear hc hl hn;go_enter Tryz.func81,Tryz.ntmps81;go_wp2_with fail;go_loopw [3,8] (fun v t wr=>∃ (i:Nat) (s:Int),t=.int .i64 i/\v=.int .i64 s/\i<=n/\(l.take i).foldl CG 0=s/\InT s/\w=wr) (fun _ t _=>n-(intOf t).toNat)
 case atStart=>exact ⟨0,0,rfl,rfl,Nat.zero_le _,rfl,⟨by decide,by decide⟩,rfl⟩
 case round =>
  obtain ⟨i,s,rfl,rfl,hi,hs,hst,rfl⟩:=hrel;have HS:=hid hs;have HST:=hid hst;clear hs hst
  by_cases hlt:i < n
  ·have hlt':(i:Int) < n:=by omega
   obtain ⟨x,hx⟩:∃ x,l[i]?=some x:=⟨_,List.getElem?_eq_getElem (by have:=HN.out;omega)⟩;have c0:=HC.out i x hx;have hxt:=HI.out x (List.mem_of_getElem? hx);have hs2:=HST.out;have hb1:-9223372036854775808<=s+x:=by unfold InT top at hxt hs2;omega
   have hb2:s+x<=9223372036854775807:=by unfold InT top at hxt hs2;omega
   have hw:IntKind.i64.wrap (s+x)=s+x:=IntWalk.i64_in _ (by omega);have HF:Hid ((l.take (i+1)).foldl CG 0=CG s x):=by show _=_;rw [List.take_add_one,hx,List.foldl_append,HS.out];rfl
   have HT2:Hid (InT (CG s x)):=Xt hs2 hxt;have Zx:Hid (min (1099511627776:Int) (s+x)=CG s x):=rfl;clear hx hxt hs2 hb1 hb2;go_wp2_with fail;go_roundw
   case rel=>exact ⟨i+1,CG s x,by go_num,by first | rfl | (unfold CG top;split<;>(congr 1;omega)) | (show _=Value.int .i64 (CG s x);rw [<-Zx.out]),by omega,HF.out,HT2.out,trivial⟩
   case measure=>simp [intOf];omega
  ·have hlt':¬ (i:Int) < n:=by omega
   have HE:Hid (abl l=s):=by show _=_;have h:=HS.out;rw [List.take_of_length_le (by have:=HN.out;omega)] at h;exact h
   go_wp2_with fail;go_ret;exact ⟨by rw [HE.out];rfl,rfl⟩
end Cn
end
section
open Go.RowKit Go.Shelf
namespace Cn
def jw (h:Nd) (ps:To):Bool:=kF h ps || decide (60 < ps.size+1)
theorem Jk (h : Nd) (ps : To) (w W : World) (o1 : Option Addr) (l1 c1 : Nat) (o2 : Option Addr) (l2 c2 : Nat) (h1 : aB (Low w) w o1 l1 h.tp) (h2 : bD (Low w) w o2 l2 ps) (ho : Gh h) (hop : allT Gh ps) (hq : ah w W) :
    Calls Tryz.prog 8 #[bI h o1 l1 c1 o2 l2 c2] W fun e w'=>e=.returned (.bool (jw h ps))/\ah W w':=by
 obtain ⟨W0,hW0⟩:∃ W0,W0=W.alloc (.cells (cells9 h o1 l1 c1 o2 l2 c2) 29):=⟨_,rfl⟩;have hq0:ah W W0:=by rw [hW0];exact ah.alloc _ _
 have aP:=hid hq0;have HB:Hid (∀ V,ah W0 V->(qP V W.heap.size h o1 l1 c1 o2 l2 c2)):=by
  intro V hq;rw [hW0] at hq;exact IQ W h o1 l1 c1 o2 l2 c2 _ V hq
 have HG:Hid (∀ V,ah W0 V->Calls Tryz.prog 24 #[bI h o1 l1 c1 o2 l2 c2] V fun e w'=>e=.returned (.bool (kF h ps))/\ah V w'):=fun V hv=>Sc.L9 h ps w V o1 l1 c1 o2 l2 c2 h1 h2 ho hop (hq.trans (hq0.trans hv))
 have HL:Hid (kF h ps=false->∀ V,ah W0 V->Calls Tryz.prog 25 #[bI h o1 l1 c1 o2 l2 c2] V fun e w'=>∃ o c xs,e=.returned (.slice o (ps.size+1) c)/\qC V.heap.size w' o (ps.size+1) c xs/\ah V w'):=fun hg V hv=>GI h ps V _ o1 l1 c1 o2 l2 c2 (h2.stay (hq.trans (hq0.trans hv))) (by have:=(Sc.kC hg ho hop).size;omega)
 clear h1 h2 ho hop hq0;unfold bI at HG HL ⊢;unfold jw;generalize kF h ps=g at *;go_enter Tryz.func8,Tryz.ntmps8;go_upto_region 1 with fail
 rw [<-hW0];clear hW0;generalize dW:W.heap.size=B at *;clear dW;obtain ⟨a0,a1,a2,a3,a4,a5,a6,a7,a8⟩:=HB.out W0 (ah.refl _);go_wp2_with fail;refine (HG.out _ (ah.refl _)).mono ?_;rintro x w1 ⟨rfl,hq1⟩;clear a0 a1 a2 a3 a4 a5 a6 a7 a8;obtain ⟨a0,a1,a2,a3,a4,a5,a6,a7,a8⟩:=HB.out w1 hq1;have bU:=hid hq1;clear hq1;cases g
 case true =>
  go_wp2_with fail;go_ret;exact ⟨by simp,aP.out.trans bU.out⟩
 case false =>
  go_wp2_with fail;refine (HL.out (by trivial) _ bU.out).mono ?_;rintro x w2 ⟨o,c,xs,rfl,_,hq2⟩;have eF:=hid hq2;clear hq2;go_wp2_with fail;go_ret;refine ⟨?_,aP.out.trans (bU.out.trans eF.out)⟩
  first | rfl | (congr 2;simp;omega) | (simp;omega)
theorem rF {h:Nd} {ps:To} (hg:jw h ps=false):kF h ps=false:=by
 unfold jw at hg;cases h1:kF h ps
 ·rfl
 ·rw [h1] at hg;exact hg
end Cn
end
section
namespace Em
open Sc (mP bZ ix ixE)
def run (most:Int) (h:Nd) (ps:To):Mk:=(dF most h ps [] ⟨[],0,false⟩).2
theorem Zy {M:Nat} {h:Nd} {ps:To} (hm:(run M h ps).many=false):(run M h ps).eqs.length<=M:=by
 rcases (Mc (M:=(M:Int)) (N:=(M:Int)) (n:=M) rfl (Int.le_refl _) h ps).lock ⟨[],0,false⟩ rfl (Nat.zero_le _) with ⟨_,h2,_⟩ | ⟨h1,_⟩
 ·exact h2
 ·unfold run at hm;rw [hm] at h1;cases h1
end Em
end
section
namespace Em
def Pos {α:Type} (f:Pm α):Prop:=∀ m,(f m).2.many=false->1<=(f m).2.eqs.length
theorem Pos.bind {α β:Type} {f:Pm α} {g:α->Pm β} (h:∀ a,Pos (g a)):Pos (bd f g):=fun _ hm=>h _ _ hm
theorem Pos.eq (most:Int) (l r:Ty) (fr en:Int) (own:Ty):Pos (bd (dw most l r fr en) fun _=>pu own):=by
 intro m hm;unfold Em.bd Em.dw Em.pu at *;dsimp only at *
 split at hm
 ·simp at hm
 ·rename_i h
  rw [if_neg h];simp
theorem Xu {M:Int} {h:Nd} {ps:To} (h1:1<=h.k) (h10:h.k<=10) (hm:(run M h ps).many=false):1<=(run M h ps).eqs.length:=by
 have key : ∀ own, Pos (
     if h.k=2 then bd (dw M own (2,0,.nil) h.fr h.en) fun _=>pu own
     else if h.k=3 then bd (dw M own (3,0,.nil) h.fr h.en) fun _=>pu own
     else if h.k=1 then bd (mF [] h.nm) fun t=>bd (dw M own t h.fr h.en) fun _=>pu own
     else if h.k=4 then bd je fun b=>bd (wK (bT M ps) 0 ((h.nm,pu b)::[])) fun t=>bd (dw M own (iY b t) h.fr h.en) fun _=>pu own
     else if h.k=6 then bd (vk M h (wK (bT M ps) 0 []) fun c=>wK (bT M ps) 1 ((h.nm,c)::[])) fun t=>bd (dw M own t h.fr h.en) fun _=>pu own
     else if h.k=7 then bd (vk M h (bd je fun v=>bd (wK (bT M ps) 0 ((h.nm,pu v)::[])) fun t=>bd (dw M v t h.fr h.en) fun _=>pu v) fun c=>wK (bT M ps) 1 ((h.nm,c)::[])) fun t=>bd (dw M own t h.fr h.en) fun _=>pu own
     else bd (jE [] (bT M ps)) fun p =>
      if h.k=5 then bd (dw M (qQ p 0) (iY (qQ p 1) own) h.fr h.en) fun _=>pu own
      else if h.k=8 then bd (dw M (qQ p 0) (3,0,.nil) (aH ps 0).1 (aH ps 0).2) fun _=>bd (dw M own (qQ p 1) (aH ps 1).1 (aH ps 1).2) fun _=>bd (dw M own (qQ p 2) (aH ps 2).1 (aH ps 2).2) fun _=>pu own
      else if h.k=9 then bd (dw M own (5,0,jF p) h.fr h.en) fun _=>pu own
      else if h.k=10 then bd (dw M (qQ p 0) (h.tk,h.tn,h.tp) (aH ps 0).1 (aH ps 0).2) fun _=>bd (dw M own (h.tk,h.tn,h.tp) h.fr h.en) fun _=>pu own
      else pu own):=by
  intro own
  split
  ·exact Pos.eq _ _ _ _ _ _
  split
  ·exact Pos.eq _ _ _ _ _ _
  split
  ·exact Pos.bind fun _=>Pos.eq _ _ _ _ _ _
  split
  ·exact Pos.bind fun _=>Pos.bind fun _=>Pos.eq _ _ _ _ _ _
  split
  ·exact Pos.bind fun _=>Pos.eq _ _ _ _ _ _
  split
  ·exact Pos.bind fun _=>Pos.eq _ _ _ _ _ _
  refine Pos.bind fun p=>?_
  split
  ·exact Pos.eq _ _ _ _ _ _
  split
  ·exact Pos.bind fun _=>Pos.bind fun _=>Pos.eq _ _ _ _ _ _
  split
  ·exact Pos.eq _ _ _ _ _ _
  split
  ·exact Pos.bind fun _=>Pos.eq _ _ _ _ _ _
  ·omega
 exact key (tv 0) ⟨[],1,false⟩ hm
end Em
end
section
namespace Em
def Zz:To->Prop
 | .nil=>True
 | .cons h ps r=>(1<=h.k/\h.k<=10/\((h.k=2∨h.k=3)->ps=.nil))/\Zz ps/\Zz r
end Em
end
section
namespace Em
def NM {α:Type} (f:Pm α):Prop:=∀ m,m.next<=(f m).2.next/\m.eqs.length<=(f m).2.eqs.length
theorem NM.pure {α:Type} (a:α):NM (pu a):=fun _=>⟨Nat.le_refl _,Nat.le_refl _⟩
theorem NM.bind {α β:Type} {f:Pm α} {g:α->Pm β} (h:NM f) (k:∀ a,NM (g a)):NM (bd f g):=fun m=>⟨Nat.le_trans (h m).1 (k _ _).1,Nat.le_trans (h m).2 (k _ _).2⟩
theorem NM.wL:NM wL:=fun _=>⟨Nat.le_refl _,Nat.le_refl _⟩
theorem NM.take:NM je:=fun _=>⟨Nat.le_succ _,Nat.le_refl _⟩
theorem NM.bump (d:Nat):NM (Fg d):=fun m=>⟨by show m.next<=m.next+d;omega,Nat.le_refl _⟩
theorem yg (most:Int) (l r:Ty) (fr en:Int) (m:Mk):(dw most l r fr en m).2.next=m.next:=by unfold dw;dsimp only;split<;>rfl
theorem Xv (most:Int) (l r:Ty) (fr en:Int) (m:Mk):m.eqs.length<=(dw most l r fr en m).2.eqs.length:=by
 unfold dw;dsimp only;split
 ·exact Nat.le_refl _
 ·simp
theorem NM.eqn (most:Int) (l r:Ty) (fr en:Int):NM (dw most l r fr en):=fun m=>⟨by rw [yg];exact Nat.le_refl _,Xv _ _ _ _ _ _⟩
theorem NM.many {α:Type} (x:α) {f:Pm α} (h:NM f):NM (dh x f):=fun m=>by
 unfold dh
 split
 ·exact ⟨Nat.le_refl _,Nat.le_refl _⟩
 ·exact h m
theorem NM.ite {α:Type} {c:Prop} [Decidable c] {f g:Pm α} (h1:NM f) (h2:NM g):NM (if c then f else g):=by
 by_cases hc:c
 ·rw [if_pos hc];exact h1
 ·rw [if_neg hc];exact h2
theorem Fh (most:Int) (sh:Ty->Ty):∀ (l:List mD) (m:Mk),(dX most sh l m).2.next=m.next
 | [],_=>rfl
 | e::r,m=>by
  unfold dX dh
  split
  ·rfl
  ·show (dX most sh r (dw most (sh e.1) (sh e.2.1) e.2.2.1 e.2.2.2 m).2).2.next=m.next
   rw [Fh most sh r,yg]
def NE (e:Env):Prop:=∀ x∈e,NM x.2
theorem NE.nil:NE []:=fun x hx=>by cases hx
theorem NE.cons {e:Env} (h:NE e) {s:ByteArray} {f:Pm Ty} (hf:NM f):NE ((s,f)::e):=fun x hx=>by
 rcases List.mem_cons.1 hx with rfl | hx
 ·exact hf
 ·exact h x hx
theorem Jl:∀ (e:Env) (s:ByteArray),NE e->NM (mF e s)
 | [],s,_=>NM.pure _
 | x::r,s,h=>by
  unfold mF;exact NM.ite (h x (by simp)) (Jl r s (fun y hy=>h y (by simp [hy])))
def VN (v:Env->Pm Ty):Prop:=∀ e,NE e->NM (v e)
theorem wM {vs:List (Env->Pm Ty)} (hv:∀ v∈vs,VN v) (i:Nat) {e:Env} (he:NE e):NM (wK vs i e):=by
 unfold wK;rw [List.getD_eq_getElem?_getD];cases hi:vs[i]? with
 | none=>exact NM.pure _
 | some v=>exact hv v (List.mem_of_getElem? hi) e he
theorem G7 {e:Env} (he:NE e):∀ {vs:List (Env->Pm Ty)},(∀ v∈vs,VN v)->NM (jE e vs)
 | [],_=>NM.pure _
 | v::r,h=>NM.bind (h v (by simp) e he) fun t=>NM.bind (G7 he (fun u hu=>h u (by simp [hu]))) fun l=>NM.pure _
theorem Jm (most:Int) (sh:Ty->Ty):∀ l:List mD,NM (dX most sh l)
 | []=>NM.pure _
 | _::r=>NM.many _ (NM.bind (NM.eqn _ _ _ _ _) fun _=>Jm most sh r)
theorem zo (most:Int) (kept:List mD) (v:Ty) (fr tt:Nat):NM (copied most kept v fr tt):=NM.bind NM.wL fun _=>NM.bind (NM.bump _) fun _=>NM.bind (Jm _ _ _) fun _=>NM.pure _
theorem NS (most:Int) (h:Nd) {f:Pm Ty} {g:Pm Ty->Pm Ty} (hf:NM f) (hg:∀ c,NM c->NM (g c)):NM (vk most h f g) :=
 NM.bind NM.wL fun _=>NM.bind hf fun _=>NM.bind NM.wL fun _=>hg _ (zo _ _ _ _ _)
theorem NT (most:Int) (h:Nd) (ps:To) {vs:List (Env->Pm Ty)} (hv:∀ v∈vs,VN v):VN (vw most h ps vs):=by
 intro e he;unfold vw;have fin:∀ (l r own:Ty) (fr en:Int),NM (bd (dw most l r fr en) fun _=>pu own):=fun l r own fr en=>NM.bind (NM.eqn _ _ _ _ _) fun _=>NM.pure _
 refine NM.bind NM.take fun own=>NM.many _ (NM.ite (fin _ _ _ _ _) (NM.ite (fin _ _ _ _ _) (NM.ite (NM.bind (Jl e _ he) fun _=>fin _ _ _ _ _) (NM.ite ?_ (NM.ite ?_ (NM.ite ?_ (NM.bind (G7 he hv) fun p=>?_)))))))
 ·exact NM.bind NM.take fun b=>NM.bind (wM hv 0 (he.cons (NM.pure b))) fun _=>fin _ _ _ _ _
 ·exact NM.bind (NS _ _ (wM hv 0 he) fun c hc=>wM hv 1 (he.cons hc)) fun _=>fin _ _ _ _ _
 ·exact NM.bind (NS _ _ (NM.bind NM.take fun v=>NM.bind (wM hv 0 (he.cons (NM.pure v))) fun _=>NM.bind (NM.eqn _ _ _ _ _) fun _=>NM.pure _) fun c hc=>wM hv 1 (he.cons hc)) fun _=>fin _ _ _ _ _
 ·exact NM.ite (fin _ _ _ _ _) (NM.ite (NM.bind (NM.eqn _ _ _ _ _) fun _=>NM.bind (NM.eqn _ _ _ _ _) fun _=>fin _ _ _ _ _) (NM.ite (fin _ _ _ _ _) (NM.ite (NM.bind (NM.eqn _ _ _ _ _) fun _=>fin _ _ _ _ _) (NM.pure _))))
theorem qR (most:Int):∀ f:To,∀ v∈bT most f,VN v
 | .nil,v,hv=>by simp [bT] at hv
 | .cons h ps r,v,hv=>by
  rcases List.mem_cons.1 hv with rfl | hv
  ·exact NT most h ps (qR most ps)
  ·exact qR most r v hv
theorem lQ (most:Int) (h:Nd) (ps:To):VN (dF most h ps):=NT most h ps (qR most ps)
def Mn (M s:Nat) {α:Type} (f:Pm α):Prop:=∀ m,m.eqs.length<=M->m.many=true->(f m).2.many=true/\m.eqs.length<=(f m).2.eqs.length/\(f m).2.eqs.length<=M/\(f m).2.next<=m.next+s
def Be (M s:Nat) (d:Int) {α:Type} (f:Pm α):Prop:=∀ m,m.eqs.length<=M->m.many=false->m.eqs.length<=(f m).2.eqs.length/\(f m).2.eqs.length<=M /\
 (((f m).2.many=false/\((f m).2.next:Int)+2*m.eqs.length<=m.next+2*(f m).2.eqs.length+d)∨((f m).2.many=true/\(f m).2.next+2*m.eqs.length<=m.next+2*(f m).2.eqs.length+s+2*M))
section
variable {M:Nat}
theorem Mn.mono {s t:Nat} {α:Type} {f:Pm α} (h:Mn M s f) (hs:s<=t):Mn M t f:=fun m h1 h2=>by
 obtain ⟨a,b,c,d⟩:=h m h1 h2;exact ⟨a,b,c,by omega⟩
theorem Be.mono {s t:Nat} {d e:Int} {α:Type} {f:Pm α} (h:Be M s d f) (hs:s<=t) (hd:d<=e):Be M t e f:=fun m h1 h2=>by
 obtain ⟨a,b,c⟩:=h m h1 h2;exact ⟨a,b,c.imp (fun ⟨x,y⟩=>⟨x,by omega⟩) (fun ⟨x,y⟩=>⟨x,by omega⟩)⟩
theorem Mn.bind {s t:Nat} {α β:Type} {f:Pm α} {g:α->Pm β} (h:Mn M s f) (k:∀ a,Mn M t (g a)):Mn M (s+t) (bd f g):=fun m h1 h2=>by
 obtain ⟨a,b,c,d⟩:=h m h1 h2;obtain ⟨a',b',c',d'⟩:=k (f m).1 (f m).2 c a;exact ⟨a',Nat.le_trans b b',c',by show (g _ _).2.next<=_;omega⟩
theorem Be.bind {s t:Nat} {d e:Int} {α β:Type} {f:Pm α} {g:α->Pm β} (h:Be M s d f) (hd:d<=s) (k:∀ a,Be M t e (g a)) (l:∀ a,Mn M t (g a)):Be M (s+t) (d+e) (bd f g):=fun m h1 h2=>by
 obtain ⟨a,b,c⟩:=h m h1 h2;rcases c with ⟨c1,c2⟩ | ⟨c1,c2⟩
 ·obtain ⟨a',b',c'⟩:=k (f m).1 (f m).2 b c1;refine ⟨Nat.le_trans a a',b',?_⟩;rcases c' with ⟨c3,c4⟩ | ⟨c3,c4⟩
  ·exact .inl ⟨c3,by show ((g _ _).2.next:Int)+_<=m.next+2*((g _ _).2.eqs.length:Int)+_;omega⟩
  ·exact .inr ⟨c3,by show (g _ _).2.next+_<=m.next+2*(g _ _).2.eqs.length+_+_;omega⟩
 ·obtain ⟨a',b',c',d'⟩:=l (f m).1 (f m).2 b c1;exact ⟨Nat.le_trans a b',c',.inr ⟨a',by show (g _ _).2.next+_<=m.next+2*(g _ _).2.eqs.length+_+_;omega⟩⟩
theorem Mn.pure {α:Type} (a:α):Mn M 0 (pu a):=fun _ h1 h2=>⟨h2,Nat.le_refl _,h1,Nat.le_refl _⟩
theorem Be.pure {α:Type} (a:α):Be M 0 0 (pu a):=fun m h1 h2=>⟨Nat.le_refl _,h1,.inl ⟨h2,by show (m.next:Int)+2*m.eqs.length<=m.next+2*m.eqs.length+0;omega⟩⟩
theorem Mn.take:Mn M 1 je:=fun _ h1 h2=>⟨h2,Nat.le_refl _,h1,Nat.le_refl _⟩
theorem Be.take:Be M 1 1 je:=fun m h1 h2=>⟨Nat.le_refl _,h1,.inl ⟨h2,by show ((m.next+1:Nat):Int)+2*m.eqs.length<=m.next+2*m.eqs.length+1;omega⟩⟩
variable {most:Int} (hm:most<=M)
include hm
theorem Mn.eqn (l r:Ty) (fr en:Int):Mn M 0 (dw most l r fr en):=fun m h1 h2=>by
 unfold dw;dsimp only
 split
 ·exact ⟨rfl,Nat.le_refl _,h1,Nat.le_refl _⟩
 ·exact ⟨h2,by simp,by simp;omega,Nat.le_refl _⟩
theorem Be.eqn (l r:Ty) (fr en:Int):Be M 0 (-2) (dw most l r fr en):=fun m h1 h2=>by
 unfold dw;dsimp only
 split
 ·exact ⟨Nat.le_refl _,h1,.inr ⟨rfl,by show m.next+2*m.eqs.length<=m.next+2*m.eqs.length+0+2*M;omega⟩⟩
 ·exact ⟨by simp,by simp;omega,.inl ⟨h2,by simp;omega⟩⟩
theorem ZA (own l r:Ty) (fr en:Int):Mn M 0 (bd (dw most l r fr en) fun _=>pu own):=Mn.bind (Mn.eqn hm _ _ _ _) fun _=>Mn.pure _
theorem ZB (own l r:Ty) (fr en:Int):Be M 0 (-2) (bd (dw most l r fr en) fun _=>pu own):=(Be.bind (Be.eqn hm _ _ _ _) (by decide) (fun _=>Be.pure own) (fun _=>Mn.pure own)).mono (Nat.le_refl _) (by decide)
theorem Jo (sh:Ty->Ty):∀ (l:List mD) (m:Mk),m.eqs.length<=M->m.eqs.length<=(dX most sh l m).2.eqs.length/\(dX most sh l m).2.eqs.length<=M/\(dX most sh l m).2.next=m.next/\((dX most sh l m).2.many=false->(dX most sh l m).2.eqs.length=m.eqs.length+l.length)
 | [],m,h=>⟨Nat.le_refl _,h,rfl,fun _=>rfl⟩
 | e::r,m,h=>by
  unfold dX dh
  by_cases hmm:m.many=true
  ·rw [if_pos hmm];exact ⟨Nat.le_refl _,h,rfl,fun c=>absurd hmm (by show ¬ m.many=true;rw [show m.many=false from c];decide)⟩
  ·rw [if_neg hmm]
   show m.eqs.length<=(dX most sh r (dw most (sh e.1) (sh e.2.1) e.2.2.1 e.2.2.2 m).2).2.eqs.length/\(dX most sh r (dw most (sh e.1) (sh e.2.1) e.2.2.1 e.2.2.2 m).2).2.eqs.length<=M/\(dX most sh r (dw most (sh e.1) (sh e.2.1) e.2.2.1 e.2.2.2 m).2).2.next=m.next/\((dX most sh r (dw most (sh e.1) (sh e.2.1) e.2.2.1 e.2.2.2 m).2).2.many=false->(dX most sh r (dw most (sh e.1) (sh e.2.1) e.2.2.1 e.2.2.2 m).2).2.eqs.length=m.eqs.length+(r.length+1))
   have hm0:m.many=false:=by simpa using hmm
   obtain ⟨a,b,c⟩:=Be.eqn hm (sh e.1) (sh e.2.1) e.2.2.1 e.2.2.2 m h hm0;have hn:=yg most (sh e.1) (sh e.2.1) e.2.2.1 e.2.2.2 m;obtain ⟨a',b',c',d'⟩:=Jo sh r (dw most (sh e.1) (sh e.2.1) e.2.2.1 e.2.2.2 m).2 b;refine ⟨Nat.le_trans a a',b',c'.trans hn,fun hf=>?_⟩;rw [d' hf];have hone:(dw most (sh e.1) (sh e.2.1) e.2.2.1 e.2.2.2 m).2.many=true∨(dw most (sh e.1) (sh e.2.1) e.2.2.1 e.2.2.2 m).2.eqs.length=m.eqs.length+1:=by
    unfold dw;dsimp only
    split
    ·exact .inl rfl
    ·exact .inr (by simp)
   rcases hone with hx | hx
   ·have:=Jp sh r _ hx;rw [this] at hf;cases hf
   ·omega
where Jp (sh:Ty->Ty):∀ (l:List mD) (m:Mk),m.many=true->(dX most sh l m).2.many=true
 | [],m,h=>h
 | e::r,m,h=>by unfold dX dh;rw [if_pos h];exact h
theorem P8 {kept:List mD} {v:Ty} {fr tt:Nat} (h1:tt-fr<=2*kept.length) (h2:kept.length<=M):Be M 0 0 (copied most kept v fr tt):=fun m hl hn=>by
 obtain ⟨a,b,c,d⟩:=Jo hm (yh fr tt (m.next-fr)) kept { m with next:=m.next+(tt-fr) } hl;have e:(copied most kept v fr tt m).2=(dX most (yh fr tt (m.next-fr)) kept { m with next:=m.next+(tt-fr) }).2:=rfl;rw [e];generalize (dX most (yh fr tt (m.next-fr)) kept { m with next:=m.next+(tt-fr) }).2=q at *;dsimp only at a b c d;refine ⟨a,b,?_⟩;cases hq:q.many
 ·have:=d hq;exact .inl ⟨rfl,by rw [c,this];push_cast;omega⟩
 ·exact .inr ⟨rfl,by rw [c];omega⟩
theorem NU (h:Nd) {s t:Nat} {d e:Int} {f:Pm Ty} {F:Pm Ty->Pm Ty} (hf:Be M s d f) (hd:d<=0) (hF:∀ c,Be M 0 0 c->Be M t e (F c)) (hG:∀ c,Mn M t (F c)):Be M (s+t) (d+e) (vk most h f F):=fun m h1 h2=>by
 obtain ⟨a,b,c⟩:=hf m h1 h2;have el:(vk most h f F m).2=(F (copied most ((f m).2.eqs.drop m.eqs.length) (f m).1 m.next (f m).2.next) (f m).2).2:=rfl;rw [el];rcases c with ⟨c1,c2⟩ | ⟨c1,c2⟩
 ·have hc:=P8 hm (kept:=(f m).2.eqs.drop m.eqs.length) (v:=(f m).1) (fr:=m.next) (tt:=(f m).2.next) (by rw [List.length_drop];omega) (by rw [List.length_drop];omega);obtain ⟨a',b',c'⟩:=hF _ hc (f m).2 b c1;generalize (F (copied most ((f m).2.eqs.drop m.eqs.length) (f m).1 m.next (f m).2.next) (f m).2).2=q at *;refine ⟨Nat.le_trans a a',b',?_⟩;rcases c' with ⟨c3,c4⟩ | ⟨c3,c4⟩
  ·exact .inl ⟨c3,by omega⟩
  ·exact .inr ⟨c3,by omega⟩
 ·obtain ⟨a',b',c',d'⟩:=hG (copied most ((f m).2.eqs.drop m.eqs.length) (f m).1 m.next (f m).2.next) (f m).2 b c1;exact ⟨Nat.le_trans a b',c',.inr ⟨a',by omega⟩⟩
end
theorem Be.many {M s:Nat} {d:Int} {α:Type} (x:α) {f:Pm α} (h:Be M s d f):Be M s d (dh x f):=fun m h1 h2=>by
 unfold dh;rw [if_neg (by rw [h2];decide)];exact h m h1 h2
theorem Mn.many {M s:Nat} {α:Type} (x:α) (f:Pm α):Mn M s (dh x f):=fun m h1 h2=>by
 unfold dh;rw [if_pos h2];exact ⟨h2,Nat.le_refl _,h1,Nat.le_add_right _ _⟩
theorem Be.ite {M s:Nat} {d:Int} {α:Type} {c:Prop} [Decidable c] {f g:Pm α} (h1:c->Be M s d f) (h2:¬ c->Be M s d g):Be M s d (if c then f else g):=by
 by_cases hc:c
 ·rw [if_pos hc];exact h1 hc
 ·rw [if_neg hc];exact h2 hc
theorem Mn.ite {M s:Nat} {α:Type} {c:Prop} [Decidable c] {f g:Pm α} (h1:Mn M s f) (h2:Mn M s g):Mn M s (if c then f else g):=by
 by_cases hc:c
 ·rw [if_pos hc];exact h1
 ·rw [if_neg hc];exact h2
def BE (M:Nat) (e:Env):Prop:=∀ x∈e,Be M 0 0 x.2
theorem BE.cons {M:Nat} {e:Env} (h:BE M e) {s:ByteArray} {f:Pm Ty} (hf:Be M 0 0 f):BE M ((s,f)::e):=fun x hx=>by
 rcases List.mem_cons.1 hx with rfl | hx
 ·exact hf
 ·exact h x hx
theorem Jq {M:Nat}:∀ (e:Env) (s:ByteArray),BE M e->Be M 0 0 (mF e s)
 | [],s,_=>Be.pure _
 | x::r,s,h=>by
  unfold mF;exact Be.ite (fun _=>h x (by simp)) (fun _=>Jq r s (fun y hy=>h y (by simp [hy])))
structure VBe (M s:Nat) (v:Env->Pm Ty):Prop where
 be:∀ e,BE M e->Be M s 0 (v e)
 mn:∀ e,Mn M s (v e)
inductive G8 (M:Nat):List (Env->Pm Ty)->List Nat->Prop
 | nil:G8 M [] []
 | cons {s:Nat} {v:Env->Pm Ty} {l:List (Env->Pm Ty)} {k:List Nat}:VBe M s v->G8 M l k->G8 M (v::l) (s::k)
theorem G8.at {M:Nat} {l:List (Env->Pm Ty)} {k:List Nat} (h:G8 M l k):∀ (i:Nat),VBe M (k.getD i 0) (wK l i):=by
 induction h with
 | nil=>intro i;exact ⟨fun e _=>Be.pure _,fun e=>Mn.pure _⟩
 | cons h1 _ ih =>
  intro i;cases i with
  | zero=>exact h1
  | succ i=>exact ih i
theorem G8.map {M:Nat} {e:Env} {l:List (Env->Pm Ty)} {k:List Nat} (h:G8 M l k):Mn M k.sum (jE e l)/\(BE M e->Be M k.sum 0 (jE e l)):=by
 induction h with
 | nil=>exact ⟨Mn.pure _,fun _=>Be.pure _⟩
 | @cons s v l k h1 _ ih =>
  refine ⟨by rw [List.sum_cons];exact Mn.bind (h1.mn e) fun t=>(Mn.bind ih.1 fun l=>Mn.pure _).mono (Nat.le_refl _),fun he=>?_⟩;rw [List.sum_cons];exact (Be.bind (h1.be e he) (by omega) (fun t=>Be.bind (ih.2 he) (by omega) (fun l=>Be.pure _) (fun l=>Mn.pure _)) (fun t=>Mn.bind ih.1 fun l=>Mn.pure _)).mono (by simp) (by decide)
theorem abm:∀ k:List Nat,k.getD 0 0<=k.sum
 | []=>Nat.le_refl _
 | a::r=>by simp
theorem YA:∀ k:List Nat,k.getD 0 0+k.getD 1 0<=k.sum
 | []=>Nat.le_refl _
 | [a]=>by simp
 | a::b::r=>by simp
theorem NV {M:Nat} {most:Int} (hm:most<=M) (h:Nd) (ps:To) (hk:1<=h.k/\h.k<=10) {vs:List (Env->Pm Ty)} {k:List Nat} (hv:G8 M vs k):VBe M (2+k.sum) (vw most h ps vs):=by
 refine ⟨fun e he=>?_,fun e=>(Mn.bind (t:=1+k.sum) Mn.take fun own=>Mn.many own _).mono (by omega)⟩;have q0:=abm k;have q01:=YA k;have fin:=ZB hm;have NW:=ZA hm;unfold vw;refine (Be.bind (t:=1+k.sum) (e:=-1) Be.take (by decide) (fun own=>Be.many own ?_) (fun own=>Mn.many own _)).mono (by omega) (by decide);refine Be.ite (fun _=>(fin _ _ _ _ _).mono (by omega) (by decide)) fun _=>Be.ite (fun _=>(fin _ _ _ _ _).mono (by omega) (by decide)) fun _=>Be.ite (fun _=>?_) fun n1=>Be.ite (fun _=>?_) fun n4=>Be.ite (fun _=>?_) fun n6=>Be.ite (fun _=>?_) fun n7=>?_
 ·exact (Be.bind (Jq e _ he) (by decide) (fun t=>fin _ _ _ _ _) (fun t=>NW _ _ _ _ _)).mono (by omega) (by decide)
 ·exact (Be.bind Be.take (by decide) (fun b=>Be.bind ((hv.at 0).be _ (he.cons (Be.pure b))) (by omega) (fun t=>fin _ _ _ _ _) (fun t=>NW _ _ _ _ _)) (fun b=>Mn.bind ((hv.at 0).mn _) fun t=>NW _ _ _ _ _)).mono (by omega) (by decide)
 ·exact (Be.bind (NU hm h ((hv.at 0).be e he) (by decide) (fun c hc=>(hv.at 1).be _ (he.cons hc)) (fun c=>(hv.at 1).mn _)) (by omega) (fun t=>fin _ _ _ _ _) (fun t=>NW _ _ _ _ _)).mono (by omega) (by decide)
 ·refine (Be.bind (NU hm h (s:=1+k.getD 0 0) (d:=-1) ?_ (by decide) (fun c hc=>(hv.at 1).be _ (he.cons hc)) (fun c=>(hv.at 1).mn _)) (by omega) (fun t=>fin _ _ _ _ _) (fun t=>NW _ _ _ _ _)).mono (by omega) (by decide);exact (Be.bind Be.take (by decide) (fun v=>Be.bind ((hv.at 0).be _ (he.cons (Be.pure v))) (by omega) (fun t=>fin _ _ _ _ _) (fun t=>NW _ _ _ _ _)) (fun v=>Mn.bind ((hv.at 0).mn _) fun t=>NW _ _ _ _ _)).mono (by omega) (by decide)
 refine (Be.bind (t:=0) (e:=-2) (hv.map.2 he) (by omega) (fun p=>?_) (fun p=>?_)).mono (by omega) (by decide)
 ·refine Be.ite (fun _=>fin _ _ _ _ _) fun n5=>Be.ite (fun _=>?_) fun n8=>Be.ite (fun _=>fin _ _ _ _ _) fun n9=>Be.ite (fun _=>?_) fun n10=>?_
  ·exact (Be.bind (Be.eqn hm _ _ _ _) (by decide) (fun _=>Be.bind (Be.eqn hm _ _ _ _) (by decide) (fun _=>fin _ _ _ _ _) (fun _=>NW _ _ _ _ _)) (fun _=>Mn.bind (Mn.eqn hm _ _ _ _) fun _=>NW _ _ _ _ _)).mono (by omega) (by decide)
  ·exact (Be.bind (Be.eqn hm _ _ _ _) (by decide) (fun _=>fin _ _ _ _ _) (fun _=>NW _ _ _ _ _)).mono (by omega) (by decide)
  ·omega
 ·exact Mn.ite (NW _ _ _ _ _) (Mn.ite (Mn.bind (Mn.eqn hm _ _ _ _) fun _=>Mn.bind (Mn.eqn hm _ _ _ _) fun _=>NW _ _ _ _ _) (Mn.ite (NW _ _ _ _ _) (Mn.ite (Mn.bind (Mn.eqn hm _ _ _ _) fun _=>NW _ _ _ _ _) (Mn.pure _))))
def Fj:To->List Nat
 | .nil=>[]
 | .cons _ ps r=>(2+(Fj ps).sum)::Fj r
theorem zq:∀ f:To,(Fj f).sum=2*f.size
 | .nil=>rfl
 | .cons _ ps r=>by
  show ((2+(Fj ps).sum)::Fj r).sum=2*(To.cons _ ps r).size
  rw [List.sum_cons,zq ps,zq r];simp only [To.size];omega
theorem CJ {M:Nat} {most:Int} (hm:most<=M):∀ f:To,Zz f->G8 M (bT most f) (Fj f)
 | .nil,_=>.nil
 | .cons h ps r,⟨a,b,c⟩=>.cons (NV hm h ps ⟨a.1,a.2.1⟩ (CJ hm ps b)) (CJ hm r c)
theorem TS {M:Nat} {most:Int} (hm:most<=M) (h:Nd) (ps:To) (hk:Zz (.cons h ps .nil)):(dF most h ps [] ⟨[],0,false⟩).2.next<=4*M+2*ps.size+2:=by
 have h1:=(NV hm h ps ⟨hk.1.1,hk.1.2.1⟩ (CJ hm ps hk.2.1)).be [] (fun x hx=>by cases hx) ⟨[],0,false⟩ (Nat.zero_le _) rfl;rw [zq] at h1
 show (vw most h ps (bT most ps) [] ⟨[],0,false⟩).2.next<=_
 generalize (vw most h ps (bT most ps) [] ⟨[],0,false⟩).2=q at *;obtain ⟨_,b,c⟩:=h1;simp only [List.length_nil] at c;rcases c with ⟨_,c⟩ | ⟨_,c⟩<;>omega
end Em
end
end Go.Proofs.YtcninopmelmajaaGreatDoor
