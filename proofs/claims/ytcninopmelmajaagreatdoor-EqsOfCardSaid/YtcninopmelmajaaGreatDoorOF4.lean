/-
  Texts laid together (EmPlain, EmDoc, EmBnd, EmLk): laws and walks, with their conditions.
-/
import Derived.Test.YtcninopmelmajaaGreatDoorOF3
set_option maxHeartbeats 8000000
set_option maxRecDepth 1000000
namespace Go.Proofs.YtcninopmelmajaaGreatDoor
section
namespace Em
abbrev Ty:=Int × Int × Fo
abbrev mD:=Ty × Ty × Int × Int
structure Mk where
 eqs:List mD
 next:Nat
 many:Bool
abbrev Pm (α:Type):=Mk->α × Mk
def bd {α β:Type} (f:Pm α) (g:α->Pm β):Pm β:=fun m=>g (f m).1 (f m).2
def pu {α:Type} (a:α):Pm α:=fun m=>(a,m)
def wL:Pm Mk:=fun m=>(m,m)
def tv (n:Nat):Ty:=(1,(n:Int),.nil)
def je:Pm Ty:=fun m=>(tv m.next,{ m with next:=m.next+1 })
def Fg (d:Nat):Pm Unit:=fun m=>((),{ m with next:=m.next+d })
def dw (most:Int) (l r:Ty) (fr en:Int):Pm Unit:=fun m=>((),if most<=m.eqs.length then { m with many:=true } else { m with eqs:=m.eqs++[(l,r,fr,en)] })
def dh {α:Type} (x:α) (f:Pm α):Pm α:=fun m=>if m.many then (x,m) else f m
def iY (a b:Ty):Ty:=(4,0,.cons a.1 a.2.1 a.2.2 (.cons b.1 b.2.1 b.2.2 .nil))
def jF:List Ty->Fo
 | []=>.nil
 | t::r=>.cons t.1 t.2.1 t.2.2 (jF r)
def Bo (fr tt by_:Nat) (n:Int):Int:=if (fr:Int)<=n/\n < tt then n+by_ else n
def yh (fr tt by_:Nat) (t:Ty):Ty:=(t.1,if t.1 == 1 then Bo fr tt by_ t.2.1 else t.2.1,t.2.2.change (Bo fr tt by_))
abbrev Env:=List (ByteArray × Pm Ty)
def dX (most:Int) (sh:Ty->Ty):List mD->Pm Unit
 | []=>pu ()
 | e::r=>dh () (bd (dw most (sh e.1) (sh e.2.1) e.2.2.1 e.2.2.2) fun _=>dX most sh r)
def copied (most:Int) (kept:List mD) (v:Ty) (fr tt:Nat):Pm Ty:=bd wL fun a=>bd (Fg (tt-fr)) fun _=>bd (dX most (yh fr tt (a.next-fr)) kept) fun _=>pu (yh fr tt (a.next-fr) v)
def mF:Env->ByteArray->Pm Ty
 | [],_=>pu (tv 0)
 | x::r,s=>if x.1=s then x.2 else mF r s
def jE (e:Env):List (Env->Pm Ty)->Pm (List Ty)
 | []=>pu []
 | v::r=>bd (v e) fun t=>bd (jE e r) fun l=>pu (t::l)
abbrev wK (vs:List (Env->Pm Ty)) (i:Nat) (e:Env):Pm Ty:=vs.getD i (fun _=>pu (tv 0)) e
abbrev qQ (l:List Ty) (i:Nat):Ty:=l.getD i (0,0,.nil)
def aH (ps:To) (i:Nat):Int × Int:=match ps.get i with
 | some (h,_)=>(h.fr,h.en)
 | none=>(0,0)
def vk (most:Int) (_:Nd) (first:Pm Ty) (second:Pm Ty->Pm Ty):Pm Ty :=
 bd wL fun a=>bd first fun v=>bd wL fun b=>second (copied most (b.eqs.drop a.eqs.length) v a.next b.next)
def vw (most:Int) (h:Nd) (ps:To) (vs:List (Env->Pm Ty)) (e:Env):Pm Ty:=bd je fun own=>dh own (
 if h.k=2 then bd (dw most own (2,0,.nil) h.fr h.en) fun _=>pu own
 else if h.k=3 then bd (dw most own (3,0,.nil) h.fr h.en) fun _=>pu own
 else if h.k=1 then bd (mF e h.nm) fun t=>bd (dw most own t h.fr h.en) fun _=>pu own
 else if h.k=4 then bd je fun b=>bd (wK vs 0 ((h.nm,pu b)::e)) fun t=>bd (dw most own (iY b t) h.fr h.en) fun _=>pu own
 else if h.k=6 then bd (vk most h (wK vs 0 e) fun c=>wK vs 1 ((h.nm,c)::e)) fun t=>bd (dw most own t h.fr h.en) fun _=>pu own
 else if h.k=7 then bd (vk most h (bd je fun v=>bd (wK vs 0 ((h.nm,pu v)::e)) fun t=>bd (dw most v t h.fr h.en) fun _=>pu v) fun c=>wK vs 1 ((h.nm,c)::e)) fun t=>bd (dw most own t h.fr h.en) fun _=>pu own
 else bd (jE e vs) fun p =>
  if h.k=5 then bd (dw most (qQ p 0) (iY (qQ p 1) own) h.fr h.en) fun _=>pu own
  else if h.k=8 then bd (dw most (qQ p 0) (3,0,.nil) (aH ps 0).1 (aH ps 0).2) fun _=>bd (dw most own (qQ p 1) (aH ps 1).1 (aH ps 1).2) fun _=>bd (dw most own (qQ p 2) (aH ps 2).1 (aH ps 2).2) fun _=>pu own
  else if h.k=9 then bd (dw most own (5,0,jF p) h.fr h.en) fun _=>pu own
  else if h.k=10 then bd (dw most (qQ p 0) (h.tk,h.tn,h.tp) (aH ps 0).1 (aH ps 0).2) fun _=>bd (dw most own (h.tk,h.tn,h.tp) h.fr h.en) fun _=>pu own
  else pu own)
def bT (most:Int):To->List (Env->Pm Ty)
 | .nil=>[]
 | .cons h ps r=>vw most h ps (bT most ps)::bT most r
def dF (most:Int) (h:Nd) (ps:To) (e:Env):Pm Ty:=vw most h ps (bT most ps) e
theorem zx (most:Int):∀ (f:To) (i:Nat) (h:Nd) (qs:To),f.get i=some (h,qs)->(bT most f)[i]?=some (dF most h qs)
 | .nil,i,h,qs,e=>by simp [To.get] at e
 | .cons h' ps r,0,h,qs,e=>by
  simp [To.get] at e;obtain ⟨rfl,rfl⟩:=e;rfl
 | .cons h' ps r,i+1,h,qs,e=>by
  show (bT most r)[i]?=_
  exact zx most r i h qs e
theorem jS (most:Int):∀ f:To,(bT most f).length=f.length
 | .nil=>rfl
 | .cons _ _ r=>by simp only [bT,List.length_cons,To.length];rw [jS most r]
structure Step {α:Type} (N:Nat) (f g:Pm α):Prop where
 up:∀ m,m.eqs.length<=(f m).2.eqs.length/\(m.many=true->(f m).2.many=true)
 up':∀ m,m.many=true->(g m).2.many=true
 lock:∀ m,m.many=false->m.eqs.length<=N->((f m).2.many=false/\(f m).2.eqs.length<=N/\g m=f m)∨((g m).2.many=true/\((f m).2.many=true∨N < (f m).2.eqs.length))
theorem Step.pu {α:Type} (N:Nat) (a:α):Step N (pu a) (pu a):=⟨fun _=>⟨Nat.le_refl _,id⟩,fun _ h=>h,fun _ h1 h2=>.inl ⟨h1,h2,rfl⟩⟩
theorem Step.wL (N:Nat):Step N wL wL:=⟨fun _=>⟨Nat.le_refl _,id⟩,fun _ h=>h,fun _ h1 h2=>.inl ⟨h1,h2,rfl⟩⟩
theorem Step.je (N:Nat):Step N je je:=⟨fun _=>⟨Nat.le_refl _,id⟩,fun _ h=>h,fun _ h1 h2=>.inl ⟨h1,h2,rfl⟩⟩
theorem Step.Fg (N d:Nat):Step N (Fg d) (Fg d):=⟨fun _=>⟨Nat.le_refl _,id⟩,fun _ h=>h,fun _ h1 h2=>.inl ⟨h1,h2,rfl⟩⟩
theorem Step.bd {α β:Type} {N:Nat} {f f':Pm α} {g g':α->Pm β} (h:Step N f f') (k:∀ a,Step N (g a) (g' a)):Step N (bd f g) (bd f' g'):=by
 refine ⟨fun m=>?_,fun m hm=>?_,fun m hm hn=>?_⟩
 ·have h1:=h.up m;have h2:=(k (f m).1).up (f m).2;exact ⟨Nat.le_trans h1.1 h2.1,fun e=>h2.2 (h1.2 e)⟩
 ·exact (k (f' m).1).up' _ (h.up' m hm)
 ·rcases h.lock m hm hn with ⟨h1,h2,h3⟩ | ⟨h1,h2⟩
  ·have h4:=(k (f m).1).lock (f m).2 h1 h2;unfold Em.bd;rw [h3];exact h4
  ·refine .inr ⟨(k (f' m).1).up' _ h1,?_⟩;have h4:=(k (f m).1).up (f m).2;rcases h2 with h2 | h2
   ·exact .inl (h4.2 h2)
   ·exact .inr (Nat.lt_of_lt_of_le h2 h4.1)
theorem Step.dh {α:Type} {N:Nat} (x:α) {f f':Pm α} (h:Step N f f'):Step N (dh x f) (dh x f'):=by
 refine ⟨fun m=>?_,fun m hm=>?_,fun m hm hn=>?_⟩
 ·unfold Em.dh;cases hm:m.many
  ·simp only [Bool.false_eq_true,if_false];exact ⟨(h.up m).1,fun e=>absurd e (by simp)⟩
  ·simp only [if_true];exact ⟨Nat.le_refl _,fun _=>hm⟩
 ·unfold Em.dh;rw [hm];exact hm
 ·unfold Em.dh;rw [hm];simp only [Bool.false_eq_true,if_false];exact h.lock m hm hn
theorem Step.ite {α:Type} {N:Nat} {c:Prop} [Decidable c] {f f' g g':Pm α} (h1:Step N f f') (h2:Step N g g'):Step N (if c then f else g) (if c then f' else g'):=by
 by_cases hc:c
 ·rw [if_pos hc,if_pos hc];exact h1
 ·rw [if_neg hc,if_neg hc];exact h2
theorem Step.dw {M N:Int} {n:Nat} (hN:N=n) (hM:N<=M) (l r:Ty) (fr en:Int):Step n (dw M l r fr en) (dw N l r fr en):=by
 subst hN;refine ⟨fun m=>?_,fun m hm=>?_,fun m hm hn=>?_⟩
 ·unfold Em.dw;dsimp only;split
  ·exact ⟨Nat.le_refl _,fun _=>rfl⟩
  ·exact ⟨by simp,id⟩
 ·unfold Em.dw;dsimp only;split
  ·rfl
  ·exact hm
 ·unfold Em.dw;dsimp only
  by_cases h1:(n:Int)<=m.eqs.length
  ·refine .inr ⟨by rw [if_pos h1],?_⟩
   split
   ·exact .inl rfl
   ·refine .inr ?_;simp;omega
  ·rw [if_neg h1,if_neg (by omega)];exact .inl ⟨hm,by simp;omega,rfl⟩
inductive JU (N:Nat):Env->Env->Prop
 | nil:JU N [] []
 | cons {s:ByteArray} {f g:Pm Ty} {e e':Env}:Step N f g->JU N e e'->JU N ((s,f)::e) ((s,g)::e')
theorem JU.look {N:Nat} {e e':Env} (h:JU N e e') (s:ByteArray):Step N (mF e s) (mF e' s):=by
 induction h with
 | nil=>exact Step.pu N _
 | cons h1 _ ih =>
  unfold mF
  split
  ·exact h1
  ·exact ih
def VS (N:Nat) (v v':Env->Pm Ty):Prop:=∀ e e',JU N e e'->Step N (v e) (v' e')
inductive Wq (N:Nat):List (Env->Pm Ty)->List (Env->Pm Ty)->Prop
 | nil:Wq N [] []
 | cons {v v':Env->Pm Ty} {l l':List (Env->Pm Ty)}:VS N v v'->Wq N l l'->Wq N (v::l) (v'::l')
theorem Wq.at {N:Nat} {l l':List (Env->Pm Ty)} (h:Wq N l l'):∀ (i:Nat) {e e':Env},JU N e e'->Step N (wK l i e) (wK l' i e'):=by
 induction h with
 | nil=>intro i e e' _;exact Step.pu N _
 | cons h1 _ ih =>
  intro i e e' he;cases i with
  | zero=>exact h1 _ _ he
  | succ i=>exact ih i he
theorem Wq.map {N:Nat} {e e':Env} (he:JU N e e') {l l':List (Env->Pm Ty)} (h:Wq N l l'):Step N (jE e l) (jE e' l'):=by
 induction h with
 | nil=>exact Step.pu N _
 | cons h1 _ ih=>exact Step.bd (h1 _ _ he) fun t=>Step.bd ih fun l=>Step.pu N _
section
variable {M N:Int} {n:Nat}
theorem Dv (hN:N=n) (hM:N<=M) (sh:Ty->Ty):∀ l:List mD,Step n (dX M sh l) (dX N sh l)
 | []=>Step.pu n _
 | _::r=>Step.dh _ (Step.bd (Step.dw hN hM _ _ _ _) fun _=>Dv hN hM sh r)
theorem JV (hN:N=n) (hM:N<=M) (kept:List mD) (v:Ty) (fr tt:Nat):Step n (copied M kept v fr tt) (copied N kept v fr tt) :=
 Step.bd (Step.wL n) fun _=>Step.bd (Step.Fg n _) fun _=>Step.bd (Dv hN hM _ kept) fun _=>Step.pu n _
theorem FU (hN:N=n) (hM:N<=M) (h:Nd) {f f':Pm Ty} {g g':Pm Ty->Pm Ty} (hf:Step n f f') (hg:∀ c c',Step n c c'->Step n (g c) (g' c')):Step n (vk M h f g) (vk N h f' g') :=
 Step.bd (Step.wL n) fun _=>Step.bd hf fun _=>Step.bd (Step.wL n) fun _=>hg _ _ (JV hN hM _ _ _ _)
theorem FV (hN:N=n) (hM:N<=M) (h:Nd) (ps:To) {vs vs':List (Env->Pm Ty)} (hv:Wq n vs vs'):VS n (vw M h ps vs) (vw N h ps vs'):=by
 intro e e' he;have q:∀ (l r:Ty) (fr en:Int),Step n (dw M l r fr en) (dw N l r fr en):=Step.dw hN hM;unfold vw;refine Step.bd (Step.je n) fun own=>Step.dh _ ?_
 have fin:∀ (l r:Ty) (fr en:Int),Step n (bd (dw M l r fr en) fun _=>pu own) (bd (dw N l r fr en) fun _=>pu own):=fun l r fr en=>Step.bd (q _ _ _ _) fun _=>Step.pu n _
 refine Step.ite (fin _ _ _ _) (Step.ite (fin _ _ _ _) (Step.ite (Step.bd (he.look _) fun t=>fin _ _ _ _) (Step.ite ?_ (Step.ite ?_ (Step.ite ?_ ?_)))))
 ·exact Step.bd (Step.je n) fun b=>Step.bd (hv.at 0 (.cons (Step.pu n b) he)) fun t=>fin _ _ _ _
 ·exact Step.bd (FU hN hM h (hv.at 0 he) fun c c' hc=>hv.at 1 (.cons hc he)) fun t=>fin _ _ _ _
 ·exact Step.bd (FU hN hM h (Step.bd (Step.je n) fun v=>Step.bd (hv.at 0 (.cons (Step.pu n v) he)) fun t=>Step.bd (q _ _ _ _) fun _=>Step.pu n _) fun c c' hc=>hv.at 1 (.cons hc he)) fun t=>fin _ _ _ _
 refine Step.bd (Wq.map he hv) fun p=>?_
 exact Step.ite (fin _ _ _ _) (Step.ite (Step.bd (q _ _ _ _) fun _=>Step.bd (q _ _ _ _) fun _=>fin _ _ _ _) (Step.ite (fin _ _ _ _) (Step.ite (Step.bd (q _ _ _ _) fun _=>fin _ _ _ _) (Step.pu n _))))
theorem xg (hN:N=n) (hM:N<=M):∀ f:To,Wq n (bT M f) (bT N f)
 | .nil=>.nil
 | .cons h ps r=>.cons (FV hN hM h ps (xg hN hM ps)) (xg hN hM r)
theorem Mc (hN:N=n) (hM:N<=M) (h:Nd) (ps:To):Step n (dF M h ps []) (dF N h ps []):=FV hN hM h ps (xg hN hM ps) [] [] .nil
end
end Em
end
section
namespace Em
structure Dk where
 L:List mD
 next:Nat
abbrev Dm (α:Type):=Dk->α × Dk
def gq {α β:Type} (f:Dm α) (g:α->Dm β):Dm β:=fun d=>g (f d).1 (f d).2
def jP {α:Type} (a:α):Dm α:=fun d=>(a,d)
def kX:Dm Nat:=fun d=>(d.next,{ d with next:=d.next+1 })
def mX (l r:Ty) (fr en:Int):Dm Unit:=fun d=>((),{ d with L:=d.L++[(l,r,fr,en)] })
abbrev aU:=List (ByteArray × Dm Nat)
def kD:aU->ByteArray->Dm Nat
 | [],_=>jP 0
 | x::r,s=>if x.1=s then x.2 else kD r s
def dmap (e:aU):List (aU->Dm Nat)->Dm (List Nat)
 | []=>jP []
 | v::r=>gq (v e) fun t=>gq (dmap e r) fun l=>jP (t::l)
abbrev dat (vs:List (aU->Dm Nat)) (i:Nat) (e:aU):Dm Nat:=vs.getD i (fun _=>jP 0) e
abbrev jY (l:List Nat) (i:Nat):Ty:=(l.map tv).getD i (0,0,.nil)
def oC (h:Nd) (vs:List (aU->Dm Nat)) (e:aU):Dm Nat :=
 if h.k=6 then dat vs 0 e
 else gq kX fun b=>gq (dat vs 0 ((h.nm,jP b)::e)) fun t=>gq (mX (tv b) (tv t) h.fr h.en) fun _=>jP b
def EG (h:Nd) (ps:To) (vs:List (aU->Dm Nat)) (e:aU):Dm Nat:=gq kX fun own =>
 if h.k=2 then gq (mX (tv own) (2,0,.nil) h.fr h.en) fun _=>jP own
 else if h.k=3 then gq (mX (tv own) (3,0,.nil) h.fr h.en) fun _=>jP own
 else if h.k=1 then gq (kD e h.nm) fun t=>gq (mX (tv own) (tv t) h.fr h.en) fun _=>jP own
 else if h.k=4 then gq kX fun b=>gq (dat vs 0 ((h.nm,jP b)::e)) fun t=>gq (mX (tv own) (iY (tv b) (tv t)) h.fr h.en) fun _=>jP own
 else if h.k=6∨h.k=7 then gq (oC h vs e) fun _=>gq (dat vs 1 ((h.nm,oC h vs e)::e)) fun t=>gq (mX (tv own) (tv t) h.fr h.en) fun _=>jP own
 else gq (dmap e vs) fun p =>
  if h.k=5 then gq (mX (jY p 0) (iY (jY p 1) (tv own)) h.fr h.en) fun _=>jP own
  else if h.k=8 then gq (mX (jY p 0) (3,0,.nil) (aH ps 0).1 (aH ps 0).2) fun _=>gq (mX (tv own) (jY p 1) (aH ps 1).1 (aH ps 1).2) fun _=>gq (mX (tv own) (jY p 2) (aH ps 2).1 (aH ps 2).2) fun _=>jP own
  else if h.k=9 then gq (mX (tv own) (5,0,jF (p.map tv)) h.fr h.en) fun _=>jP own
  else if h.k=10 then gq (mX (jY p 0) (h.tk,h.tn,h.tp) (aH ps 0).1 (aH ps 0).2) fun _=>gq (mX (tv own) (h.tk,h.tn,h.tp) h.fr h.en) fun _=>jP own
  else jP own
def valsD:To->List (aU->Dm Nat)
 | .nil=>[]
 | .cons h ps r=>EG h ps (valsD ps)::valsD r
def vW (h:Nd) (ps:To) (e:aU):Dm Nat:=EG h ps (valsD ps) e
def up (a d n:Nat):Nat:=if n < a then n else n+d
def QA (a d:Nat) (n:Int):Int:=if n < a then n else n+d
def AU (a d:Nat) (t:Ty):Ty:=(t.1,if t.1 == 1 then QA a d t.2.1 else t.2.1,t.2.2.change (QA a d))
def upE (a d:Nat) (e:mD):mD:=(AU a d e.1,AU a d e.2.1,e.2.2)
theorem XW (a d n:Nat):QA a d (n:Int)=((up a d n:Nat):Int):=by
 unfold QA up
 by_cases h:n < a
 ·rw [if_pos h,if_pos (by omega)]
 ·rw [if_neg h,if_neg (by omega)];push_cast;rfl
theorem qJ (a d n:Nat):AU a d (tv n)=tv (up a d n):=by
 show ((1,QA a d (n:Int),Fo.nil):Ty)=(1,((up a d n:Nat):Int),Fo.nil)
 rw [XW]
structure RS {α:Type} (a d:Nat) (R:α->α->Prop) (g g':Dm α):Prop where
 run:∀ s s',a<=s.next->s'.next=s.next+d->∃ k,(g s).2.L=s.L++k/\(g' s').2.L=s'.L++k.map (upE a d)/\s.next<=(g s).2.next/\(g' s').2.next=(g s).2.next+d/\R (g s).1 (g' s').1
theorem RS.bind {α β:Type} {a d:Nat} {R:α->α->Prop} {S:β->β->Prop} {f f':Dm α} {g g':α->Dm β} (h:RS a d R f f') (k:∀ x x',R x x'->RS a d S (g x) (g' x')):RS a d S (gq f g) (gq f' g'):=by
 refine ⟨fun s s' hs hn=>?_⟩;obtain ⟨k1,h1,h2,h3,h4,h5⟩:=h.run s s' hs hn;obtain ⟨k2,j1,j2,j3,j4,j5⟩:=(k _ _ h5).run (f s).2 (f' s').2 (by omega) h4;exact ⟨k1++k2,by show (g _ (f s).2).2.L=_;rw [j1,h1,List.append_assoc],by show (g' _ (f' s').2).2.L=_;rw [j2,h2,List.map_append,List.append_assoc],Nat.le_trans h3 j3,j4,j5⟩
theorem RS.pure {α:Type} {a d:Nat} {R:α->α->Prop} {x x':α} (h:R x x'):RS a d R (jP x) (jP x'):=⟨fun s s' _ hn=>⟨[],by show s.L=_;simp,by show s'.L=_;simp,Nat.le_refl _,hn,h⟩⟩
abbrev RN (a d:Nat):Nat->Nat->Prop:=fun n n'=>n'=up a d n
theorem RS.take (a d:Nat):RS a d (RN a d) kX kX:=⟨fun s s' hs hn=>⟨[],by show s.L=_;simp,by show s'.L=_;simp,Nat.le_succ _,by show s'.next+1=s.next+1+d;omega,by show s'.next=up a d s.next;unfold up;rw [if_neg (by omega)];exact hn⟩⟩
theorem RS.add {a d:Nat} {l r l' r':Ty} (fr en:Int) (hl:l'=AU a d l) (hr:r'=AU a d r):RS a d (fun _ _=>True) (mX l r fr en) (mX l' r' fr en):=⟨fun s s' _ hn=>⟨[(l,r,fr,en)],rfl,by subst hl hr;rfl,Nat.le_refl _,hn,trivial⟩⟩
theorem RS.ite {α:Type} {a d:Nat} {R:α->α->Prop} {c:Prop} [Decidable c] {f f' g g':Dm α} (h1:c->RS a d R f f') (h2:¬ c->RS a d R g g'):RS a d R (if c then f else g) (if c then f' else g'):=by
 by_cases hc:c
 ·rw [if_pos hc,if_pos hc];exact h1 hc
 ·rw [if_neg hc,if_neg hc];exact h2 hc
inductive vY (a d:Nat):aU->aU->Prop
 | nil:vY a d [] []
 | cons {s:ByteArray} {f f':Dm Nat} {e e':aU}:RS a d (RN a d) f f'->vY a d e e'->vY a d ((s,f)::e) ((s,f')::e')
theorem vY.look {a d:Nat} (ha:0 < a) {e e':aU} (h:vY a d e e') (s:ByteArray):RS a d (RN a d) (kD e s) (kD e' s):=by
 induction h with
 | nil=>exact RS.pure (by show 0=up a d 0;unfold up;rw [if_pos ha])
 | cons h1 _ ih =>
  unfold kD;exact RS.ite (fun _=>h1) (fun _=>ih)
def VRS (v:aU->Dm Nat):Prop:=∀ a d e e',0 < a->vY a d e e'->RS a d (RN a d) (v e) (v e')
theorem Ia {vs:List (aU->Dm Nat)} (hv:∀ v∈vs,VRS v) (i:Nat) {a d:Nat} {e e':aU} (ha:0 < a) (he:vY a d e e'):RS a d (RN a d) (dat vs i e) (dat vs i e'):=by
 unfold dat;rw [List.getD_eq_getElem?_getD];cases hi:vs[i]? with
 | none=>exact RS.pure (by show 0=up a d 0;unfold up;rw [if_pos ha])
 | some v=>exact hv v (List.mem_of_getElem? hi) a d e e' ha he
abbrev RL (a d:Nat):List Nat->List Nat->Prop:=fun l l'=>l'=l.map (up a d)
theorem Om {a d:Nat} {e e':aU} (ha:0 < a) (he:vY a d e e'):∀ {vs:List (aU->Dm Nat)},(∀ v∈vs,VRS v)->RS a d (RL a d) (dmap e vs) (dmap e' vs)
 | [],_=>RS.pure rfl
 | v::r,h=>RS.bind (h v (by simp) a d e e' ha he) fun x x' hx=>RS.bind (Om ha he (fun u hu=>h u (by simp [hu]))) fun l l' hl=>RS.pure (by
  have hx':x'=up a d x:=hx;have hl':l'=l.map (up a d):=hl
  show x'::l'=(x::l).map (up a d);rw [hx',hl'];rfl)
theorem Dw (h:Nd) {vs:List (aU->Dm Nat)} (hv:∀ v∈vs,VRS v) {a d:Nat} {e e':aU} (ha:0 < a) (he:vY a d e e'):RS a d (RN a d) (oC h vs e) (oC h vs e'):=by
 unfold oC;refine RS.ite (fun _=>Ia hv 0 ha he) fun _=>RS.bind (RS.take a d) fun b b' hb=>RS.bind (Ia hv 0 ha (.cons (RS.pure hb) he)) fun t t' ht=>RS.bind (RS.add _ _ ?_ ?_) fun _ _ _=>RS.pure hb
 ·rw [qJ,show b'=up a d b from hb]
 ·rw [qJ,show t'=up a d t from ht]
theorem Oo (a d:Nat) (x y:Ty):AU a d (iY x y)=iY (AU a d x) (AU a d y):=rfl
theorem Vq (a d:Nat):∀ l:List Nat,(jF (l.map tv)).change (QA a d)=jF ((l.map (up a d)).map tv)
 | []=>rfl
 | n::r=>by
  have h1:AU a d (tv n)=tv (up a d n):=qJ a d n
  show (Fo.cons (AU a d (tv n)).1 (AU a d (tv n)).2.1 (AU a d (tv n)).2.2 ((jF (r.map tv)).change (QA a d)))=_
  rw [h1,Vq a d r];rfl
theorem aat (a d:Nat) (l:List Nat) (i:Nat):jY (l.map (up a d)) i=AU a d (jY l i):=by
 unfold jY;rw [List.getD_eq_getElem?_getD,List.getD_eq_getElem?_getD,List.getElem?_map,List.getElem?_map,List.getElem?_map];cases l[i]? with
 | none=>rfl
 | some n=>exact (qJ a d n).symm
def gF:Fo->Prop
 | .nil=>True
 | .cons k _ ps r=>k≠1/\gF ps/\gF r
theorem zG (p:Int->Int):∀ f:Fo,gF f->f.change p=f
 | .nil,_=>rfl
 | .cons k n ps r,⟨h1,h2,h3⟩=>by
  show Fo.cons k (if k == 1 then p n else n) (ps.change p) (r.change p)=_
  rw [zG p ps h2,zG p r h3];have:(k == 1)=false:=by simpa using h1
  rw [this];rfl
def gT (t:Ty):Prop:=t.1≠1/\gF t.2.2
theorem Vr {a d:Nat} {t:Ty} (h:gT t):AU a d t=t:=by
 unfold AU;rw [if_neg (by simpa using h.1),zG _ _ h.2]
def gA:To->Prop
 | .nil=>True
 | .cons h ps r=>(h.k=10->gT (h.tk,h.tn,h.tp))/\gA ps/\gA r
theorem XY (h:Nd) (ps:To) (hg:h.k=10->gT (h.tk,h.tn,h.tp)) {vs:List (aU->Dm Nat)} (hv:∀ v∈vs,VRS v):VRS (EG h ps vs):=by
 intro a d e e' ha he;unfold EG;refine RS.bind (RS.take a d) fun own own' ho=>?_
 have ho':own'=up a d own:=ho;have et:tv own'=AU a d (tv own):=by rw [ho',qJ]
 have z:∀ k:Int,k≠1->((k,0,Fo.nil):Ty)=AU a d (k,0,.nil):=fun k hk=>(Vr (t:=(k,0,.nil)) ⟨hk,trivial⟩).symm
 have fin:∀ {l r l' r':Ty} (fr en:Int),l'=AU a d l->r'=AU a d r->RS a d (RN a d) (gq (mX l r fr en) fun _=>jP own) (gq (mX l' r' fr en) fun _=>jP own'):=fun fr en hl hr=>RS.bind (RS.add fr en hl hr) fun _ _ _=>RS.pure ho
 refine RS.ite (fun _=>fin _ _ et (z 2 (by decide))) fun _=>RS.ite (fun _=>fin _ _ et (z 3 (by decide))) fun _=>RS.ite (fun _=>?_) fun _=>RS.ite (fun _=>?_) fun _=>RS.ite (fun _=>?_) fun _=>?_
 ·exact RS.bind (he.look ha h.nm) fun t t' ht=>fin _ _ et (by rw [qJ,show t'=up a d t from ht])
 ·exact RS.bind (RS.take a d) fun b b' hb=>RS.bind (Ia hv 0 ha (.cons (RS.pure hb) he)) fun t t' ht=>fin _ _ et (by rw [Oo,qJ,qJ,show t'=up a d t from ht,show b'=up a d b from hb])
 ·exact RS.bind (Dw h hv ha he) fun _ _ _=>RS.bind (Ia hv 1 ha (.cons (Dw h hv ha he) he)) fun t t' ht=>fin _ _ et (by rw [qJ,show t'=up a d t from ht])
 refine RS.bind (Om ha he hv) fun p p' hp=>?_
 have hp':p'=p.map (up a d):=hp;subst hp';have n0:∀ i,jY (p.map (up a d)) i=AU a d (jY p i):=aat a d p;have arr1:iY (jY (p.map (up a d)) 1) (tv own')=AU a d (iY (jY p 1) (tv own)):=by
  rw [n0,et,Oo]
 refine RS.ite (fun _=>fin _ _ (n0 0) arr1) fun _=>RS.ite (fun _=>?_) fun _=>RS.ite (fun _=>fin _ _ et ?_) fun _=>RS.ite (fun h10=>?_) fun _=>RS.pure ho
 ·exact RS.bind (RS.add _ _ (n0 0) (z 3 (by decide))) fun _ _ _=>RS.bind (RS.add _ _ et (n0 1)) fun _ _ _=>fin _ _ et (n0 2)
 ·show ((5,0,jF ((p.map (up a d)).map tv)):Ty)=(5,if (5:Int) == 1 then QA a d 0 else 0,(jF (p.map tv)).change (QA a d))
  rw [Vq,if_neg (by decide)]
 ·have hT:=hg h10;exact RS.bind (RS.add _ _ (n0 0) (Vr hT).symm) fun _ _ _=>fin _ _ et (Vr hT).symm
end Em
end
section
namespace Em
def fB (n:Nat):Fo->Prop
 | .nil=>True
 | .cons k v ps r=>(k=1->0<=v/\v < n)/\fB n ps/\fB n r
def nS (n:Nat) (t:Ty):Prop:=(t.1=1->0<=t.2.1/\t.2.1 < n)/\fB n t.2.2
theorem fB.mono {n m:Nat} (h:n<=m):∀ f:Fo,fB n f->fB m f
 | .nil,_=>trivial
 | .cons k v ps r,⟨a,b,c⟩=>⟨fun e=>⟨(a e).1,by have:=(a e).2;omega⟩,fB.mono h ps b,fB.mono h r c⟩
theorem nS.mono {n m:Nat} {t:Ty} (k:nS n t) (h:n<=m):nS m t:=⟨fun e=>⟨(k.1 e).1,by have:=(k.1 e).2;omega⟩,fB.mono h _ k.2⟩
theorem nS.tv {n k:Nat} (h:k < n):nS n (tv k):=⟨fun _=>⟨by show (0:Int)<=(k:Int);omega,by show (k:Int) < n;omega⟩,trivial⟩
theorem nS.zero (n:Nat) (k:Int) (h:k≠1):nS n (k,0,.nil):=⟨fun e=>absurd e h,trivial⟩
theorem nS.arr {n:Nat} {a b:Ty} (h:nS n a) (k:nS n b):nS n (iY a b):=⟨fun e=>absurd e (by decide:(4:Int)≠1),h.1,h.2,k.1,k.2,trivial⟩
theorem Oq {n:Nat}:∀ l:List Ty,(∀ t∈l,nS n t)->fB n (jF l)
 | [],_=>trivial
 | t::r,h=>⟨(h t (by simp)).1,(h t (by simp)).2,Oq r (fun u hu=>h u (by simp [hu]))⟩
theorem YH {lo tt N:Nat} (h1:lo<=tt) (h2:tt<=N) {v:Int} (h0:0<=v) (hv:v < tt):0<=Bo lo tt (N-lo) v/\Bo lo tt (N-lo) v < ((N+(tt-lo):Nat):Int):=by
 unfold Bo;split<;>omega
theorem Dx {lo tt N:Nat} (h1:lo<=tt) (h2:tt<=N):∀ f:Fo,fB tt f->fB (N+(tt-lo)) (f.change (Bo lo tt (N-lo)))
 | .nil,_=>trivial
 | .cons k v ps r,⟨a,b,c⟩=>by
  refine ⟨fun e=>?_,Dx h1 h2 ps b,Dx h1 h2 r c⟩;have:=YH h1 h2 (a e).1 (a e).2;subst e;exact this
theorem zH {lo tt N:Nat} (h1:lo<=tt) (h2:tt<=N) {t:Ty} (h:nS tt t):nS (N+(tt-lo)) (yh lo tt (N-lo) t):=by
 refine ⟨fun e=>?_,Dx h1 h2 _ h.2⟩;have e':t.1=1:=e
 show 0<=(if t.1 == 1 then Bo lo tt (N-lo) t.2.1 else t.2.1)/\(if t.1 == 1 then Bo lo tt (N-lo) t.2.1 else t.2.1) < _
 rw [if_pos (by simp [e'])];exact YH h1 h2 (h.1 e').1 (h.1 e').2
def XZ (m:Mk):Prop:=∀ e∈m.eqs,nS m.next e.1/\nS m.next e.2.1
structure yI {α:Type} (lo:Nat) (Q:Nat->α->Prop) (f:Pm α):Prop where
 run:∀ m,lo<=m.next->XZ m->XZ (f m).2/\Q (f m).2.next (f m).1/\m.next<=(f m).2.next
theorem yI.mono {α:Type} {lo lo':Nat} {Q:Nat->α->Prop} {f:Pm α} (h:yI lo Q f) (hl:lo<=lo'):yI lo' Q f:=⟨fun m hm=>h.run m (by omega)⟩
theorem yI.bind {α β:Type} {lo:Nat} {Q:Nat->α->Prop} {R:Nat->β->Prop} {f:Pm α} {g:α->Pm β} (h:yI lo Q f) (k:∀ a n,lo<=n->Q n a->yI n R (g a)):yI lo R (bd f g):=by
 refine ⟨fun m hm ho=>?_⟩;obtain ⟨h1,h2,h3⟩:=h.run m hm ho;obtain ⟨k1,k2,k3⟩:=(k (f m).1 (f m).2.next (by omega) h2).run (f m).2 (Nat.le_refl _) h1;exact ⟨k1,k2,Nat.le_trans h3 k3⟩
theorem yI.pure {α:Type} {lo:Nat} {Q:Nat->α->Prop} {a:α} (h:∀ n,lo<=n->Q n a):yI lo Q (pu a):=⟨fun _ hm ho=>⟨ho,h _ hm,Nat.le_refl _⟩⟩
theorem XZ.up {m:Mk} (h:XZ m) {n:Nat} (hn:m.next<=n):XZ { m with next:=n }:=fun e he=>⟨(h e he).1.mono hn,(h e he).2.mono hn⟩
theorem yI.take (lo:Nat):yI lo (fun n t=>nS n t/\0 < n) je:=⟨fun _ _ ho=>⟨ho.up (Nat.le_succ _),⟨nS.tv (Nat.lt_succ_self _),Nat.succ_pos _⟩,Nat.le_succ _⟩⟩
theorem yI.get (lo:Nat):yI lo (fun n a=>a.next=n/\XZ a) wL:=⟨fun _ _ ho=>⟨ho,⟨rfl,ho⟩,Nat.le_refl _⟩⟩
theorem yI.eqn {lo:Nat} (most:Int) {l r:Ty} (fr en:Int) (hl:nS lo l) (hr:nS lo r):yI lo (fun _ _=>True) (dw most l r fr en):=by
 refine ⟨fun m hm ho=>?_⟩;unfold dw;dsimp only
 split
 ·exact ⟨ho,trivial,Nat.le_refl _⟩
 ·refine ⟨fun e he=>?_,trivial,Nat.le_refl _⟩;rcases List.mem_append.1 he with he | he
  ·exact ho e he
  ·simp at he;subst he;exact ⟨hl.mono hm,hr.mono hm⟩
theorem yI.many {α:Type} {lo:Nat} {Q:Nat->α->Prop} {x:α} {f:Pm α} (hx:∀ n,lo<=n->Q n x) (h:yI lo Q f):yI lo Q (dh x f):=by
 refine ⟨fun m hm ho=>?_⟩;unfold dh
 split
 ·exact ⟨ho,hx _ hm,Nat.le_refl _⟩
 ·exact h.run m hm ho
theorem yI.ite {α:Type} {lo:Nat} {Q:Nat->α->Prop} {c:Prop} [Decidable c] {f g:Pm α} (h1:c->yI lo Q f) (h2:¬ c->yI lo Q g):yI lo Q (if c then f else g):=by
 by_cases hc:c
 ·rw [if_pos hc];exact h1 hc
 ·rw [if_neg hc];exact h2 hc
theorem Vs (most:Int) {n:Nat} {sh:Ty->Ty}:∀ l:List mD,(∀ e∈l,nS n (sh e.1)/\nS n (sh e.2.1))->yI n (fun _ _=>True) (dX most sh l)
 | [],_=>yI.pure fun _ _=>trivial
 | e::r,h=>yI.many (fun _ _=>trivial) (yI.bind (yI.eqn most _ _ (h e (by simp)).1 (h e (by simp)).2) fun _ k hk _=>(Vs most r (fun u hu=>h u (by simp [hu]))).mono hk)
theorem Vt (most:Int) {kept:List mD} {v:Ty} {lo tt:Nat} (h1:lo<=tt) (hk:∀ e∈kept,nS tt e.1/\nS tt e.2.1) (hv:nS tt v):yI tt nS (copied most kept v lo tt):=by
 refine ⟨fun m hm ho=>?_⟩;have hb:XZ { m with next:=m.next+(tt-lo) }:=ho.up (Nat.le_add_right _ _);have hkb:=(Vs most (n:=m.next+(tt-lo)) (sh:=yh lo tt (m.next-lo)) kept (fun e he=>⟨zH h1 hm (hk e he).1,zH h1 hm (hk e he).2⟩)).run { m with next:=m.next+(tt-lo) } (Nat.le_refl _) hb;exact ⟨hkb.1,(zH h1 hm hv).mono hkb.2.2,Nat.le_trans (Nat.le_add_right _ _) hkb.2.2⟩
def noV:To->Prop
 | .nil=>True
 | .cons h ps r=>(h.k=10->nS 0 (h.tk,h.tn,h.tp))/\noV ps/\noV r
end Em
end
section
namespace Em
theorem Vu {lo tt d:Nat} {v:Int} (hv:v < tt):Bo lo tt d v=QA lo d v:=by
 unfold Bo QA
 by_cases h:v < (lo:Int)
 ·rw [if_neg (by omega),if_pos h]
 ·rw [if_pos (by omega),if_neg h]
theorem zI {lo tt d:Nat}:∀ f:Fo,fB tt f->f.change (Bo lo tt d)=f.change (QA lo d)
 | .nil,_=>rfl
 | .cons k v ps r,⟨a,b,c⟩=>by
  show Fo.cons k (if k == 1 then Bo lo tt d v else v) (ps.change _) (r.change _)=Fo.cons k (if k == 1 then QA lo d v else v) (ps.change _) (r.change _)
  rw [zI ps b,zI r c]
  by_cases hk:k=1
  ·rw [Vu (a hk).2]
  ·have:(k == 1)=false:=by simpa using hk
   rw [this];rfl
theorem MK {lo tt d:Nat} {t:Ty} (h:nS tt t):yh lo tt d t=AU lo d t:=by
 unfold yh AU;rw [zI _ h.2]
 by_cases hk:t.1=1
 ·rw [Vu (h.1 hk).2]
 ·have:(t.1 == 1)=false:=by simpa using hk
  rw [this];rfl
structure Lk {α β:Type} (most lo:Nat) (R:Nat->α->β->Prop) (f:Pm α) (g:Dm β):Prop where
 upf:∀ m,m.many=true->(f m).2.many=true
 upg:∀ d,d.L.length<=(g d).2.L.length
 run:∀ m d,lo<=m.next->m.many=false->XZ m->m.eqs=d.L->m.next=d.next->m.eqs.length<=most ->
  ((f m).2.many=false/\XZ (f m).2/\(f m).2.eqs=(g d).2.L/\(f m).2.next=(g d).2.next/\(f m).2.eqs.length<=most/\m.next<=(f m).2.next/\R (f m).2.next (f m).1 (g d).1)∨((f m).2.many=true/\most < (g d).2.L.length)
theorem Lk.mono {α β:Type} {most lo lo':Nat} {R:Nat->α->β->Prop} {f:Pm α} {g:Dm β} (h:Lk most lo R f g) (hl:lo<=lo'):Lk most lo' R f g:=⟨h.upf,h.upg,fun m d hm=>h.run m d (by omega)⟩
theorem Lk.bind {α β γ δ:Type} {most lo:Nat} {R:Nat->α->β->Prop} {S:Nat->γ->δ->Prop} {f:Pm α} {g:Dm β} {f':α->Pm γ} {g':β->Dm δ} (h:Lk most lo R f g) (u:∀ a m,m.many=true->(f' a m).2.many=true) (v:∀ b d,d.L.length<=(g' b d).2.L.length) (k:∀ a b n,lo<=n->R n a b->Lk most n S (f' a) (g' b)):Lk most lo S (bd f f') (gq g g'):=by
 refine ⟨fun m hm=>u _ _ (h.upf m hm),fun d=>Nat.le_trans (h.upg d) (v _ _),fun m d hm hn ho he hx hl=>?_⟩;rcases h.run m d hm hn ho he hx hl with ⟨h1,h2,h3,h4,h5,h6,h7⟩ | ⟨h1,h2⟩
 ·rcases (k _ _ _ (by omega) h7).run (f m).2 (g d).2 (Nat.le_refl _) h1 h2 h3 h4 h5 with ⟨k1,k2,k3,k4,k5,k6,k7⟩ | ⟨k1,k2⟩
  ·exact .inl ⟨k1,k2,k3,k4,k5,Nat.le_trans h6 k6,k7⟩
  ·exact .inr ⟨k1,k2⟩
 ·exact .inr ⟨u _ _ h1,Nat.lt_of_lt_of_le h2 (v _ _)⟩
theorem Lk.pure {α β:Type} {most lo:Nat} {R:Nat->α->β->Prop} {a:α} {b:β} (h:∀ n,lo<=n->R n a b):Lk most lo R (pu a) (jP b):=⟨fun _ hm=>hm,fun _=>Nat.le_refl _,fun _ _ hm hn ho he hx hl=>.inl ⟨hn,ho,he,hx,hl,Nat.le_refl _,h _ hm⟩⟩
abbrev RT:Nat->Ty->Nat->Prop:=fun n t k=>t=tv k/\k < n
theorem Lk.take (most lo:Nat):Lk most lo RT je kX:=⟨fun _ hm=>hm,fun _=>Nat.le_refl _,fun m d hm hn ho he hx hl=>.inl ⟨hn,ho.up (Nat.le_succ _),he,by show m.next+1=d.next+1;rw [hx],hl,Nat.le_succ _,by show tv m.next=tv d.next;rw [hx],by show d.next < m.next+1;omega⟩⟩
theorem Lk.eqn {most lo:Nat} {l r:Ty} (fr en:Int) (hl:nS lo l) (hr:nS lo r):Lk most lo (fun _ _ _=>True) (dw (most:Int) l r fr en) (mX l r fr en):=by
 refine ⟨fun m hm=>?_,fun d=>by show d.L.length<=(d.L++[(l,r,fr,en)]).length;simp,fun m d hm hn ho he hx hle=>?_⟩
 ·unfold dw;dsimp only;split
  ·rfl
  ·exact hm
 ·have hb:=(yI.eqn (lo:=lo) (most:Int) fr en hl hr).run m hm ho;unfold dw at *;dsimp only at *
  by_cases h:(most:Int)<=m.eqs.length
  ·rw [if_pos h];refine .inr ⟨rfl,?_⟩
   show most < (d.L++[(l,r,fr,en)]).length
   rw [<-he];simp;omega
  ·rw [if_neg h] at hb ⊢;exact .inl ⟨hn,hb.1,by show m.eqs++_=d.L++_;rw [he],hx,by show (m.eqs++[_]).length<=most;simp;omega,Nat.le_refl _,trivial⟩
theorem Lk.many {α β:Type} {most lo:Nat} {R:Nat->α->β->Prop} {x:α} {f:Pm α} {g:Dm β} (h:Lk most lo R f g):Lk most lo R (dh x f) g:=by
 refine ⟨fun m hm=>?_,h.upg,fun m d hm hn=>?_⟩
 ·unfold dh;rw [hm];exact hm
 ·unfold dh;rw [hn];simp only [Bool.false_eq_true,if_false];exact h.run m d hm hn
theorem Lk.ite {α β:Type} {most lo:Nat} {R:Nat->α->β->Prop} {c:Prop} [Decidable c] {f f':Pm α} {g g':Dm β} (h1:c->Lk most lo R f g) (h2:¬ c->Lk most lo R f' g'):Lk most lo R (if c then f else f') (if c then g else g'):=by
 by_cases hc:c
 ·rw [if_pos hc,if_pos hc];exact h1 hc
 ·rw [if_neg hc,if_neg hc];exact h2 hc
theorem JW (most:Int) (sh:Ty->Ty):∀ (l:List mD) (m:Mk),m.many=true->(dX most sh l m).2.many=true
 | [],_,hm=>hm
 | e::r,m,hm=>by unfold dX dh;rw [hm];exact hm
theorem FW (most : Nat) (sh : Ty -> Ty) : ∀ (l : List mD) (m : Mk), m.many = false -> m.eqs.length <= most ->
    ((dX most sh l m).2={ m with eqs:=m.eqs++l.map (fun e=>(sh e.1,sh e.2.1,e.2.2)) }/\m.eqs.length+l.length<=most)∨((dX most sh l m).2.many=true/\most < m.eqs.length+l.length)
 | [],m,hm,hl=>.inl ⟨by show m=_;simp,by simpa using hl⟩
 | e::r,m,hm,hl=>by
  have e0:dX (most:Int) sh (e::r) m=dX most sh r (dw most (sh e.1) (sh e.2.1) e.2.2.1 e.2.2.2 m).2:=by
   show dh () _ m=_
   unfold dh;rw [hm];rfl
  rw [e0];unfold dw;dsimp only
  by_cases h:(most:Int)<=m.eqs.length
  ·rw [if_pos h];exact .inr ⟨JW _ _ r _ rfl,by simp;omega⟩
  ·rw [if_neg h];rcases FW most sh r { m with eqs:=m.eqs++[(sh e.1,sh e.2.1,e.2.2.1,e.2.2.2)] } hm (by simp;omega) with ⟨h1,h2⟩ | ⟨h1,h2⟩
   ·refine .inl ⟨?_,by simp at h2 ⊢;omega⟩;rw [h1];simp
   ·exact .inr ⟨h1,by simp at h2 ⊢;omega⟩
theorem zJ (most:Int) (kept:List mD) (v:Ty) (lo tt:Nat) (m:Mk) (hm:m.many=true):(copied most kept v lo tt m).2.many=true:=JW most _ kept _ hm
def Self (n:Nat) (g:Dm Nat):Prop:=∀ a d,n<=a->0 < a->RS a d (RN a d) g g
theorem QB {most : Nat} {g : Dm Nat} {kept : List mD} {v lo tt : Nat} (h1 : lo <= tt) (h0 : 0 < lo) (hk : ∀ e ∈ kept, nS tt e.1 /\ nS tt e.2.1) (hv : v < tt) (hs : Self lo g) {d0 : Dk} (hd : d0.next = lo) (hL : (g d0).2.L = d0.L ++ kept) (hn : (g d0).2.next = tt) (hr : (g d0).1 = v) (hup : ∀ d, d.L.length <= (g d).2.L.length) :
    Lk most tt RT (copied most kept (tv v) lo tt) g:=by
 refine ⟨zJ _ _ _ _ _,hup,fun m d hm hmn ho he hx hle=>?_⟩;obtain ⟨k,a1,a2,a3,a4,a5⟩:=(hs lo (m.next-lo) (Nat.le_refl _) h0).run d0 d (by omega) (by omega);have hkk:k=kept:=by rw [hL] at a1;exact (List.append_cancel_left a1).symm
 subst hkk;have hb:=(Vt (most:Int) (kept:=k) (v:=tv v) h1 hk (nS.tv hv)).run m hm ho;have hsh:k.map (fun e=>(yh lo tt (m.next-lo) e.1,yh lo tt (m.next-lo) e.2.1,e.2.2))=k.map (upE lo (m.next-lo)):=List.map_congr_left fun e he=>by
  show ((_,_,_):mD)=(AU lo _ e.1,AU lo _ e.2.1,e.2.2)
  rw [MK (hk e he).1,MK (hk e he).2]
 have Vw:(copied (most:Int) k (tv v) lo tt m).2=(dX (most:Int) (yh lo tt (m.next-lo)) k { m with next:=m.next+(tt-lo) }).2:=rfl;have hval:(copied (most:Int) k (tv v) lo tt m).1=yh lo tt (m.next-lo) (tv v):=rfl;rcases FW most (yh lo tt (m.next-lo)) k { m with next:=m.next+(tt-lo) } hmn hle with ⟨b1,b2⟩ | ⟨b1,b2⟩
 ·rw [b1] at Vw;have e1:(copied (most:Int) k (tv v) lo tt m).2.eqs=m.eqs++k.map (upE lo (m.next-lo)):=by rw [Vw];show m.eqs++_=_;rw [hsh]
  have e2:(copied (most:Int) k (tv v) lo tt m).2.next=m.next+(tt-lo):=by rw [Vw]
  refine .inl ⟨by rw [Vw];exact hmn,hb.1,by rw [e1,a2,he],by rw [e2,a4,hn];omega,by rw [e1];simp at b2 ⊢;omega,by rw [e2];omega,?_,?_⟩
  ·rw [hval,MK (nS.tv hv),qJ];rw [show (g d).1=up lo (m.next-lo) (g d0).1 from a5,hr]
  ·rw [e2,show (g d).1=up lo (m.next-lo) (g d0).1 from a5,hr];unfold up;split<;>omega
 ·refine .inr ⟨by rw [Vw];exact b1,?_⟩;rw [a2,<-he];simp at b2 ⊢;omega
end Em
end
end Go.Proofs.YtcninopmelmajaaGreatDoor
