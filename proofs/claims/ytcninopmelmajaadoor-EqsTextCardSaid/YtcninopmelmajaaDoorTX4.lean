/-
  Texts laid together (EmPlain, EmDoc, EmBnd, EmLk): laws and walks, with their conditions.
-/
import Derived.Test.YtcninopmelmajaaDoorTX3
set_option maxHeartbeats 8000000
set_option maxRecDepth 1000000
namespace Go.Proofs.YtcninopmelmajaaDoor
section
namespace Em
abbrev Ty:=Int × Int × Fo
abbrev lF:=Ty × Ty × Int × Int
structure Mk where
 eqs:List lF
 next:Nat
 many:Bool
abbrev Pm (α:Type):=Mk->α × Mk
def bd {α β:Type} (f:Pm α) (g:α->Pm β):Pm β:=fun m=>g (f m).1 (f m).2
def pu {α:Type} (a:α):Pm α:=fun m=>(a,m)
def wO:Pm Mk:=fun m=>(m,m)
def tv (n:Nat):Ty:=(1,(n:Int),.nil)
def iV:Pm Ty:=fun m=>(tv m.next,{ m with next:=m.next+1 })
def FU (d:Nat):Pm Unit:=fun m=>((),{ m with next:=m.next+d })
def dh (most:Int) (l r:Ty) (fr en:Int):Pm Unit:=fun m=>((),if most<=m.eqs.length then { m with many:=true } else { m with eqs:=m.eqs++[(l,r,fr,en)] })
def cZ {α:Type} (x:α) (f:Pm α):Pm α:=fun m=>if m.many then (x,m) else f m
def iO (a b:Ty):Ty:=(4,0,.cons a.1 a.2.1 a.2.2 (.cons b.1 b.2.1 b.2.2 .nil))
def jy:List Ty->Fo
 | []=>.nil
 | t::r=>.cons t.1 t.2.1 t.2.2 (jy r)
def BH (fr tt by_:Nat) (n:Int):Int:=if (fr:Int)<=n/\n < tt then n+by_ else n
def yj (fr tt by_:Nat) (t:Ty):Ty:=(t.1,if t.1 == 1 then BH fr tt by_ t.2.1 else t.2.1,t.2.2.change (BH fr tt by_))
abbrev Env:=List (ByteArray × Pm Ty)
def dS (most:Int) (sh:Ty->Ty):List lF->Pm Unit
 | []=>pu ()
 | e::r=>cZ () (bd (dh most (sh e.1) (sh e.2.1) e.2.2.1 e.2.2.2) fun _=>dS most sh r)
def copied (most:Int) (kept:List lF) (v:Ty) (fr tt:Nat):Pm Ty:=bd wO fun a=>bd (FU (tt-fr)) fun _=>bd (dS most (yj fr tt (a.next-fr)) kept) fun _=>pu (yj fr tt (a.next-fr) v)
def mD:Env->ByteArray->Pm Ty
 | [],_=>pu (tv 0)
 | x::r,s=>if x.1=s then x.2 else mD r s
def jw (e:Env):List (Env->Pm Ty)->Pm (List Ty)
 | []=>pu []
 | v::r=>bd (v e) fun t=>bd (jw e r) fun l=>pu (t::l)
abbrev wM (vs:List (Env->Pm Ty)) (i:Nat) (e:Env):Pm Ty:=vs.getD i (fun _=>pu (tv 0)) e
abbrev qL (l:List Ty) (i:Nat):Ty:=l.getD i (0,0,.nil)
def aH (ps:To) (i:Nat):Int × Int:=match ps.get i with
 | some (h,_)=>(h.fr,h.en)
 | none=>(0,0)
def vw (most:Int) (_:Nd) (first:Pm Ty) (second:Pm Ty->Pm Ty):Pm Ty :=
 bd wO fun a=>bd first fun v=>bd wO fun b=>second (copied most (b.eqs.drop a.eqs.length) v a.next b.next)
def vC (most:Int) (h:Nd) (ps:To) (vs:List (Env->Pm Ty)) (e:Env):Pm Ty:=bd iV fun own=>cZ own (
 if h.k=2 then bd (dh most own (2,0,.nil) h.fr h.en) fun _=>pu own
 else if h.k=3 then bd (dh most own (3,0,.nil) h.fr h.en) fun _=>pu own
 else if h.k=1 then bd (mD e h.nm) fun t=>bd (dh most own t h.fr h.en) fun _=>pu own
 else if h.k=4 then bd iV fun b=>bd (wM vs 0 ((h.nm,pu b)::e)) fun t=>bd (dh most own (iO b t) h.fr h.en) fun _=>pu own
 else if h.k=6 then bd (vw most h (wM vs 0 e) fun c=>wM vs 1 ((h.nm,c)::e)) fun t=>bd (dh most own t h.fr h.en) fun _=>pu own
 else if h.k=7 then bd (vw most h (bd iV fun v=>bd (wM vs 0 ((h.nm,pu v)::e)) fun t=>bd (dh most v t h.fr h.en) fun _=>pu v) fun c=>wM vs 1 ((h.nm,c)::e)) fun t=>bd (dh most own t h.fr h.en) fun _=>pu own
 else bd (jw e vs) fun p =>
  if h.k=5 then bd (dh most (qL p 0) (iO (qL p 1) own) h.fr h.en) fun _=>pu own
  else if h.k=8 then bd (dh most (qL p 0) (3,0,.nil) (aH ps 0).1 (aH ps 0).2) fun _=>bd (dh most own (qL p 1) (aH ps 1).1 (aH ps 1).2) fun _=>bd (dh most own (qL p 2) (aH ps 2).1 (aH ps 2).2) fun _=>pu own
  else if h.k=9 then bd (dh most own (5,0,jy p) h.fr h.en) fun _=>pu own
  else if h.k=10 then bd (dh most (qL p 0) (h.tk,h.tn,h.tp) (aH ps 0).1 (aH ps 0).2) fun _=>bd (dh most own (h.tk,h.tn,h.tp) h.fr h.en) fun _=>pu own
  else pu own)
def bQ (most:Int):To->List (Env->Pm Ty)
 | .nil=>[]
 | .cons h ps r=>vC most h ps (bQ most ps)::bQ most r
def dw (most:Int) (h:Nd) (ps:To) (e:Env):Pm Ty:=vC most h ps (bQ most ps) e
theorem zB (most:Int):∀ (f:To) (i:Nat) (h:Nd) (qs:To),f.get i=some (h,qs)->(bQ most f)[i]?=some (dw most h qs)
 | .nil,i,h,qs,e=>by simp [To.get] at e
 | .cons h' ps r,0,h,qs,e=>by
  simp [To.get] at e;obtain ⟨rfl,rfl⟩:=e;rfl
 | .cons h' ps r,i+1,h,qs,e=>by
  show (bQ most r)[i]?=_
  exact zB most r i h qs e
theorem jK (most:Int):∀ f:To,(bQ most f).length=f.length
 | .nil=>rfl
 | .cons _ _ r=>by simp only [bQ,List.length_cons,To.length];rw [jK most r]
structure Step {α:Type} (N:Nat) (f g:Pm α):Prop where
 up:∀ m,m.eqs.length<=(f m).2.eqs.length/\(m.many=true->(f m).2.many=true)
 up':∀ m,m.many=true->(g m).2.many=true
 lock:∀ m,m.many=false->m.eqs.length<=N->((f m).2.many=false/\(f m).2.eqs.length<=N/\g m=f m)∨((g m).2.many=true/\((f m).2.many=true∨N < (f m).2.eqs.length))
theorem Step.pu {α:Type} (N:Nat) (a:α):Step N (pu a) (pu a):=⟨fun _=>⟨Nat.le_refl _,id⟩,fun _ h=>h,fun _ h1 h2=>.inl ⟨h1,h2,rfl⟩⟩
theorem Step.wO (N:Nat):Step N wO wO:=⟨fun _=>⟨Nat.le_refl _,id⟩,fun _ h=>h,fun _ h1 h2=>.inl ⟨h1,h2,rfl⟩⟩
theorem Step.iV (N:Nat):Step N iV iV:=⟨fun _=>⟨Nat.le_refl _,id⟩,fun _ h=>h,fun _ h1 h2=>.inl ⟨h1,h2,rfl⟩⟩
theorem Step.FU (N d:Nat):Step N (FU d) (FU d):=⟨fun _=>⟨Nat.le_refl _,id⟩,fun _ h=>h,fun _ h1 h2=>.inl ⟨h1,h2,rfl⟩⟩
theorem Step.bd {α β:Type} {N:Nat} {f f':Pm α} {g g':α->Pm β} (h:Step N f f') (k:∀ a,Step N (g a) (g' a)):Step N (bd f g) (bd f' g'):=by
 refine ⟨fun m=>?_,fun m hm=>?_,fun m hm hn=>?_⟩
 ·have h1:=h.up m;have h2:=(k (f m).1).up (f m).2;exact ⟨Nat.le_trans h1.1 h2.1,fun e=>h2.2 (h1.2 e)⟩
 ·exact (k (f' m).1).up' _ (h.up' m hm)
 ·rcases h.lock m hm hn with ⟨h1,h2,h3⟩ | ⟨h1,h2⟩
  ·have h4:=(k (f m).1).lock (f m).2 h1 h2;unfold Em.bd;rw [h3];exact h4
  ·refine .inr ⟨(k (f' m).1).up' _ h1,?_⟩;have h4:=(k (f m).1).up (f m).2;rcases h2 with h2 | h2
   ·exact .inl (h4.2 h2)
   ·exact .inr (Nat.lt_of_lt_of_le h2 h4.1)
theorem Step.cZ {α:Type} {N:Nat} (x:α) {f f':Pm α} (h:Step N f f'):Step N (cZ x f) (cZ x f'):=by
 refine ⟨fun m=>?_,fun m hm=>?_,fun m hm hn=>?_⟩
 ·unfold Em.cZ;cases hm:m.many
  ·simp only [Bool.false_eq_true,if_false];exact ⟨(h.up m).1,fun e=>absurd e (by simp)⟩
  ·simp only [if_true];exact ⟨Nat.le_refl _,fun _=>hm⟩
 ·unfold Em.cZ;rw [hm];exact hm
 ·unfold Em.cZ;rw [hm];simp only [Bool.false_eq_true,if_false];exact h.lock m hm hn
theorem Step.ite {α:Type} {N:Nat} {c:Prop} [Decidable c] {f f' g g':Pm α} (h1:Step N f f') (h2:Step N g g'):Step N (if c then f else g) (if c then f' else g'):=by
 by_cases hc:c
 ·rw [if_pos hc,if_pos hc];exact h1
 ·rw [if_neg hc,if_neg hc];exact h2
theorem Step.dh {M N:Int} {n:Nat} (hN:N=n) (hM:N<=M) (l r:Ty) (fr en:Int):Step n (dh M l r fr en) (dh N l r fr en):=by
 subst hN;refine ⟨fun m=>?_,fun m hm=>?_,fun m hm hn=>?_⟩
 ·unfold Em.dh;dsimp only;split
  ·exact ⟨Nat.le_refl _,fun _=>rfl⟩
  ·exact ⟨by simp,id⟩
 ·unfold Em.dh;dsimp only;split
  ·rfl
  ·exact hm
 ·unfold Em.dh;dsimp only
  by_cases h1:(n:Int)<=m.eqs.length
  ·refine .inr ⟨by rw [if_pos h1],?_⟩
   split
   ·exact .inl rfl
   ·refine .inr ?_;simp;omega
  ·rw [if_neg h1,if_neg (by omega)];exact .inl ⟨hm,by simp;omega,rfl⟩
inductive KC (N:Nat):Env->Env->Prop
 | nil:KC N [] []
 | cons {s:ByteArray} {f g:Pm Ty} {e e':Env}:Step N f g->KC N e e'->KC N ((s,f)::e) ((s,g)::e')
theorem KC.look {N:Nat} {e e':Env} (h:KC N e e') (s:ByteArray):Step N (mD e s) (mD e' s):=by
 induction h with
 | nil=>exact Step.pu N _
 | cons h1 _ ih =>
  unfold mD
  split
  ·exact h1
  ·exact ih
def VS (N:Nat) (v v':Env->Pm Ty):Prop:=∀ e e',KC N e e'->Step N (v e) (v' e')
inductive WS (N:Nat):List (Env->Pm Ty)->List (Env->Pm Ty)->Prop
 | nil:WS N [] []
 | cons {v v':Env->Pm Ty} {l l':List (Env->Pm Ty)}:VS N v v'->WS N l l'->WS N (v::l) (v'::l')
theorem WS.at {N:Nat} {l l':List (Env->Pm Ty)} (h:WS N l l'):∀ (i:Nat) {e e':Env},KC N e e'->Step N (wM l i e) (wM l' i e'):=by
 induction h with
 | nil=>intro i e e' _;exact Step.pu N _
 | cons h1 _ ih =>
  intro i e e' he;cases i with
  | zero=>exact h1 _ _ he
  | succ i=>exact ih i he
theorem WS.map {N:Nat} {e e':Env} (he:KC N e e') {l l':List (Env->Pm Ty)} (h:WS N l l'):Step N (jw e l) (jw e' l'):=by
 induction h with
 | nil=>exact Step.pu N _
 | cons h1 _ ih=>exact Step.bd (h1 _ _ he) fun t=>Step.bd ih fun l=>Step.pu N _
section
variable {M N:Int} {n:Nat}
theorem D6 (hN:N=n) (hM:N<=M) (sh:Ty->Ty):∀ l:List lF,Step n (dS M sh l) (dS N sh l)
 | []=>Step.pu n _
 | _::r=>Step.cZ _ (Step.bd (Step.dh hN hM _ _ _ _) fun _=>D6 hN hM sh r)
theorem KD (hN:N=n) (hM:N<=M) (kept:List lF) (v:Ty) (fr tt:Nat):Step n (copied M kept v fr tt) (copied N kept v fr tt) :=
 Step.bd (Step.wO n) fun _=>Step.bd (Step.FU n _) fun _=>Step.bd (D6 hN hM _ kept) fun _=>Step.pu n _
theorem Gn (hN:N=n) (hM:N<=M) (h:Nd) {f f':Pm Ty} {g g':Pm Ty->Pm Ty} (hf:Step n f f') (hg:∀ c c',Step n c c'->Step n (g c) (g' c')):Step n (vw M h f g) (vw N h f' g') :=
 Step.bd (Step.wO n) fun _=>Step.bd hf fun _=>Step.bd (Step.wO n) fun _=>hg _ _ (KD hN hM _ _ _ _)
theorem Gp (hN:N=n) (hM:N<=M) (h:Nd) (ps:To) {vs vs':List (Env->Pm Ty)} (hv:WS n vs vs'):VS n (vC M h ps vs) (vC N h ps vs'):=by
 intro e e' he;have q:∀ (l r:Ty) (fr en:Int),Step n (dh M l r fr en) (dh N l r fr en):=Step.dh hN hM;unfold vC;refine Step.bd (Step.iV n) fun own=>Step.cZ _ ?_
 have fin:∀ (l r:Ty) (fr en:Int),Step n (bd (dh M l r fr en) fun _=>pu own) (bd (dh N l r fr en) fun _=>pu own):=fun l r fr en=>Step.bd (q _ _ _ _) fun _=>Step.pu n _
 refine Step.ite (fin _ _ _ _) (Step.ite (fin _ _ _ _) (Step.ite (Step.bd (he.look _) fun t=>fin _ _ _ _) (Step.ite ?_ (Step.ite ?_ (Step.ite ?_ ?_)))))
 ·exact Step.bd (Step.iV n) fun b=>Step.bd (hv.at 0 (.cons (Step.pu n b) he)) fun t=>fin _ _ _ _
 ·exact Step.bd (Gn hN hM h (hv.at 0 he) fun c c' hc=>hv.at 1 (.cons hc he)) fun t=>fin _ _ _ _
 ·exact Step.bd (Gn hN hM h (Step.bd (Step.iV n) fun v=>Step.bd (hv.at 0 (.cons (Step.pu n v) he)) fun t=>Step.bd (q _ _ _ _) fun _=>Step.pu n _) fun c c' hc=>hv.at 1 (.cons hc he)) fun t=>fin _ _ _ _
 refine Step.bd (WS.map he hv) fun p=>?_
 exact Step.ite (fin _ _ _ _) (Step.ite (Step.bd (q _ _ _ _) fun _=>Step.bd (q _ _ _ _) fun _=>fin _ _ _ _) (Step.ite (fin _ _ _ _) (Step.ite (Step.bd (q _ _ _ _) fun _=>fin _ _ _ _) (Step.pu n _))))
theorem xw (hN:N=n) (hM:N<=M):∀ f:To,WS n (bQ M f) (bQ N f)
 | .nil=>.nil
 | .cons h ps r=>.cons (Gp hN hM h ps (xw hN hM ps)) (xw hN hM r)
theorem MI (hN:N=n) (hM:N<=M) (h:Nd) (ps:To):Step n (dw M h ps []) (dw N h ps []):=Gp hN hM h ps (xw hN hM ps) [] [] .nil
end
end Em
end
section
namespace Em
structure Dk where
 L:List lF
 next:Nat
abbrev Dm (α:Type):=Dk->α × Dk
def fF {α β:Type} (f:Dm α) (g:α->Dm β):Dm β:=fun d=>g (f d).1 (f d).2
def jg {α:Type} (a:α):Dm α:=fun d=>(a,d)
def jU:Dm Nat:=fun d=>(d.next,{ d with next:=d.next+1 })
def mO (l r:Ty) (fr en:Int):Dm Unit:=fun d=>((),{ d with L:=d.L++[(l,r,fr,en)] })
abbrev aP:=List (ByteArray × Dm Nat)
def jA:aP->ByteArray->Dm Nat
 | [],_=>jg 0
 | x::r,s=>if x.1=s then x.2 else jA r s
def dmap (e:aP):List (aP->Dm Nat)->Dm (List Nat)
 | []=>jg []
 | v::r=>fF (v e) fun t=>fF (dmap e r) fun l=>jg (t::l)
abbrev dat (vs:List (aP->Dm Nat)) (i:Nat) (e:aP):Dm Nat:=vs.getD i (fun _=>jg 0) e
abbrev jP (l:List Nat) (i:Nat):Ty:=(l.map tv).getD i (0,0,.nil)
def nY (h:Nd) (vs:List (aP->Dm Nat)) (e:aP):Dm Nat :=
 if h.k=6 then dat vs 0 e
 else fF jU fun b=>fF (dat vs 0 ((h.nm,jg b)::e)) fun t=>fF (mO (tv b) (tv t) h.fr h.en) fun _=>jg b
def EU (h:Nd) (ps:To) (vs:List (aP->Dm Nat)) (e:aP):Dm Nat:=fF jU fun own =>
 if h.k=2 then fF (mO (tv own) (2,0,.nil) h.fr h.en) fun _=>jg own
 else if h.k=3 then fF (mO (tv own) (3,0,.nil) h.fr h.en) fun _=>jg own
 else if h.k=1 then fF (jA e h.nm) fun t=>fF (mO (tv own) (tv t) h.fr h.en) fun _=>jg own
 else if h.k=4 then fF jU fun b=>fF (dat vs 0 ((h.nm,jg b)::e)) fun t=>fF (mO (tv own) (iO (tv b) (tv t)) h.fr h.en) fun _=>jg own
 else if h.k=6∨h.k=7 then fF (nY h vs e) fun _=>fF (dat vs 1 ((h.nm,nY h vs e)::e)) fun t=>fF (mO (tv own) (tv t) h.fr h.en) fun _=>jg own
 else fF (dmap e vs) fun p =>
  if h.k=5 then fF (mO (jP p 0) (iO (jP p 1) (tv own)) h.fr h.en) fun _=>jg own
  else if h.k=8 then fF (mO (jP p 0) (3,0,.nil) (aH ps 0).1 (aH ps 0).2) fun _=>fF (mO (tv own) (jP p 1) (aH ps 1).1 (aH ps 1).2) fun _=>fF (mO (tv own) (jP p 2) (aH ps 2).1 (aH ps 2).2) fun _=>jg own
  else if h.k=9 then fF (mO (tv own) (5,0,jy (p.map tv)) h.fr h.en) fun _=>jg own
  else if h.k=10 then fF (mO (jP p 0) (h.tk,h.tn,h.tp) (aH ps 0).1 (aH ps 0).2) fun _=>fF (mO (tv own) (h.tk,h.tn,h.tp) h.fr h.en) fun _=>jg own
  else jg own
def valsD:To->List (aP->Dm Nat)
 | .nil=>[]
 | .cons h ps r=>EU h ps (valsD ps)::valsD r
def vV (h:Nd) (ps:To) (e:aP):Dm Nat:=EU h ps (valsD ps) e
def up (a d n:Nat):Nat:=if n < a then n else n+d
def QU (a d:Nat) (n:Int):Int:=if n < a then n else n+d
def Bd (a d:Nat) (t:Ty):Ty:=(t.1,if t.1 == 1 then QU a d t.2.1 else t.2.1,t.2.2.change (QU a d))
def upE (a d:Nat) (e:lF):lF:=(Bd a d e.1,Bd a d e.2.1,e.2.2)
theorem Yo (a d n:Nat):QU a d (n:Int)=((up a d n:Nat):Int):=by
 unfold QU up
 by_cases h:n < a
 ·rw [if_pos h,if_pos (by omega)]
 ·rw [if_neg h,if_neg (by omega)];push_cast;rfl
theorem qC (a d n:Nat):Bd a d (tv n)=tv (up a d n):=by
 show ((1,QU a d (n:Int),Fo.nil):Ty)=(1,((up a d n:Nat):Int),Fo.nil)
 rw [Yo]
structure RS {α:Type} (a d:Nat) (R:α->α->Prop) (g g':Dm α):Prop where
 run:∀ s s',a<=s.next->s'.next=s.next+d->∃ k,(g s).2.L=s.L++k/\(g' s').2.L=s'.L++k.map (upE a d)/\s.next<=(g s).2.next/\(g' s').2.next=(g s).2.next+d/\R (g s).1 (g' s').1
theorem RS.bind {α β:Type} {a d:Nat} {R:α->α->Prop} {S:β->β->Prop} {f f':Dm α} {g g':α->Dm β} (h:RS a d R f f') (k:∀ x x',R x x'->RS a d S (g x) (g' x')):RS a d S (fF f g) (fF f' g'):=by
 refine ⟨fun s s' hs hn=>?_⟩;obtain ⟨k1,h1,h2,h3,h4,h5⟩:=h.run s s' hs hn;obtain ⟨k2,j1,j2,j3,j4,j5⟩:=(k _ _ h5).run (f s).2 (f' s').2 (by omega) h4;exact ⟨k1++k2,by show (g _ (f s).2).2.L=_;rw [j1,h1,List.append_assoc],by show (g' _ (f' s').2).2.L=_;rw [j2,h2,List.map_append,List.append_assoc],Nat.le_trans h3 j3,j4,j5⟩
theorem RS.pure {α:Type} {a d:Nat} {R:α->α->Prop} {x x':α} (h:R x x'):RS a d R (jg x) (jg x'):=⟨fun s s' _ hn=>⟨[],by show s.L=_;simp,by show s'.L=_;simp,Nat.le_refl _,hn,h⟩⟩
abbrev RN (a d:Nat):Nat->Nat->Prop:=fun n n'=>n'=up a d n
theorem RS.take (a d:Nat):RS a d (RN a d) jU jU:=⟨fun s s' hs hn=>⟨[],by show s.L=_;simp,by show s'.L=_;simp,Nat.le_succ _,by show s'.next+1=s.next+1+d;omega,by show s'.next=up a d s.next;unfold up;rw [if_neg (by omega)];exact hn⟩⟩
theorem RS.add {a d:Nat} {l r l' r':Ty} (fr en:Int) (hl:l'=Bd a d l) (hr:r'=Bd a d r):RS a d (fun _ _=>True) (mO l r fr en) (mO l' r' fr en):=⟨fun s s' _ hn=>⟨[(l,r,fr,en)],rfl,by subst hl hr;rfl,Nat.le_refl _,hn,trivial⟩⟩
theorem RS.ite {α:Type} {a d:Nat} {R:α->α->Prop} {c:Prop} [Decidable c] {f f' g g':Dm α} (h1:c->RS a d R f f') (h2:¬ c->RS a d R g g'):RS a d R (if c then f else g) (if c then f' else g'):=by
 by_cases hc:c
 ·rw [if_pos hc,if_pos hc];exact h1 hc
 ·rw [if_neg hc,if_neg hc];exact h2 hc
inductive vX (a d:Nat):aP->aP->Prop
 | nil:vX a d [] []
 | cons {s:ByteArray} {f f':Dm Nat} {e e':aP}:RS a d (RN a d) f f'->vX a d e e'->vX a d ((s,f)::e) ((s,f')::e')
theorem vX.look {a d:Nat} (ha:0 < a) {e e':aP} (h:vX a d e e') (s:ByteArray):RS a d (RN a d) (jA e s) (jA e' s):=by
 induction h with
 | nil=>exact RS.pure (by show 0=up a d 0;unfold up;rw [if_pos ha])
 | cons h1 _ ih =>
  unfold jA;exact RS.ite (fun _=>h1) (fun _=>ih)
def VRS (v:aP->Dm Nat):Prop:=∀ a d e e',0 < a->vX a d e e'->RS a d (RN a d) (v e) (v e')
theorem IC {vs:List (aP->Dm Nat)} (hv:∀ v∈vs,VRS v) (i:Nat) {a d:Nat} {e e':aP} (ha:0 < a) (he:vX a d e e'):RS a d (RN a d) (dat vs i e) (dat vs i e'):=by
 unfold dat;rw [List.getD_eq_getElem?_getD];cases hi:vs[i]? with
 | none=>exact RS.pure (by show 0=up a d 0;unfold up;rw [if_pos ha])
 | some v=>exact hv v (List.mem_of_getElem? hi) a d e e' ha he
abbrev RL (a d:Nat):List Nat->List Nat->Prop:=fun l l'=>l'=l.map (up a d)
theorem OB {a d:Nat} {e e':aP} (ha:0 < a) (he:vX a d e e'):∀ {vs:List (aP->Dm Nat)},(∀ v∈vs,VRS v)->RS a d (RL a d) (dmap e vs) (dmap e' vs)
 | [],_=>RS.pure rfl
 | v::r,h=>RS.bind (h v (by simp) a d e e' ha he) fun x x' hx=>RS.bind (OB ha he (fun u hu=>h u (by simp [hu]))) fun l l' hl=>RS.pure (by
  have hx':x'=up a d x:=hx;have hl':l'=l.map (up a d):=hl
  show x'::l'=(x::l).map (up a d);rw [hx',hl'];rfl)
theorem D7 (h:Nd) {vs:List (aP->Dm Nat)} (hv:∀ v∈vs,VRS v) {a d:Nat} {e e':aP} (ha:0 < a) (he:vX a d e e'):RS a d (RN a d) (nY h vs e) (nY h vs e'):=by
 unfold nY;refine RS.ite (fun _=>IC hv 0 ha he) fun _=>RS.bind (RS.take a d) fun b b' hb=>RS.bind (IC hv 0 ha (.cons (RS.pure hb) he)) fun t t' ht=>RS.bind (RS.add _ _ ?_ ?_) fun _ _ _=>RS.pure hb
 ·rw [qC,show b'=up a d b from hb]
 ·rw [qC,show t'=up a d t from ht]
theorem OC (a d:Nat) (x y:Ty):Bd a d (iO x y)=iO (Bd a d x) (Bd a d y):=rfl
theorem VX (a d:Nat):∀ l:List Nat,(jy (l.map tv)).change (QU a d)=jy ((l.map (up a d)).map tv)
 | []=>rfl
 | n::r=>by
  have h1:Bd a d (tv n)=tv (up a d n):=qC a d n
  show (Fo.cons (Bd a d (tv n)).1 (Bd a d (tv n)).2.1 (Bd a d (tv n)).2.2 ((jy (r.map tv)).change (QU a d)))=_
  rw [h1,VX a d r];rfl
theorem aaN (a d:Nat) (l:List Nat) (i:Nat):jP (l.map (up a d)) i=Bd a d (jP l i):=by
 unfold jP;rw [List.getD_eq_getElem?_getD,List.getD_eq_getElem?_getD,List.getElem?_map,List.getElem?_map,List.getElem?_map];cases l[i]? with
 | none=>rfl
 | some n=>exact (qC a d n).symm
def gF:Fo->Prop
 | .nil=>True
 | .cons k _ ps r=>k≠1/\gF ps/\gF r
theorem zL (p:Int->Int):∀ f:Fo,gF f->f.change p=f
 | .nil,_=>rfl
 | .cons k n ps r,⟨h1,h2,h3⟩=>by
  show Fo.cons k (if k == 1 then p n else n) (ps.change p) (r.change p)=_
  rw [zL p ps h2,zL p r h3];have:(k == 1)=false:=by simpa using h1
  rw [this];rfl
def gT (t:Ty):Prop:=t.1≠1/\gF t.2.2
theorem VY {a d:Nat} {t:Ty} (h:gT t):Bd a d t=t:=by
 unfold Bd;rw [if_neg (by simpa using h.1),zL _ _ h.2]
def gA:To->Prop
 | .nil=>True
 | .cons h ps r=>(h.k=10->gT (h.tk,h.tn,h.tp))/\gA ps/\gA r
theorem Yp (h:Nd) (ps:To) (hg:h.k=10->gT (h.tk,h.tn,h.tp)) {vs:List (aP->Dm Nat)} (hv:∀ v∈vs,VRS v):VRS (EU h ps vs):=by
 intro a d e e' ha he;unfold EU;refine RS.bind (RS.take a d) fun own own' ho=>?_
 have ho':own'=up a d own:=ho;have et:tv own'=Bd a d (tv own):=by rw [ho',qC]
 have z:∀ k:Int,k≠1->((k,0,Fo.nil):Ty)=Bd a d (k,0,.nil):=fun k hk=>(VY (t:=(k,0,.nil)) ⟨hk,trivial⟩).symm
 have fin:∀ {l r l' r':Ty} (fr en:Int),l'=Bd a d l->r'=Bd a d r->RS a d (RN a d) (fF (mO l r fr en) fun _=>jg own) (fF (mO l' r' fr en) fun _=>jg own'):=fun fr en hl hr=>RS.bind (RS.add fr en hl hr) fun _ _ _=>RS.pure ho
 refine RS.ite (fun _=>fin _ _ et (z 2 (by decide))) fun _=>RS.ite (fun _=>fin _ _ et (z 3 (by decide))) fun _=>RS.ite (fun _=>?_) fun _=>RS.ite (fun _=>?_) fun _=>RS.ite (fun _=>?_) fun _=>?_
 ·exact RS.bind (he.look ha h.nm) fun t t' ht=>fin _ _ et (by rw [qC,show t'=up a d t from ht])
 ·exact RS.bind (RS.take a d) fun b b' hb=>RS.bind (IC hv 0 ha (.cons (RS.pure hb) he)) fun t t' ht=>fin _ _ et (by rw [OC,qC,qC,show t'=up a d t from ht,show b'=up a d b from hb])
 ·exact RS.bind (D7 h hv ha he) fun _ _ _=>RS.bind (IC hv 1 ha (.cons (D7 h hv ha he) he)) fun t t' ht=>fin _ _ et (by rw [qC,show t'=up a d t from ht])
 refine RS.bind (OB ha he hv) fun p p' hp=>?_
 have hp':p'=p.map (up a d):=hp;subst hp';have n0:∀ i,jP (p.map (up a d)) i=Bd a d (jP p i):=aaN a d p;have arr1:iO (jP (p.map (up a d)) 1) (tv own')=Bd a d (iO (jP p 1) (tv own)):=by
  rw [n0,et,OC]
 refine RS.ite (fun _=>fin _ _ (n0 0) arr1) fun _=>RS.ite (fun _=>?_) fun _=>RS.ite (fun _=>fin _ _ et ?_) fun _=>RS.ite (fun h10=>?_) fun _=>RS.pure ho
 ·exact RS.bind (RS.add _ _ (n0 0) (z 3 (by decide))) fun _ _ _=>RS.bind (RS.add _ _ et (n0 1)) fun _ _ _=>fin _ _ et (n0 2)
 ·show ((5,0,jy ((p.map (up a d)).map tv)):Ty)=(5,if (5:Int) == 1 then QU a d 0 else 0,(jy (p.map tv)).change (QU a d))
  rw [VX,if_neg (by decide)]
 ·have hT:=hg h10;exact RS.bind (RS.add _ _ (n0 0) (VY hT).symm) fun _ _ _=>fin _ _ et (VY hT).symm
end Em
end
section
namespace Em
def fB (n:Nat):Fo->Prop
 | .nil=>True
 | .cons k v ps r=>(k=1->0<=v/\v < n)/\fB n ps/\fB n r
def nI (n:Nat) (t:Ty):Prop:=(t.1=1->0<=t.2.1/\t.2.1 < n)/\fB n t.2.2
theorem fB.mono {n m:Nat} (h:n<=m):∀ f:Fo,fB n f->fB m f
 | .nil,_=>trivial
 | .cons k v ps r,⟨a,b,c⟩=>⟨fun e=>⟨(a e).1,by have:=(a e).2;omega⟩,fB.mono h ps b,fB.mono h r c⟩
theorem nI.mono {n m:Nat} {t:Ty} (k:nI n t) (h:n<=m):nI m t:=⟨fun e=>⟨(k.1 e).1,by have:=(k.1 e).2;omega⟩,fB.mono h _ k.2⟩
theorem nI.tv {n k:Nat} (h:k < n):nI n (tv k):=⟨fun _=>⟨by show (0:Int)<=(k:Int);omega,by show (k:Int) < n;omega⟩,trivial⟩
theorem nI.zero (n:Nat) (k:Int) (h:k≠1):nI n (k,0,.nil):=⟨fun e=>absurd e h,trivial⟩
theorem nI.arr {n:Nat} {a b:Ty} (h:nI n a) (k:nI n b):nI n (iO a b):=⟨fun e=>absurd e (by decide:(4:Int)≠1),h.1,h.2,k.1,k.2,trivial⟩
theorem OD {n:Nat}:∀ l:List Ty,(∀ t∈l,nI n t)->fB n (jy l)
 | [],_=>trivial
 | t::r,h=>⟨(h t (by simp)).1,(h t (by simp)).2,OD r (fun u hu=>h u (by simp [hu]))⟩
theorem Y6 {lo tt N:Nat} (h1:lo<=tt) (h2:tt<=N) {v:Int} (h0:0<=v) (hv:v < tt):0<=BH lo tt (N-lo) v/\BH lo tt (N-lo) v < ((N+(tt-lo):Nat):Int):=by
 unfold BH;split<;>omega
theorem D8 {lo tt N:Nat} (h1:lo<=tt) (h2:tt<=N):∀ f:Fo,fB tt f->fB (N+(tt-lo)) (f.change (BH lo tt (N-lo)))
 | .nil,_=>trivial
 | .cons k v ps r,⟨a,b,c⟩=>by
  refine ⟨fun e=>?_,D8 h1 h2 ps b,D8 h1 h2 r c⟩;have:=Y6 h1 h2 (a e).1 (a e).2;subst e;exact this
theorem zM {lo tt N:Nat} (h1:lo<=tt) (h2:tt<=N) {t:Ty} (h:nI tt t):nI (N+(tt-lo)) (yj lo tt (N-lo) t):=by
 refine ⟨fun e=>?_,D8 h1 h2 _ h.2⟩;have e':t.1=1:=e
 show 0<=(if t.1 == 1 then BH lo tt (N-lo) t.2.1 else t.2.1)/\(if t.1 == 1 then BH lo tt (N-lo) t.2.1 else t.2.1) < _
 rw [if_pos (by simp [e'])];exact Y6 h1 h2 (h.1 e').1 (h.1 e').2
def Yq (m:Mk):Prop:=∀ e∈m.eqs,nI m.next e.1/\nI m.next e.2.1
structure yJ {α:Type} (lo:Nat) (Q:Nat->α->Prop) (f:Pm α):Prop where
 run:∀ m,lo<=m.next->Yq m->Yq (f m).2/\Q (f m).2.next (f m).1/\m.next<=(f m).2.next
theorem yJ.mono {α:Type} {lo lo':Nat} {Q:Nat->α->Prop} {f:Pm α} (h:yJ lo Q f) (hl:lo<=lo'):yJ lo' Q f:=⟨fun m hm=>h.run m (by omega)⟩
theorem yJ.bind {α β:Type} {lo:Nat} {Q:Nat->α->Prop} {R:Nat->β->Prop} {f:Pm α} {g:α->Pm β} (h:yJ lo Q f) (k:∀ a n,lo<=n->Q n a->yJ n R (g a)):yJ lo R (bd f g):=by
 refine ⟨fun m hm ho=>?_⟩;obtain ⟨h1,h2,h3⟩:=h.run m hm ho;obtain ⟨k1,k2,k3⟩:=(k (f m).1 (f m).2.next (by omega) h2).run (f m).2 (Nat.le_refl _) h1;exact ⟨k1,k2,Nat.le_trans h3 k3⟩
theorem yJ.pure {α:Type} {lo:Nat} {Q:Nat->α->Prop} {a:α} (h:∀ n,lo<=n->Q n a):yJ lo Q (pu a):=⟨fun _ hm ho=>⟨ho,h _ hm,Nat.le_refl _⟩⟩
theorem Yq.up {m:Mk} (h:Yq m) {n:Nat} (hn:m.next<=n):Yq { m with next:=n }:=fun e he=>⟨(h e he).1.mono hn,(h e he).2.mono hn⟩
theorem yJ.take (lo:Nat):yJ lo (fun n t=>nI n t/\0 < n) iV:=⟨fun _ _ ho=>⟨ho.up (Nat.le_succ _),⟨nI.tv (Nat.lt_succ_self _),Nat.succ_pos _⟩,Nat.le_succ _⟩⟩
theorem yJ.get (lo:Nat):yJ lo (fun n a=>a.next=n/\Yq a) wO:=⟨fun _ _ ho=>⟨ho,⟨rfl,ho⟩,Nat.le_refl _⟩⟩
theorem yJ.eqn {lo:Nat} (most:Int) {l r:Ty} (fr en:Int) (hl:nI lo l) (hr:nI lo r):yJ lo (fun _ _=>True) (dh most l r fr en):=by
 refine ⟨fun m hm ho=>?_⟩;unfold dh;dsimp only
 split
 ·exact ⟨ho,trivial,Nat.le_refl _⟩
 ·refine ⟨fun e he=>?_,trivial,Nat.le_refl _⟩;rcases List.mem_append.1 he with he | he
  ·exact ho e he
  ·simp at he;subst he;exact ⟨hl.mono hm,hr.mono hm⟩
theorem yJ.many {α:Type} {lo:Nat} {Q:Nat->α->Prop} {x:α} {f:Pm α} (hx:∀ n,lo<=n->Q n x) (h:yJ lo Q f):yJ lo Q (cZ x f):=by
 refine ⟨fun m hm ho=>?_⟩;unfold cZ
 split
 ·exact ⟨ho,hx _ hm,Nat.le_refl _⟩
 ·exact h.run m hm ho
theorem yJ.ite {α:Type} {lo:Nat} {Q:Nat->α->Prop} {c:Prop} [Decidable c] {f g:Pm α} (h1:c->yJ lo Q f) (h2:¬ c->yJ lo Q g):yJ lo Q (if c then f else g):=by
 by_cases hc:c
 ·rw [if_pos hc];exact h1 hc
 ·rw [if_neg hc];exact h2 hc
theorem VZ (most:Int) {n:Nat} {sh:Ty->Ty}:∀ l:List lF,(∀ e∈l,nI n (sh e.1)/\nI n (sh e.2.1))->yJ n (fun _ _=>True) (dS most sh l)
 | [],_=>yJ.pure fun _ _=>trivial
 | e::r,h=>yJ.many (fun _ _=>trivial) (yJ.bind (yJ.eqn most _ _ (h e (by simp)).1 (h e (by simp)).2) fun _ k hk _=>(VZ most r (fun u hu=>h u (by simp [hu]))).mono hk)
theorem V3 (most:Int) {kept:List lF} {v:Ty} {lo tt:Nat} (h1:lo<=tt) (hk:∀ e∈kept,nI tt e.1/\nI tt e.2.1) (hv:nI tt v):yJ tt nI (copied most kept v lo tt):=by
 refine ⟨fun m hm ho=>?_⟩;have hb:Yq { m with next:=m.next+(tt-lo) }:=ho.up (Nat.le_add_right _ _);have hkb:=(VZ most (n:=m.next+(tt-lo)) (sh:=yj lo tt (m.next-lo)) kept (fun e he=>⟨zM h1 hm (hk e he).1,zM h1 hm (hk e he).2⟩)).run { m with next:=m.next+(tt-lo) } (Nat.le_refl _) hb;exact ⟨hkb.1,(zM h1 hm hv).mono hkb.2.2,Nat.le_trans (Nat.le_add_right _ _) hkb.2.2⟩
def noV:To->Prop
 | .nil=>True
 | .cons h ps r=>(h.k=10->nI 0 (h.tk,h.tn,h.tp))/\noV ps/\noV r
end Em
end
section
namespace Em
theorem V4 {lo tt d:Nat} {v:Int} (hv:v < tt):BH lo tt d v=QU lo d v:=by
 unfold BH QU
 by_cases h:v < (lo:Int)
 ·rw [if_neg (by omega),if_pos h]
 ·rw [if_pos (by omega),if_neg h]
theorem zN {lo tt d:Nat}:∀ f:Fo,fB tt f->f.change (BH lo tt d)=f.change (QU lo d)
 | .nil,_=>rfl
 | .cons k v ps r,⟨a,b,c⟩=>by
  show Fo.cons k (if k == 1 then BH lo tt d v else v) (ps.change _) (r.change _)=Fo.cons k (if k == 1 then QU lo d v else v) (ps.change _) (r.change _)
  rw [zN ps b,zN r c]
  by_cases hk:k=1
  ·rw [V4 (a hk).2]
  ·have:(k == 1)=false:=by simpa using hk
   rw [this];rfl
theorem Nh {lo tt d:Nat} {t:Ty} (h:nI tt t):yj lo tt d t=Bd lo d t:=by
 unfold yj Bd;rw [zN _ h.2]
 by_cases hk:t.1=1
 ·rw [V4 (h.1 hk).2]
 ·have:(t.1 == 1)=false:=by simpa using hk
  rw [this];rfl
structure Lk {α β:Type} (most lo:Nat) (R:Nat->α->β->Prop) (f:Pm α) (g:Dm β):Prop where
 upf:∀ m,m.many=true->(f m).2.many=true
 upg:∀ d,d.L.length<=(g d).2.L.length
 run:∀ m d,lo<=m.next->m.many=false->Yq m->m.eqs=d.L->m.next=d.next->m.eqs.length<=most ->
  ((f m).2.many=false/\Yq (f m).2/\(f m).2.eqs=(g d).2.L/\(f m).2.next=(g d).2.next/\(f m).2.eqs.length<=most/\m.next<=(f m).2.next/\R (f m).2.next (f m).1 (g d).1)∨((f m).2.many=true/\most < (g d).2.L.length)
theorem Lk.mono {α β:Type} {most lo lo':Nat} {R:Nat->α->β->Prop} {f:Pm α} {g:Dm β} (h:Lk most lo R f g) (hl:lo<=lo'):Lk most lo' R f g:=⟨h.upf,h.upg,fun m d hm=>h.run m d (by omega)⟩
theorem Lk.bind {α β γ δ:Type} {most lo:Nat} {R:Nat->α->β->Prop} {S:Nat->γ->δ->Prop} {f:Pm α} {g:Dm β} {f':α->Pm γ} {g':β->Dm δ} (h:Lk most lo R f g) (u:∀ a m,m.many=true->(f' a m).2.many=true) (v:∀ b d,d.L.length<=(g' b d).2.L.length) (k:∀ a b n,lo<=n->R n a b->Lk most n S (f' a) (g' b)):Lk most lo S (bd f f') (fF g g'):=by
 refine ⟨fun m hm=>u _ _ (h.upf m hm),fun d=>Nat.le_trans (h.upg d) (v _ _),fun m d hm hn ho he hx hl=>?_⟩;rcases h.run m d hm hn ho he hx hl with ⟨h1,h2,h3,h4,h5,h6,h7⟩ | ⟨h1,h2⟩
 ·rcases (k _ _ _ (by omega) h7).run (f m).2 (g d).2 (Nat.le_refl _) h1 h2 h3 h4 h5 with ⟨k1,k2,k3,k4,k5,k6,k7⟩ | ⟨k1,k2⟩
  ·exact .inl ⟨k1,k2,k3,k4,k5,Nat.le_trans h6 k6,k7⟩
  ·exact .inr ⟨k1,k2⟩
 ·exact .inr ⟨u _ _ h1,Nat.lt_of_lt_of_le h2 (v _ _)⟩
theorem Lk.pure {α β:Type} {most lo:Nat} {R:Nat->α->β->Prop} {a:α} {b:β} (h:∀ n,lo<=n->R n a b):Lk most lo R (pu a) (jg b):=⟨fun _ hm=>hm,fun _=>Nat.le_refl _,fun _ _ hm hn ho he hx hl=>.inl ⟨hn,ho,he,hx,hl,Nat.le_refl _,h _ hm⟩⟩
abbrev RT:Nat->Ty->Nat->Prop:=fun n t k=>t=tv k/\k < n
theorem Lk.take (most lo:Nat):Lk most lo RT iV jU:=⟨fun _ hm=>hm,fun _=>Nat.le_refl _,fun m d hm hn ho he hx hl=>.inl ⟨hn,ho.up (Nat.le_succ _),he,by show m.next+1=d.next+1;rw [hx],hl,Nat.le_succ _,by show tv m.next=tv d.next;rw [hx],by show d.next < m.next+1;omega⟩⟩
theorem Lk.eqn {most lo:Nat} {l r:Ty} (fr en:Int) (hl:nI lo l) (hr:nI lo r):Lk most lo (fun _ _ _=>True) (dh (most:Int) l r fr en) (mO l r fr en):=by
 refine ⟨fun m hm=>?_,fun d=>by show d.L.length<=(d.L++[(l,r,fr,en)]).length;simp,fun m d hm hn ho he hx hle=>?_⟩
 ·unfold dh;dsimp only;split
  ·rfl
  ·exact hm
 ·have hb:=(yJ.eqn (lo:=lo) (most:Int) fr en hl hr).run m hm ho;unfold dh at *;dsimp only at *
  by_cases h:(most:Int)<=m.eqs.length
  ·rw [if_pos h];refine .inr ⟨rfl,?_⟩
   show most < (d.L++[(l,r,fr,en)]).length
   rw [<-he];simp;omega
  ·rw [if_neg h] at hb ⊢;exact .inl ⟨hn,hb.1,by show m.eqs++_=d.L++_;rw [he],hx,by show (m.eqs++[_]).length<=most;simp;omega,Nat.le_refl _,trivial⟩
theorem Lk.many {α β:Type} {most lo:Nat} {R:Nat->α->β->Prop} {x:α} {f:Pm α} {g:Dm β} (h:Lk most lo R f g):Lk most lo R (cZ x f) g:=by
 refine ⟨fun m hm=>?_,h.upg,fun m d hm hn=>?_⟩
 ·unfold cZ;rw [hm];exact hm
 ·unfold cZ;rw [hn];simp only [Bool.false_eq_true,if_false];exact h.run m d hm hn
theorem Lk.ite {α β:Type} {most lo:Nat} {R:Nat->α->β->Prop} {c:Prop} [Decidable c] {f f':Pm α} {g g':Dm β} (h1:c->Lk most lo R f g) (h2:¬ c->Lk most lo R f' g'):Lk most lo R (if c then f else f') (if c then g else g'):=by
 by_cases hc:c
 ·rw [if_pos hc,if_pos hc];exact h1 hc
 ·rw [if_neg hc,if_neg hc];exact h2 hc
theorem KE (most:Int) (sh:Ty->Ty):∀ (l:List lF) (m:Mk),m.many=true->(dS most sh l m).2.many=true
 | [],_,hm=>hm
 | e::r,m,hm=>by unfold dS cZ;rw [hm];exact hm
theorem Gq (most : Nat) (sh : Ty -> Ty) : ∀ (l : List lF) (m : Mk), m.many = false -> m.eqs.length <= most ->
    ((dS most sh l m).2={ m with eqs:=m.eqs++l.map (fun e=>(sh e.1,sh e.2.1,e.2.2)) }/\m.eqs.length+l.length<=most)∨((dS most sh l m).2.many=true/\most < m.eqs.length+l.length)
 | [],m,hm,hl=>.inl ⟨by show m=_;simp,by simpa using hl⟩
 | e::r,m,hm,hl=>by
  have e0:dS (most:Int) sh (e::r) m=dS most sh r (dh most (sh e.1) (sh e.2.1) e.2.2.1 e.2.2.2 m).2:=by
   show cZ () _ m=_
   unfold cZ;rw [hm];rfl
  rw [e0];unfold dh;dsimp only
  by_cases h:(most:Int)<=m.eqs.length
  ·rw [if_pos h];exact .inr ⟨KE _ _ r _ rfl,by simp;omega⟩
  ·rw [if_neg h];rcases Gq most sh r { m with eqs:=m.eqs++[(sh e.1,sh e.2.1,e.2.2.1,e.2.2.2)] } hm (by simp;omega) with ⟨h1,h2⟩ | ⟨h1,h2⟩
   ·refine .inl ⟨?_,by simp at h2 ⊢;omega⟩;rw [h1];simp
   ·exact .inr ⟨h1,by simp at h2 ⊢;omega⟩
theorem zO (most:Int) (kept:List lF) (v:Ty) (lo tt:Nat) (m:Mk) (hm:m.many=true):(copied most kept v lo tt m).2.many=true:=KE most _ kept _ hm
def Self (n:Nat) (g:Dm Nat):Prop:=∀ a d,n<=a->0 < a->RS a d (RN a d) g g
theorem QV {most : Nat} {g : Dm Nat} {kept : List lF} {v lo tt : Nat} (h1 : lo <= tt) (h0 : 0 < lo) (hk : ∀ e ∈ kept, nI tt e.1 /\ nI tt e.2.1) (hv : v < tt) (hs : Self lo g) {d0 : Dk} (hd : d0.next = lo) (hL : (g d0).2.L = d0.L ++ kept) (hn : (g d0).2.next = tt) (hr : (g d0).1 = v) (hup : ∀ d, d.L.length <= (g d).2.L.length) :
    Lk most tt RT (copied most kept (tv v) lo tt) g:=by
 refine ⟨zO _ _ _ _ _,hup,fun m d hm hmn ho he hx hle=>?_⟩;obtain ⟨k,a1,a2,a3,a4,a5⟩:=(hs lo (m.next-lo) (Nat.le_refl _) h0).run d0 d (by omega) (by omega);have hkk:k=kept:=by rw [hL] at a1;exact (List.append_cancel_left a1).symm
 subst hkk;have hb:=(V3 (most:Int) (kept:=k) (v:=tv v) h1 hk (nI.tv hv)).run m hm ho;have hsh:k.map (fun e=>(yj lo tt (m.next-lo) e.1,yj lo tt (m.next-lo) e.2.1,e.2.2))=k.map (upE lo (m.next-lo)):=List.map_congr_left fun e he=>by
  show ((_,_,_):lF)=(Bd lo _ e.1,Bd lo _ e.2.1,e.2.2)
  rw [Nh (hk e he).1,Nh (hk e he).2]
 have V5:(copied (most:Int) k (tv v) lo tt m).2=(dS (most:Int) (yj lo tt (m.next-lo)) k { m with next:=m.next+(tt-lo) }).2:=rfl;have hval:(copied (most:Int) k (tv v) lo tt m).1=yj lo tt (m.next-lo) (tv v):=rfl;rcases Gq most (yj lo tt (m.next-lo)) k { m with next:=m.next+(tt-lo) } hmn hle with ⟨b1,b2⟩ | ⟨b1,b2⟩
 ·rw [b1] at V5;have e1:(copied (most:Int) k (tv v) lo tt m).2.eqs=m.eqs++k.map (upE lo (m.next-lo)):=by rw [V5];show m.eqs++_=_;rw [hsh]
  have e2:(copied (most:Int) k (tv v) lo tt m).2.next=m.next+(tt-lo):=by rw [V5]
  refine .inl ⟨by rw [V5];exact hmn,hb.1,by rw [e1,a2,he],by rw [e2,a4,hn];omega,by rw [e1];simp at b2 ⊢;omega,by rw [e2];omega,?_,?_⟩
  ·rw [hval,Nh (nI.tv hv),qC];rw [show (g d).1=up lo (m.next-lo) (g d0).1 from a5,hr]
  ·rw [e2,show (g d).1=up lo (m.next-lo) (g d0).1 from a5,hr];unfold up;split<;>omega
 ·refine .inr ⟨by rw [V5];exact b1,?_⟩;rw [a2,<-he];simp at b2 ⊢;omega
end Em
end
end Go.Proofs.YtcninopmelmajaaDoor
