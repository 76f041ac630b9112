/-
  Texts laid together (EmRen, EmPos, EmCnt, EmNext, EmRef): laws and walks, with their conditions.
-/
import Derived.Test.YtcninopmelmajaaDoorTX26
set_option maxHeartbeats 8000000
set_option maxRecDepth 1000000
namespace Go.Proofs.YtcninopmelmajaaDoor
section
namespace Em
open Sc (mF bW ix ixE)
def run (most:Int) (h:Nd) (ps:To):Mk:=(dw most h ps [] ⟨[],0,false⟩).2
theorem ZQ {M:Nat} {h:Nd} {ps:To} (hm:(run M h ps).many=false):(run M h ps).eqs.length<=M:=by
 rcases (MI (M:=(M:Int)) (N:=(M:Int)) (n:=M) rfl (Int.le_refl _) h ps).lock ⟨[],0,false⟩ rfl (Nat.zero_le _) with ⟨_,h2,_⟩ | ⟨h1,_⟩
 ·exact h2
 ·unfold run at hm;rw [hm] at h1;cases h1
end Em
end
section
namespace Em
def Pos {α:Type} (f:Pm α):Prop:=∀ m,(f m).2.many=false->1<=(f m).2.eqs.length
theorem Pos.bind {α β:Type} {f:Pm α} {g:α->Pm β} (h:∀ a,Pos (g a)):Pos (bd f g):=fun _ hm=>h _ _ hm
theorem Pos.eq (most:Int) (l r:Ty) (fr en:Int) (own:Ty):Pos (bd (dh most l r fr en) fun _=>pu own):=by
 intro m hm;unfold Em.bd Em.dh Em.pu at *;dsimp only at *
 split at hm
 ·simp at hm
 ·rename_i h
  rw [if_neg h];simp
theorem XI {M:Int} {h:Nd} {ps:To} (h1:1<=h.k) (h10:h.k<=10) (hm:(run M h ps).many=false):1<=(run M h ps).eqs.length:=by
 have key : ∀ own, Pos (
     if h.k=2 then bd (dh M own (2,0,.nil) h.fr h.en) fun _=>pu own
     else if h.k=3 then bd (dh M own (3,0,.nil) h.fr h.en) fun _=>pu own
     else if h.k=1 then bd (mD [] h.nm) fun t=>bd (dh M own t h.fr h.en) fun _=>pu own
     else if h.k=4 then bd iV fun b=>bd (wM (bQ M ps) 0 ((h.nm,pu b)::[])) fun t=>bd (dh M own (iO b t) h.fr h.en) fun _=>pu own
     else if h.k=6 then bd (vw M h (wM (bQ M ps) 0 []) fun c=>wM (bQ M ps) 1 ((h.nm,c)::[])) fun t=>bd (dh M own t h.fr h.en) fun _=>pu own
     else if h.k=7 then bd (vw M h (bd iV fun v=>bd (wM (bQ M ps) 0 ((h.nm,pu v)::[])) fun t=>bd (dh M v t h.fr h.en) fun _=>pu v) fun c=>wM (bQ M ps) 1 ((h.nm,c)::[])) fun t=>bd (dh M own t h.fr h.en) fun _=>pu own
     else bd (jw [] (bQ M ps)) fun p =>
      if h.k=5 then bd (dh M (qL p 0) (iO (qL p 1) own) h.fr h.en) fun _=>pu own
      else if h.k=8 then bd (dh M (qL p 0) (3,0,.nil) (aH ps 0).1 (aH ps 0).2) fun _=>bd (dh M own (qL p 1) (aH ps 1).1 (aH ps 1).2) fun _=>bd (dh M own (qL p 2) (aH ps 2).1 (aH ps 2).2) fun _=>pu own
      else if h.k=9 then bd (dh M own (5,0,jy p) h.fr h.en) fun _=>pu own
      else if h.k=10 then bd (dh M (qL p 0) (h.tk,h.tn,h.tp) (aH ps 0).1 (aH ps 0).2) fun _=>bd (dh M own (h.tk,h.tn,h.tp) h.fr h.en) fun _=>pu own
      else pu own):=by
  intro own
  split
  ·exact Pos.eq _ _ _ _ _ _
  split
  ·exact Pos.eq _ _ _ _ _ _
  split
  ·exact Pos.bind fun _=>Pos.eq _ _ _ _ _ _
  split
  ·exact Pos.bind fun _=>Pos.bind fun _=>Pos.eq _ _ _ _ _ _
  split
  ·exact Pos.bind fun _=>Pos.eq _ _ _ _ _ _
  split
  ·exact Pos.bind fun _=>Pos.eq _ _ _ _ _ _
  refine Pos.bind fun p=>?_
  split
  ·exact Pos.eq _ _ _ _ _ _
  split
  ·exact Pos.bind fun _=>Pos.bind fun _=>Pos.eq _ _ _ _ _ _
  split
  ·exact Pos.eq _ _ _ _ _ _
  split
  ·exact Pos.bind fun _=>Pos.eq _ _ _ _ _ _
  ·omega
 exact key (tv 0) ⟨[],1,false⟩ hm
end Em
end
section
namespace Em
def ZR:To->Prop
 | .nil=>True
 | .cons h ps r=>(1<=h.k/\h.k<=10/\((h.k=2∨h.k=3)->ps=.nil))/\ZR ps/\ZR r
end Em
end
section
namespace Em
def NM {α:Type} (f:Pm α):Prop:=∀ m,m.next<=(f m).2.next/\m.eqs.length<=(f m).2.eqs.length
theorem NM.pure {α:Type} (a:α):NM (pu a):=fun _=>⟨Nat.le_refl _,Nat.le_refl _⟩
theorem NM.bind {α β:Type} {f:Pm α} {g:α->Pm β} (h:NM f) (k:∀ a,NM (g a)):NM (bd f g):=fun m=>⟨Nat.le_trans (h m).1 (k _ _).1,Nat.le_trans (h m).2 (k _ _).2⟩
theorem NM.wO:NM wO:=fun _=>⟨Nat.le_refl _,Nat.le_refl _⟩
theorem NM.take:NM iV:=fun _=>⟨Nat.le_succ _,Nat.le_refl _⟩
theorem NM.bump (d:Nat):NM (FU d):=fun m=>⟨by show m.next<=m.next+d;omega,Nat.le_refl _⟩
theorem yh (most:Int) (l r:Ty) (fr en:Int) (m:Mk):(dh most l r fr en m).2.next=m.next:=by unfold dh;dsimp only;split<;>rfl
theorem XJ (most:Int) (l r:Ty) (fr en:Int) (m:Mk):m.eqs.length<=(dh most l r fr en m).2.eqs.length:=by
 unfold dh;dsimp only;split
 ·exact Nat.le_refl _
 ·simp
theorem NM.eqn (most:Int) (l r:Ty) (fr en:Int):NM (dh most l r fr en):=fun m=>⟨by rw [yh];exact Nat.le_refl _,XJ _ _ _ _ _ _⟩
theorem NM.many {α:Type} (x:α) {f:Pm α} (h:NM f):NM (cZ x f):=fun m=>by
 unfold cZ
 split
 ·exact ⟨Nat.le_refl _,Nat.le_refl _⟩
 ·exact h m
theorem NM.ite {α:Type} {c:Prop} [Decidable c] {f g:Pm α} (h1:NM f) (h2:NM g):NM (if c then f else g):=by
 by_cases hc:c
 ·rw [if_pos hc];exact h1
 ·rw [if_neg hc];exact h2
theorem FV (most:Int) (sh:Ty->Ty):∀ (l:List lF) (m:Mk),(dS most sh l m).2.next=m.next
 | [],_=>rfl
 | e::r,m=>by
  unfold dS cZ
  split
  ·rfl
  ·show (dS most sh r (dh most (sh e.1) (sh e.2.1) e.2.2.1 e.2.2.2 m).2).2.next=m.next
   rw [FV most sh r,yh]
def NE (e:Env):Prop:=∀ x∈e,NM x.2
theorem NE.nil:NE []:=fun x hx=>by cases hx
theorem NE.cons {e:Env} (h:NE e) {s:ByteArray} {f:Pm Ty} (hf:NM f):NE ((s,f)::e):=fun x hx=>by
 rcases List.mem_cons.1 hx with rfl | hx
 ·exact hf
 ·exact h x hx
theorem JF:∀ (e:Env) (s:ByteArray),NE e->NM (mD e s)
 | [],s,_=>NM.pure _
 | x::r,s,h=>by
  unfold mD;exact NM.ite (h x (by simp)) (JF r s (fun y hy=>h y (by simp [hy])))
def VN (v:Env->Pm Ty):Prop:=∀ e,NE e->NM (v e)
theorem wP {vs:List (Env->Pm Ty)} (hv:∀ v∈vs,VN v) (i:Nat) {e:Env} (he:NE e):NM (wM vs i e):=by
 unfold wM;rw [List.getD_eq_getElem?_getD];cases hi:vs[i]? with
 | none=>exact NM.pure _
 | some v=>exact hv v (List.mem_of_getElem? hi) e he
theorem Ie {e:Env} (he:NE e):∀ {vs:List (Env->Pm Ty)},(∀ v∈vs,VN v)->NM (jw e vs)
 | [],_=>NM.pure _
 | v::r,h=>NM.bind (h v (by simp) e he) fun t=>NM.bind (Ie he (fun u hu=>h u (by simp [hu]))) fun l=>NM.pure _
theorem JG (most:Int) (sh:Ty->Ty):∀ l:List lF,NM (dS most sh l)
 | []=>NM.pure _
 | _::r=>NM.many _ (NM.bind (NM.eqn _ _ _ _ _) fun _=>JG most sh r)
theorem zx (most:Int) (kept:List lF) (v:Ty) (fr tt:Nat):NM (copied most kept v fr tt):=NM.bind NM.wO fun _=>NM.bind (NM.bump _) fun _=>NM.bind (JG _ _ _) fun _=>NM.pure _
theorem N8 (most:Int) (h:Nd) {f:Pm Ty} {g:Pm Ty->Pm Ty} (hf:NM f) (hg:∀ c,NM c->NM (g c)):NM (vw most h f g) :=
 NM.bind NM.wO fun _=>NM.bind hf fun _=>NM.bind NM.wO fun _=>hg _ (zx _ _ _ _ _)
theorem N9 (most:Int) (h:Nd) (ps:To) {vs:List (Env->Pm Ty)} (hv:∀ v∈vs,VN v):VN (vC most h ps vs):=by
 intro e he;unfold vC;have fin:∀ (l r own:Ty) (fr en:Int),NM (bd (dh most l r fr en) fun _=>pu own):=fun l r own fr en=>NM.bind (NM.eqn _ _ _ _ _) fun _=>NM.pure _
 refine NM.bind NM.take fun own=>NM.many _ (NM.ite (fin _ _ _ _ _) (NM.ite (fin _ _ _ _ _) (NM.ite (NM.bind (JF e _ he) fun _=>fin _ _ _ _ _) (NM.ite ?_ (NM.ite ?_ (NM.ite ?_ (NM.bind (Ie he hv) fun p=>?_)))))))
 ·exact NM.bind NM.take fun b=>NM.bind (wP hv 0 (he.cons (NM.pure b))) fun _=>fin _ _ _ _ _
 ·exact NM.bind (N8 _ _ (wP hv 0 he) fun c hc=>wP hv 1 (he.cons hc)) fun _=>fin _ _ _ _ _
 ·exact NM.bind (N8 _ _ (NM.bind NM.take fun v=>NM.bind (wP hv 0 (he.cons (NM.pure v))) fun _=>NM.bind (NM.eqn _ _ _ _ _) fun _=>NM.pure _) fun c hc=>wP hv 1 (he.cons hc)) fun _=>fin _ _ _ _ _
 ·exact NM.ite (fin _ _ _ _ _) (NM.ite (NM.bind (NM.eqn _ _ _ _ _) fun _=>NM.bind (NM.eqn _ _ _ _ _) fun _=>fin _ _ _ _ _) (NM.ite (fin _ _ _ _ _) (NM.ite (NM.bind (NM.eqn _ _ _ _ _) fun _=>fin _ _ _ _ _) (NM.pure _))))
theorem qM (most:Int):∀ f:To,∀ v∈bQ most f,VN v
 | .nil,v,hv=>by simp [bQ] at hv
 | .cons h ps r,v,hv=>by
  rcases List.mem_cons.1 hv with rfl | hv
  ·exact N9 most h ps (qM most ps)
  ·exact qM most r v hv
theorem lQ (most:Int) (h:Nd) (ps:To):VN (dw most h ps):=N9 most h ps (qM most ps)
def Mn (M s:Nat) {α:Type} (f:Pm α):Prop:=∀ m,m.eqs.length<=M->m.many=true->(f m).2.many=true/\m.eqs.length<=(f m).2.eqs.length/\(f m).2.eqs.length<=M/\(f m).2.next<=m.next+s
def Be (M s:Nat) (d:Int) {α:Type} (f:Pm α):Prop:=∀ m,m.eqs.length<=M->m.many=false->m.eqs.length<=(f m).2.eqs.length/\(f m).2.eqs.length<=M /\
 (((f m).2.many=false/\((f m).2.next:Int)+2*m.eqs.length<=m.next+2*(f m).2.eqs.length+d)∨((f m).2.many=true/\(f m).2.next+2*m.eqs.length<=m.next+2*(f m).2.eqs.length+s+2*M))
section
variable {M:Nat}
theorem Mn.mono {s t:Nat} {α:Type} {f:Pm α} (h:Mn M s f) (hs:s<=t):Mn M t f:=fun m h1 h2=>by
 obtain ⟨a,b,c,d⟩:=h m h1 h2;exact ⟨a,b,c,by omega⟩
theorem Be.mono {s t:Nat} {d e:Int} {α:Type} {f:Pm α} (h:Be M s d f) (hs:s<=t) (hd:d<=e):Be M t e f:=fun m h1 h2=>by
 obtain ⟨a,b,c⟩:=h m h1 h2;exact ⟨a,b,c.imp (fun ⟨x,y⟩=>⟨x,by omega⟩) (fun ⟨x,y⟩=>⟨x,by omega⟩)⟩
theorem Mn.bind {s t:Nat} {α β:Type} {f:Pm α} {g:α->Pm β} (h:Mn M s f) (k:∀ a,Mn M t (g a)):Mn M (s+t) (bd f g):=fun m h1 h2=>by
 obtain ⟨a,b,c,d⟩:=h m h1 h2;obtain ⟨a',b',c',d'⟩:=k (f m).1 (f m).2 c a;exact ⟨a',Nat.le_trans b b',c',by show (g _ _).2.next<=_;omega⟩
theorem Be.bind {s t:Nat} {d e:Int} {α β:Type} {f:Pm α} {g:α->Pm β} (h:Be M s d f) (hd:d<=s) (k:∀ a,Be M t e (g a)) (l:∀ a,Mn M t (g a)):Be M (s+t) (d+e) (bd f g):=fun m h1 h2=>by
 obtain ⟨a,b,c⟩:=h m h1 h2;rcases c with ⟨c1,c2⟩ | ⟨c1,c2⟩
 ·obtain ⟨a',b',c'⟩:=k (f m).1 (f m).2 b c1;refine ⟨Nat.le_trans a a',b',?_⟩;rcases c' with ⟨c3,c4⟩ | ⟨c3,c4⟩
  ·exact .inl ⟨c3,by show ((g _ _).2.next:Int)+_<=m.next+2*((g _ _).2.eqs.length:Int)+_;omega⟩
  ·exact .inr ⟨c3,by show (g _ _).2.next+_<=m.next+2*(g _ _).2.eqs.length+_+_;omega⟩
 ·obtain ⟨a',b',c',d'⟩:=l (f m).1 (f m).2 b c1;exact ⟨Nat.le_trans a b',c',.inr ⟨a',by show (g _ _).2.next+_<=m.next+2*(g _ _).2.eqs.length+_+_;omega⟩⟩
theorem Mn.pure {α:Type} (a:α):Mn M 0 (pu a):=fun _ h1 h2=>⟨h2,Nat.le_refl _,h1,Nat.le_refl _⟩
theorem Be.pure {α:Type} (a:α):Be M 0 0 (pu a):=fun m h1 h2=>⟨Nat.le_refl _,h1,.inl ⟨h2,by show (m.next:Int)+2*m.eqs.length<=m.next+2*m.eqs.length+0;omega⟩⟩
theorem Mn.take:Mn M 1 iV:=fun _ h1 h2=>⟨h2,Nat.le_refl _,h1,Nat.le_refl _⟩
theorem Be.take:Be M 1 1 iV:=fun m h1 h2=>⟨Nat.le_refl _,h1,.inl ⟨h2,by show ((m.next+1:Nat):Int)+2*m.eqs.length<=m.next+2*m.eqs.length+1;omega⟩⟩
variable {most:Int} (hm:most<=M)
include hm
theorem Mn.eqn (l r:Ty) (fr en:Int):Mn M 0 (dh most l r fr en):=fun m h1 h2=>by
 unfold dh;dsimp only
 split
 ·exact ⟨rfl,Nat.le_refl _,h1,Nat.le_refl _⟩
 ·exact ⟨h2,by simp,by simp;omega,Nat.le_refl _⟩
theorem Be.eqn (l r:Ty) (fr en:Int):Be M 0 (-2) (dh most l r fr en):=fun m h1 h2=>by
 unfold dh;dsimp only
 split
 ·exact ⟨Nat.le_refl _,h1,.inr ⟨rfl,by show m.next+2*m.eqs.length<=m.next+2*m.eqs.length+0+2*M;omega⟩⟩
 ·exact ⟨by simp,by simp;omega,.inl ⟨h2,by simp;omega⟩⟩
theorem ZT (own l r:Ty) (fr en:Int):Mn M 0 (bd (dh most l r fr en) fun _=>pu own):=Mn.bind (Mn.eqn hm _ _ _ _) fun _=>Mn.pure _
theorem ZU (own l r:Ty) (fr en:Int):Be M 0 (-2) (bd (dh most l r fr en) fun _=>pu own):=(Be.bind (Be.eqn hm _ _ _ _) (by decide) (fun _=>Be.pure own) (fun _=>Mn.pure own)).mono (Nat.le_refl _) (by decide)
theorem JH (sh:Ty->Ty):∀ (l:List lF) (m:Mk),m.eqs.length<=M->m.eqs.length<=(dS most sh l m).2.eqs.length/\(dS most sh l m).2.eqs.length<=M/\(dS most sh l m).2.next=m.next/\((dS most sh l m).2.many=false->(dS most sh l m).2.eqs.length=m.eqs.length+l.length)
 | [],m,h=>⟨Nat.le_refl _,h,rfl,fun _=>rfl⟩
 | e::r,m,h=>by
  unfold dS cZ
  by_cases hmm:m.many=true
  ·rw [if_pos hmm];exact ⟨Nat.le_refl _,h,rfl,fun c=>absurd hmm (by show ¬ m.many=true;rw [show m.many=false from c];decide)⟩
  ·rw [if_neg hmm]
   show m.eqs.length<=(dS most sh r (dh most (sh e.1) (sh e.2.1) e.2.2.1 e.2.2.2 m).2).2.eqs.length/\(dS most sh r (dh most (sh e.1) (sh e.2.1) e.2.2.1 e.2.2.2 m).2).2.eqs.length<=M/\(dS most sh r (dh most (sh e.1) (sh e.2.1) e.2.2.1 e.2.2.2 m).2).2.next=m.next/\((dS most sh r (dh most (sh e.1) (sh e.2.1) e.2.2.1 e.2.2.2 m).2).2.many=false->(dS most sh r (dh most (sh e.1) (sh e.2.1) e.2.2.1 e.2.2.2 m).2).2.eqs.length=m.eqs.length+(r.length+1))
   have hm0:m.many=false:=by simpa using hmm
   obtain ⟨a,b,c⟩:=Be.eqn hm (sh e.1) (sh e.2.1) e.2.2.1 e.2.2.2 m h hm0;have hn:=yh most (sh e.1) (sh e.2.1) e.2.2.1 e.2.2.2 m;obtain ⟨a',b',c',d'⟩:=JH sh r (dh most (sh e.1) (sh e.2.1) e.2.2.1 e.2.2.2 m).2 b;refine ⟨Nat.le_trans a a',b',c'.trans hn,fun hf=>?_⟩;rw [d' hf];have hone:(dh most (sh e.1) (sh e.2.1) e.2.2.1 e.2.2.2 m).2.many=true∨(dh most (sh e.1) (sh e.2.1) e.2.2.1 e.2.2.2 m).2.eqs.length=m.eqs.length+1:=by
    unfold dh;dsimp only
    split
    ·exact .inl rfl
    ·exact .inr (by simp)
   rcases hone with hx | hx
   ·have:=JI sh r _ hx;rw [this] at hf;cases hf
   ·omega
where JI (sh:Ty->Ty):∀ (l:List lF) (m:Mk),m.many=true->(dS most sh l m).2.many=true
 | [],m,h=>h
 | e::r,m,h=>by unfold dS cZ;rw [if_pos h];exact h
theorem Qm {kept:List lF} {v:Ty} {fr tt:Nat} (h1:tt-fr<=2*kept.length) (h2:kept.length<=M):Be M 0 0 (copied most kept v fr tt):=fun m hl hn=>by
 obtain ⟨a,b,c,d⟩:=JH hm (yj fr tt (m.next-fr)) kept { m with next:=m.next+(tt-fr) } hl;have e:(copied most kept v fr tt m).2=(dS most (yj fr tt (m.next-fr)) kept { m with next:=m.next+(tt-fr) }).2:=rfl;rw [e];generalize (dS most (yj fr tt (m.next-fr)) kept { m with next:=m.next+(tt-fr) }).2=q at *;dsimp only at a b c d;refine ⟨a,b,?_⟩;cases hq:q.many
 ·have:=d hq;exact .inl ⟨rfl,by rw [c,this];push_cast;omega⟩
 ·exact .inr ⟨rfl,by rw [c];omega⟩
theorem Oa (h:Nd) {s t:Nat} {d e:Int} {f:Pm Ty} {F:Pm Ty->Pm Ty} (hf:Be M s d f) (hd:d<=0) (hF:∀ c,Be M 0 0 c->Be M t e (F c)) (hG:∀ c,Mn M t (F c)):Be M (s+t) (d+e) (vw most h f F):=fun m h1 h2=>by
 obtain ⟨a,b,c⟩:=hf m h1 h2;have el:(vw most h f F m).2=(F (copied most ((f m).2.eqs.drop m.eqs.length) (f m).1 m.next (f m).2.next) (f m).2).2:=rfl;rw [el];rcases c with ⟨c1,c2⟩ | ⟨c1,c2⟩
 ·have hc:=Qm hm (kept:=(f m).2.eqs.drop m.eqs.length) (v:=(f m).1) (fr:=m.next) (tt:=(f m).2.next) (by rw [List.length_drop];omega) (by rw [List.length_drop];omega);obtain ⟨a',b',c'⟩:=hF _ hc (f m).2 b c1;generalize (F (copied most ((f m).2.eqs.drop m.eqs.length) (f m).1 m.next (f m).2.next) (f m).2).2=q at *;refine ⟨Nat.le_trans a a',b',?_⟩;rcases c' with ⟨c3,c4⟩ | ⟨c3,c4⟩
  ·exact .inl ⟨c3,by omega⟩
  ·exact .inr ⟨c3,by omega⟩
 ·obtain ⟨a',b',c',d'⟩:=hG (copied most ((f m).2.eqs.drop m.eqs.length) (f m).1 m.next (f m).2.next) (f m).2 b c1;exact ⟨Nat.le_trans a b',c',.inr ⟨a',by omega⟩⟩
end
theorem Be.many {M s:Nat} {d:Int} {α:Type} (x:α) {f:Pm α} (h:Be M s d f):Be M s d (cZ x f):=fun m h1 h2=>by
 unfold cZ;rw [if_neg (by rw [h2];decide)];exact h m h1 h2
theorem Mn.many {M s:Nat} {α:Type} (x:α) (f:Pm α):Mn M s (cZ x f):=fun m h1 h2=>by
 unfold cZ;rw [if_pos h2];exact ⟨h2,Nat.le_refl _,h1,Nat.le_add_right _ _⟩
theorem Be.ite {M s:Nat} {d:Int} {α:Type} {c:Prop} [Decidable c] {f g:Pm α} (h1:c->Be M s d f) (h2:¬ c->Be M s d g):Be M s d (if c then f else g):=by
 by_cases hc:c
 ·rw [if_pos hc];exact h1 hc
 ·rw [if_neg hc];exact h2 hc
theorem Mn.ite {M s:Nat} {α:Type} {c:Prop} [Decidable c] {f g:Pm α} (h1:Mn M s f) (h2:Mn M s g):Mn M s (if c then f else g):=by
 by_cases hc:c
 ·rw [if_pos hc];exact h1
 ·rw [if_neg hc];exact h2
def BE (M:Nat) (e:Env):Prop:=∀ x∈e,Be M 0 0 x.2
theorem BE.cons {M:Nat} {e:Env} (h:BE M e) {s:ByteArray} {f:Pm Ty} (hf:Be M 0 0 f):BE M ((s,f)::e):=fun x hx=>by
 rcases List.mem_cons.1 hx with rfl | hx
 ·exact hf
 ·exact h x hx
theorem JJ {M:Nat}:∀ (e:Env) (s:ByteArray),BE M e->Be M 0 0 (mD e s)
 | [],s,_=>Be.pure _
 | x::r,s,h=>by
  unfold mD;exact Be.ite (fun _=>h x (by simp)) (fun _=>JJ r s (fun y hy=>h y (by simp [hy])))
structure VBe (M s:Nat) (v:Env->Pm Ty):Prop where
 be:∀ e,BE M e->Be M s 0 (v e)
 mn:∀ e,Mn M s (v e)
inductive Ig (M:Nat):List (Env->Pm Ty)->List Nat->Prop
 | nil:Ig M [] []
 | cons {s:Nat} {v:Env->Pm Ty} {l:List (Env->Pm Ty)} {k:List Nat}:VBe M s v->Ig M l k->Ig M (v::l) (s::k)
theorem Ig.at {M:Nat} {l:List (Env->Pm Ty)} {k:List Nat} (h:Ig M l k):∀ (i:Nat),VBe M (k.getD i 0) (wM l i):=by
 induction h with
 | nil=>intro i;exact ⟨fun e _=>Be.pure _,fun e=>Mn.pure _⟩
 | cons h1 _ ih =>
  intro i;cases i with
  | zero=>exact h1
  | succ i=>exact ih i
theorem Ig.map {M:Nat} {e:Env} {l:List (Env->Pm Ty)} {k:List Nat} (h:Ig M l k):Mn M k.sum (jw e l)/\(BE M e->Be M k.sum 0 (jw e l)):=by
 induction h with
 | nil=>exact ⟨Mn.pure _,fun _=>Be.pure _⟩
 | @cons s v l k h1 _ ih =>
  refine ⟨by rw [List.sum_cons];exact Mn.bind (h1.mn e) fun t=>(Mn.bind ih.1 fun l=>Mn.pure _).mono (Nat.le_refl _),fun he=>?_⟩;rw [List.sum_cons];exact (Be.bind (h1.be e he) (by omega) (fun t=>Be.bind (ih.2 he) (by omega) (fun l=>Be.pure _) (fun l=>Mn.pure _)) (fun t=>Mn.bind ih.1 fun l=>Mn.pure _)).mono (by simp) (by decide)
theorem abo:∀ k:List Nat,k.getD 0 0<=k.sum
 | []=>Nat.le_refl _
 | a::r=>by simp
theorem YW:∀ k:List Nat,k.getD 0 0+k.getD 1 0<=k.sum
 | []=>Nat.le_refl _
 | [a]=>by simp
 | a::b::r=>by simp
theorem Ob {M:Nat} {most:Int} (hm:most<=M) (h:Nd) (ps:To) (hk:1<=h.k/\h.k<=10) {vs:List (Env->Pm Ty)} {k:List Nat} (hv:Ig M vs k):VBe M (2+k.sum) (vC most h ps vs):=by
 refine ⟨fun e he=>?_,fun e=>(Mn.bind (t:=1+k.sum) Mn.take fun own=>Mn.many own _).mono (by omega)⟩;have q0:=abo k;have q01:=YW k;have fin:=ZU hm;have Oc:=ZT hm;unfold vC;refine (Be.bind (t:=1+k.sum) (e:=-1) Be.take (by decide) (fun own=>Be.many own ?_) (fun own=>Mn.many own _)).mono (by omega) (by decide);refine Be.ite (fun _=>(fin _ _ _ _ _).mono (by omega) (by decide)) fun _=>Be.ite (fun _=>(fin _ _ _ _ _).mono (by omega) (by decide)) fun _=>Be.ite (fun _=>?_) fun n1=>Be.ite (fun _=>?_) fun n4=>Be.ite (fun _=>?_) fun n6=>Be.ite (fun _=>?_) fun n7=>?_
 ·exact (Be.bind (JJ e _ he) (by decide) (fun t=>fin _ _ _ _ _) (fun t=>Oc _ _ _ _ _)).mono (by omega) (by decide)
 ·exact (Be.bind Be.take (by decide) (fun b=>Be.bind ((hv.at 0).be _ (he.cons (Be.pure b))) (by omega) (fun t=>fin _ _ _ _ _) (fun t=>Oc _ _ _ _ _)) (fun b=>Mn.bind ((hv.at 0).mn _) fun t=>Oc _ _ _ _ _)).mono (by omega) (by decide)
 ·exact (Be.bind (Oa hm h ((hv.at 0).be e he) (by decide) (fun c hc=>(hv.at 1).be _ (he.cons hc)) (fun c=>(hv.at 1).mn _)) (by omega) (fun t=>fin _ _ _ _ _) (fun t=>Oc _ _ _ _ _)).mono (by omega) (by decide)
 ·refine (Be.bind (Oa hm h (s:=1+k.getD 0 0) (d:=-1) ?_ (by decide) (fun c hc=>(hv.at 1).be _ (he.cons hc)) (fun c=>(hv.at 1).mn _)) (by omega) (fun t=>fin _ _ _ _ _) (fun t=>Oc _ _ _ _ _)).mono (by omega) (by decide);exact (Be.bind Be.take (by decide) (fun v=>Be.bind ((hv.at 0).be _ (he.cons (Be.pure v))) (by omega) (fun t=>fin _ _ _ _ _) (fun t=>Oc _ _ _ _ _)) (fun v=>Mn.bind ((hv.at 0).mn _) fun t=>Oc _ _ _ _ _)).mono (by omega) (by decide)
 refine (Be.bind (t:=0) (e:=-2) (hv.map.2 he) (by omega) (fun p=>?_) (fun p=>?_)).mono (by omega) (by decide)
 ·refine Be.ite (fun _=>fin _ _ _ _ _) fun n5=>Be.ite (fun _=>?_) fun n8=>Be.ite (fun _=>fin _ _ _ _ _) fun n9=>Be.ite (fun _=>?_) fun n10=>?_
  ·exact (Be.bind (Be.eqn hm _ _ _ _) (by decide) (fun _=>Be.bind (Be.eqn hm _ _ _ _) (by decide) (fun _=>fin _ _ _ _ _) (fun _=>Oc _ _ _ _ _)) (fun _=>Mn.bind (Mn.eqn hm _ _ _ _) fun _=>Oc _ _ _ _ _)).mono (by omega) (by decide)
  ·exact (Be.bind (Be.eqn hm _ _ _ _) (by decide) (fun _=>fin _ _ _ _ _) (fun _=>Oc _ _ _ _ _)).mono (by omega) (by decide)
  ·omega
 ·exact Mn.ite (Oc _ _ _ _ _) (Mn.ite (Mn.bind (Mn.eqn hm _ _ _ _) fun _=>Mn.bind (Mn.eqn hm _ _ _ _) fun _=>Oc _ _ _ _ _) (Mn.ite (Oc _ _ _ _ _) (Mn.ite (Mn.bind (Mn.eqn hm _ _ _ _) fun _=>Oc _ _ _ _ _) (Mn.pure _))))
def FW:To->List Nat
 | .nil=>[]
 | .cons _ ps r=>(2+(FW ps).sum)::FW r
theorem zy:∀ f:To,(FW f).sum=2*f.size
 | .nil=>rfl
 | .cons _ ps r=>by
  show ((2+(FW ps).sum)::FW r).sum=2*(To.cons _ ps r).size
  rw [List.sum_cons,zy ps,zy r];simp only [To.size];omega
theorem Df {M:Nat} {most:Int} (hm:most<=M):∀ f:To,ZR f->Ig M (bQ most f) (FW f)
 | .nil,_=>.nil
 | .cons h ps r,⟨a,b,c⟩=>.cons (Ob hm h ps ⟨a.1,a.2.1⟩ (Df hm ps b)) (Df hm r c)
theorem Ui {M:Nat} {most:Int} (hm:most<=M) (h:Nd) (ps:To) (hk:ZR (.cons h ps .nil)):(dw most h ps [] ⟨[],0,false⟩).2.next<=4*M+2*ps.size+2:=by
 have h1:=(Ob hm h ps ⟨hk.1.1,hk.1.2.1⟩ (Df hm ps hk.2.1)).be [] (fun x hx=>by cases hx) ⟨[],0,false⟩ (Nat.zero_le _) rfl;rw [zy] at h1
 show (vC most h ps (bQ most ps) [] ⟨[],0,false⟩).2.next<=_
 generalize (vC most h ps (bQ most ps) [] ⟨[],0,false⟩).2=q at *;obtain ⟨_,b,c⟩:=h1;simp only [List.length_nil] at c;rcases c with ⟨_,c⟩ | ⟨_,c⟩<;>omega
end Em
end
section
namespace Em
def dP (most:Nat) (l r:Ty) (fr en:Int):Dm Unit:=fun d=>((),if d.L.length<=most then { d with L:=d.L++[(l,r,fr,en)] } else d)
def sQ {α:Type} (most:Nat) (x:α) (f:Dm α):Dm α:=fun d=>if most < d.L.length then (x,d) else f d
def jf (most:Nat) (h:Nd) (vs:List (aP->Dm Nat)) (e:aP):Dm Nat :=
 if h.k=6 then dat vs 0 e
 else fF jU fun b=>fF (dat vs 0 ((h.nm,jg b)::e)) fun t=>fF (dP most (tv b) (tv t) h.fr h.en) fun _=>jg b
def jM (most:Nat) (h:Nd) (ps:To) (vs:List (aP->Dm Nat)) (e:aP) (own:Nat):Dm Nat :=
 if h.k=2 then fF (dP most (tv own) (2,0,.nil) h.fr h.en) fun _=>jg own
 else if h.k=3 then fF (dP most (tv own) (3,0,.nil) h.fr h.en) fun _=>jg own
 else if h.k=1 then fF (jA e h.nm) fun t=>fF (dP most (tv own) (tv t) h.fr h.en) fun _=>jg own
 else if h.k=4 then fF jU fun b=>fF (dat vs 0 ((h.nm,jg b)::e)) fun t=>fF (dP most (tv own) (iO (tv b) (tv t)) h.fr h.en) fun _=>jg own
 else if h.k=6∨h.k=7 then fF (jf most h vs e) fun _=>fF (dat vs 1 ((h.nm,jf most h vs e)::e)) fun t=>fF (dP most (tv own) (tv t) h.fr h.en) fun _=>jg own
 else fF (dmap e vs) fun p =>
  if h.k=5 then fF (dP most (jP p 0) (iO (jP p 1) (tv own)) h.fr h.en) fun _=>jg own
  else if h.k=8 then fF (dP most (jP p 0) (3,0,.nil) (aH ps 0).1 (aH ps 0).2) fun _=>fF (dP most (tv own) (jP p 1) (aH ps 1).1 (aH ps 1).2) fun _=>fF (dP most (tv own) (jP p 2) (aH ps 2).1 (aH ps 2).2) fun _=>jg own
  else if h.k=9 then fF (dP most (tv own) (5,0,jy (p.map tv)) h.fr h.en) fun _=>jg own
  else if h.k=10 then fF (dP most (jP p 0) (h.tk,h.tn,h.tp) (aH ps 0).1 (aH ps 0).2) fun _=>fF (dP most (tv own) (h.tk,h.tn,h.tp) h.fr h.en) fun _=>jg own
  else jg own
def Dh (most:Nat) (h:Nd) (ps:To) (vs:List (aP->Dm Nat)) (e:aP):Dm Nat:=fF jU fun own=>sQ most own (jM most h ps vs e own)
def dJ (most:Nat):To->List (aP->Dm Nat)
 | .nil=>[]
 | .cons h ps r=>Dh most h ps (dJ most ps)::dJ most r
def dZ (most:Nat) (h:Nd) (ps:To) (e:aP):Dm Nat:=Dh most h ps (dJ most ps) e
theorem oI (most:Nat):∀ (f:To) (i:Nat) (h:Nd) (qs:To),f.get i=some (h,qs)->(dJ most f)[i]?=some (dZ most h qs)
 | .nil,i,h,qs,e=>by simp [To.get] at e
 | .cons h' ps r,0,h,qs,e=>by
  simp [To.get] at e;obtain ⟨rfl,rfl⟩:=e;rfl
 | .cons h' ps r,i+1,h,qs,e=>by
  show (dJ most r)[i]?=_
  exact oI most r i h qs e
structure Rl {α:Type} (most:Nat) (f g:Dm α):Prop where
 mon:Mon g
 over:∀ d,most < d.L.length->most < (f d).2.L.length
 run:∀ d,d.L.length<=most->((g d).2.L.length<=most/\f d=g d)∨(most < (g d).2.L.length/\most < (f d).2.L.length)
theorem Rl.pure {α:Type} (most:Nat) (a:α):Rl most (jg a) (jg a):=⟨Mon.pure a,fun _ h=>h,fun _ h=>.inl ⟨h,rfl⟩⟩
theorem Rl.take (most:Nat):Rl most jU jU:=⟨Mon.take,fun _ h=>h,fun _ h=>.inl ⟨h,rfl⟩⟩
theorem Rl.add (most:Nat) (l r:Ty) (fr en:Int):Rl most (dP most l r fr en) (mO l r fr en):=by
 refine ⟨Mon.add _ _ _ _,fun d h=>?_,fun d h=>?_⟩
 ·unfold dP;dsimp only;rw [if_neg (by omega)];exact h
 ·unfold dP mO;dsimp only;rw [if_pos h]
  by_cases h1:(d.L++[(l,r,fr,en)]).length<=most
  ·exact .inl ⟨h1,rfl⟩
  ·have h2:most < (d.L++[(l,r,fr,en)]).length:=by omega
   exact .inr ⟨h2,h2⟩
theorem Rl.bind {α β:Type} {most:Nat} {f g:Dm α} {f' g':α->Dm β} (h:Rl most f g) (k:∀ a,Rl most (f' a) (g' a)):Rl most (fF f f') (fF g g'):=by
 refine ⟨Mon.bind h.mon fun a=>(k a).mon,fun d hd=>(k _).over _ (h.over d hd),fun d hd=>?_⟩;rcases h.run d hd with ⟨h1,h2⟩ | ⟨h1,h2⟩
 ·unfold fF;rw [h2];exact (k _).run _ h1
 ·exact .inr ⟨Nat.lt_of_lt_of_le h1 ((k _).mon _),(k _).over _ h2⟩
theorem Rl.ite {α:Type} {most:Nat} {c:Prop} [Decidable c] {f f' g g':Dm α} (h1:Rl most f g) (h2:Rl most f' g'):Rl most (if c then f else f') (if c then g else g'):=by
 by_cases hc:c
 ·rw [if_pos hc,if_pos hc];exact h1
 ·rw [if_neg hc,if_neg hc];exact h2
theorem Rl.ov {α:Type} {most:Nat} (x:α) {f g:Dm α} (h:Rl most f g):Rl most (sQ most x f) g:=by
 refine ⟨h.mon,fun d hd=>?_,fun d hd=>?_⟩
 ·unfold sQ;rw [if_pos hd];exact hd
 ·unfold sQ;rw [if_neg (by omega)];exact h.run d hd
inductive yt (most:Nat):aP->aP->Prop
 | nil:yt most [] []
 | cons {s:ByteArray} {f g:Dm Nat} {e e':aP}:Rl most f g->yt most e e'->yt most ((s,f)::e) ((s,g)::e')
theorem yt.look {most:Nat} {e e':aP} (h:yt most e e') (s:ByteArray):Rl most (jA e s) (jA e' s):=by
 induction h with
 | nil=>exact Rl.pure most _
 | cons h1 _ ih=>unfold jA;exact Rl.ite h1 ih
def VRl (most:Nat) (v u:aP->Dm Nat):Prop:=∀ e e',yt most e e'->Rl most (v e) (u e')
inductive Di (most:Nat):List (aP->Dm Nat)->List (aP->Dm Nat)->Prop
 | nil:Di most [] []
 | cons {v u:aP->Dm Nat} {l l':List (aP->Dm Nat)}:VRl most v u->Di most l l'->Di most (v::l) (u::l')
theorem Di.at {most:Nat} {l l':List (aP->Dm Nat)} (h:Di most l l'):∀ (i:Nat) {e e':aP},yt most e e'->Rl most (dat l i e) (dat l' i e'):=by
 induction h with
 | nil=>intro i e e' _;exact Rl.pure most _
 | cons h1 _ ih =>
  intro i e e' he;cases i with
  | zero=>exact h1 _ _ he
  | succ i=>exact ih i he
theorem Di.map {most:Nat} {e e':aP} (he:yt most e e') {l l':List (aP->Dm Nat)} (h:Di most l l'):Rl most (dmap e l) (dmap e' l'):=by
 induction h with
 | nil=>exact Rl.pure most _
 | cons h1 _ ih=>exact Rl.bind (h1 _ _ he) fun _=>Rl.bind ih fun _=>Rl.pure most _
theorem JK (most:Nat) (h:Nd) {vs us:List (aP->Dm Nat)} (hv:Di most vs us) {e e':aP} (he:yt most e e'):Rl most (jf most h vs e) (nY h us e') :=
 Rl.ite (hv.at 0 he) (Rl.bind (Rl.take most) fun b=>Rl.bind (hv.at 0 (.cons (Rl.pure most b) he)) fun _=>Rl.bind (Rl.add _ _ _ _ _) fun _=>Rl.pure most _)
theorem Oe (most:Nat) (h:Nd) (ps:To) {vs us:List (aP->Dm Nat)} (hv:Di most vs us):VRl most (Dh most h ps vs) (EU h ps us):=by
 intro e e' he;unfold Dh EU jM;refine Rl.bind (Rl.take most) fun own=>Rl.ov _ ?_
 have fin:∀ (l r:Ty) (fr en:Int),Rl most (fF (dP most l r fr en) fun _=>jg own) (fF (mO l r fr en) fun _=>jg own):=fun l r fr en=>Rl.bind (Rl.add _ _ _ _ _) fun _=>Rl.pure most _
 refine Rl.ite (fin _ _ _ _) (Rl.ite (fin _ _ _ _) (Rl.ite (Rl.bind (he.look _) fun t=>fin _ _ _ _) (Rl.ite ?_ (Rl.ite ?_ ?_))))
 ·exact Rl.bind (Rl.take most) fun b=>Rl.bind (hv.at 0 (.cons (Rl.pure most b) he)) fun t=>fin _ _ _ _
 ·exact Rl.bind (JK most h hv he) fun _=>Rl.bind (hv.at 1 (.cons (JK most h hv he) he)) fun t=>fin _ _ _ _
 ·exact Rl.bind (Di.map he hv) fun p=>Rl.ite (fin _ _ _ _) (Rl.ite (Rl.bind (Rl.add _ _ _ _ _) fun _=>Rl.bind (Rl.add _ _ _ _ _) fun _=>fin _ _ _ _) (Rl.ite (fin _ _ _ _) (Rl.ite (Rl.bind (Rl.add _ _ _ _ _) fun _=>fin _ _ _ _) (Rl.pure most _))))
theorem Dj (most:Nat):∀ f:To,Di most (dJ most f) (valsD f)
 | .nil=>.nil
 | .cons h ps r=>.cons (Oe most h ps (Dj most ps)) (Dj most r)
theorem JL (most:Nat) (h:Nd) (ps:To):Rl most (dZ most h ps []) (vV h ps []):=Oe most h ps (Dj most ps) [] [] .nil
def jh (most w:Nat) {α:Type} (f:Dm α):Prop:=∀ d,most < d.L.length->(f d).2.L=d.L/\d.next<=(f d).2.next/\(f d).2.next<=d.next+w
def jB (most w:Nat) (c:Int) {α:Type} (f:Dm α):Prop:=∀ d,d.L.length<=most->d.next<=(f d).2.next/\d.L.length<=(f d).2.L.length /\
 (((f d).2.L.length<=most/\((f d).2.next:Int)+2*d.L.length<=d.next+2*(f d).2.L.length+c)∨((f d).2.L.length=most+1/\(f d).2.next+2*d.L.length<=d.next+2*(most+1)+w))
theorem jh.mono {most w w':Nat} {α:Type} {f:Dm α} (h:jh most w f) (hw:w<=w'):jh most w' f:=fun d hd=>by
 obtain ⟨h1,h2,h3⟩:=h d hd;exact ⟨h1,h2,by omega⟩
theorem jB.mono {most w w':Nat} {c c':Int} {α:Type} {f:Dm α} (h:jB most w c f) (hw:w<=w') (hc:c<=c'):jB most w' c' f:=fun d hd=>by
 obtain ⟨h1,h2,h3⟩:=h d hd;refine ⟨h1,h2,?_⟩;rcases h3 with ⟨h3,h4⟩ | ⟨h3,h4⟩
 ·exact .inl ⟨h3,by omega⟩
 ·exact .inr ⟨h3,by omega⟩
theorem jh.pure (most:Nat) {α:Type} (a:α):jh most 0 (jg a):=fun _ _=>⟨rfl,Nat.le_refl _,Nat.le_refl _⟩
theorem jB.pure (most:Nat) {α:Type} (a:α):jB most 0 0 (jg a):=fun d h=>⟨Nat.le_refl _,Nat.le_refl _,.inl ⟨h,by show (d.next:Int)+2*d.L.length<=d.next+2*d.L.length+0;omega⟩⟩
theorem jh.take (most:Nat):jh most 1 jU:=fun _ _=>⟨rfl,Nat.le_succ _,Nat.le_refl _⟩
theorem jB.take (most:Nat):jB most 0 1 jU:=fun d h=>⟨Nat.le_succ _,Nat.le_refl _,.inl ⟨h,by show ((d.next+1:Nat):Int)+2*d.L.length<=d.next+2*d.L.length+1;omega⟩⟩
theorem jh.add (most:Nat) (l r:Ty) (fr en:Int):jh most 0 (dP most l r fr en):=fun d h=>by
 unfold dP;dsimp only;rw [if_neg (by omega)];exact ⟨rfl,Nat.le_refl _,Nat.le_refl _⟩
theorem jB.add (most:Nat) (l r:Ty) (fr en:Int):jB most 0 (-2) (dP most l r fr en):=fun d h=>by
 unfold dP;dsimp only;rw [if_pos h];dsimp only;have hl:(d.L++[(l,r,fr,en)]).length=d.L.length+1:=by simp
 rw [hl];refine ⟨Nat.le_refl _,by omega,?_⟩
 by_cases h1:d.L.length+1<=most
 ·exact .inl ⟨h1,by omega⟩
 ·exact .inr ⟨by omega,by omega⟩
theorem jh.bind {most w w':Nat} {α β:Type} {f:Dm α} {g:α->Dm β} (h:jh most w f) (k:∀ a,jh most w' (g a)):jh most (w+w') (fF f g):=fun d hd=>by
 obtain ⟨h1,h2,h3⟩:=h d hd;obtain ⟨k1,k2,k3⟩:=k (f d).1 (f d).2 (by rw [h1];exact hd);unfold fF;exact ⟨k1.trans h1,by omega,by omega⟩
theorem jB.bind {most w1 w2 m2 w:Nat} {c1 c2 c:Int} {α β:Type} {f:Dm α} {g:α->Dm β} (h:jB most w1 c1 f) (k:∀ a,jB most w2 c2 (g a)) (l:∀ a,jh most m2 (g a)) (hw1:w1+m2<=w) (hw2:c1+w2<=w) (hc:c1+c2<=c):jB most w c (fF f g):=fun d hd=>by
 obtain ⟨h1,h2,h3⟩:=h d hd;unfold fF;rcases h3 with ⟨h3,h4⟩ | ⟨h3,h4⟩
 ·obtain ⟨k1,k2,k3⟩:=k (f d).1 (f d).2 h3;refine ⟨by omega,by omega,?_⟩;rcases k3 with ⟨k3,k4⟩ | ⟨k3,k4⟩
  ·exact .inl ⟨k3,by omega⟩
  ·exact .inr ⟨k3,by omega⟩
 ·obtain ⟨k1,k2,k3⟩:=l (f d).1 (f d).2 (by omega);refine ⟨by omega,by rw [k1];exact h2,.inr ⟨by rw [k1];exact h3,by omega⟩⟩
theorem jh.ov {most:Nat} {α:Type} (x:α) (f:Dm α):jh most 0 (sQ most x f):=fun d hd=>by
 unfold sQ;rw [if_pos hd];exact ⟨rfl,Nat.le_refl _,Nat.le_refl _⟩
theorem jB.ov {most w:Nat} {c:Int} {α:Type} (x:α) {f:Dm α} (h:jB most w c f):jB most w c (sQ most x f):=fun d hd=>by
 unfold sQ;rw [if_neg (by omega)];exact h d hd
theorem jB.ite {most w:Nat} {e:Int} {α:Type} {c:Prop} [Decidable c] {f g:Dm α} (h1:c->jB most w e f) (h2:¬ c->jB most w e g):jB most w e (if c then f else g):=by
 by_cases hc:c
 ·rw [if_pos hc];exact h1 hc
 ·rw [if_neg hc];exact h2 hc
theorem jh.ite {most w:Nat} {α:Type} {c:Prop} [Decidable c] {f g:Dm α} (h1:jh most w f) (h2:jh most w g):jh most w (if c then f else g):=by
 by_cases hc:c
 ·rw [if_pos hc];exact h1
 ·rw [if_neg hc];exact h2
def Qo (most W:Nat) (e:aP):Prop:=∀ x∈e,jB most W 0 x.2/\jh most 2 x.2
theorem Qo.mono {most W W':Nat} {e:aP} (h:Qo most W e) (hw:W<=W'):Qo most W' e:=fun x hx=>⟨(h x hx).1.mono hw (Int.le_refl _),(h x hx).2⟩
theorem Qo.cons {most W:Nat} {e:aP} (h:Qo most W e) {s:ByteArray} {f:Dm Nat} (h1:jB most W 0 f) (h2:jh most 2 f):Qo most W ((s,f)::e):=fun x hx=>by
 rcases List.mem_cons.1 hx with rfl | hx
 ·exact ⟨h1,h2⟩
 ·exact h x hx
theorem Qo.var {most W:Nat} {e:aP} (h:Qo most W e) {s:ByteArray} (b:Nat):Qo most W ((s,jg b)::e):=h.cons ((jB.pure most b).mono (Nat.zero_le _) (Int.le_refl _)) ((jh.pure most b).mono (by omega))
theorem FX {most W:Nat}:∀ (e:aP) (s:ByteArray),Qo most W e->jB most W 0 (jA e s)/\jh most 2 (jA e s)
 | [],_,_=>⟨(jB.pure most _).mono (Nat.zero_le _) (Int.le_refl _),(jh.pure most _).mono (by omega)⟩
 | x::r,s,h=>by
  unfold jA;have hx:=h x (by simp);have hr:=FX r s (fun y hy=>h y (by simp [hy]));exact ⟨jB.ite (fun _=>hx.1) (fun _=>hr.1),jh.ite hx.2 hr.2⟩
structure ZV (most s:Nat) (v:aP->Dm Nat):Prop where
 mn:∀ e,jh most 1 (v e)
 be:∀ e W,Qo most W e->jB most (W+4*s) 0 (v e)
inductive tZ (most:Nat):List (aP->Dm Nat)->List Nat->Prop
 | nil:tZ most [] []
 | cons {v:aP->Dm Nat} {s:Nat} {l:List (aP->Dm Nat)} {k:List Nat}:1<=s->ZV most s v->tZ most l k->tZ most (v::l) (s::k)
theorem tZ.at {most:Nat} {l:List (aP->Dm Nat)} {k:List Nat} (h:tZ most l k):∀ (i:Nat),ZV most (k.getD i 0) (dat l i):=by
 induction h with
 | nil=>exact fun i=>⟨fun e=>(jh.pure most _).mono (by omega),fun e W _=>(jB.pure most _).mono (Nat.zero_le _) (Int.le_refl _)⟩
 | cons h0 h1 _ ih =>
  intro i;cases i with
  | zero=>exact h1
  | succ i=>exact ih i
theorem tZ.map {most:Nat} {e:aP} {l:List (aP->Dm Nat)} {k:List Nat} (h:tZ most l k):jh most k.sum (dmap e l)/\(∀ W,Qo most W e->jB most (W+4*k.sum) 0 (dmap e l)):=by
 induction h with
 | nil=>exact ⟨jh.pure most _,fun W _=>(jB.pure most _).mono (Nat.zero_le _) (Int.le_refl _)⟩
 | @cons v s l k h0 h1 _ ih =>
  refine ⟨?_,fun W he=>?_⟩
  ·refine (jh.bind (h1.mn e) fun t=>jh.bind ih.1 fun _=>jh.pure most _).mono ?_;simp only [List.sum_cons];omega
  ·simp only [List.sum_cons];refine jB.bind (h1.be e W he) (fun t=>jB.bind (ih.2 W he) (fun _=>jB.pure most _) (fun _=>jh.pure most _) (Nat.le_refl _) (by simp;omega) (Int.le_refl _)) (fun t=>jh.bind ih.1 fun _=>jh.pure most _) ?_ ?_ (by omega)
   ·omega
   ·simp only [Int.zero_add];omega
theorem Uj {most:Nat} (h:Nd) {vs:List (aP->Dm Nat)} {k:List Nat} (hv:tZ most vs k) {e:aP} {W:Nat} (he:Qo most W e):jB most (W+4*k.getD 0 0+1) 0 (jf most h vs e)/\jh most 2 (jf most h vs e):=by
 unfold jf;have fm:∀ (b:Nat) (t:Nat),jh most 0 (fF (dP most (tv b) (tv t) h.fr h.en) fun _=>jg b):=fun b t=>jh.bind (jh.add _ _ _ _ _) fun _=>jh.pure most _
 refine ⟨jB.ite (fun _=>((hv.at 0).be e W he).mono (by omega) (Int.le_refl _)) (fun _=>?_),jh.ite (((hv.at 0).mn e).mono (by omega)) ?_⟩
 ·refine jB.bind (w2:=W+4*k.getD 0 0) (c2:=-1) (m2:=1) (jB.take most) (fun b=>?_) (fun b=>(jh.bind ((hv.at 0).mn _) fun t=>fm b t)) (by omega) (by omega) (by omega);exact jB.bind (w2:=0) (c2:=-2) (m2:=0) ((hv.at 0).be _ W (he.var b)) (fun t=>jB.bind (w2:=0) (c2:=0) (m2:=0) (jB.add _ _ _ _ _) (fun _=>jB.pure most _) (fun _=>jh.pure most _) (by omega) (by omega) (by omega)) (fun t=>fm b t) (by omega) (by omega) (by omega)
 ·exact (jh.bind (jh.take most) fun b=>jh.bind ((hv.at 0).mn _) fun t=>fm b t)
theorem Og {most:Nat} (h:Nd) (ps:To) (hk:1<=h.k/\h.k<=10) {vs:List (aP->Dm Nat)} {k:List Nat} (hv:tZ most vs k):ZV most (1+k.sum) (Dh most h ps vs):=by
 unfold Dh;refine ⟨fun e=>jh.bind (jh.take most) fun own=>jh.ov _ _,fun e W he=>?_⟩;have h0:=abo k;have h01:=YW k;refine jB.bind (w2:=W+4*k.sum+3) (c2:=-1) (m2:=0) (jB.take most) (fun own=>jB.ov _ ?_) (fun own=>jh.ov _ _) (by omega) (by omega) (by omega);have fm:∀ (l r:Ty) (fr en:Int),jh most 0 (fF (dP most l r fr en) fun _=>jg own):=fun l r fr en=>jh.bind (jh.add _ _ _ _ _) fun _=>jh.pure most _
 have fb:∀ (l r:Ty) (fr en:Int),jB most 0 (-2) (fF (dP most l r fr en) fun _=>jg own):=fun l r fr en=>jB.bind (w2:=0) (c2:=0) (m2:=0) (jB.add _ _ _ _ _) (fun _=>jB.pure most _) (fun _=>jh.pure most _) (by omega) (by omega) (by omega)
 have fb':∀ (l r:Ty) (fr en:Int),jB most (W+4*k.sum+3) (-1) (fF (dP most l r fr en) fun _=>jg own):=fun l r fr en=>(fb l r fr en).mono (Nat.zero_le _) (by decide)
 unfold jM;refine jB.ite (fun _=>fb' _ _ _ _) fun n2=>jB.ite (fun _=>fb' _ _ _ _) fun n3=>jB.ite (fun _=>?_) fun n1=>jB.ite (fun _=>?_) fun n4=>jB.ite (fun _=>?_) fun n67=>?_
 ·have:=FX e h.nm he;exact jB.bind (w2:=0) (c2:=-2) (m2:=0) this.1 (fun t=>fb _ _ _ _) (fun t=>fm _ _ _ _) (by omega) (by omega) (by omega)
 ·refine jB.bind (w2:=W+4*k.getD 0 0) (c2:=-2) (m2:=1) (jB.take most) (fun b=>?_) (fun b=>jh.bind ((hv.at 0).mn _) fun t=>fm _ _ _ _) (by omega) (by omega) (by omega);exact jB.bind (w2:=0) (c2:=-2) (m2:=0) ((hv.at 0).be _ W (he.var b)) (fun t=>fb _ _ _ _) (fun t=>fm _ _ _ _) (by omega) (by omega) (by omega)
 ·have hkp:=Uj h hv he;refine jB.bind (w2:=W+4*k.getD 0 0+1+4*k.getD 1 0) (c2:=-2) (m2:=1) hkp.1 (fun _=>?_) (fun _=>jh.bind ((hv.at 1).mn _) fun t=>fm _ _ _ _) (by omega) (by omega) (by omega);exact jB.bind (w2:=0) (c2:=-2) (m2:=0) ((hv.at 1).be _ (W+4*k.getD 0 0+1) ((he.mono (by omega)).cons hkp.1 hkp.2)) (fun t=>fb _ _ _ _) (fun t=>fm _ _ _ _) (by omega) (by omega) (by omega)
 ·have e5:∀ p:List Nat,jh most 0 (if h.k=5 then fF (dP most (jP p 0) (iO (jP p 1) (tv own)) h.fr h.en) fun _=>jg own
  else if h.k=8 then fF (dP most (jP p 0) (3,0,.nil) (aH ps 0).1 (aH ps 0).2) fun _=>fF (dP most (tv own) (jP p 1) (aH ps 1).1 (aH ps 1).2) fun _=>fF (dP most (tv own) (jP p 2) (aH ps 2).1 (aH ps 2).2) fun _=>jg own
  else if h.k=9 then fF (dP most (tv own) (5,0,jy (p.map tv)) h.fr h.en) fun _=>jg own
  else if h.k=10 then fF (dP most (jP p 0) (h.tk,h.tn,h.tp) (aH ps 0).1 (aH ps 0).2) fun _=>fF (dP most (tv own) (h.tk,h.tn,h.tp) h.fr h.en) fun _=>jg own
  else jg own):=fun p=>jh.ite (fm _ _ _ _) (jh.ite (jh.bind (jh.add _ _ _ _ _) fun _=>jh.bind (jh.add _ _ _ _ _) fun _=>fm _ _ _ _) (jh.ite (fm _ _ _ _) (jh.ite (jh.bind (jh.add _ _ _ _ _) fun _=>fm _ _ _ _) (jh.pure most _))))
  have hm:=tZ.map (e:=e) hv;refine jB.bind (w2:=0) (c2:=-2) (m2:=0) (hm.2 W he) (fun p=>?_) e5 (by omega) (by omega) (by omega);refine jB.ite (fun _=>fb _ _ _ _) fun n5=>jB.ite (fun _=>?_) fun n8=>jB.ite (fun _=>fb _ _ _ _) fun n9=>jB.ite (fun _=>?_) fun n10=>absurd hk (by omega)
  ·exact jB.bind (w2:=0) (c2:=-2) (m2:=0) (jB.add _ _ _ _ _) (fun _=>jB.bind (w2:=0) (c2:=-2) (m2:=0) (jB.add _ _ _ _ _) (fun _=>fb _ _ _ _) (fun _=>fm _ _ _ _) (by omega) (by omega) (by omega)) (fun _=>jh.bind (jh.add _ _ _ _ _) fun _=>fm _ _ _ _) (by omega) (by omega) (by omega)
  ·exact jB.bind (w2:=0) (c2:=-2) (m2:=0) (jB.add _ _ _ _ _) (fun _=>fb _ _ _ _) (fun _=>fm _ _ _ _) (by omega) (by omega) (by omega)
theorem Dl {most:Nat}:∀ f:To,ZR f->∃ k,tZ most (dJ most f) k/\k.sum=f.size
 | .nil,_=>⟨[],.nil,rfl⟩
 | .cons h ps r,⟨a,b,c⟩=>by
  obtain ⟨k1,h1,e1⟩:=Dl (most:=most) ps b;obtain ⟨k2,h2,e2⟩:=Dl (most:=most) r c;refine ⟨(1+k1.sum)::k2,.cons (by omega) (Og h ps ⟨a.1,a.2.1⟩ h1) h2,?_⟩;rw [List.sum_cons,e1,e2];simp only [To.size];omega
theorem Qp (most:Nat) (h:Nd) (ps:To) (hk:ZR (.cons h ps .nil)):(dZ most h ps [] ⟨[],0⟩).2.next<=2*most+4*ps.size+6/\(dZ most h ps [] ⟨[],0⟩).2.L.length<=most+1:=by
 obtain ⟨k,hv,e⟩:=Dl (most:=most) ps hk.2.1;have h1:=(Og h ps ⟨hk.1.1,hk.1.2.1⟩ hv).be [] 0 (fun x hx=>by cases hx) ⟨[],0⟩ (Nat.zero_le _);rw [e] at h1
 show (Dh most h ps (dJ most ps) [] ⟨[],0⟩).2.next<=_/\(Dh most h ps (dJ most ps) [] ⟨[],0⟩).2.L.length<=_
 generalize (Dh most h ps (dJ most ps) [] ⟨[],0⟩).2=q at *;obtain ⟨_,b,c⟩:=h1;simp only [List.length_nil] at c;rcases c with ⟨c1,c⟩ | ⟨c1,c⟩<;>(constructor<;>omega)
def NR {α:Type} (f:Dm α):Prop:=∀ d,d.next<=(f d).2.next
theorem NR.pure {α:Type} (a:α):NR (jg a):=fun _=>Nat.le_refl _
theorem NR.bind {α β:Type} {f:Dm α} {g:α->Dm β} (h:NR f) (k:∀ a,NR (g a)):NR (fF f g):=fun d=>Nat.le_trans (h d) (k _ _)
theorem NR.take:NR jU:=fun _=>Nat.le_succ _
theorem jJ (most:Nat) (l r:Ty) (fr en:Int) (d:Dk):(dP most l r fr en d).2.next=d.next:=by unfold dP;dsimp only;split<;>rfl
theorem NR.add (most:Nat) (l r:Ty) (fr en:Int):NR (dP most l r fr en):=fun d=>by rw [jJ];exact Nat.le_refl _
theorem NR.ov {α:Type} (most:Nat) (x:α) {f:Dm α} (h:NR f):NR (sQ most x f):=fun d=>by
 unfold sQ;split
 ·exact Nat.le_refl _
 ·exact h d
theorem NR.ite {α:Type} {c:Prop} [Decidable c] {f g:Dm α} (h1:NR f) (h2:NR g):NR (if c then f else g):=by
 by_cases hc:c
 ·rw [if_pos hc];exact h1
 ·rw [if_neg hc];exact h2
def Uk (e:aP):Prop:=∀ x∈e,NR x.2
theorem Uk.cons {e:aP} (h:Uk e) {s:ByteArray} {f:Dm Nat} (hf:NR f):Uk ((s,f)::e):=fun x hx=>by
 rcases List.mem_cons.1 hx with rfl | hx
 ·exact hf
 ·exact h x hx
theorem JM:∀ (e:aP) (s:ByteArray),Uk e->NR (jA e s)
 | [],_,_=>NR.pure _
 | x::r,s,h=>by
  unfold jA;exact NR.ite (h x (by simp)) (JM r s (fun y hy=>h y (by simp [hy])))
def ZW (u:aP->Dm Nat):Prop:=∀ e,Uk e->NR (u e)
theorem Ih {us:List (aP->Dm Nat)} (h:∀ u∈us,ZW u) (i:Nat) {e:aP} (he:Uk e):NR (dat us i e):=by
 unfold dat;rw [List.getD_eq_getElem?_getD];cases hi:us[i]? with
 | none=>exact NR.pure _
 | some u=>exact h u (List.mem_of_getElem? hi) e he
theorem uQ {e:aP} (he:Uk e):∀ {us:List (aP->Dm Nat)},(∀ u∈us,ZW u)->NR (dmap e us)
 | [],_=>NR.pure _
 | u::r,h=>NR.bind (h u (by simp) e he) fun _=>NR.bind (uQ he (fun x hx=>h x (by simp [hx]))) fun _=>NR.pure _
theorem Dp (most:Nat) (h:Nd) {us:List (aP->Dm Nat)} (hv:∀ u∈us,ZW u) {e:aP} (he:Uk e):NR (jf most h us e):=by
 unfold jf;exact NR.ite (Ih hv 0 he) (NR.bind NR.take fun b=>NR.bind (Ih hv 0 (he.cons (NR.pure b))) fun _=>NR.bind (NR.add _ _ _ _ _) fun _=>NR.pure _)
theorem JO (most:Nat) (h:Nd) (ps:To) {us:List (aP->Dm Nat)} (hv:∀ u∈us,ZW u) {e:aP} (he:Uk e) (own:Nat):NR (jM most h ps us e own):=by
 unfold jM;have fin:∀ (l r:Ty) (fr en:Int),NR (fF (dP most l r fr en) fun _=>jg own):=fun l r fr en=>NR.bind (NR.add _ _ _ _ _) fun _=>NR.pure _
 refine NR.ite (fin _ _ _ _) (NR.ite (fin _ _ _ _) (NR.ite (NR.bind (JM e _ he) fun _=>fin _ _ _ _) (NR.ite ?_ (NR.ite ?_ (NR.bind (uQ he hv) fun p=>?_)))))
 ·exact NR.bind NR.take fun b=>NR.bind (Ih hv 0 (he.cons (NR.pure b))) fun _=>fin _ _ _ _
 ·exact NR.bind (Dp most h hv he) fun _=>NR.bind (Ih hv 1 (he.cons (Dp most h hv he))) fun _=>fin _ _ _ _
 ·exact NR.ite (fin _ _ _ _) (NR.ite (NR.bind (NR.add _ _ _ _ _) fun _=>NR.bind (NR.add _ _ _ _ _) fun _=>fin _ _ _ _) (NR.ite (fin _ _ _ _) (NR.ite (NR.bind (NR.add _ _ _ _ _) fun _=>fin _ _ _ _) (NR.pure _))))
theorem XK (most:Nat) (h:Nd) (ps:To) {us:List (aP->Dm Nat)} (hv:∀ u∈us,ZW u):ZW (Dh most h ps us):=fun _ he=>NR.bind NR.take fun own=>NR.ov _ _ (JO most h ps hv he own)
theorem nC (most:Nat):∀ f:To,∀ u∈dJ most f,ZW u
 | .nil,u,hu=>by cases hu
 | .cons h ps r,u,hu=>by
  rcases List.mem_cons.1 hu with rfl | hu
  ·exact XK most h ps (nC most ps)
  ·exact nC most r u hu
end Em
end
end Go.Proofs.YtcninopmelmajaaDoor
