/-
  Texts laid together (EmRef): laws and walks, with their conditions.
-/
import Derived.Test.YtcninopmelmajaaGreatDoorOF29
set_option maxHeartbeats 8000000
set_option maxRecDepth 1000000
namespace Go.Proofs.YtcninopmelmajaaGreatDoor
section
namespace Em
def dS (most:Nat) (l r:Ty) (fr en:Int):Dm Unit:=fun d=>((),if d.L.length<=most then { d with L:=d.L++[(l,r,fr,en)] } else d)
def vC {α:Type} (most:Nat) (x:α) (f:Dm α):Dm α:=fun d=>if most < d.L.length then (x,d) else f d
def jV (most:Nat) (h:Nd) (vs:List (aU->Dm Nat)) (e:aU):Dm Nat :=
 if h.k=6 then dat vs 0 e
 else gq kX fun b=>gq (dat vs 0 ((h.nm,jP b)::e)) fun t=>gq (dS most (tv b) (tv t) h.fr h.en) fun _=>jP b
def kY (most:Nat) (h:Nd) (ps:To) (vs:List (aU->Dm Nat)) (e:aU) (own:Nat):Dm Nat :=
 if h.k=2 then gq (dS most (tv own) (2,0,.nil) h.fr h.en) fun _=>jP own
 else if h.k=3 then gq (dS most (tv own) (3,0,.nil) h.fr h.en) fun _=>jP own
 else if h.k=1 then gq (kD e h.nm) fun t=>gq (dS most (tv own) (tv t) h.fr h.en) fun _=>jP own
 else if h.k=4 then gq kX fun b=>gq (dat vs 0 ((h.nm,jP b)::e)) fun t=>gq (dS most (tv own) (iY (tv b) (tv t)) h.fr h.en) fun _=>jP own
 else if h.k=6∨h.k=7 then gq (jV most h vs e) fun _=>gq (dat vs 1 ((h.nm,jV most h vs e)::e)) fun t=>gq (dS most (tv own) (tv t) h.fr h.en) fun _=>jP own
 else gq (dmap e vs) fun p =>
  if h.k=5 then gq (dS most (jY p 0) (iY (jY p 1) (tv own)) h.fr h.en) fun _=>jP own
  else if h.k=8 then gq (dS most (jY p 0) (3,0,.nil) (aH ps 0).1 (aH ps 0).2) fun _=>gq (dS most (tv own) (jY p 1) (aH ps 1).1 (aH ps 1).2) fun _=>gq (dS most (tv own) (jY p 2) (aH ps 2).1 (aH ps 2).2) fun _=>jP own
  else if h.k=9 then gq (dS most (tv own) (5,0,jF (p.map tv)) h.fr h.en) fun _=>jP own
  else if h.k=10 then gq (dS most (jY p 0) (h.tk,h.tn,h.tp) (aH ps 0).1 (aH ps 0).2) fun _=>gq (dS most (tv own) (h.tk,h.tn,h.tp) h.fr h.en) fun _=>jP own
  else jP own
def EF (most:Nat) (h:Nd) (ps:To) (vs:List (aU->Dm Nat)) (e:aU):Dm Nat:=gq kX fun own=>vC most own (kY most h ps vs e own)
def dM (most:Nat):To->List (aU->Dm Nat)
 | .nil=>[]
 | .cons h ps r=>EF most h ps (dM most ps)::dM most r
def fH (most:Nat) (h:Nd) (ps:To) (e:aU):Dm Nat:=EF most h ps (dM most ps) e
theorem oP (most:Nat):∀ (f:To) (i:Nat) (h:Nd) (qs:To),f.get i=some (h,qs)->(dM most f)[i]?=some (fH most h qs)
 | .nil,i,h,qs,e=>by simp [To.get] at e
 | .cons h' ps r,0,h,qs,e=>by
  simp [To.get] at e;obtain ⟨rfl,rfl⟩:=e;rfl
 | .cons h' ps r,i+1,h,qs,e=>by
  show (dM most r)[i]?=_
  exact oP most r i h qs e
structure Rl {α:Type} (most:Nat) (f g:Dm α):Prop where
 mon:Mon g
 over:∀ d,most < d.L.length->most < (f d).2.L.length
 run:∀ d,d.L.length<=most->((g d).2.L.length<=most/\f d=g d)∨(most < (g d).2.L.length/\most < (f d).2.L.length)
theorem Rl.pure {α:Type} (most:Nat) (a:α):Rl most (jP a) (jP a):=⟨Mon.pure a,fun _ h=>h,fun _ h=>.inl ⟨h,rfl⟩⟩
theorem Rl.take (most:Nat):Rl most kX kX:=⟨Mon.take,fun _ h=>h,fun _ h=>.inl ⟨h,rfl⟩⟩
theorem Rl.add (most:Nat) (l r:Ty) (fr en:Int):Rl most (dS most l r fr en) (mX l r fr en):=by
 refine ⟨Mon.add _ _ _ _,fun d h=>?_,fun d h=>?_⟩
 ·unfold dS;dsimp only;rw [if_neg (by omega)];exact h
 ·unfold dS mX;dsimp only;rw [if_pos h]
  by_cases h1:(d.L++[(l,r,fr,en)]).length<=most
  ·exact .inl ⟨h1,rfl⟩
  ·have h2:most < (d.L++[(l,r,fr,en)]).length:=by omega
   exact .inr ⟨h2,h2⟩
theorem Rl.bind {α β:Type} {most:Nat} {f g:Dm α} {f' g':α->Dm β} (h:Rl most f g) (k:∀ a,Rl most (f' a) (g' a)):Rl most (gq f f') (gq g g'):=by
 refine ⟨Mon.bind h.mon fun a=>(k a).mon,fun d hd=>(k _).over _ (h.over d hd),fun d hd=>?_⟩;rcases h.run d hd with ⟨h1,h2⟩ | ⟨h1,h2⟩
 ·unfold gq;rw [h2];exact (k _).run _ h1
 ·exact .inr ⟨Nat.lt_of_lt_of_le h1 ((k _).mon _),(k _).over _ h2⟩
theorem Rl.ite {α:Type} {most:Nat} {c:Prop} [Decidable c] {f f' g g':Dm α} (h1:Rl most f g) (h2:Rl most f' g'):Rl most (if c then f else f') (if c then g else g'):=by
 by_cases hc:c
 ·rw [if_pos hc,if_pos hc];exact h1
 ·rw [if_neg hc,if_neg hc];exact h2
theorem Rl.ov {α:Type} {most:Nat} (x:α) {f g:Dm α} (h:Rl most f g):Rl most (vC most x f) g:=by
 refine ⟨h.mon,fun d hd=>?_,fun d hd=>?_⟩
 ·unfold vC;rw [if_pos hd];exact hd
 ·unfold vC;rw [if_neg (by omega)];exact h.run d hd
inductive yt (most:Nat):aU->aU->Prop
 | nil:yt most [] []
 | cons {s:ByteArray} {f g:Dm Nat} {e e':aU}:Rl most f g->yt most e e'->yt most ((s,f)::e) ((s,g)::e')
theorem yt.look {most:Nat} {e e':aU} (h:yt most e e') (s:ByteArray):Rl most (kD e s) (kD e' s):=by
 induction h with
 | nil=>exact Rl.pure most _
 | cons h1 _ ih=>unfold kD;exact Rl.ite h1 ih
def VRl (most:Nat) (v u:aU->Dm Nat):Prop:=∀ e e',yt most e e'->Rl most (v e) (u e')
inductive CS (most:Nat):List (aU->Dm Nat)->List (aU->Dm Nat)->Prop
 | nil:CS most [] []
 | cons {v u:aU->Dm Nat} {l l':List (aU->Dm Nat)}:VRl most v u->CS most l l'->CS most (v::l) (u::l')
theorem CS.at {most:Nat} {l l':List (aU->Dm Nat)} (h:CS most l l'):∀ (i:Nat) {e e':aU},yt most e e'->Rl most (dat l i e) (dat l' i e'):=by
 induction h with
 | nil=>intro i e e' _;exact Rl.pure most _
 | cons h1 _ ih =>
  intro i e e' he;cases i with
  | zero=>exact h1 _ _ he
  | succ i=>exact ih i he
theorem CS.map {most:Nat} {e e':aU} (he:yt most e e') {l l':List (aU->Dm Nat)} (h:CS most l l'):Rl most (dmap e l) (dmap e' l'):=by
 induction h with
 | nil=>exact Rl.pure most _
 | cons h1 _ ih=>exact Rl.bind (h1 _ _ he) fun _=>Rl.bind ih fun _=>Rl.pure most _
theorem Js (most:Nat) (h:Nd) {vs us:List (aU->Dm Nat)} (hv:CS most vs us) {e e':aU} (he:yt most e e'):Rl most (jV most h vs e) (oC h us e') :=
 Rl.ite (hv.at 0 he) (Rl.bind (Rl.take most) fun b=>Rl.bind (hv.at 0 (.cons (Rl.pure most b) he)) fun _=>Rl.bind (Rl.add _ _ _ _ _) fun _=>Rl.pure most _)
theorem NY (most:Nat) (h:Nd) (ps:To) {vs us:List (aU->Dm Nat)} (hv:CS most vs us):VRl most (EF most h ps vs) (EG h ps us):=by
 intro e e' he;unfold EF EG kY;refine Rl.bind (Rl.take most) fun own=>Rl.ov _ ?_
 have fin:∀ (l r:Ty) (fr en:Int),Rl most (gq (dS most l r fr en) fun _=>jP own) (gq (mX l r fr en) fun _=>jP own):=fun l r fr en=>Rl.bind (Rl.add _ _ _ _ _) fun _=>Rl.pure most _
 refine Rl.ite (fin _ _ _ _) (Rl.ite (fin _ _ _ _) (Rl.ite (Rl.bind (he.look _) fun t=>fin _ _ _ _) (Rl.ite ?_ (Rl.ite ?_ ?_))))
 ·exact Rl.bind (Rl.take most) fun b=>Rl.bind (hv.at 0 (.cons (Rl.pure most b) he)) fun t=>fin _ _ _ _
 ·exact Rl.bind (Js most h hv he) fun _=>Rl.bind (hv.at 1 (.cons (Js most h hv he) he)) fun t=>fin _ _ _ _
 ·exact Rl.bind (CS.map he hv) fun p=>Rl.ite (fin _ _ _ _) (Rl.ite (Rl.bind (Rl.add _ _ _ _ _) fun _=>Rl.bind (Rl.add _ _ _ _ _) fun _=>fin _ _ _ _) (Rl.ite (fin _ _ _ _) (Rl.ite (Rl.bind (Rl.add _ _ _ _ _) fun _=>fin _ _ _ _) (Rl.pure most _))))
theorem CU (most:Nat):∀ f:To,CS most (dM most f) (valsD f)
 | .nil=>.nil
 | .cons h ps r=>.cons (NY most h ps (CU most ps)) (CU most r)
theorem Jt (most:Nat) (h:Nd) (ps:To):Rl most (fH most h ps []) (vW h ps []):=NY most h ps (CU most ps) [] [] .nil
def jy (most w:Nat) {α:Type} (f:Dm α):Prop:=∀ d,most < d.L.length->(f d).2.L=d.L/\d.next<=(f d).2.next/\(f d).2.next<=d.next+w
def jG (most w:Nat) (c:Int) {α:Type} (f:Dm α):Prop:=∀ d,d.L.length<=most->d.next<=(f d).2.next/\d.L.length<=(f d).2.L.length /\
 (((f d).2.L.length<=most/\((f d).2.next:Int)+2*d.L.length<=d.next+2*(f d).2.L.length+c)∨((f d).2.L.length=most+1/\(f d).2.next+2*d.L.length<=d.next+2*(most+1)+w))
theorem jy.mono {most w w':Nat} {α:Type} {f:Dm α} (h:jy most w f) (hw:w<=w'):jy most w' f:=fun d hd=>by
 obtain ⟨h1,h2,h3⟩:=h d hd;exact ⟨h1,h2,by omega⟩
theorem jG.mono {most w w':Nat} {c c':Int} {α:Type} {f:Dm α} (h:jG most w c f) (hw:w<=w') (hc:c<=c'):jG most w' c' f:=fun d hd=>by
 obtain ⟨h1,h2,h3⟩:=h d hd;refine ⟨h1,h2,?_⟩;rcases h3 with ⟨h3,h4⟩ | ⟨h3,h4⟩
 ·exact .inl ⟨h3,by omega⟩
 ·exact .inr ⟨h3,by omega⟩
theorem jy.pure (most:Nat) {α:Type} (a:α):jy most 0 (jP a):=fun _ _=>⟨rfl,Nat.le_refl _,Nat.le_refl _⟩
theorem jG.pure (most:Nat) {α:Type} (a:α):jG most 0 0 (jP a):=fun d h=>⟨Nat.le_refl _,Nat.le_refl _,.inl ⟨h,by show (d.next:Int)+2*d.L.length<=d.next+2*d.L.length+0;omega⟩⟩
theorem jy.take (most:Nat):jy most 1 kX:=fun _ _=>⟨rfl,Nat.le_succ _,Nat.le_refl _⟩
theorem jG.take (most:Nat):jG most 0 1 kX:=fun d h=>⟨Nat.le_succ _,Nat.le_refl _,.inl ⟨h,by show ((d.next+1:Nat):Int)+2*d.L.length<=d.next+2*d.L.length+1;omega⟩⟩
theorem jy.add (most:Nat) (l r:Ty) (fr en:Int):jy most 0 (dS most l r fr en):=fun d h=>by
 unfold dS;dsimp only;rw [if_neg (by omega)];exact ⟨rfl,Nat.le_refl _,Nat.le_refl _⟩
theorem jG.add (most:Nat) (l r:Ty) (fr en:Int):jG most 0 (-2) (dS most l r fr en):=fun d h=>by
 unfold dS;dsimp only;rw [if_pos h];dsimp only;have hl:(d.L++[(l,r,fr,en)]).length=d.L.length+1:=by simp
 rw [hl];refine ⟨Nat.le_refl _,by omega,?_⟩
 by_cases h1:d.L.length+1<=most
 ·exact .inl ⟨h1,by omega⟩
 ·exact .inr ⟨by omega,by omega⟩
theorem jy.bind {most w w':Nat} {α β:Type} {f:Dm α} {g:α->Dm β} (h:jy most w f) (k:∀ a,jy most w' (g a)):jy most (w+w') (gq f g):=fun d hd=>by
 obtain ⟨h1,h2,h3⟩:=h d hd;obtain ⟨k1,k2,k3⟩:=k (f d).1 (f d).2 (by rw [h1];exact hd);unfold gq;exact ⟨k1.trans h1,by omega,by omega⟩
theorem jG.bind {most w1 w2 m2 w:Nat} {c1 c2 c:Int} {α β:Type} {f:Dm α} {g:α->Dm β} (h:jG most w1 c1 f) (k:∀ a,jG most w2 c2 (g a)) (l:∀ a,jy most m2 (g a)) (hw1:w1+m2<=w) (hw2:c1+w2<=w) (hc:c1+c2<=c):jG most w c (gq f g):=fun d hd=>by
 obtain ⟨h1,h2,h3⟩:=h d hd;unfold gq;rcases h3 with ⟨h3,h4⟩ | ⟨h3,h4⟩
 ·obtain ⟨k1,k2,k3⟩:=k (f d).1 (f d).2 h3;refine ⟨by omega,by omega,?_⟩;rcases k3 with ⟨k3,k4⟩ | ⟨k3,k4⟩
  ·exact .inl ⟨k3,by omega⟩
  ·exact .inr ⟨k3,by omega⟩
 ·obtain ⟨k1,k2,k3⟩:=l (f d).1 (f d).2 (by omega);refine ⟨by omega,by rw [k1];exact h2,.inr ⟨by rw [k1];exact h3,by omega⟩⟩
theorem jy.ov {most:Nat} {α:Type} (x:α) (f:Dm α):jy most 0 (vC most x f):=fun d hd=>by
 unfold vC;rw [if_pos hd];exact ⟨rfl,Nat.le_refl _,Nat.le_refl _⟩
theorem jG.ov {most w:Nat} {c:Int} {α:Type} (x:α) {f:Dm α} (h:jG most w c f):jG most w c (vC most x f):=fun d hd=>by
 unfold vC;rw [if_neg (by omega)];exact h d hd
theorem jG.ite {most w:Nat} {e:Int} {α:Type} {c:Prop} [Decidable c] {f g:Dm α} (h1:c->jG most w e f) (h2:¬ c->jG most w e g):jG most w e (if c then f else g):=by
 by_cases hc:c
 ·rw [if_pos hc];exact h1 hc
 ·rw [if_neg hc];exact h2 hc
theorem jy.ite {most w:Nat} {α:Type} {c:Prop} [Decidable c] {f g:Dm α} (h1:jy most w f) (h2:jy most w g):jy most w (if c then f else g):=by
 by_cases hc:c
 ·rw [if_pos hc];exact h1
 ·rw [if_neg hc];exact h2
def Qb (most W:Nat) (e:aU):Prop:=∀ x∈e,jG most W 0 x.2/\jy most 2 x.2
theorem Qb.mono {most W W':Nat} {e:aU} (h:Qb most W e) (hw:W<=W'):Qb most W' e:=fun x hx=>⟨(h x hx).1.mono hw (Int.le_refl _),(h x hx).2⟩
theorem Qb.cons {most W:Nat} {e:aU} (h:Qb most W e) {s:ByteArray} {f:Dm Nat} (h1:jG most W 0 f) (h2:jy most 2 f):Qb most W ((s,f)::e):=fun x hx=>by
 rcases List.mem_cons.1 hx with rfl | hx
 ·exact ⟨h1,h2⟩
 ·exact h x hx
theorem Qb.var {most W:Nat} {e:aU} (h:Qb most W e) {s:ByteArray} (b:Nat):Qb most W ((s,jP b)::e):=h.cons ((jG.pure most b).mono (Nat.zero_le _) (Int.le_refl _)) ((jy.pure most b).mono (by omega))
theorem Fq {most W:Nat}:∀ (e:aU) (s:ByteArray),Qb most W e->jG most W 0 (kD e s)/\jy most 2 (kD e s)
 | [],_,_=>⟨(jG.pure most _).mono (Nat.zero_le _) (Int.le_refl _),(jy.pure most _).mono (by omega)⟩
 | x::r,s,h=>by
  unfold kD;have hx:=h x (by simp);have hr:=Fq r s (fun y hy=>h y (by simp [hy]));exact ⟨jG.ite (fun _=>hx.1) (fun _=>hr.1),jy.ite hx.2 hr.2⟩
structure ZC (most s:Nat) (v:aU->Dm Nat):Prop where
 mn:∀ e,jy most 1 (v e)
 be:∀ e W,Qb most W e->jG most (W+4*s) 0 (v e)
inductive uf (most:Nat):List (aU->Dm Nat)->List Nat->Prop
 | nil:uf most [] []
 | cons {v:aU->Dm Nat} {s:Nat} {l:List (aU->Dm Nat)} {k:List Nat}:1<=s->ZC most s v->uf most l k->uf most (v::l) (s::k)
theorem uf.at {most:Nat} {l:List (aU->Dm Nat)} {k:List Nat} (h:uf most l k):∀ (i:Nat),ZC most (k.getD i 0) (dat l i):=by
 induction h with
 | nil=>exact fun i=>⟨fun e=>(jy.pure most _).mono (by omega),fun e W _=>(jG.pure most _).mono (Nat.zero_le _) (Int.le_refl _)⟩
 | cons h0 h1 _ ih =>
  intro i;cases i with
  | zero=>exact h1
  | succ i=>exact ih i
theorem uf.map {most:Nat} {e:aU} {l:List (aU->Dm Nat)} {k:List Nat} (h:uf most l k):jy most k.sum (dmap e l)/\(∀ W,Qb most W e->jG most (W+4*k.sum) 0 (dmap e l)):=by
 induction h with
 | nil=>exact ⟨jy.pure most _,fun W _=>(jG.pure most _).mono (Nat.zero_le _) (Int.le_refl _)⟩
 | @cons v s l k h0 h1 _ ih =>
  refine ⟨?_,fun W he=>?_⟩
  ·refine (jy.bind (h1.mn e) fun t=>jy.bind ih.1 fun _=>jy.pure most _).mono ?_;simp only [List.sum_cons];omega
  ·simp only [List.sum_cons];refine jG.bind (h1.be e W he) (fun t=>jG.bind (ih.2 W he) (fun _=>jG.pure most _) (fun _=>jy.pure most _) (Nat.le_refl _) (by simp;omega) (Int.le_refl _)) (fun t=>jy.bind ih.1 fun _=>jy.pure most _) ?_ ?_ (by omega)
   ·omega
   ·simp only [Int.zero_add];omega
theorem TU {most:Nat} (h:Nd) {vs:List (aU->Dm Nat)} {k:List Nat} (hv:uf most vs k) {e:aU} {W:Nat} (he:Qb most W e):jG most (W+4*k.getD 0 0+1) 0 (jV most h vs e)/\jy most 2 (jV most h vs e):=by
 unfold jV;have fm:∀ (b:Nat) (t:Nat),jy most 0 (gq (dS most (tv b) (tv t) h.fr h.en) fun _=>jP b):=fun b t=>jy.bind (jy.add _ _ _ _ _) fun _=>jy.pure most _
 refine ⟨jG.ite (fun _=>((hv.at 0).be e W he).mono (by omega) (Int.le_refl _)) (fun _=>?_),jy.ite (((hv.at 0).mn e).mono (by omega)) ?_⟩
 ·refine jG.bind (w2:=W+4*k.getD 0 0) (c2:=-1) (m2:=1) (jG.take most) (fun b=>?_) (fun b=>(jy.bind ((hv.at 0).mn _) fun t=>fm b t)) (by omega) (by omega) (by omega);exact jG.bind (w2:=0) (c2:=-2) (m2:=0) ((hv.at 0).be _ W (he.var b)) (fun t=>jG.bind (w2:=0) (c2:=0) (m2:=0) (jG.add _ _ _ _ _) (fun _=>jG.pure most _) (fun _=>jy.pure most _) (by omega) (by omega) (by omega)) (fun t=>fm b t) (by omega) (by omega) (by omega)
 ·exact (jy.bind (jy.take most) fun b=>jy.bind ((hv.at 0).mn _) fun t=>fm b t)
theorem NZ {most:Nat} (h:Nd) (ps:To) (hk:1<=h.k/\h.k<=10) {vs:List (aU->Dm Nat)} {k:List Nat} (hv:uf most vs k):ZC most (1+k.sum) (EF most h ps vs):=by
 unfold EF;refine ⟨fun e=>jy.bind (jy.take most) fun own=>jy.ov _ _,fun e W he=>?_⟩;have h0:=abm k;have h01:=YA k;refine jG.bind (w2:=W+4*k.sum+3) (c2:=-1) (m2:=0) (jG.take most) (fun own=>jG.ov _ ?_) (fun own=>jy.ov _ _) (by omega) (by omega) (by omega);have fm:∀ (l r:Ty) (fr en:Int),jy most 0 (gq (dS most l r fr en) fun _=>jP own):=fun l r fr en=>jy.bind (jy.add _ _ _ _ _) fun _=>jy.pure most _
 have fb:∀ (l r:Ty) (fr en:Int),jG most 0 (-2) (gq (dS most l r fr en) fun _=>jP own):=fun l r fr en=>jG.bind (w2:=0) (c2:=0) (m2:=0) (jG.add _ _ _ _ _) (fun _=>jG.pure most _) (fun _=>jy.pure most _) (by omega) (by omega) (by omega)
 have fb':∀ (l r:Ty) (fr en:Int),jG most (W+4*k.sum+3) (-1) (gq (dS most l r fr en) fun _=>jP own):=fun l r fr en=>(fb l r fr en).mono (Nat.zero_le _) (by decide)
 unfold kY;refine jG.ite (fun _=>fb' _ _ _ _) fun n2=>jG.ite (fun _=>fb' _ _ _ _) fun n3=>jG.ite (fun _=>?_) fun n1=>jG.ite (fun _=>?_) fun n4=>jG.ite (fun _=>?_) fun n67=>?_
 ·have:=Fq e h.nm he;exact jG.bind (w2:=0) (c2:=-2) (m2:=0) this.1 (fun t=>fb _ _ _ _) (fun t=>fm _ _ _ _) (by omega) (by omega) (by omega)
 ·refine jG.bind (w2:=W+4*k.getD 0 0) (c2:=-2) (m2:=1) (jG.take most) (fun b=>?_) (fun b=>jy.bind ((hv.at 0).mn _) fun t=>fm _ _ _ _) (by omega) (by omega) (by omega);exact jG.bind (w2:=0) (c2:=-2) (m2:=0) ((hv.at 0).be _ W (he.var b)) (fun t=>fb _ _ _ _) (fun t=>fm _ _ _ _) (by omega) (by omega) (by omega)
 ·have hkp:=TU h hv he;refine jG.bind (w2:=W+4*k.getD 0 0+1+4*k.getD 1 0) (c2:=-2) (m2:=1) hkp.1 (fun _=>?_) (fun _=>jy.bind ((hv.at 1).mn _) fun t=>fm _ _ _ _) (by omega) (by omega) (by omega);exact jG.bind (w2:=0) (c2:=-2) (m2:=0) ((hv.at 1).be _ (W+4*k.getD 0 0+1) ((he.mono (by omega)).cons hkp.1 hkp.2)) (fun t=>fb _ _ _ _) (fun t=>fm _ _ _ _) (by omega) (by omega) (by omega)
 ·have e5:∀ p:List Nat,jy most 0 (if h.k=5 then gq (dS most (jY p 0) (iY (jY p 1) (tv own)) h.fr h.en) fun _=>jP own
  else if h.k=8 then gq (dS most (jY p 0) (3,0,.nil) (aH ps 0).1 (aH ps 0).2) fun _=>gq (dS most (tv own) (jY p 1) (aH ps 1).1 (aH ps 1).2) fun _=>gq (dS most (tv own) (jY p 2) (aH ps 2).1 (aH ps 2).2) fun _=>jP own
  else if h.k=9 then gq (dS most (tv own) (5,0,jF (p.map tv)) h.fr h.en) fun _=>jP own
  else if h.k=10 then gq (dS most (jY p 0) (h.tk,h.tn,h.tp) (aH ps 0).1 (aH ps 0).2) fun _=>gq (dS most (tv own) (h.tk,h.tn,h.tp) h.fr h.en) fun _=>jP own
  else jP own):=fun p=>jy.ite (fm _ _ _ _) (jy.ite (jy.bind (jy.add _ _ _ _ _) fun _=>jy.bind (jy.add _ _ _ _ _) fun _=>fm _ _ _ _) (jy.ite (fm _ _ _ _) (jy.ite (jy.bind (jy.add _ _ _ _ _) fun _=>fm _ _ _ _) (jy.pure most _))))
  have hm:=uf.map (e:=e) hv;refine jG.bind (w2:=0) (c2:=-2) (m2:=0) (hm.2 W he) (fun p=>?_) e5 (by omega) (by omega) (by omega);refine jG.ite (fun _=>fb _ _ _ _) fun n5=>jG.ite (fun _=>?_) fun n8=>jG.ite (fun _=>fb _ _ _ _) fun n9=>jG.ite (fun _=>?_) fun n10=>absurd hk (by omega)
  ·exact jG.bind (w2:=0) (c2:=-2) (m2:=0) (jG.add _ _ _ _ _) (fun _=>jG.bind (w2:=0) (c2:=-2) (m2:=0) (jG.add _ _ _ _ _) (fun _=>fb _ _ _ _) (fun _=>fm _ _ _ _) (by omega) (by omega) (by omega)) (fun _=>jy.bind (jy.add _ _ _ _ _) fun _=>fm _ _ _ _) (by omega) (by omega) (by omega)
  ·exact jG.bind (w2:=0) (c2:=-2) (m2:=0) (jG.add _ _ _ _ _) (fun _=>fb _ _ _ _) (fun _=>fm _ _ _ _) (by omega) (by omega) (by omega)
theorem CV {most:Nat}:∀ f:To,Zz f->∃ k,uf most (dM most f) k/\k.sum=f.size
 | .nil,_=>⟨[],.nil,rfl⟩
 | .cons h ps r,⟨a,b,c⟩=>by
  obtain ⟨k1,h1,e1⟩:=CV (most:=most) ps b;obtain ⟨k2,h2,e2⟩:=CV (most:=most) r c;refine ⟨(1+k1.sum)::k2,.cons (by omega) (NZ h ps ⟨a.1,a.2.1⟩ h1) h2,?_⟩;rw [List.sum_cons,e1,e2];simp only [To.size];omega
theorem Qc (most:Nat) (h:Nd) (ps:To) (hk:Zz (.cons h ps .nil)):(fH most h ps [] ⟨[],0⟩).2.next<=2*most+4*ps.size+6/\(fH most h ps [] ⟨[],0⟩).2.L.length<=most+1:=by
 obtain ⟨k,hv,e⟩:=CV (most:=most) ps hk.2.1;have h1:=(NZ h ps ⟨hk.1.1,hk.1.2.1⟩ hv).be [] 0 (fun x hx=>by cases hx) ⟨[],0⟩ (Nat.zero_le _);rw [e] at h1
 show (EF most h ps (dM most ps) [] ⟨[],0⟩).2.next<=_/\(EF most h ps (dM most ps) [] ⟨[],0⟩).2.L.length<=_
 generalize (EF most h ps (dM most ps) [] ⟨[],0⟩).2=q at *;obtain ⟨_,b,c⟩:=h1;simp only [List.length_nil] at c;rcases c with ⟨c1,c⟩ | ⟨c1,c⟩<;>(constructor<;>omega)
def NR {α:Type} (f:Dm α):Prop:=∀ d,d.next<=(f d).2.next
theorem NR.pure {α:Type} (a:α):NR (jP a):=fun _=>Nat.le_refl _
theorem NR.bind {α β:Type} {f:Dm α} {g:α->Dm β} (h:NR f) (k:∀ a,NR (g a)):NR (gq f g):=fun d=>Nat.le_trans (h d) (k _ _)
theorem NR.take:NR kX:=fun _=>Nat.le_succ _
theorem jR (most:Nat) (l r:Ty) (fr en:Int) (d:Dk):(dS most l r fr en d).2.next=d.next:=by unfold dS;dsimp only;split<;>rfl
theorem NR.add (most:Nat) (l r:Ty) (fr en:Int):NR (dS most l r fr en):=fun d=>by rw [jR];exact Nat.le_refl _
theorem NR.ov {α:Type} (most:Nat) (x:α) {f:Dm α} (h:NR f):NR (vC most x f):=fun d=>by
 unfold vC;split
 ·exact Nat.le_refl _
 ·exact h d
theorem NR.ite {α:Type} {c:Prop} [Decidable c] {f g:Dm α} (h1:NR f) (h2:NR g):NR (if c then f else g):=by
 by_cases hc:c
 ·rw [if_pos hc];exact h1
 ·rw [if_neg hc];exact h2
def TV (e:aU):Prop:=∀ x∈e,NR x.2
theorem TV.cons {e:aU} (h:TV e) {s:ByteArray} {f:Dm Nat} (hf:NR f):TV ((s,f)::e):=fun x hx=>by
 rcases List.mem_cons.1 hx with rfl | hx
 ·exact hf
 ·exact h x hx
theorem Ju:∀ (e:aU) (s:ByteArray),TV e->NR (kD e s)
 | [],_,_=>NR.pure _
 | x::r,s,h=>by
  unfold kD;exact NR.ite (h x (by simp)) (Ju r s (fun y hy=>h y (by simp [hy])))
def ZE (u:aU->Dm Nat):Prop:=∀ e,TV e->NR (u e)
theorem G9 {us:List (aU->Dm Nat)} (h:∀ u∈us,ZE u) (i:Nat) {e:aU} (he:TV e):NR (dat us i e):=by
 unfold dat;rw [List.getD_eq_getElem?_getD];cases hi:us[i]? with
 | none=>exact NR.pure _
 | some u=>exact h u (List.mem_of_getElem? hi) e he
theorem uP {e:aU} (he:TV e):∀ {us:List (aU->Dm Nat)},(∀ u∈us,ZE u)->NR (dmap e us)
 | [],_=>NR.pure _
 | u::r,h=>NR.bind (h u (by simp) e he) fun _=>NR.bind (uP he (fun x hx=>h x (by simp [hx]))) fun _=>NR.pure _
theorem CW (most:Nat) (h:Nd) {us:List (aU->Dm Nat)} (hv:∀ u∈us,ZE u) {e:aU} (he:TV e):NR (jV most h us e):=by
 unfold jV;exact NR.ite (G9 hv 0 he) (NR.bind NR.take fun b=>NR.bind (G9 hv 0 (he.cons (NR.pure b))) fun _=>NR.bind (NR.add _ _ _ _ _) fun _=>NR.pure _)
theorem Jv (most:Nat) (h:Nd) (ps:To) {us:List (aU->Dm Nat)} (hv:∀ u∈us,ZE u) {e:aU} (he:TV e) (own:Nat):NR (kY most h ps us e own):=by
 unfold kY;have fin:∀ (l r:Ty) (fr en:Int),NR (gq (dS most l r fr en) fun _=>jP own):=fun l r fr en=>NR.bind (NR.add _ _ _ _ _) fun _=>NR.pure _
 refine NR.ite (fin _ _ _ _) (NR.ite (fin _ _ _ _) (NR.ite (NR.bind (Ju e _ he) fun _=>fin _ _ _ _) (NR.ite ?_ (NR.ite ?_ (NR.bind (uP he hv) fun p=>?_)))))
 ·exact NR.bind NR.take fun b=>NR.bind (G9 hv 0 (he.cons (NR.pure b))) fun _=>fin _ _ _ _
 ·exact NR.bind (CW most h hv he) fun _=>NR.bind (G9 hv 1 (he.cons (CW most h hv he))) fun _=>fin _ _ _ _
 ·exact NR.ite (fin _ _ _ _) (NR.ite (NR.bind (NR.add _ _ _ _ _) fun _=>NR.bind (NR.add _ _ _ _ _) fun _=>fin _ _ _ _) (NR.ite (fin _ _ _ _) (NR.ite (NR.bind (NR.add _ _ _ _ _) fun _=>fin _ _ _ _) (NR.pure _))))
theorem Xx (most:Nat) (h:Nd) (ps:To) {us:List (aU->Dm Nat)} (hv:∀ u∈us,ZE u):ZE (EF most h ps us):=fun _ he=>NR.bind NR.take fun own=>NR.ov _ _ (Jv most h ps hv he own)
theorem nO (most:Nat):∀ f:To,∀ u∈dM most f,ZE u
 | .nil,u,hu=>by cases hu
 | .cons h ps r,u,hu=>by
  rcases List.mem_cons.1 hu with rfl | hu
  ·exact Xx most h ps (nO most ps)
  ·exact nO most r u hu
end Em
end
end Go.Proofs.YtcninopmelmajaaGreatDoor
