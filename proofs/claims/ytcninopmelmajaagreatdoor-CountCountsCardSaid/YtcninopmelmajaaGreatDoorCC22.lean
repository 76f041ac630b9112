/-
  Texts laid together (EmRef, EqDoc, RqMem, EqHT): laws and walks, with their conditions.
-/
import Derived.Maps.RangeWalk
import Derived.Test.YtcninopmelmajaaGreatDoorCC21
set_option maxHeartbeats 8000000
set_option maxRecDepth 1000000
namespace Go.Proofs.YtcninopmelmajaaGreatDoor
section
namespace Em
def dK (most:Nat) (l r:Ty) (fr en:Int):Dm Unit:=fun d=>((),if d.L.length<=most then { d with L:=d.L++[(l,r,fr,en)] } else d)
def uQ {α:Type} (most:Nat) (x:α) (f:Dm α):Dm α:=fun d=>if most < d.L.length then (x,d) else f d
def jM (most:Nat) (h:Nd) (vs:List (aS->Dm Nat)) (e:aS):Dm Nat :=
 if h.k=6 then dat vs 0 e
 else fH kN fun b=>fH (dat vs 0 ((h.nm,jG b)::e)) fun t=>fH (dK most (tv b) (tv t) h.fr h.en) fun _=>jG b
def kP (most:Nat) (h:Nd) (ps:To) (vs:List (aS->Dm Nat)) (e:aS) (own:Nat):Dm Nat :=
 if h.k=2 then fH (dK most (tv own) (2,0,.nil) h.fr h.en) fun _=>jG own
 else if h.k=3 then fH (dK most (tv own) (3,0,.nil) h.fr h.en) fun _=>jG own
 else if h.k=1 then fH (jU e h.nm) fun t=>fH (dK most (tv own) (tv t) h.fr h.en) fun _=>jG own
 else if h.k=4 then fH kN fun b=>fH (dat vs 0 ((h.nm,jG b)::e)) fun t=>fH (dK most (tv own) (pO (tv b) (tv t)) h.fr h.en) fun _=>jG own
 else if h.k=6∨h.k=7 then fH (jM most h vs e) fun _=>fH (dat vs 1 ((h.nm,jM most h vs e)::e)) fun t=>fH (dK most (tv own) (tv t) h.fr h.en) fun _=>jG own
 else fH (dmap e vs) fun p =>
  if h.k=5 then fH (dK most (jP p 0) (pO (jP p 1) (tv own)) h.fr h.en) fun _=>jG own
  else if h.k=8 then fH (dK most (jP p 0) (3,0,.nil) (aX ps 0).1 (aX ps 0).2) fun _=>fH (dK most (tv own) (jP p 1) (aX ps 1).1 (aX ps 1).2) fun _=>fH (dK most (tv own) (jP p 2) (aX ps 2).1 (aX ps 2).2) fun _=>jG own
  else if h.k=9 then fH (dK most (tv own) (5,0,oL (p.map tv)) h.fr h.en) fun _=>jG own
  else if h.k=10 then fH (dK most (jP p 0) (h.tk,h.tn,h.tp) (aX ps 0).1 (aX ps 0).2) fun _=>fH (dK most (tv own) (h.tk,h.tn,h.tp) h.fr h.en) fun _=>jG own
  else jG own
def Eb (most:Nat) (h:Nd) (ps:To) (vs:List (aS->Dm Nat)) (e:aS):Dm Nat:=fH kN fun own=>uQ most own (kP most h ps vs e own)
def dD (most:Nat):To->List (aS->Dm Nat)
 | .nil=>[]
 | .cons h ps r=>Eb most h ps (dD most ps)::dD most r
def dP (most:Nat) (h:Nd) (ps:To) (e:aS):Dm Nat:=Eb most h ps (dD most ps) e
theorem nZ (most:Nat):∀ (f:To) (i:Nat) (h:Nd) (qs:To),f.get i=some (h,qs)->(dD most f)[i]?=some (dP most h qs)
 | .nil,i,h,qs,e=>by simp [To.get] at e
 | .cons h' ps r,0,h,qs,e=>by
  simp [To.get] at e
  obtain ⟨rfl,rfl⟩:=e
  rfl
 | .cons h' ps r,i+1,h,qs,e=>by
  show (dD most r)[i]?=_
  exact nZ most r i h qs e
structure Rl {α:Type} (most:Nat) (f g:Dm α):Prop where
 mon:Mon g
 over:∀ d,most < d.L.length->most < (f d).2.L.length
 run:∀ d,d.L.length<=most->((g d).2.L.length<=most/\f d=g d)∨(most < (g d).2.L.length/\most < (f d).2.L.length)
theorem Rl.pure {α:Type} (most:Nat) (a:α):Rl most (jG a) (jG a):=⟨Mon.pure a,fun _ h=>h,fun _ h=>.inl ⟨h,rfl⟩⟩
theorem Rl.take (most:Nat):Rl most kN kN:=⟨Mon.take,fun _ h=>h,fun _ h=>.inl ⟨h,rfl⟩⟩
theorem Rl.add (most:Nat) (l r:Ty) (fr en:Int):Rl most (dK most l r fr en) (l9 l r fr en):=by
 refine ⟨Mon.add _ _ _ _,fun d h=>?_,fun d h=>?_⟩
 ·unfold dK;dsimp only;rw [if_neg (by omega)];exact h
 ·unfold dK l9;dsimp only;rw [if_pos h]
  by_cases h1:(d.L++[(l,r,fr,en)]).length<=most
  ·exact .inl ⟨h1,rfl⟩
  ·have h2:most < (d.L++[(l,r,fr,en)]).length:=by omega
   exact .inr ⟨h2,h2⟩
theorem Rl.bind {α β:Type} {most:Nat} {f g:Dm α} {f' g':α->Dm β} (h:Rl most f g) (k:∀ a,Rl most (f' a) (g' a)):Rl most (fH f f') (fH g g'):=by
 refine ⟨Mon.bind h.mon fun a=>(k a).mon,fun d hd=>(k _).over _ (h.over d hd),fun d hd=>?_⟩
 rcases h.run d hd with ⟨h1,h2⟩ | ⟨h1,h2⟩
 ·unfold fH
  rw [h2]
  exact (k _).run _ h1
 ·exact .inr ⟨Nat.lt_of_lt_of_le h1 ((k _).mon _),(k _).over _ h2⟩
theorem Rl.ite {α:Type} {most:Nat} {c:Prop} [Decidable c] {f f' g g':Dm α} (h1:Rl most f g) (h2:Rl most f' g'):Rl most (if c then f else f') (if c then g else g'):=by
 by_cases hc:c
 ·rw [if_pos hc,if_pos hc];exact h1
 ·rw [if_neg hc,if_neg hc];exact h2
theorem Rl.ov {α:Type} {most:Nat} (x:α) {f g:Dm α} (h:Rl most f g):Rl most (uQ most x f) g:=by
 refine ⟨h.mon,fun d hd=>?_,fun d hd=>?_⟩
 ·unfold uQ;rw [if_pos hd];exact hd
 ·unfold uQ;rw [if_neg (by omega)];exact h.run d hd
inductive xE (most:Nat):aS->aS->Prop
 | nil:xE most [] []
 | cons {s:ByteArray} {f g:Dm Nat} {e e':aS}:Rl most f g->xE most e e'->xE most ((s,f)::e) ((s,g)::e')
theorem xE.look {most:Nat} {e e':aS} (h:xE most e e') (s:ByteArray):Rl most (jU e s) (jU e' s):=by
 induction h with
 | nil=>exact Rl.pure most _
 | cons h1 _ ih=>unfold jU;exact Rl.ite h1 ih
def VRl (most:Nat) (v u:aS->Dm Nat):Prop:=∀ e e',xE most e e'->Rl most (v e) (u e')
inductive CP (most:Nat):List (aS->Dm Nat)->List (aS->Dm Nat)->Prop
 | nil:CP most [] []
 | cons {v u:aS->Dm Nat} {l l':List (aS->Dm Nat)}:VRl most v u->CP most l l'->CP most (v::l) (u::l')
theorem CP.at {most:Nat} {l l':List (aS->Dm Nat)} (h:CP most l l'):∀ (i:Nat) {e e':aS},xE most e e'->Rl most (dat l i e) (dat l' i e'):=by
 induction h with
 | nil=>intro i e e' _;exact Rl.pure most _
 | cons h1 _ ih =>
  intro i e e' he
  cases i with
  | zero=>exact h1 _ _ he
  | succ i=>exact ih i he
theorem CP.map {most:Nat} {e e':aS} (he:xE most e e') {l l':List (aS->Dm Nat)} (h:CP most l l'):Rl most (dmap e l) (dmap e' l'):=by
 induction h with
 | nil=>exact Rl.pure most _
 | cons h1 _ ih=>exact Rl.bind (h1 _ _ he) fun _=>Rl.bind ih fun _=>Rl.pure most _
theorem I7 (most:Nat) (h:Nd) {vs us:List (aS->Dm Nat)} (hv:CP most vs us) {e e':aS} (he:xE most e e'):Rl most (jM most h vs e) (nM h us e') :=
 Rl.ite (hv.at 0 he) (Rl.bind (Rl.take most) fun b=>Rl.bind (hv.at 0 (.cons (Rl.pure most b) he)) fun _=>Rl.bind (Rl.add _ _ _ _ _) fun _=>Rl.pure most _)
theorem Nz (most:Nat) (h:Nd) (ps:To) {vs us:List (aS->Dm Nat)} (hv:CP most vs us):VRl most (Eb most h ps vs) (D7 h ps us):=by
 intro e e' he
 unfold Eb D7 kP
 refine Rl.bind (Rl.take most) fun own=>Rl.ov _ ?_
 have fin:∀ (l r:Ty) (fr en:Int),Rl most (fH (dK most l r fr en) fun _=>jG own) (fH (l9 l r fr en) fun _=>jG own):=fun l r fr en=>Rl.bind (Rl.add _ _ _ _ _) fun _=>Rl.pure most _
 refine Rl.ite (fin _ _ _ _) (Rl.ite (fin _ _ _ _) (Rl.ite (Rl.bind (he.look _) fun t=>fin _ _ _ _) (Rl.ite ?_ (Rl.ite ?_ ?_))))
 ·exact Rl.bind (Rl.take most) fun b=>Rl.bind (hv.at 0 (.cons (Rl.pure most b) he)) fun t=>fin _ _ _ _
 ·exact Rl.bind (I7 most h hv he) fun _=>Rl.bind (hv.at 1 (.cons (I7 most h hv he) he)) fun t=>fin _ _ _ _
 ·exact Rl.bind (CP.map he hv) fun p=>Rl.ite (fin _ _ _ _) (Rl.ite (Rl.bind (Rl.add _ _ _ _ _) fun _=>Rl.bind (Rl.add _ _ _ _ _) fun _=>fin _ _ _ _) (Rl.ite (fin _ _ _ _) (Rl.ite (Rl.bind (Rl.add _ _ _ _ _) fun _=>fin _ _ _ _) (Rl.pure most _))))
theorem CQ (most:Nat):∀ f:To,CP most (dD most f) (valsD f)
 | .nil=>.nil
 | .cons h ps r=>.cons (Nz most h ps (CQ most ps)) (CQ most r)
theorem I8 (most:Nat) (h:Nd) (ps:To):Rl most (dP most h ps []) (xA h ps []):=Nz most h ps (CQ most ps) [] [] .nil
def jw (most w:Nat) {α:Type} (f:Dm α):Prop:=∀ d,most < d.L.length->(f d).2.L=d.L/\d.next<=(f d).2.next/\(f d).2.next<=d.next+w
def jD (most w:Nat) (c:Int) {α:Type} (f:Dm α):Prop:=∀ d,d.L.length<=most->d.next<=(f d).2.next/\d.L.length<=(f d).2.L.length /\
 (((f d).2.L.length<=most/\((f d).2.next:Int)+2 * d.L.length<=d.next+2 * (f d).2.L.length+c)∨((f d).2.L.length=most+1/\(f d).2.next+2 * d.L.length<=d.next+2 * (most+1)+w))
theorem jw.mono {most w w':Nat} {α:Type} {f:Dm α} (h:jw most w f) (hw:w<=w'):jw most w' f:=fun d hd=>by
 obtain ⟨h1,h2,h3⟩:=h d hd;exact ⟨h1,h2,by omega⟩
theorem jD.mono {most w w':Nat} {c c':Int} {α:Type} {f:Dm α} (h:jD most w c f) (hw:w<=w') (hc:c<=c'):jD most w' c' f:=fun d hd=>by
 obtain ⟨h1,h2,h3⟩:=h d hd
 refine ⟨h1,h2,?_⟩
 rcases h3 with ⟨h3,h4⟩ | ⟨h3,h4⟩
 ·exact .inl ⟨h3,by omega⟩
 ·exact .inr ⟨h3,by omega⟩
theorem jw.pure (most:Nat) {α:Type} (a:α):jw most 0 (jG a):=fun _ _=>⟨rfl,Nat.le_refl _,Nat.le_refl _⟩
theorem jD.pure (most:Nat) {α:Type} (a:α):jD most 0 0 (jG a):=fun d h=>⟨Nat.le_refl _,Nat.le_refl _,.inl ⟨h,by show (d.next:Int)+2 * d.L.length<=d.next+2 * d.L.length+0;omega⟩⟩
theorem jw.take (most:Nat):jw most 1 kN:=fun _ _=>⟨rfl,Nat.le_succ _,Nat.le_refl _⟩
theorem jD.take (most:Nat):jD most 0 1 kN:=fun d h=>⟨Nat.le_succ _,Nat.le_refl _,.inl ⟨h,by show ((d.next+1:Nat):Int)+2 * d.L.length<=d.next+2 * d.L.length+1;omega⟩⟩
theorem jw.add (most:Nat) (l r:Ty) (fr en:Int):jw most 0 (dK most l r fr en):=fun d h=>by
 unfold dK;dsimp only;rw [if_neg (by omega)];exact ⟨rfl,Nat.le_refl _,Nat.le_refl _⟩
theorem jD.add (most:Nat) (l r:Ty) (fr en:Int):jD most 0 (-2) (dK most l r fr en):=fun d h=>by
 unfold dK;dsimp only;rw [if_pos h];dsimp only
 have hl:(d.L++[(l,r,fr,en)]).length=d.L.length+1:=by simp
 rw [hl]
 refine ⟨Nat.le_refl _,by omega,?_⟩
 by_cases h1:d.L.length+1<=most
 ·exact .inl ⟨h1,by omega⟩
 ·exact .inr ⟨by omega,by omega⟩
theorem jw.bind {most w w':Nat} {α β:Type} {f:Dm α} {g:α->Dm β} (h:jw most w f) (k:∀ a,jw most w' (g a)):jw most (w+w') (fH f g):=fun d hd=>by
 obtain ⟨h1,h2,h3⟩:=h d hd
 obtain ⟨k1,k2,k3⟩:=k (f d).1 (f d).2 (by rw [h1];exact hd)
 unfold fH
 exact ⟨k1.trans h1,by omega,by omega⟩
theorem jD.bind {most w1 w2 m2 w:Nat} {c1 c2 c:Int} {α β:Type} {f:Dm α} {g:α->Dm β} (h:jD most w1 c1 f) (k:∀ a,jD most w2 c2 (g a)) (l:∀ a,jw most m2 (g a)) (hw1:w1+m2<=w) (hw2:c1+w2<=w) (hc:c1+c2<=c):jD most w c (fH f g):=fun d hd=>by
 obtain ⟨h1,h2,h3⟩:=h d hd
 unfold fH
 rcases h3 with ⟨h3,h4⟩ | ⟨h3,h4⟩
 ·obtain ⟨k1,k2,k3⟩:=k (f d).1 (f d).2 h3
  refine ⟨by omega,by omega,?_⟩
  rcases k3 with ⟨k3,k4⟩ | ⟨k3,k4⟩
  ·exact .inl ⟨k3,by omega⟩
  ·exact .inr ⟨k3,by omega⟩
 ·obtain ⟨k1,k2,k3⟩:=l (f d).1 (f d).2 (by omega)
  refine ⟨by omega,by rw [k1];exact h2,.inr ⟨by rw [k1];exact h3,by omega⟩⟩
theorem jw.ov {most:Nat} {α:Type} (x:α) (f:Dm α):jw most 0 (uQ most x f):=fun d hd=>by
 unfold uQ;rw [if_pos hd];exact ⟨rfl,Nat.le_refl _,Nat.le_refl _⟩
theorem jD.ov {most w:Nat} {c:Int} {α:Type} (x:α) {f:Dm α} (h:jD most w c f):jD most w c (uQ most x f):=fun d hd=>by
 unfold uQ;rw [if_neg (by omega)];exact h d hd
theorem jD.ite {most w:Nat} {e:Int} {α:Type} {c:Prop} [Decidable c] {f g:Dm α} (h1:c->jD most w e f) (h2:¬ c->jD most w e g):jD most w e (if c then f else g):=by
 by_cases hc:c
 ·rw [if_pos hc];exact h1 hc
 ·rw [if_neg hc];exact h2 hc
theorem jw.ite {most w:Nat} {α:Type} {c:Prop} [Decidable c] {f g:Dm α} (h1:jw most w f) (h2:jw most w g):jw most w (if c then f else g):=by
 by_cases hc:c
 ·rw [if_pos hc];exact h1
 ·rw [if_neg hc];exact h2
def PL (most W:Nat) (e:aS):Prop:=∀ x∈e,jD most W 0 x.2/\jw most 2 x.2
theorem PL.mono {most W W':Nat} {e:aS} (h:PL most W e) (hw:W<=W'):PL most W' e:=fun x hx=>⟨(h x hx).1.mono hw (Int.le_refl _),(h x hx).2⟩
theorem PL.cons {most W:Nat} {e:aS} (h:PL most W e) {s:ByteArray} {f:Dm Nat} (h1:jD most W 0 f) (h2:jw most 2 f):PL most W ((s,f)::e):=fun x hx=>by
 rcases List.mem_cons.1 hx with rfl | hx
 ·exact ⟨h1,h2⟩
 ·exact h x hx
theorem PL.var {most W:Nat} {e:aS} (h:PL most W e) {s:ByteArray} (b:Nat):PL most W ((s,jG b)::e):=h.cons ((jD.pure most b).mono (Nat.zero_le _) (Int.le_refl _)) ((jw.pure most b).mono (by omega))
theorem EX {most W:Nat}:∀ (e:aS) (s:ByteArray),PL most W e->jD most W 0 (jU e s)/\jw most 2 (jU e s)
 | [],_,_=>⟨(jD.pure most _).mono (Nat.zero_le _) (Int.le_refl _),(jw.pure most _).mono (by omega)⟩
 | x::r,s,h=>by
  unfold jU
  have hx:=h x (by simp)
  have hr:=EX r s (fun y hy=>h y (by simp [hy]))
  exact ⟨jD.ite (fun _=>hx.1) (fun _=>hr.1),jw.ite hx.2 hr.2⟩
structure Zk (most s:Nat) (v:aS->Dm Nat):Prop where
 mn:∀ e,jw most 1 (v e)
 be:∀ e W,PL most W e->jD most (W+4 * s) 0 (v e)
inductive tZ (most:Nat):List (aS->Dm Nat)->List Nat->Prop
 | nil:tZ most [] []
 | cons {v:aS->Dm Nat} {s:Nat} {l:List (aS->Dm Nat)} {k:List Nat}:1<=s->Zk most s v->tZ most l k->tZ most (v::l) (s::k)
theorem tZ.at {most:Nat} {l:List (aS->Dm Nat)} {k:List Nat} (h:tZ most l k):∀ (i:Nat),Zk most (k.getD i 0) (dat l i):=by
 induction h with
 | nil=>exact fun i=>⟨fun e=>(jw.pure most _).mono (by omega),fun e W _=>(jD.pure most _).mono (Nat.zero_le _) (Int.le_refl _)⟩
 | cons h0 h1 _ ih =>
  intro i
  cases i with
  | zero=>exact h1
  | succ i=>exact ih i
theorem tZ.map {most:Nat} {e:aS} {l:List (aS->Dm Nat)} {k:List Nat} (h:tZ most l k):jw most k.sum (dmap e l)/\(∀ W,PL most W e->jD most (W+4 * k.sum) 0 (dmap e l)):=by
 induction h with
 | nil=>exact ⟨jw.pure most _,fun W _=>(jD.pure most _).mono (Nat.zero_le _) (Int.le_refl _)⟩
 | @cons v s l k h0 h1 _ ih =>
  refine ⟨?_,fun W he=>?_⟩
  ·refine (jw.bind (h1.mn e) fun t=>jw.bind ih.1 fun _=>jw.pure most _).mono ?_
   simp only [List.sum_cons];omega
  ·simp only [List.sum_cons]
   refine jD.bind (h1.be e W he) (fun t=>jD.bind (ih.2 W he) (fun _=>jD.pure most _) (fun _=>jw.pure most _) (Nat.le_refl _) (by simp;omega) (Int.le_refl _)) (fun t=>jw.bind ih.1 fun _=>jw.pure most _) ?_ ?_ (by omega)
   ·omega
   ·simp only [Int.zero_add];omega
theorem TM {most:Nat} (h:Nd) {vs:List (aS->Dm Nat)} {k:List Nat} (hv:tZ most vs k) {e:aS} {W:Nat} (he:PL most W e):jD most (W+4 * k.getD 0 0+1) 0 (jM most h vs e)/\jw most 2 (jM most h vs e):=by
 unfold jM
 have fm:∀ (b:Nat) (t:Nat),jw most 0 (fH (dK most (tv b) (tv t) h.fr h.en) fun _=>jG b):=fun b t=>jw.bind (jw.add _ _ _ _ _) fun _=>jw.pure most _
 refine ⟨jD.ite (fun _=>((hv.at 0).be e W he).mono (by omega) (Int.le_refl _)) (fun _=>?_),jw.ite (((hv.at 0).mn e).mono (by omega)) ?_⟩
 ·refine jD.bind (w2:=W+4 * k.getD 0 0) (c2:=-1) (m2:=1) (jD.take most) (fun b=>?_) (fun b=>(jw.bind ((hv.at 0).mn _) fun t=>fm b t)) (by omega) (by omega) (by omega)
  exact jD.bind (w2:=0) (c2:=-2) (m2:=0) ((hv.at 0).be _ W (he.var b)) (fun t=>jD.bind (w2:=0) (c2:=0) (m2:=0) (jD.add _ _ _ _ _) (fun _=>jD.pure most _) (fun _=>jw.pure most _) (by omega) (by omega) (by omega)) (fun t=>fm b t) (by omega) (by omega) (by omega)
 ·exact (jw.bind (jw.take most) fun b=>jw.bind ((hv.at 0).mn _) fun t=>fm b t)
theorem NC {most:Nat} (h:Nd) (ps:To) (hk:1<=h.k/\h.k<=10) {vs:List (aS->Dm Nat)} {k:List Nat} (hv:tZ most vs k):Zk most (1+k.sum) (Eb most h ps vs):=by
 unfold Eb
 refine ⟨fun e=>jw.bind (jw.take most) fun own=>jw.ov _ _,fun e W he=>?_⟩
 have h0:=aaO k
 have h01:=XV k
 refine jD.bind (w2:=W+4 * k.sum+3) (c2:=-1) (m2:=0) (jD.take most) (fun own=>jD.ov _ ?_) (fun own=>jw.ov _ _) (by omega) (by omega) (by omega)
 have fm:∀ (l r:Ty) (fr en:Int),jw most 0 (fH (dK most l r fr en) fun _=>jG own):=fun l r fr en=>jw.bind (jw.add _ _ _ _ _) fun _=>jw.pure most _
 have fb:∀ (l r:Ty) (fr en:Int),jD most 0 (-2) (fH (dK most l r fr en) fun _=>jG own):=fun l r fr en=>jD.bind (w2:=0) (c2:=0) (m2:=0) (jD.add _ _ _ _ _) (fun _=>jD.pure most _) (fun _=>jw.pure most _) (by omega) (by omega) (by omega)
 have fb':∀ (l r:Ty) (fr en:Int),jD most (W+4 * k.sum+3) (-1) (fH (dK most l r fr en) fun _=>jG own):=fun l r fr en=>(fb l r fr en).mono (Nat.zero_le _) (by decide)
 unfold kP
 refine jD.ite (fun _=>fb' _ _ _ _) fun n2=>jD.ite (fun _=>fb' _ _ _ _) fun n3=>jD.ite (fun _=>?_) fun n1=>jD.ite (fun _=>?_) fun n4=>jD.ite (fun _=>?_) fun n67=>?_
 ·have:=EX e h.nm he
  exact jD.bind (w2:=0) (c2:=-2) (m2:=0) this.1 (fun t=>fb _ _ _ _) (fun t=>fm _ _ _ _) (by omega) (by omega) (by omega)
 ·refine jD.bind (w2:=W+4 * k.getD 0 0) (c2:=-2) (m2:=1) (jD.take most) (fun b=>?_) (fun b=>jw.bind ((hv.at 0).mn _) fun t=>fm _ _ _ _) (by omega) (by omega) (by omega)
  exact jD.bind (w2:=0) (c2:=-2) (m2:=0) ((hv.at 0).be _ W (he.var b)) (fun t=>fb _ _ _ _) (fun t=>fm _ _ _ _) (by omega) (by omega) (by omega)
 ·have hkp:=TM h hv he
  refine jD.bind (w2:=W+4 * k.getD 0 0+1+4 * k.getD 1 0) (c2:=-2) (m2:=1) hkp.1 (fun _=>?_) (fun _=>jw.bind ((hv.at 1).mn _) fun t=>fm _ _ _ _) (by omega) (by omega) (by omega)
  exact jD.bind (w2:=0) (c2:=-2) (m2:=0) ((hv.at 1).be _ (W+4 * k.getD 0 0+1) ((he.mono (by omega)).cons hkp.1 hkp.2)) (fun t=>fb _ _ _ _) (fun t=>fm _ _ _ _) (by omega) (by omega) (by omega)
 ·have e5:∀ p:List Nat,jw most 0 (if h.k=5 then fH (dK most (jP p 0) (pO (jP p 1) (tv own)) h.fr h.en) fun _=>jG own
  else if h.k=8 then fH (dK most (jP p 0) (3,0,.nil) (aX ps 0).1 (aX ps 0).2) fun _=>fH (dK most (tv own) (jP p 1) (aX ps 1).1 (aX ps 1).2) fun _=>fH (dK most (tv own) (jP p 2) (aX ps 2).1 (aX ps 2).2) fun _=>jG own
  else if h.k=9 then fH (dK most (tv own) (5,0,oL (p.map tv)) h.fr h.en) fun _=>jG own
  else if h.k=10 then fH (dK most (jP p 0) (h.tk,h.tn,h.tp) (aX ps 0).1 (aX ps 0).2) fun _=>fH (dK most (tv own) (h.tk,h.tn,h.tp) h.fr h.en) fun _=>jG own
  else jG own):=fun p=>jw.ite (fm _ _ _ _) (jw.ite (jw.bind (jw.add _ _ _ _ _) fun _=>jw.bind (jw.add _ _ _ _ _) fun _=>fm _ _ _ _) (jw.ite (fm _ _ _ _) (jw.ite (jw.bind (jw.add _ _ _ _ _) fun _=>fm _ _ _ _) (jw.pure most _))))
  have hm:=tZ.map (e:=e) hv
  refine jD.bind (w2:=0) (c2:=-2) (m2:=0) (hm.2 W he) (fun p=>?_) e5 (by omega) (by omega) (by omega)
  refine jD.ite (fun _=>fb _ _ _ _) fun n5=>jD.ite (fun _=>?_) fun n8=>jD.ite (fun _=>fb _ _ _ _) fun n9=>jD.ite (fun _=>?_) fun n10=>absurd hk (by omega)
  ·exact jD.bind (w2:=0) (c2:=-2) (m2:=0) (jD.add _ _ _ _ _) (fun _=>jD.bind (w2:=0) (c2:=-2) (m2:=0) (jD.add _ _ _ _ _) (fun _=>fb _ _ _ _) (fun _=>fm _ _ _ _) (by omega) (by omega) (by omega)) (fun _=>jw.bind (jw.add _ _ _ _ _) fun _=>fm _ _ _ _) (by omega) (by omega) (by omega)
  ·exact jD.bind (w2:=0) (c2:=-2) (m2:=0) (jD.add _ _ _ _ _) (fun _=>fb _ _ _ _) (fun _=>fm _ _ _ _) (by omega) (by omega) (by omega)
theorem CS {most:Nat}:∀ f:To,WB f->∃ k,tZ most (dD most f) k/\k.sum=f.size
 | .nil,_=>⟨[],.nil,rfl⟩
 | .cons h ps r,⟨a,b,c⟩=>by
  obtain ⟨k1,h1,e1⟩:=CS (most:=most) ps b
  obtain ⟨k2,h2,e2⟩:=CS (most:=most) r c
  refine ⟨(1+k1.sum)::k2,.cons (by omega) (NC h ps ⟨a.1,a.2.1⟩ h1) h2,?_⟩
  rw [List.sum_cons,e1,e2]
  simp only [To.size];omega
theorem PN (most:Nat) (h:Nd) (ps:To) (hk:WB (.cons h ps .nil)):(dP most h ps [] ⟨[],0⟩).2.next<=2 * most+4 * ps.size+6/\(dP most h ps [] ⟨[],0⟩).2.L.length<=most+1:=by
 obtain ⟨k,hv,e⟩:=CS (most:=most) ps hk.2.1
 have h1:=(NC h ps ⟨hk.1.1,hk.1.2.1⟩ hv).be [] 0 (fun x hx=>by cases hx) ⟨[],0⟩ (Nat.zero_le _)
 rw [e] at h1
 show (Eb most h ps (dD most ps) [] ⟨[],0⟩).2.next<=_/\(Eb most h ps (dD most ps) [] ⟨[],0⟩).2.L.length<=_
 generalize (Eb most h ps (dD most ps) [] ⟨[],0⟩).2=q at *
 obtain ⟨_,b,c⟩:=h1
 simp only [List.length_nil] at c
 rcases c with ⟨c1,c⟩ | ⟨c1,c⟩<;>(constructor<;>omega)
def NR {α:Type} (f:Dm α):Prop:=∀ d,d.next<=(f d).2.next
theorem NR.pure {α:Type} (a:α):NR (jG a):=fun _=>Nat.le_refl _
theorem NR.bind {α β:Type} {f:Dm α} {g:α->Dm β} (h:NR f) (k:∀ a,NR (g a)):NR (fH f g):=fun d=>Nat.le_trans (h d) (k _ _)
theorem NR.take:NR kN:=fun _=>Nat.le_succ _
theorem jJ (most:Nat) (l r:Ty) (fr en:Int) (d:Dk):(dK most l r fr en d).2.next=d.next:=by unfold dK;dsimp only;split<;>rfl
theorem NR.add (most:Nat) (l r:Ty) (fr en:Int):NR (dK most l r fr en):=fun d=>by rw [jJ];exact Nat.le_refl _
theorem NR.ov {α:Type} (most:Nat) (x:α) {f:Dm α} (h:NR f):NR (uQ most x f):=fun d=>by
 unfold uQ;split
 ·exact Nat.le_refl _
 ·exact h d
theorem NR.ite {α:Type} {c:Prop} [Decidable c] {f g:Dm α} (h1:NR f) (h2:NR g):NR (if c then f else g):=by
 by_cases hc:c
 ·rw [if_pos hc];exact h1
 ·rw [if_neg hc];exact h2
def TN (e:aS):Prop:=∀ x∈e,NR x.2
theorem TN.cons {e:aS} (h:TN e) {s:ByteArray} {f:Dm Nat} (hf:NR f):TN ((s,f)::e):=fun x hx=>by
 rcases List.mem_cons.1 hx with rfl | hx
 ·exact hf
 ·exact h x hx
theorem I9:∀ (e:aS) (s:ByteArray),TN e->NR (jU e s)
 | [],_,_=>NR.pure _
 | x::r,s,h=>by
  unfold jU
  exact NR.ite (h x (by simp)) (I9 r s (fun y hy=>h y (by simp [hy])))
def Zl (u:aS->Dm Nat):Prop:=∀ e,TN e->NR (u e)
theorem Gx {us:List (aS->Dm Nat)} (h:∀ u∈us,Zl u) (i:Nat) {e:aS} (he:TN e):NR (dat us i e):=by
 unfold dat
 rw [List.getD_eq_getElem?_getD]
 cases hi:us[i]? with
 | none=>exact NR.pure _
 | some u=>exact h u (List.mem_of_getElem? hi) e he
theorem uD {e:aS} (he:TN e):∀ {us:List (aS->Dm Nat)},(∀ u∈us,Zl u)->NR (dmap e us)
 | [],_=>NR.pure _
 | u::r,h=>NR.bind (h u (by simp) e he) fun _=>NR.bind (uD he (fun x hx=>h x (by simp [hx]))) fun _=>NR.pure _
theorem CU (most:Nat) (h:Nd) {us:List (aS->Dm Nat)} (hv:∀ u∈us,Zl u) {e:aS} (he:TN e):NR (jM most h us e):=by
 unfold jM
 exact NR.ite (Gx hv 0 he) (NR.bind NR.take fun b=>NR.bind (Gx hv 0 (he.cons (NR.pure b))) fun _=>NR.bind (NR.add _ _ _ _ _) fun _=>NR.pure _)
theorem Ja (most:Nat) (h:Nd) (ps:To) {us:List (aS->Dm Nat)} (hv:∀ u∈us,Zl u) {e:aS} (he:TN e) (own:Nat):NR (kP most h ps us e own):=by
 unfold kP
 have fin:∀ (l r:Ty) (fr en:Int),NR (fH (dK most l r fr en) fun _=>jG own):=fun l r fr en=>NR.bind (NR.add _ _ _ _ _) fun _=>NR.pure _
 refine NR.ite (fin _ _ _ _) (NR.ite (fin _ _ _ _) (NR.ite (NR.bind (I9 e _ he) fun _=>fin _ _ _ _) (NR.ite ?_ (NR.ite ?_ (NR.bind (uD he hv) fun p=>?_)))))
 ·exact NR.bind NR.take fun b=>NR.bind (Gx hv 0 (he.cons (NR.pure b))) fun _=>fin _ _ _ _
 ·exact NR.bind (CU most h hv he) fun _=>NR.bind (Gx hv 1 (he.cons (CU most h hv he))) fun _=>fin _ _ _ _
 ·exact NR.ite (fin _ _ _ _) (NR.ite (NR.bind (NR.add _ _ _ _ _) fun _=>NR.bind (NR.add _ _ _ _ _) fun _=>fin _ _ _ _) (NR.ite (fin _ _ _ _) (NR.ite (NR.bind (NR.add _ _ _ _ _) fun _=>fin _ _ _ _) (NR.pure _))))
theorem WO (most:Nat) (h:Nd) (ps:To) {us:List (aS->Dm Nat)} (hv:∀ u∈us,Zl u):Zl (Eb most h ps us):=fun _ he=>NR.bind NR.take fun own=>NR.ov _ _ (Ja most h ps hv he own)
theorem ng (most:Nat):∀ f:To,∀ u∈dD most f,Zl u
 | .nil,u,hu=>by cases hu
 | .cons h ps r,u,hu=>by
  rcases List.mem_cons.1 hu with rfl | hu
  ·exact WO most h ps (ng most ps)
  ·exact ng most r u hu
end Em
end
section
namespace Em
abbrev nD (m:Nat) (h:Nd) (ps:To):Dk:=(dP m h ps [] ⟨[],0⟩).2
theorem WQ {h : Nd} {ps : To} (h0 : (Sc.ni h ps).2.2 = 0) (m : Nat) :
    ((run m h ps).many=false/\(run m h ps).eqs=(xA h ps [] ⟨[],0⟩).2.L/\(run m h ps).next=(xA h ps [] ⟨[],0⟩).2.next/\(xA h ps [] ⟨[],0⟩).2.L.length<=m/\nD m h ps=(xA h ps [] ⟨[],0⟩).2) ∨
    ((run m h ps).many=true/\m < (xA h ps [] ⟨[],0⟩).2.L.length/\m < (nD m h ps).L.length):=by
 obtain ⟨hg,hn⟩:=IZ (.cons h ps .nil) (Zi h0).1
 rcases (Tv m h ps hg hn).run ⟨[],0,false⟩ ⟨[],0⟩ (Nat.zero_le _) rfl (by intro e he;cases he) rfl rfl (Nat.zero_le _) with ⟨a,_,b,c,d,_,_⟩ | ⟨a,b⟩
 ·left
  have a':(run m h ps).many=false:=a
  have b':(run m h ps).eqs=(xA h ps [] ⟨[],0⟩).2.L:=b
  have c':(run m h ps).next=(xA h ps [] ⟨[],0⟩).2.next:=c
  have d':(run m h ps).eqs.length<=m:=d
  rw [b'] at d'
  rcases (I8 m h ps).run ⟨[],0⟩ (Nat.zero_le _) with ⟨_,e⟩ | ⟨e,_⟩
  ·exact ⟨a',b',c',d',by unfold nD;rw [e]⟩
  ·omega
 ·right
  have a':(run m h ps).many=true:=a
  rcases (I8 m h ps).run ⟨[],0⟩ (Nat.zero_le _) with ⟨e,_⟩ | ⟨_,e⟩
  ·omega
  ·exact ⟨a',b,e⟩
theorem WR {h:Nd} {ps:To} (h0:(Sc.ni h ps).2.2=0) (hz:ps.size<=1000):(300 < (nD 300 h ps).L.length/\300 < (Cn.mV h ps).1)∨((nD 300 h ps).L.length<=300/\(((nD 300 h ps).L.length:Nat):Int)=(Cn.mV h ps).1/\(((nD 300 h ps).next:Nat):Int)=(Cn.jy h ps).1):=by
 rcases WQ h0 300 with ⟨a,b,c,d,e⟩ | ⟨a,b,e⟩
 ·right
  rcases Ny h0 hz with ⟨a',_⟩ | ⟨_,b',_,d',_⟩
  ·have a'':(run ((300:Nat):Int) h ps).many=true:=a'
   rw [a] at a'';cases a''
  ·have b'':(((run ((300:Nat):Int) h ps).eqs.length:Nat):Int)=(Cn.mV h ps).1:=b'
   have d'':(((run ((300:Nat):Int) h ps).next:Nat):Int)=(Cn.jy h ps).1:=d'
   rw [e,<-b'',<-d'',b,c]
   exact ⟨d,rfl,rfl⟩
 ·left
  rcases Ny h0 hz with ⟨_,b'⟩ | ⟨a',_⟩
  ·exact ⟨e,b'⟩
  ·have a'':(run ((300:Nat):Int) h ps).many=false:=a'
   rw [a] at a'';cases a''
theorem TP {h:Nd} {ps:To} (h0:(Sc.ni h ps).2.2=0) {m:Nat} (hm:m<=4000) (hz:ps.size<=1000):(nD m h ps).next<=1000000:=by
 have:=(PN m h ps (Gu _ (Zi h0).1)).1
 unfold nD
 omega
end Em
end
section
open Go.RowKit
namespace Em
abbrev nd0:Nd:=⟨0,⟨#[]⟩,0,0,0,.nil,0,0⟩
inductive Ev
 | nil
 | cons (nm:ByteArray) (v:Nat) (ag:Bool) (h:Nd) (ps:To) (ar r:Ev)
def Ev.length:Ev->Nat
 | .nil=>0
 | .cons _ _ _ _ _ _ r=>r.length+1
def Ev.snoc:Ev->ByteArray->Nat->Bool->Nd->To->Ev->Ev
 | .nil,nm,v,ag,h,ps,ar=>.cons nm v ag h ps ar .nil
 | .cons nm' v' ag' h' ps' XZ r,nm,v,ag,h,ps,ar=>.cons nm' v' ag' h' ps' XZ (r.snoc nm v ag h ps ar)
theorem Ev.zL:∀ (e:Ev) (nm:ByteArray) (v:Nat) (ag:Bool) (h:Nd) (ps:To) (ar:Ev),(e.snoc nm v ag h ps ar).length=e.length+1
 | .nil,_,_,_,_,_,_=>rfl
 | .cons _ _ _ _ _ _ r,_,_,_,_,_,_=>by simp only [Ev.snoc,Ev.length];rw [Ev.zL r]
def kY (most:Nat):Ev->aS
 | .nil=>[]
 | .cons nm v ag h ps ar r=>kY most r++[(nm,if ag then jM most h (dD most ps) (kY most ar) else jG v)]
theorem CV (most:Nat):∀ (e:Ev) (nm:ByteArray) (v:Nat) (ag:Bool) (h:Nd) (ps:To) (ar:Ev),kY most (e.snoc nm v ag h ps ar)=(nm,if ag then jM most h (dD most ps) (kY most ar) else jG v)::kY most e
 | .nil,_,_,_,_,_,_=>rfl
 | .cons _ _ _ _ _ _ r,_,_,_,_,_,_=>by simp only [Ev.snoc,kY];rw [CV most r];rfl
abbrev eY (nm:ByteArray) (v:Int) (ag:Bool) (h:Nd) (o1:Option Addr) (l1 c1:Nat) (o2:Option Addr) (l2 c2:Nat) (ao:Option Addr) (an ac:Nat):Array Value :=
 #[.string nm,.int .i64 v,.bool ag,.int .i64 h.k,.string h.nm,.int .i64 h.n,.int .i64 h.tk,.int .i64 h.tn,.slice o1 l1 c1,.slice o2 l2 c2,.int .i64 h.fr,.int .i64 h.en,.slice ao an ac]
def qh (w:World) (b off:Nat) (nm:ByteArray) (v:Int) (ag:Bool) (h:Nd) (o1:Option Addr) (l1 c1:Nat) (o2:Option Addr) (l2 c2:Nat) (ao:Option Addr) (an ac:Nat):Prop :=
 w.cell? ⟨b,off,none⟩=some (.string nm)/\w.cell? ⟨b,off+1,none⟩=some (.int .i64 v)/\w.cell? ⟨b,off+2,none⟩=some (.bool ag)/\w.cell? ⟨b,off+3,none⟩=some (.int .i64 h.k)/\w.cell? ⟨b,off+4,none⟩=some (.string h.nm)/\w.cell? ⟨b,off+5,none⟩=some (.int .i64 h.n)/\w.cell? ⟨b,off+6,none⟩=some (.int .i64 h.tk)/\w.cell? ⟨b,off+7,none⟩=some (.int .i64 h.tn)/\w.cell? ⟨b,off+8,none⟩=some (.slice o1 l1 c1)/\w.cell? ⟨b,off+9,none⟩=some (.slice o2 l2 c2)/\w.cell? ⟨b,off+10,none⟩=some (.int .i64 h.fr)/\w.cell? ⟨b,off+11,none⟩=some (.int .i64 h.en)/\w.cell? ⟨b,off+12,none⟩=some (.slice ao an ac)
theorem qh.fr {S:Nat->Prop} {w w':World} {b off:Nat} {nm:ByteArray} {v:Int} {ag:Bool} {h:Nd} {o1:Option Addr} {l1 c1:Nat} {o2:Option Addr} {l2 c2:Nat} {ao:Option Addr} {an ac:Nat} (hc:qh w b off nm v ag h o1 l1 c1 o2 l2 c2 ao an ac) (hf:Fr S w w') (hs:¬ S b):qh w' b off nm v ag h o1 l1 c1 o2 l2 c2 ao an ac:=by
 obtain ⟨a0,a1,a2,a3,a4,a5,a6,a7,a8,a9,a10,a11,a12⟩:=hc
 have hb:=World.block_lt_of_cell? w _ a0
 exact ⟨(hf.bG hb hs).trans a0,(hf.bG hb hs).trans a1,(hf.bG hb hs).trans a2,(hf.bG hb hs).trans a3,(hf.bG hb hs).trans a4,(hf.bG hb hs).trans a5,(hf.bG hb hs).trans a6,(hf.bG hb hs).trans a7,(hf.bG hb hs).trans a8,(hf.bG hb hs).trans a9,(hf.bG hb hs).trans a10,(hf.bG hb hs).trans a11,(hf.bG hb hs).trans a12⟩
theorem qh.lt {w:World} {b off:Nat} {nm:ByteArray} {v:Int} {ag:Bool} {h:Nd} {o1:Option Addr} {l1 c1:Nat} {o2:Option Addr} {l2 c2:Nat} {ao:Option Addr} {an ac:Nat} (hc:qh w b off nm v ag h o1 l1 c1 o2 l2 c2 ao an ac):b < w.heap.size:=World.block_lt_of_cell? w _ hc.1
def rZ (R:Nat->Prop) (w:World):Nat->Nat->Ev->Prop
 | _,_,.nil=>True
 | b,off,.cons nm v ag h ps ar r=>R b/\(∃ o1 l1 c1 o2 l2 c2 ao an ac,qh w b off nm v ag h o1 l1 c1 o2 l2 c2 ao an ac/\aC R w o1 l1 h.tp/\aY R w o2 l2 ps/\an=ar.length/\an<=1000000/\an<=ac/\(0 < an->∃ b' off',ao=some ⟨b',off',none⟩/\rZ R w b' off' ar))/\rZ R w b (off+13) r
def EvS (R:Nat->Prop) (w:World) (o:Option Addr) (n:Nat) (e:Ev):Prop:=n=e.length/\n<=1000000/\(0 < n->∃ b off,o=some ⟨b,off,none⟩/\rZ R w b off e)
theorem EvS.nil (R:Nat->Prop) (w:World) (o:Option Addr):EvS R w o 0 .nil:=⟨rfl,Nat.zero_le _,fun h=>absurd h (Nat.lt_irrefl _)⟩
theorem rZ.fr {R T S:Nat->Prop} {w w':World} (hf:Fr S w w') (hR:∀ k,k < w.heap.size->R k->T k/\¬ S k):∀ (e:Ev) (b off:Nat),rZ R w b off e->rZ T w' b off e
 | .nil,_,_,_=>trivial
 | .cons nm v ag h ps ar r,b,off,ht=>by
  obtain ⟨h0,⟨o1,l1,c1,o2,l2,c2,ao,an,ac,hc,hs,ht,e1,e2,e2',e3⟩,h6⟩:=ht
  obtain ⟨hT,hS⟩:=hR b hc.lt h0
  refine ⟨hT,⟨o1,l1,c1,o2,l2,c2,ao,an,ac,hc.fr hf hS,hs.fr hf hR,ht.fr hf hR,e1,e2,e2',fun hl=>?_⟩,rZ.fr hf hR r b (off+13) h6⟩
  obtain ⟨b',off',ho,ha⟩:=e3 hl
  exact ⟨b',off',ho,rZ.fr hf hR ar b' off' ha⟩
theorem EvS.fr {R T S:Nat->Prop} {w w':World} {o:Option Addr} {n:Nat} {e:Ev} (h:EvS R w o n e) (hf:Fr S w w') (hR:∀ k,k < w.heap.size->R k->T k/\¬ S k):EvS T w' o n e:=by
 refine ⟨h.1,h.2.1,fun hl=>?_⟩
 obtain ⟨b,off,ho,ha⟩:=h.2.2 hl
 exact ⟨b,off,ho,rZ.fr hf hR e b off ha⟩
def Ev.drop:Ev->Nat->Ev
 | e,0=>e
 | .nil,_+1=>.nil
 | .cons _ _ _ _ _ _ r,i+1=>r.drop i
theorem rZ.nth {R : Nat -> Prop} {w : World} : ∀ (e : Ev) (b off i : Nat), rZ R w b off e -> i < e.length -> ∃ nm v ag h ps ar o1 l1 c1 o2 l2 c2 ao an ac, e.drop i = .cons nm v ag h ps ar (e.drop (i + 1)) /\
    qh w b (off+i * 13) nm v ag h o1 l1 c1 o2 l2 c2 ao an ac/\aC R w o1 l1 h.tp/\aY R w o2 l2 ps/\EvS R w ao an ar/\an<=ac/\R b
 | .nil,_,_,_,_,h=>by simp [Ev.length] at h
 | .cons nm v ag h ps ar r,b,off,0,ht,_=>by
  obtain ⟨h0,⟨o1,l1,c1,o2,l2,c2,ao,an,ac,hc,hs,ht,e1,e2,e2',e3⟩,h6⟩:=ht
  exact ⟨nm,v,ag,h,ps,ar,o1,l1,c1,o2,l2,c2,ao,an,ac,by cases r<;>rfl,by simpa using hc,hs,ht,⟨e1,e2,e3⟩,e2',h0⟩
 | .cons nm v ag h ps ar r,b,off,i+1,ht,hi=>by
  obtain ⟨_,_,h6⟩:=ht
  obtain ⟨nm',v',ag',h',ps',XZ,o1,l1,c1,o2,l2,c2,ao,an,ac,k1,k2,k3⟩:=rZ.nth r b (off+13) i h6 (by simp [Ev.length] at hi;omega)
  refine ⟨nm',v',ag',h',ps',XZ,o1,l1,c1,o2,l2,c2,ao,an,ac,k1,?_,k3⟩
  rw [show off+(i+1) * 13=off+13+i * 13 from by omega];exact k2
theorem EvS.nth {R : Nat -> Prop} {w : World} {o : Option Addr} {n : Nat} {e : Ev} (h : EvS R w o n e) {i : Nat} (hi : i < n) : ∃ b off nm v ag h ps ar o1 l1 c1 o2 l2 c2 ao an ac, o = some ⟨b, off, none⟩ /\ e.drop i = .cons nm v ag h ps ar (e.drop (i + 1)) /\
    qh w b (off+i * 13) nm v ag h o1 l1 c1 o2 l2 c2 ao an ac/\aC R w o1 l1 h.tp/\aY R w o2 l2 ps/\EvS R w ao an ar/\an<=ac/\R b:=by
 obtain ⟨b,off,rfl,ha⟩:=h.2.2 (by omega)
 obtain ⟨nm,v,ag,h',ps,ar,o1,l1,c1,o2,l2,c2,ao,an,ac,k⟩:=rZ.nth e b off i ha (by have:=h.1;omega)
 exact ⟨b,off,nm,v,ag,h',ps,ar,o1,l1,c1,o2,l2,c2,ao,an,ac,rfl,k⟩
def oM (R:Nat->Prop) (w:World):List Value->Ev->Prop
 | xs,.nil=>xs=[]
 | xs,.cons nm v ag h ps ar r=>∃ o1 l1 c1 o2 l2 c2 ao an ac ys,xs=(eY nm v ag h o1 l1 c1 o2 l2 c2 ao an ac).toList++ys/\aC R w o1 l1 h.tp/\aY R w o2 l2 ps/\EvS R w ao an ar/\an<=ac/\oM R w ys r
theorem oM.fr {R T S:Nat->Prop} {w w':World} (hf:Fr S w w') (hR:∀ k,k < w.heap.size->R k->T k/\¬ S k):∀ (e:Ev) (xs:List Value),oM R w xs e->oM T w' xs e
 | .nil,_,h=>h
 | .cons nm v ag h ps ar r,xs,ht=>by
  obtain ⟨o1,l1,c1,o2,l2,c2,ao,an,ac,ys,rfl,hs,ht,he,hl,hr⟩:=ht
  exact ⟨o1,l1,c1,o2,l2,c2,ao,an,ac,ys,rfl,hs.fr hf hR,ht.fr hf hR,he.fr hf hR,hl,oM.fr hf hR r ys hr⟩
theorem oM.snoc {R:Nat->Prop} {w:World} {nm:ByteArray} {v:Nat} {ag:Bool} {h:Nd} {ps:To} {ar:Ev} {o1:Option Addr} {l1 c1:Nat} {o2:Option Addr} {l2 c2:Nat} {ao:Option Addr} {an ac:Nat} (hs:aC R w o1 l1 h.tp) (ht:aY R w o2 l2 ps) (he:EvS R w ao an ar) (hl:an<=ac):∀ (e:Ev) (xs:List Value),oM R w xs e->oM R w (xs++(eY nm v ag h o1 l1 c1 o2 l2 c2 ao an ac).toList) (e.snoc nm v ag h ps ar)
 | .nil,xs,e=>by
  cases e
  exact ⟨o1,l1,c1,o2,l2,c2,ao,an,ac,[],by simp,hs,ht,he,hl,rfl⟩
 | .cons nm' v' ag' h' ps' XZ r,xs,e=>by
  obtain ⟨p1,m1,d1,p2,m2,d2,po,pn,pc,ys,rfl,q1,q2,q3,q4,hr⟩:=e
  exact ⟨p1,m1,d1,p2,m2,d2,po,pn,pc,_,by rw [List.append_assoc],q1,q2,q3,q4,oM.snoc hs ht he hl r ys hr⟩
theorem oM.at {R:Nat->Prop} {w:World} {g:Nat} (hg:R g):∀ (e:Ev) (xs:List Value) (off:Nat),oM R w xs e->(∀ j u,xs[j]?=some u->w.cell? ⟨g,off+j,none⟩=some u)->rZ R w g off e
 | .nil,_,_,_,_=>trivial
 | .cons nm v ag h ps ar r,xs,off,e,hc=>by
  obtain ⟨o1,l1,c1,o2,l2,c2,ao,an,ac,ys,rfl,hs,ht,he,hl,hr⟩:=e
  refine ⟨hg,⟨o1,l1,c1,o2,l2,c2,ao,an,ac,⟨hc 0 _ rfl,hc 1 _ rfl,hc 2 _ rfl,hc 3 _ rfl,hc 4 _ rfl,hc 5 _ rfl,hc 6 _ rfl,hc 7 _ rfl,hc 8 _ rfl,hc 9 _ rfl,hc 10 _ rfl,hc 11 _ rfl,hc 12 _ rfl⟩,hs,ht,he.1,he.2.1,hl,he.2.2⟩,oM.at hg r ys (off+13) hr ?_⟩
  intro j u hj
  have:=hc (j+13) u (by simpa using hj)
  rw [<-this];congr 2;omega
theorem rZ.row {R:Nat->Prop} {w:World}:∀ (e:Ev) (b off:Nat),rZ R w b off e->∃ xs,oM R w xs e/\∀ j u,xs[j]?=some u->w.cell? ⟨b,off+j,none⟩=some u
 | .nil,_,_,_=>⟨[],rfl,fun j u h=>by simp at h⟩
 | .cons nm v ag h ps ar r,b,off,ht=>by
  obtain ⟨h0,⟨o1,l1,c1,o2,l2,c2,ao,an,ac,hc,hs,ht,e1,e2,e2',e3⟩,h6⟩:=ht
  obtain ⟨ys,hr,hy⟩:=rZ.row r b (off+13) h6
  refine ⟨(eY nm v ag h o1 l1 c1 o2 l2 c2 ao an ac).toList++ys,⟨o1,l1,c1,o2,l2,c2,ao,an,ac,ys,rfl,hs,ht,⟨e1,e2,e3⟩,e2',hr⟩,fun j u hj=>?_⟩
  by_cases h13:j < 13
  ·obtain ⟨a0,a1,a2,a3,a4,a5,a6,a7,a8,a9,a10,a11,a12⟩:=hc
   rw [List.getElem?_append_left (by simpa using h13)] at hj
   match j,h13,hj with
   | 0,_,hj=>simp at hj;subst hj;exact a0
   | 1,_,hj=>simp at hj;subst hj;exact a1
   | 2,_,hj=>simp at hj;subst hj;exact a2
   | 3,_,hj=>simp at hj;subst hj;exact a3
   | 4,_,hj=>simp at hj;subst hj;exact a4
   | 5,_,hj=>simp at hj;subst hj;exact a5
   | 6,_,hj=>simp at hj;subst hj;exact a6
   | 7,_,hj=>simp at hj;subst hj;exact a7
   | 8,_,hj=>simp at hj;subst hj;exact a8
   | 9,_,hj=>simp at hj;subst hj;exact a9
   | 10,_,hj=>simp at hj;subst hj;exact a10
   | 11,_,hj=>simp at hj;subst hj;exact a11
   | 12,_,hj=>simp at hj;subst hj;exact a12
  ·have:=hy (j - 13) u (by rw [List.getElem?_append_right (by simp;omega)] at hj;simpa using hj)
   rw [<-this];congr 2;omega
theorem oM.length {R:Nat->Prop} {w:World}:∀ (e:Ev) (xs:List Value),oM R w xs e->xs.length=e.length * 13/\∀ u∈xs,u.oneCell'=true
 | .nil,xs,h=>by cases h;exact ⟨rfl,fun u hu=>by cases hu⟩
 | .cons nm v ag h ps ar r,xs,ht=>by
  obtain ⟨o1,l1,c1,o2,l2,c2,ao,an,ac,ys,rfl,hs,ht,he,hl,hr⟩:=ht
  obtain ⟨k1,k2⟩:=oM.length r ys hr
  refine ⟨by simp [Ev.length];omega,fun u hu=>?_⟩
  rcases List.mem_append.1 hu with hu | hu
  ·simp at hu
   rcases hu with rfl | rfl | rfl | rfl | rfl | rfl | rfl | rfl | rfl | rfl | rfl | rfl | rfl<;>rfl
  ·exact k2 u hu
end Em
end
section
namespace HT
section
variable {P:Program} {md:Region.Mode} {ops:Array Oper} {Q:Exit->Act->World->Prop} {S S':World->Prop} {L:Nat}
def bD (P:Program) (md:Region.Mode) (ops:Array Oper) (Q:Exit->Act->World->Prop) (S:World->Prop) (L:Nat):Nat->Array Bool->Act->World->Prop
 | 0,listed,a,w=>Region.ready md ops listed=[]/\Q .normal a w
 | fuel+1,listed,a,w =>
  (Region.ready md ops listed=[]->Q .normal a w) /\
  ∀ i∈Region.ready md ops listed,wpOp P ops Q i (fun a' w'=>(i≠L->S w')/\bD P md ops Q S L fuel (listed.setIfInBounds i true) a' w') a w
theorem CW:∀ (fuel:Nat) (listed:Array Bool) (a:Act) (w:World),bD P md ops Q S L fuel listed a w->wpAny P md ops Q fuel listed a w
 | 0,_,_,_,h=>h
 | fuel+1,_,_,_,h=>⟨h.1,fun i hi=>wpOp_mono (fun a' w' h'=>CW fuel _ a' w' h'.2) (h.2 i hi)⟩
def waits (md:Region.Mode) (ops:Array Oper) (L i:Nat):Bool:=(ops[L]?).any fun o=>o.after.any fun e=>Region.binds md e && e.on == i
theorem first {i : Nat} {oi : Oper} {v : Value} (hi : ops[i]? = some oi) (hsel : ∀ (j : Nat) (o : Oper) cs b, ops[j]? = some o -> o.op ≠ .select cs b)
    (hQ:∀ c a w,Q (.panic c) (a.put oi.dst v) w->Q (.panic c) a w) (hL:waits md ops L i=true) :
    ∀ (fuel:Nat) (listed:Array Bool) (a:Act) (w:World),
     (∀ j oj,ops[j]?=some oj->j≠i->listed.getD j true=false->(∀ e∈oj.after,Region.binds md e=true->e.on≠i)->oi.apart ops oj=true) ->
     i∈Region.ready md ops listed->YieldsIf P ops S oi v a->S w ->
     bD P md ops Q S L fuel (listed.setIfInBounds i true) (a.put oi.dst v) w->bD P md ops Q S L (fuel+1) listed a w:=by
 intro fuel
 induction fuel with
 | zero =>
  intro listed a w _ hr hy hS H
  refine ⟨fun h=>(by rw [h] at hr;cases hr),fun j hj=>?_⟩
  by_cases hji:j=i
  ·subst hji;exact hy.wpOp hi hS ⟨fun _=>hS,H⟩
  ·have:=ready_mono hj hji
   rw [H.1] at this
   cases this
 | succ fuel ih =>
  intro listed a w hfree hr hy hS H
  refine ⟨fun h=>(by rw [h] at hr;cases hr),fun j hj=>?_⟩
  by_cases hji:j=i
  ·subst hji;exact hy.wpOp hi hS ⟨fun _=>hS,H⟩
  ·have h1:=H.2 j (ready_mono hj hji)
   obtain ⟨hjun,oj,hoj,hall⟩:=mem_ready.1 hj
   have hnot:∀ e∈oj.after,Region.binds md e=true->e.on≠i:=fun e he hb heq=>by
    have h1:=hall e he hb
    have h0:=(mem_ready.1 hr).1
    rw [heq] at h1
    rcases Nat.lt_or_ge i listed.size with h' | h'
    ·simp [h'] at h0 h1;rw [h0] at h1;cases h1
    ·simp [Array.getElem?_eq_none h'] at h1
   have hjL:j≠L:=fun e=>by
    subst e
    unfold waits at hL
    rw [hoj] at hL
    simp only [Option.any_some,Array.any_eq_true',Bool.and_eq_true,beq_iff_eq] at hL
    obtain ⟨e,he,hb,ho⟩:=hL
    exact hnot e he hb ho
   have h2:=wpOp_putIf hoj (hfree j oj hoj hji hjun hnot) (fun cs b=>hsel i oi cs b hi) (fun cs b=>hsel j oj cs b hoj) hQ hy h1
   have hfree' : ∀ k ok, ops[k]? = some ok -> k ≠ i -> (listed.setIfInBounds j true).getD k true = false ->
       (∀ e∈ok.after,Region.binds md e=true->e.on≠i)->oi.apart ops ok=true:=fun k ok hk hki hun hno=>by
    refine hfree k ok hk hki ?_ hno
    by_cases hjk:j=k
    ·subst hjk;exact hjun
    ·rw [getD_set_ne true hjk] at hun;exact hun
   refine wpOp_mono (fun a' w' h3=>⟨fun _=>h3.2.1 hjL,ih (listed.setIfInBounds j true) a' w' hfree' (ready_mono hr (Ne.symm hji)) h3.1 (h3.2.1 hjL) ?_⟩) h2
   rw [Array.setIfInBounds_comm _ _ hji]
   exact h3.2.2
theorem take {i : Nat} {oi : Oper} {v : Value} {fuel : Nat} {listed : Array Bool} {a : Act} {w : World} (hi : ops[i]? = some oi)
    (hs:Region.noSelect ops=true) (hf:Region.free md ops listed i=true) (hr:(Region.ready md ops listed).contains i=true) (hL:waits md ops L i=true)
    (hQ:∀ c a w,Q (.panic c) (a.put oi.dst v) w->Q (.panic c) a w) (hy:YieldsIf P ops S oi v a) (hS:S w)
    (h:bD P md ops Q S L fuel (listed.setIfInBounds i true) (a.put oi.dst v) w):bD P md ops Q S L (fuel+1) listed a w :=
 first hi (Region.noSelect_spec hs) hQ hL fuel listed a w (Region.free_spec hi hf) (by simpa using hr) hy hS h
theorem last {oi : Oper} {fuel : Nat} {listed : Array Bool} {a : Act} {w : World} (hi : ops[L]? = some oi) (hr : Region.ready md ops listed = [L])
    (h:∀ K':Act->World->Prop,Shut (∀ a w,bD P md ops Q S L fuel (listed.setIfInBounds L true) a w->K' a w)->if Region.wanted oi (yielded ops a.tmps)=true then Oper.wp P oi a w K' Q else K' (a.put oi.dst undef) w) :
    bD P md ops Q S L (fuel+1) listed a w :=
 ⟨fun h0=>(by rw [hr] at h0;cases h0),fun j hj=>by
  rw [hr] at hj
  obtain rfl:=List.mem_singleton.1 hj
  exact wpOp_step hi (fun K' hK=>h K' (fun a w hW=>hK a w ⟨fun e=>absurd rfl e,hW⟩))⟩
theorem done {listed:Array Bool} {a:Act} {w:World} (hr:Region.ready md ops listed=[]) (h:Q .normal a w):∀ fuel,bD P md ops Q S L fuel listed a w
 | 0=>⟨hr,h⟩
 | _+1=>⟨fun _=>h,by rw [hr];simp⟩
theorem begin_ (L : Nat) {id : Nat} {a : Act} {w : World} (hm : P.follows .mixedOrders = true) (hS : S w.drew)
    (h:S w.drew->bD P .any ops Q S L ops.size (Array.replicate ops.size false) a w.drew):(Code.region id ops true).wp P Q a w :=
 wp_region_any hm (CW _ _ _ _ (h hS))
theorem tk (i : Nat) {oi : Oper} {v : Value} {fuel : Nat} {listed : Array Bool} {a : Act} {w : World} (hi : ops[i]? = some oi) (h : bD P md ops Q S L fuel (listed.setIfInBounds i true) (a.put oi.dst v) w)
    (hw:Region.wanted oi (yielded ops a.tmps)=true:=by rfl) (hy:∀ w,S w->(execOp a.eval oi).run P w=.ok (.value v) w:=by (intro w hSw;(try dsimp only at hSw);go_simp<;>with_reducible rfl)) (hS:S w:=by assumption)
    (hs:Region.noSelect ops=true:=by kernel_rfl) (hf:Region.free md ops listed i=true:=by kernel_rfl) (hr:(Region.ready md ops listed).contains i=true:=by kernel_rfl) (hL:waits md ops L i=true:=by kernel_rfl)
    (hQ:∀ c a w,Q (.panic c) (a.put oi.dst v) w->Q (.panic c) a w:=by exact fun _ _ _ h=>h):bD P md ops Q S L (fuel+1) listed a w :=
 take hi hs hf hr hL hQ (.inl ⟨hw,hy⟩) hS h
def aU (P:Program) (md:Region.Mode) (ops:Array Oper) (Q:Exit->Act->World->Prop) (S:World->Prop) (L fuel:Nat) (listed:Array Bool) (a:Act) (w:World) (rs:List Nat):Prop :=
 ∀ i∈rs,wpOp P ops Q i (fun a' w'=>(i≠L->S w')/\bD P md ops Q S L fuel (listed.setIfInBounds i true) a' w') a w
theorem aU.nil {fuel:Nat} {listed:Array Bool} {a:Act} {w:World}:aU P md ops Q S L fuel listed a w []:=fun _ h=>by cases h
theorem branch {rs:List Nat} {fuel:Nat} {listed:Array Bool} {a:Act} {w:World} (hr:Region.ready md ops listed=rs) (hne:rs≠[]) (h:aU P md ops Q S L fuel listed a w rs):bD P md ops Q S L (fuel+1) listed a w :=
 ⟨fun h0=>absurd (hr ▸ h0) hne,hr ▸ h⟩
theorem TJ {oi : Oper} {r : List Oper} {fuel : Nat} {listed : Array Bool} {a : Act} {w : World} {rs : List Nat}
    (h:∀ K':Act->World->Prop,Shut (∀ a w,S w->(S w->bD P md (oi::r).toArray Q S L fuel (listed.setIfInBounds 0 true) a w)->K' a w)->if Region.wanted oi (yielded (oi::r).toArray a.tmps)=true then Oper.wp P oi a w K' Q else K' (a.put oi.dst undef) w)
    (hs:aU P md (oi::r).toArray Q S L fuel listed a w rs):aU P md (oi::r).toArray Q S L fuel listed a w (0::rs):=fun j hj=>by
 rcases List.mem_cons.1 hj with rfl | hj
 ·exact wpOp_step (o:=oi) rfl (fun K' hK=>h K' (fun a w hS hW=>hK a w ⟨fun _=>hS,hW hS⟩))
 ·exact hs j hj
theorem rU {o0 o1 oi : Oper} {r : List Oper} {fuel : Nat} {listed : Array Bool} {a : Act} {w : World} {rs : List Nat}
    (h:∀ K':Act->World->Prop,Shut (∀ a w,S w->(S w->bD P md (o0::o1::oi::r).toArray Q S L fuel (listed.setIfInBounds 2 true) a w)->K' a w)->if Region.wanted oi (yielded (o0::o1::oi::r).toArray a.tmps)=true then Oper.wp P oi a w K' Q else K' (a.put oi.dst undef) w)
    (hs:aU P md (o0::o1::oi::r).toArray Q S L fuel listed a w rs):aU P md (o0::o1::oi::r).toArray Q S L fuel listed a w (2::rs):=fun j hj=>by
 rcases List.mem_cons.1 hj with rfl | hj
 ·exact wpOp_step (o:=oi) rfl (fun K' hK=>h K' (fun a w hS hW=>hK a w ⟨fun _=>hS,hW hS⟩))
 ·exact hs j hj
theorem Nu {o0 o1 o2 oi : Oper} {r : List Oper} {fuel : Nat} {listed : Array Bool} {a : Act} {w : World} {rs : List Nat}
    (h:∀ K':Act->World->Prop,Shut (∀ a w,S w->(S w->bD P md (o0::o1::o2::oi::r).toArray Q S L fuel (listed.setIfInBounds 3 true) a w)->K' a w)->if Region.wanted oi (yielded (o0::o1::o2::oi::r).toArray a.tmps)=true then Oper.wp P oi a w K' Q else K' (a.put oi.dst undef) w)
    (hs:aU P md (o0::o1::o2::oi::r).toArray Q S L fuel listed a w rs):aU P md (o0::o1::o2::oi::r).toArray Q S L fuel listed a w (3::rs):=fun j hj=>by
 rcases List.mem_cons.1 hj with rfl | hj
 ·exact wpOp_step (o:=oi) rfl (fun K' hK=>h K' (fun a w hS hW=>hK a w ⟨fun _=>hS,hW hS⟩))
 ·exact hs j hj
theorem ET {o0 o1 o2 o3 oi : Oper} {r : List Oper} {fuel : Nat} {listed : Array Bool} {a : Act} {w : World} {rs : List Nat}
    (h:∀ K':Act->World->Prop,Shut (∀ a w,S w->(S w->bD P md (o0::o1::o2::o3::oi::r).toArray Q S L fuel (listed.setIfInBounds 4 true) a w)->K' a w)->if Region.wanted oi (yielded (o0::o1::o2::o3::oi::r).toArray a.tmps)=true then Oper.wp P oi a w K' Q else K' (a.put oi.dst undef) w)
    (hs:aU P md (o0::o1::o2::o3::oi::r).toArray Q S L fuel listed a w rs):aU P md (o0::o1::o2::o3::oi::r).toArray Q S L fuel listed a w (4::rs):=fun j hj=>by
 rcases List.mem_cons.1 hj with rfl | hj
 ·exact wpOp_step (o:=oi) rfl (fun K' hK=>h K' (fun a w hS hW=>hK a w ⟨fun _=>hS,hW hS⟩))
 ·exact hs j hj
theorem CO {o0 o1 o2 o3 o4 oi : Oper} {r : List Oper} {fuel : Nat} {listed : Array Bool} {a : Act} {w : World} {rs : List Nat}
    (h:∀ K':Act->World->Prop,Shut (∀ a w,S w->(S w->bD P md (o0::o1::o2::o3::o4::oi::r).toArray Q S L fuel (listed.setIfInBounds 5 true) a w)->K' a w)->if Region.wanted oi (yielded (o0::o1::o2::o3::o4::oi::r).toArray a.tmps)=true then Oper.wp P oi a w K' Q else K' (a.put oi.dst undef) w)
    (hs:aU P md (o0::o1::o2::o3::o4::oi::r).toArray Q S L fuel listed a w rs):aU P md (o0::o1::o2::o3::o4::oi::r).toArray Q S L fuel listed a w (5::rs):=fun j hj=>by
 rcases List.mem_cons.1 hj with rfl | hj
 ·exact wpOp_step (o:=oi) rfl (fun K' hK=>h K' (fun a w hS hW=>hK a w ⟨fun _=>hS,hW hS⟩))
 ·exact hs j hj
theorem I4 {o0 o1 o2 o3 o4 o5 oi : Oper} {r : List Oper} {fuel : Nat} {listed : Array Bool} {a : Act} {w : World} {rs : List Nat}
    (h:∀ K':Act->World->Prop,Shut (∀ a w,S w->(S w->bD P md (o0::o1::o2::o3::o4::o5::oi::r).toArray Q S L fuel (listed.setIfInBounds 6 true) a w)->K' a w)->if Region.wanted oi (yielded (o0::o1::o2::o3::o4::o5::oi::r).toArray a.tmps)=true then Oper.wp P oi a w K' Q else K' (a.put oi.dst undef) w)
    (hs:aU P md (o0::o1::o2::o3::o4::o5::oi::r).toArray Q S L fuel listed a w rs):aU P md (o0::o1::o2::o3::o4::o5::oi::r).toArray Q S L fuel listed a w (6::rs):=fun j hj=>by
 rcases List.mem_cons.1 hj with rfl | hj
 ·exact wpOp_step (o:=oi) rfl (fun K' hK=>h K' (fun a w hS hW=>hK a w ⟨fun _=>hS,hW hS⟩))
 ·exact hs j hj
theorem jV {o0 o1 o2 o3 o4 o5 o6 oi : Oper} {r : List Oper} {fuel : Nat} {listed : Array Bool} {a : Act} {w : World} {rs : List Nat}
    (h:∀ K':Act->World->Prop,Shut (∀ a w,S w->(S w->bD P md (o0::o1::o2::o3::o4::o5::o6::oi::r).toArray Q S L fuel (listed.setIfInBounds 7 true) a w)->K' a w)->if Region.wanted oi (yielded (o0::o1::o2::o3::o4::o5::o6::oi::r).toArray a.tmps)=true then Oper.wp P oi a w K' Q else K' (a.put oi.dst undef) w)
    (hs:aU P md (o0::o1::o2::o3::o4::o5::o6::oi::r).toArray Q S L fuel listed a w rs):aU P md (o0::o1::o2::o3::o4::o5::o6::oi::r).toArray Q S L fuel listed a w (7::rs):=fun j hj=>by
 rcases List.mem_cons.1 hj with rfl | hj
 ·exact wpOp_step (o:=oi) rfl (fun K' hK=>h K' (fun a w hS hW=>hK a w ⟨fun _=>hS,hW hS⟩))
 ·exact hs j hj
theorem X0 {o0 o1 o2 o3 o4 o5 o6 oi : Oper} {r : List Oper} {fuel : Nat} {listed : Array Bool} {a : Act} {w : World} (hr : Region.ready md (o0 :: o1 :: o2 :: o3 :: o4 :: o5 :: o6 :: oi :: r).toArray listed = [7])
    (h:∀ K':Act->World->Prop,Shut (∀ a w,bD P md (o0::o1::o2::o3::o4::o5::o6::oi::r).toArray Q S 7 fuel (listed.setIfInBounds 7 true) a w->K' a w)->if Region.wanted oi (yielded (o0::o1::o2::o3::o4::o5::o6::oi::r).toArray a.tmps)=true then Oper.wp P oi a w K' Q else K' (a.put oi.dst undef) w) :
    bD P md (o0::o1::o2::o3::o4::o5::o6::oi::r).toArray Q S 7 (fuel+1) listed a w:=last (L:=7) rfl hr h
theorem EU {o0 o1 o2 o3 o4 o5 o6 o7 oi : Oper} {r : List Oper} {fuel : Nat} {listed : Array Bool} {a : Act} {w : World} {rs : List Nat}
    (h:∀ K':Act->World->Prop,Shut (∀ a w,S w->(S w->bD P md (o0::o1::o2::o3::o4::o5::o6::o7::oi::r).toArray Q S L fuel (listed.setIfInBounds 8 true) a w)->K' a w)->if Region.wanted oi (yielded (o0::o1::o2::o3::o4::o5::o6::o7::oi::r).toArray a.tmps)=true then Oper.wp P oi a w K' Q else K' (a.put oi.dst undef) w)
    (hs:aU P md (o0::o1::o2::o3::o4::o5::o6::o7::oi::r).toArray Q S L fuel listed a w rs):aU P md (o0::o1::o2::o3::o4::o5::o6::o7::oi::r).toArray Q S L fuel listed a w (8::rs):=fun j hj=>by
 rcases List.mem_cons.1 hj with rfl | hj
 ·exact wpOp_step (o:=oi) rfl (fun K' hK=>h K' (fun a w hS hW=>hK a w ⟨fun _=>hS,hW hS⟩))
 ·exact hs j hj
theorem xG {o0 o1 o2 o3 o4 o5 o6 o7 oi : Oper} {r : List Oper} {fuel : Nat} {listed : Array Bool} {a : Act} {w : World} (hr : Region.ready md (o0 :: o1 :: o2 :: o3 :: o4 :: o5 :: o6 :: o7 :: oi :: r).toArray listed = [8])
    (h:∀ K':Act->World->Prop,Shut (∀ a w,bD P md (o0::o1::o2::o3::o4::o5::o6::o7::oi::r).toArray Q S 8 fuel (listed.setIfInBounds 8 true) a w->K' a w)->if Region.wanted oi (yielded (o0::o1::o2::o3::o4::o5::o6::o7::oi::r).toArray a.tmps)=true then Oper.wp P oi a w K' Q else K' (a.put oi.dst undef) w) :
    bD P md (o0::o1::o2::o3::o4::o5::o6::o7::oi::r).toArray Q S 8 (fuel+1) listed a w:=last (L:=8) rfl hr h
theorem EW {o0 o1 o2 o3 o4 o5 o6 o7 o8 oi : Oper} {r : List Oper} {fuel : Nat} {listed : Array Bool} {a : Act} {w : World} {rs : List Nat}
    (h:∀ K':Act->World->Prop,Shut (∀ a w,S w->(S w->bD P md (o0::o1::o2::o3::o4::o5::o6::o7::o8::oi::r).toArray Q S L fuel (listed.setIfInBounds 9 true) a w)->K' a w)->if Region.wanted oi (yielded (o0::o1::o2::o3::o4::o5::o6::o7::o8::oi::r).toArray a.tmps)=true then Oper.wp P oi a w K' Q else K' (a.put oi.dst undef) w)
    (hs:aU P md (o0::o1::o2::o3::o4::o5::o6::o7::o8::oi::r).toArray Q S L fuel listed a w rs):aU P md (o0::o1::o2::o3::o4::o5::o6::o7::o8::oi::r).toArray Q S L fuel listed a w (9::rs):=fun j hj=>by
 rcases List.mem_cons.1 hj with rfl | hj
 ·exact wpOp_step (o:=oi) rfl (fun K' hK=>h K' (fun a w hS hW=>hK a w ⟨fun _=>hS,hW hS⟩))
 ·exact hs j hj
theorem aaR {o0 o1 o2 o3 o4 o5 o6 o7 o8 oi : Oper} {r : List Oper} {fuel : Nat} {listed : Array Bool} {a : Act} {w : World} (hr : Region.ready md (o0 :: o1 :: o2 :: o3 :: o4 :: o5 :: o6 :: o7 :: o8 :: oi :: r).toArray listed = [9])
    (h:∀ K':Act->World->Prop,Shut (∀ a w,bD P md (o0::o1::o2::o3::o4::o5::o6::o7::o8::oi::r).toArray Q S 9 fuel (listed.setIfInBounds 9 true) a w->K' a w)->if Region.wanted oi (yielded (o0::o1::o2::o3::o4::o5::o6::o7::o8::oi::r).toArray a.tmps)=true then Oper.wp P oi a w K' Q else K' (a.put oi.dst undef) w) :
    bD P md (o0::o1::o2::o3::o4::o5::o6::o7::o8::oi::r).toArray Q S 9 (fuel+1) listed a w:=last (L:=9) rfl hr h
theorem KW {o0 o1 o2 o3 o4 o5 o6 o7 o8 o9 oi : Oper} {r : List Oper} {fuel : Nat} {listed : Array Bool} {a : Act} {w : World} {rs : List Nat}
    (h:∀ K':Act->World->Prop,Shut (∀ a w,S w->(S w->bD P md (o0::o1::o2::o3::o4::o5::o6::o7::o8::o9::oi::r).toArray Q S L fuel (listed.setIfInBounds 10 true) a w)->K' a w)->if Region.wanted oi (yielded (o0::o1::o2::o3::o4::o5::o6::o7::o8::o9::oi::r).toArray a.tmps)=true then Oper.wp P oi a w K' Q else K' (a.put oi.dst undef) w)
    (hs:aU P md (o0::o1::o2::o3::o4::o5::o6::o7::o8::o9::oi::r).toArray Q S L fuel listed a w rs):aU P md (o0::o1::o2::o3::o4::o5::o6::o7::o8::o9::oi::r).toArray Q S L fuel listed a w (10::rs):=fun j hj=>by
 rcases List.mem_cons.1 hj with rfl | hj
 ·exact wpOp_step (o:=oi) rfl (fun K' hK=>h K' (fun a w hS hW=>hK a w ⟨fun _=>hS,hW hS⟩))
 ·exact hs j hj
theorem Zm {o0 o1 o2 o3 o4 o5 o6 o7 o8 o9 oi : Oper} {r : List Oper} {fuel : Nat} {listed : Array Bool} {a : Act} {w : World} (hr : Region.ready md (o0 :: o1 :: o2 :: o3 :: o4 :: o5 :: o6 :: o7 :: o8 :: o9 :: oi :: r).toArray listed = [10])
    (h:∀ K':Act->World->Prop,Shut (∀ a w,bD P md (o0::o1::o2::o3::o4::o5::o6::o7::o8::o9::oi::r).toArray Q S 10 fuel (listed.setIfInBounds 10 true) a w->K' a w)->if Region.wanted oi (yielded (o0::o1::o2::o3::o4::o5::o6::o7::o8::o9::oi::r).toArray a.tmps)=true then Oper.wp P oi a w K' Q else K' (a.put oi.dst undef) w) :
    bD P md (o0::o1::o2::o3::o4::o5::o6::o7::o8::o9::oi::r).toArray Q S 10 (fuel+1) listed a w:=last (L:=10) rfl hr h
theorem Gv {o0 o1 o2 o3 o4 o5 o6 o7 o8 o9 jo oi : Oper} {r : List Oper} {fuel : Nat} {listed : Array Bool} {a : Act} {w : World} {rs : List Nat}
    (h:∀ K':Act->World->Prop,Shut (∀ a w,S w->(S w->bD P md (o0::o1::o2::o3::o4::o5::o6::o7::o8::o9::jo::oi::r).toArray Q S L fuel (listed.setIfInBounds 11 true) a w)->K' a w)->if Region.wanted oi (yielded (o0::o1::o2::o3::o4::o5::o6::o7::o8::o9::jo::oi::r).toArray a.tmps)=true then Oper.wp P oi a w K' Q else K' (a.put oi.dst undef) w)
    (hs:aU P md (o0::o1::o2::o3::o4::o5::o6::o7::o8::o9::jo::oi::r).toArray Q S L fuel listed a w rs):aU P md (o0::o1::o2::o3::o4::o5::o6::o7::o8::o9::jo::oi::r).toArray Q S L fuel listed a w (11::rs):=fun j hj=>by
 rcases List.mem_cons.1 hj with rfl | hj
 ·exact wpOp_step (o:=oi) rfl (fun K' hK=>h K' (fun a w hS hW=>hK a w ⟨fun _=>hS,hW hS⟩))
 ·exact hs j hj
theorem CX {o0 o1 o2 o3 o4 o5 o6 o7 o8 o9 jo oi : Oper} {r : List Oper} {fuel : Nat} {listed : Array Bool} {a : Act} {w : World} (hr : Region.ready md (o0 :: o1 :: o2 :: o3 :: o4 :: o5 :: o6 :: o7 :: o8 :: o9 :: jo :: oi :: r).toArray listed = [11])
    (h:∀ K':Act->World->Prop,Shut (∀ a w,bD P md (o0::o1::o2::o3::o4::o5::o6::o7::o8::o9::jo::oi::r).toArray Q S 11 fuel (listed.setIfInBounds 11 true) a w->K' a w)->if Region.wanted oi (yielded (o0::o1::o2::o3::o4::o5::o6::o7::o8::o9::jo::oi::r).toArray a.tmps)=true then Oper.wp P oi a w K' Q else K' (a.put oi.dst undef) w) :
    bD P md (o0::o1::o2::o3::o4::o5::o6::o7::o8::o9::jo::oi::r).toArray Q S 11 (fuel+1) listed a w:=last (L:=11) rfl hr h
theorem tY {o0 o1 o2 o3 o4 o5 o6 o7 o8 o9 jo lH oi : Oper} {r : List Oper} {fuel : Nat} {listed : Array Bool} {a : Act} {w : World} {rs : List Nat}
    (h:∀ K':Act->World->Prop,Shut (∀ a w,S w->(S w->bD P md (o0::o1::o2::o3::o4::o5::o6::o7::o8::o9::jo::lH::oi::r).toArray Q S L fuel (listed.setIfInBounds 12 true) a w)->K' a w)->if Region.wanted oi (yielded (o0::o1::o2::o3::o4::o5::o6::o7::o8::o9::jo::lH::oi::r).toArray a.tmps)=true then Oper.wp P oi a w K' Q else K' (a.put oi.dst undef) w)
    (hs:aU P md (o0::o1::o2::o3::o4::o5::o6::o7::o8::o9::jo::lH::oi::r).toArray Q S L fuel listed a w rs):aU P md (o0::o1::o2::o3::o4::o5::o6::o7::o8::o9::jo::lH::oi::r).toArray Q S L fuel listed a w (12::rs):=fun j hj=>by
 rcases List.mem_cons.1 hj with rfl | hj
 ·exact wpOp_step (o:=oi) rfl (fun K' hK=>h K' (fun a w hS hW=>hK a w ⟨fun _=>hS,hW hS⟩))
 ·exact hs j hj
theorem KX {o0 o1 o2 o3 o4 o5 o6 o7 o8 o9 jo lH oi : Oper} {r : List Oper} {fuel : Nat} {listed : Array Bool} {a : Act} {w : World} (hr : Region.ready md (o0 :: o1 :: o2 :: o3 :: o4 :: o5 :: o6 :: o7 :: o8 :: o9 :: jo :: lH :: oi :: r).toArray listed = [12])
    (h:∀ K':Act->World->Prop,Shut (∀ a w,bD P md (o0::o1::o2::o3::o4::o5::o6::o7::o8::o9::jo::lH::oi::r).toArray Q S 12 fuel (listed.setIfInBounds 12 true) a w->K' a w)->if Region.wanted oi (yielded (o0::o1::o2::o3::o4::o5::o6::o7::o8::o9::jo::lH::oi::r).toArray a.tmps)=true then Oper.wp P oi a w K' Q else K' (a.put oi.dst undef) w) :
    bD P md (o0::o1::o2::o3::o4::o5::o6::o7::o8::o9::jo::lH::oi::r).toArray Q S 12 (fuel+1) listed a w:=last (L:=12) rfl hr h
theorem qp {o0 o1 o2 o3 o4 o5 o6 o7 o8 o9 jo lH qg oi : Oper} {r : List Oper} {fuel : Nat} {listed : Array Bool} {a : Act} {w : World} {rs : List Nat}
    (h:∀ K':Act->World->Prop,Shut (∀ a w,S w->(S w->bD P md (o0::o1::o2::o3::o4::o5::o6::o7::o8::o9::jo::lH::qg::oi::r).toArray Q S L fuel (listed.setIfInBounds 13 true) a w)->K' a w)->if Region.wanted oi (yielded (o0::o1::o2::o3::o4::o5::o6::o7::o8::o9::jo::lH::qg::oi::r).toArray a.tmps)=true then Oper.wp P oi a w K' Q else K' (a.put oi.dst undef) w)
    (hs:aU P md (o0::o1::o2::o3::o4::o5::o6::o7::o8::o9::jo::lH::qg::oi::r).toArray Q S L fuel listed a w rs):aU P md (o0::o1::o2::o3::o4::o5::o6::o7::o8::o9::jo::lH::qg::oi::r).toArray Q S L fuel listed a w (13::rs):=fun j hj=>by
 rcases List.mem_cons.1 hj with rfl | hj
 ·exact wpOp_step (o:=oi) rfl (fun K' hK=>h K' (fun a w hS hW=>hK a w ⟨fun _=>hS,hW hS⟩))
 ·exact hs j hj
theorem Zn {o0 o1 o2 o3 o4 o5 o6 o7 o8 o9 jo lH qg oi : Oper} {r : List Oper} {fuel : Nat} {listed : Array Bool} {a : Act} {w : World} (hr : Region.ready md (o0 :: o1 :: o2 :: o3 :: o4 :: o5 :: o6 :: o7 :: o8 :: o9 :: jo :: lH :: qg :: oi :: r).toArray listed = [13])
    (h:∀ K':Act->World->Prop,Shut (∀ a w,bD P md (o0::o1::o2::o3::o4::o5::o6::o7::o8::o9::jo::lH::qg::oi::r).toArray Q S 13 fuel (listed.setIfInBounds 13 true) a w->K' a w)->if Region.wanted oi (yielded (o0::o1::o2::o3::o4::o5::o6::o7::o8::o9::jo::lH::qg::oi::r).toArray a.tmps)=true then Oper.wp P oi a w K' Q else K' (a.put oi.dst undef) w) :
    bD P md (o0::o1::o2::o3::o4::o5::o6::o7::o8::o9::jo::lH::qg::oi::r).toArray Q S 13 (fuel+1) listed a w:=last (L:=13) rfl hr h
theorem qw {o0 o1 o2 o3 o4 o5 o6 o7 o8 o9 jo lH qg sG oi : Oper} {r : List Oper} {fuel : Nat} {listed : Array Bool} {a : Act} {w : World} {rs : List Nat}
    (h:∀ K':Act->World->Prop,Shut (∀ a w,S w->(S w->bD P md (o0::o1::o2::o3::o4::o5::o6::o7::o8::o9::jo::lH::qg::sG::oi::r).toArray Q S L fuel (listed.setIfInBounds 14 true) a w)->K' a w)->if Region.wanted oi (yielded (o0::o1::o2::o3::o4::o5::o6::o7::o8::o9::jo::lH::qg::sG::oi::r).toArray a.tmps)=true then Oper.wp P oi a w K' Q else K' (a.put oi.dst undef) w)
    (hs:aU P md (o0::o1::o2::o3::o4::o5::o6::o7::o8::o9::jo::lH::qg::sG::oi::r).toArray Q S L fuel listed a w rs):aU P md (o0::o1::o2::o3::o4::o5::o6::o7::o8::o9::jo::lH::qg::sG::oi::r).toArray Q S L fuel listed a w (14::rs):=fun j hj=>by
 rcases List.mem_cons.1 hj with rfl | hj
 ·exact wpOp_step (o:=oi) rfl (fun K' hK=>h K' (fun a w hS hW=>hK a w ⟨fun _=>hS,hW hS⟩))
 ·exact hs j hj
theorem Gw {o0 o1 o2 o3 o4 o5 o6 o7 o8 o9 jo lH qg sG Ap oi : Oper} {r : List Oper} {fuel : Nat} {listed : Array Bool} {a : Act} {w : World} {rs : List Nat}
    (h:∀ K':Act->World->Prop,Shut (∀ a w,S w->(S w->bD P md (o0::o1::o2::o3::o4::o5::o6::o7::o8::o9::jo::lH::qg::sG::Ap::oi::r).toArray Q S L fuel (listed.setIfInBounds 15 true) a w)->K' a w)->if Region.wanted oi (yielded (o0::o1::o2::o3::o4::o5::o6::o7::o8::o9::jo::lH::qg::sG::Ap::oi::r).toArray a.tmps)=true then Oper.wp P oi a w K' Q else K' (a.put oi.dst undef) w)
    (hs:aU P md (o0::o1::o2::o3::o4::o5::o6::o7::o8::o9::jo::lH::qg::sG::Ap::oi::r).toArray Q S L fuel listed a w rs):aU P md (o0::o1::o2::o3::o4::o5::o6::o7::o8::o9::jo::lH::qg::sG::Ap::oi::r).toArray Q S L fuel listed a w (15::rs):=fun j hj=>by
 rcases List.mem_cons.1 hj with rfl | hj
 ·exact wpOp_step (o:=oi) rfl (fun K' hK=>h K' (fun a w hS hW=>hK a w ⟨fun _=>hS,hW hS⟩))
 ·exact hs j hj
theorem zi {o0 o1 o2 o3 o4 o5 o6 o7 o8 o9 jo lH qg sG Ap oi : Oper} {r : List Oper} {fuel : Nat} {listed : Array Bool} {a : Act} {w : World} (hr : Region.ready md (o0 :: o1 :: o2 :: o3 :: o4 :: o5 :: o6 :: o7 :: o8 :: o9 :: jo :: lH :: qg :: sG :: Ap :: oi :: r).toArray listed = [15])
    (h:∀ K':Act->World->Prop,Shut (∀ a w,bD P md (o0::o1::o2::o3::o4::o5::o6::o7::o8::o9::jo::lH::qg::sG::Ap::oi::r).toArray Q S 15 fuel (listed.setIfInBounds 15 true) a w->K' a w)->if Region.wanted oi (yielded (o0::o1::o2::o3::o4::o5::o6::o7::o8::o9::jo::lH::qg::sG::Ap::oi::r).toArray a.tmps)=true then Oper.wp P oi a w K' Q else K' (a.put oi.dst undef) w) :
    bD P md (o0::o1::o2::o3::o4::o5::o6::o7::o8::o9::jo::lH::qg::sG::Ap::oi::r).toArray Q S 15 (fuel+1) listed a w:=last (L:=15) rfl hr h
theorem KY {o0 o1 o2 o3 o4 o5 o6 o7 o8 o9 jo lH qg sG Ap o15 oi : Oper} {r : List Oper} {fuel : Nat} {listed : Array Bool} {a : Act} {w : World} (hr : Region.ready md (o0 :: o1 :: o2 :: o3 :: o4 :: o5 :: o6 :: o7 :: o8 :: o9 :: jo :: lH :: qg :: sG :: Ap :: o15 :: oi :: r).toArray listed = [16])
    (h:∀ K':Act->World->Prop,Shut (∀ a w,bD P md (o0::o1::o2::o3::o4::o5::o6::o7::o8::o9::jo::lH::qg::sG::Ap::o15::oi::r).toArray Q S 16 fuel (listed.setIfInBounds 16 true) a w->K' a w)->if Region.wanted oi (yielded (o0::o1::o2::o3::o4::o5::o6::o7::o8::o9::jo::lH::qg::sG::Ap::o15::oi::r).toArray a.tmps)=true then Oper.wp P oi a w K' Q else K' (a.put oi.dst undef) w) :
    bD P md (o0::o1::o2::o3::o4::o5::o6::o7::o8::o9::jo::lH::qg::sG::Ap::o15::oi::r).toArray Q S 16 (fuel+1) listed a w:=last (L:=16) rfl hr h
end
end HT
end
end Go.Proofs.YtcninopmelmajaaGreatDoor
