/-
  Texts laid together (EmBnd, EmLk, EmEq, EmSat, EmOk, EqMany0, EqPart, EqPk, EqHeld, EqOf, EqMany, EqAgr0): laws and walks, with their conditions.
-/
import Derived.Test.YtcninopmelmajaaGreatDoorCC19
import Derived.Test.YtcninopmelmajaaGreatDoorCC20
set_option maxHeartbeats 8000000
set_option maxRecDepth 1000000
namespace Go.Proofs.YtcninopmelmajaaGreatDoor
section
namespace Em
def fB (n:Nat):Fo->Prop
 | .nil=>True
 | .cons k v ps r=>(k=1->0<=v/\v < n)/\fB n ps/\fB n r
def nN (n:Nat) (t:Ty):Prop:=(t.1=1->0<=t.2.1/\t.2.1 < n)/\fB n t.2.2
theorem fB.mono {n m:Nat} (h:n<=m):∀ f:Fo,fB n f->fB m f
 | .nil,_=>trivial
 | .cons k v ps r,⟨a,b,c⟩=>⟨fun e=>⟨(a e).1,by have:=(a e).2;omega⟩,fB.mono h ps b,fB.mono h r c⟩
theorem nN.mono {n m:Nat} {t:Ty} (k:nN n t) (h:n<=m):nN m t:=⟨fun e=>⟨(k.1 e).1,by have:=(k.1 e).2;omega⟩,fB.mono h _ k.2⟩
theorem nN.tv {n k:Nat} (h:k < n):nN n (tv k):=⟨fun _=>⟨by show (0:Int)<=(k:Int);omega,by show (k:Int) < n;omega⟩,trivial⟩
theorem nN.zero (n:Nat) (k:Int) (h:k≠1):nN n (k,0,.nil):=⟨fun e=>absurd e h,trivial⟩
theorem nN.arr {n:Nat} {a b:Ty} (h:nN n a) (k:nN n b):nN n (pO a b):=⟨fun e=>absurd e (by decide:(4:Int)≠1),h.1,h.2,k.1,k.2,trivial⟩
theorem Np {n:Nat}:∀ l:List Ty,(∀ t∈l,nN n t)->fB n (oL l)
 | [],_=>trivial
 | t::r,h=>⟨(h t (by simp)).1,(h t (by simp)).2,Np r (fun u hu=>h u (by simp [hu]))⟩
theorem XW {lo tt N:Nat} (h1:lo<=tt) (h2:tt<=N) {v:Int} (h0:0<=v) (hv:v < tt):0<=QB lo tt (N - lo) v/\QB lo tt (N - lo) v < ((N+(tt - lo):Nat):Int):=by
 unfold QB;split<;>omega
theorem Cj {lo tt N:Nat} (h1:lo<=tt) (h2:tt<=N):∀ f:Fo,fB tt f->fB (N+(tt - lo)) (f.change (QB lo tt (N - lo)))
 | .nil,_=>trivial
 | .cons k v ps r,⟨a,b,c⟩=>by
  refine ⟨fun e=>?_,Cj h1 h2 ps b,Cj h1 h2 r c⟩
  have:=XW h1 h2 (a e).1 (a e).2
  subst e
  exact this
theorem yU {lo tt N:Nat} (h1:lo<=tt) (h2:tt<=N) {t:Ty} (h:nN tt t):nN (N+(tt - lo)) (Na lo tt (N - lo) t):=by
 refine ⟨fun e=>?_,Cj h1 h2 _ h.2⟩
 have e':t.1=1:=e
 show 0<=(if t.1 == 1 then QB lo tt (N - lo) t.2.1 else t.2.1)/\(if t.1 == 1 then QB lo tt (N - lo) t.2.1 else t.2.1) < _
 rw [if_pos (by simp [e'])]
 exact XW h1 h2 (h.1 e').1 (h.1 e').2
def XY (m:Mk):Prop:=∀ e∈m.eqs,nN m.next e.1/\nN m.next e.2.1
structure D8 {α:Type} (lo:Nat) (Q:Nat->α->Prop) (f:Pm α):Prop where
 run:∀ m,lo<=m.next->XY m->XY (f m).2/\Q (f m).2.next (f m).1/\m.next<=(f m).2.next
theorem D8.mono {α:Type} {lo lo':Nat} {Q:Nat->α->Prop} {f:Pm α} (h:D8 lo Q f) (hl:lo<=lo'):D8 lo' Q f:=⟨fun m hm=>h.run m (by omega)⟩
theorem D8.bind {α β:Type} {lo:Nat} {Q:Nat->α->Prop} {R:Nat->β->Prop} {f:Pm α} {g:α->Pm β} (h:D8 lo Q f) (k:∀ a n,lo<=n->Q n a->D8 n R (g a)):D8 lo R (bd f g):=by
 refine ⟨fun m hm ho=>?_⟩
 obtain ⟨h1,h2,h3⟩:=h.run m hm ho
 obtain ⟨k1,k2,k3⟩:=(k (f m).1 (f m).2.next (by omega) h2).run (f m).2 (Nat.le_refl _) h1
 exact ⟨k1,k2,Nat.le_trans h3 k3⟩
theorem D8.pure {α:Type} {lo:Nat} {Q:Nat->α->Prop} {a:α} (h:∀ n,lo<=n->Q n a):D8 lo Q (pu a):=⟨fun _ hm ho=>⟨ho,h _ hm,Nat.le_refl _⟩⟩
theorem XY.up {m:Mk} (h:XY m) {n:Nat} (hn:m.next<=n):XY { m with next:=n }:=fun e he=>⟨(h e he).1.mono hn,(h e he).2.mono hn⟩
theorem D8.eqn {lo:Nat} (most:Int) {l r:Ty} (fr en:Int) (hl:nN lo l) (hr:nN lo r):D8 lo (fun _ _=>True) (jv most l r fr en):=by
 refine ⟨fun m hm ho=>?_⟩
 unfold jv
 dsimp only
 split
 ·exact ⟨ho,trivial,Nat.le_refl _⟩
 ·refine ⟨fun e he=>?_,trivial,Nat.le_refl _⟩
  rcases List.mem_append.1 he with he | he
  ·exact ho e he
  ·simp at he;subst he;exact ⟨hl.mono hm,hr.mono hm⟩
theorem D8.many {α:Type} {lo:Nat} {Q:Nat->α->Prop} {x:α} {f:Pm α} (hx:∀ n,lo<=n->Q n x) (h:D8 lo Q f):D8 lo Q (cO x f):=by
 refine ⟨fun m hm ho=>?_⟩
 unfold cO
 split
 ·exact ⟨ho,hx _ hm,Nat.le_refl _⟩
 ·exact h.run m hm ho
theorem Tj (most:Int) {n:Nat} {sh:Ty->Ty}:∀ l:List qK,(∀ e∈l,nN n (sh e.1)/\nN n (sh e.2.1))->D8 n (fun _ _=>True) (iD most sh l)
 | [],_=>D8.pure fun _ _=>trivial
 | e::r,h=>D8.many (fun _ _=>trivial) (D8.bind (D8.eqn most _ _ (h e (by simp)).1 (h e (by simp)).2) fun _ k hk _=>(Tj most r (fun u hu=>h u (by simp [hu]))).mono hk)
theorem Tn (most:Int) {kept:List qK} {v:Ty} {lo tt:Nat} (h1:lo<=tt) (hk:∀ e∈kept,nN tt e.1/\nN tt e.2.1) (hv:nN tt v):D8 tt nN (copied most kept v lo tt):=by
 refine ⟨fun m hm ho=>?_⟩
 have hb:XY { m with next:=m.next+(tt - lo) }:=ho.up (Nat.le_add_right _ _)
 have hkb:=(Tj most (n:=m.next+(tt - lo)) (sh:=Na lo tt (m.next - lo)) kept (fun e he=>⟨yU h1 hm (hk e he).1,yU h1 hm (hk e he).2⟩)).run { m with next:=m.next+(tt - lo) } (Nat.le_refl _) hb
 exact ⟨hkb.1,(yU h1 hm hv).mono hkb.2.2,Nat.le_trans (Nat.le_add_right _ _) hkb.2.2⟩
def noV:To->Prop
 | .nil=>True
 | .cons h ps r=>(h.k=10->nN 0 (h.tk,h.tn,h.tp))/\noV ps/\noV r
end Em
end
section
namespace Em
theorem Tq {lo tt d:Nat} {v:Int} (hv:v < tt):QB lo tt d v=PG lo d v:=by
 unfold QB PG
 by_cases h:v < (lo:Int)
 ·rw [if_neg (by omega),if_pos h]
 ·rw [if_pos (by omega),if_neg h]
theorem yV {lo tt d:Nat}:∀ f:Fo,fB tt f->f.change (QB lo tt d)=f.change (PG lo d)
 | .nil,_=>rfl
 | .cons k v ps r,⟨a,b,c⟩=>by
  show Fo.cons k (if k == 1 then QB lo tt d v else v) (ps.change _) (r.change _)=Fo.cons k (if k == 1 then PG lo d v else v) (ps.change _) (r.change _)
  rw [yV ps b,yV r c]
  by_cases hk:k=1
  ·rw [Tq (a hk).2]
  ·have:(k == 1)=false:=by simpa using hk
   rw [this];rfl
theorem KP {lo tt d:Nat} {t:Ty} (h:nN tt t):Na lo tt d t=Ad lo d t:=by
 unfold Na Ad
 rw [yV _ h.2]
 by_cases hk:t.1=1
 ·rw [Tq (h.1 hk).2]
 ·have:(t.1 == 1)=false:=by simpa using hk
  rw [this];rfl
structure Lk {α β:Type} (most lo:Nat) (R:Nat->α->β->Prop) (f:Pm α) (g:Dm β):Prop where
 upf:∀ m,m.many=true->(f m).2.many=true
 Ze:∀ d,d.L.length<=(g d).2.L.length
 run:∀ m d,lo<=m.next->m.many=false->XY m->m.eqs=d.L->m.next=d.next->m.eqs.length<=most ->
  ((f m).2.many=false/\XY (f m).2/\(f m).2.eqs=(g d).2.L/\(f m).2.next=(g d).2.next/\(f m).2.eqs.length<=most/\m.next<=(f m).2.next/\R (f m).2.next (f m).1 (g d).1)∨((f m).2.many=true/\most < (g d).2.L.length)
theorem Lk.mono {α β:Type} {most lo lo':Nat} {R:Nat->α->β->Prop} {f:Pm α} {g:Dm β} (h:Lk most lo R f g) (hl:lo<=lo'):Lk most lo' R f g:=⟨h.upf,h.Ze,fun m d hm=>h.run m d (by omega)⟩
theorem Lk.bind {α β γ δ:Type} {most lo:Nat} {R:Nat->α->β->Prop} {S:Nat->γ->δ->Prop} {f:Pm α} {g:Dm β} {f':α->Pm γ} {g':β->Dm δ} (h:Lk most lo R f g) (u:∀ a m,m.many=true->(f' a m).2.many=true) (v:∀ b d,d.L.length<=(g' b d).2.L.length) (k:∀ a b n,lo<=n->R n a b->Lk most n S (f' a) (g' b)):Lk most lo S (bd f f') (fH g g'):=by
 refine ⟨fun m hm=>u _ _ (h.upf m hm),fun d=>Nat.le_trans (h.Ze d) (v _ _),fun m d hm hn ho he hx hl=>?_⟩
 rcases h.run m d hm hn ho he hx hl with ⟨h1,h2,h3,h4,h5,h6,h7⟩ | ⟨h1,h2⟩
 ·rcases (k _ _ _ (by omega) h7).run (f m).2 (g d).2 (Nat.le_refl _) h1 h2 h3 h4 h5 with ⟨k1,k2,k3,k4,k5,k6,k7⟩ | ⟨k1,k2⟩
  ·exact .inl ⟨k1,k2,k3,k4,k5,Nat.le_trans h6 k6,k7⟩
  ·exact .inr ⟨k1,k2⟩
 ·exact .inr ⟨u _ _ h1,Nat.lt_of_lt_of_le h2 (v _ _)⟩
theorem Lk.pure {α β:Type} {most lo:Nat} {R:Nat->α->β->Prop} {a:α} {b:β} (h:∀ n,lo<=n->R n a b):Lk most lo R (pu a) (jG b):=⟨fun _ hm=>hm,fun _=>Nat.le_refl _,fun _ _ hm hn ho he hx hl=>.inl ⟨hn,ho,he,hx,hl,Nat.le_refl _,h _ hm⟩⟩
abbrev RT:Nat->Ty->Nat->Prop:=fun n t k=>t=tv k/\k < n
theorem Lk.take (most lo:Nat):Lk most lo RT jm kN:=⟨fun _ hm=>hm,fun _=>Nat.le_refl _,fun m d hm hn ho he hx hl=>.inl ⟨hn,ho.up (Nat.le_succ _),he,by show m.next+1=d.next+1;rw [hx],hl,Nat.le_succ _,by show tv m.next=tv d.next;rw [hx],by show d.next < m.next+1;omega⟩⟩
theorem Lk.eqn {most lo:Nat} {l r:Ty} (fr en:Int) (hl:nN lo l) (hr:nN lo r):Lk most lo (fun _ _ _=>True) (jv (most:Int) l r fr en) (l9 l r fr en):=by
 refine ⟨fun m hm=>?_,fun d=>by show d.L.length<=(d.L++[(l,r,fr,en)]).length;simp,fun m d hm hn ho he hx hle=>?_⟩
 ·unfold jv;dsimp only;split
  ·rfl
  ·exact hm
 ·have hb:=(D8.eqn (lo:=lo) (most:Int) fr en hl hr).run m hm ho
  unfold jv at *
  dsimp only at *
  by_cases h:(most:Int)<=m.eqs.length
  ·rw [if_pos h]
   refine .inr ⟨rfl,?_⟩
   show most < (d.L++[(l,r,fr,en)]).length
   rw [<-he];simp;omega
  ·rw [if_neg h] at hb ⊢
   exact .inl ⟨hn,hb.1,by show m.eqs++_=d.L++_;rw [he],hx,by show (m.eqs++[_]).length<=most;simp;omega,Nat.le_refl _,trivial⟩
theorem Lk.many {α β:Type} {most lo:Nat} {R:Nat->α->β->Prop} {x:α} {f:Pm α} {g:Dm β} (h:Lk most lo R f g):Lk most lo R (cO x f) g:=by
 refine ⟨fun m hm=>?_,h.Ze,fun m d hm hn=>?_⟩
 ·unfold cO;rw [hm];exact hm
 ·unfold cO;rw [hn];simp only [Bool.false_eq_true,if_false];exact h.run m d hm hn
theorem Lk.ite {α β:Type} {most lo:Nat} {R:Nat->α->β->Prop} {c:Prop} [Decidable c] {f f':Pm α} {g g':Dm β} (h1:c->Lk most lo R f g) (h2:¬ c->Lk most lo R f' g'):Lk most lo R (if c then f else f') (if c then g else g'):=by
 by_cases hc:c
 ·rw [if_pos hc,if_pos hc];exact h1 hc
 ·rw [if_neg hc,if_neg hc];exact h2 hc
theorem IU (most:Int) (sh:Ty->Ty):∀ (l:List qK) (m:Mk),m.many=true->(iD most sh l m).2.many=true
 | [],_,hm=>hm
 | e::r,m,hm=>by unfold iD cO;rw [hm];exact hm
theorem EP (most : Nat) (sh : Ty -> Ty) : ∀ (l : List qK) (m : Mk), m.many = false -> m.eqs.length <= most ->
    ((iD most sh l m).2={ m with eqs:=m.eqs++l.map (fun e=>(sh e.1,sh e.2.1,e.2.2)) }/\m.eqs.length+l.length<=most)∨((iD most sh l m).2.many=true/\most < m.eqs.length+l.length)
 | [],m,hm,hl=>.inl ⟨by show m=_;simp,by simpa using hl⟩
 | e::r,m,hm,hl=>by
  have e0:iD (most:Int) sh (e::r) m=iD most sh r (jv most (sh e.1) (sh e.2.1) e.2.2.1 e.2.2.2 m).2:=by
   show cO () _ m=_
   unfold cO;rw [hm];rfl
  rw [e0]
  unfold jv
  dsimp only
  by_cases h:(most:Int)<=m.eqs.length
  ·rw [if_pos h]
   exact .inr ⟨IU _ _ r _ rfl,by simp;omega⟩
  ·rw [if_neg h]
   rcases EP most sh r { m with eqs:=m.eqs++[(sh e.1,sh e.2.1,e.2.2.1,e.2.2.2)] } hm (by simp;omega) with ⟨h1,h2⟩ | ⟨h1,h2⟩
   ·refine .inl ⟨?_,by simp at h2 ⊢;omega⟩
    rw [h1]
    simp
   ·exact .inr ⟨h1,by simp at h2 ⊢;omega⟩
theorem yX (most:Int) (kept:List qK) (v:Ty) (lo tt:Nat) (m:Mk) (hm:m.many=true):(copied most kept v lo tt m).2.many=true:=IU most _ kept _ hm
def Self (n:Nat) (g:Dm Nat):Prop:=∀ a d,n<=a->0 < a->RS a d (RN a d) g g
theorem PI {most : Nat} {g : Dm Nat} {kept : List qK} {v lo tt : Nat} (h1 : lo <= tt) (h0 : 0 < lo) (hk : ∀ e ∈ kept, nN tt e.1 /\ nN tt e.2.1) (hv : v < tt) (hs : Self lo g) {d0 : Dk} (hd : d0.next = lo) (hL : (g d0).2.L = d0.L ++ kept) (hn : (g d0).2.next = tt) (hr : (g d0).1 = v) (hup : ∀ d, d.L.length <= (g d).2.L.length) :
    Lk most tt RT (copied most kept (tv v) lo tt) g:=by
 refine ⟨yX _ _ _ _ _,hup,fun m d hm hmn ho he hx hle=>?_⟩
 obtain ⟨k,a1,a2,a3,a4,a5⟩:=(hs lo (m.next - lo) (Nat.le_refl _) h0).run d0 d (by omega) (by omega)
 have hkk:k=kept:=by rw [hL] at a1;exact (List.append_cancel_left a1).symm
 subst hkk
 have hb:=(Tn (most:Int) (kept:=k) (v:=tv v) h1 hk (nN.tv hv)).run m hm ho
 have hsh:k.map (fun e=>(Na lo tt (m.next - lo) e.1,Na lo tt (m.next - lo) e.2.1,e.2.2))=k.map (upE lo (m.next - lo)):=List.map_congr_left fun e he=>by
  show ((_,_,_):qK)=(Ad lo _ e.1,Ad lo _ e.2.1,e.2.2)
  rw [KP (hk e he).1,KP (hk e he).2]
 have Tt:(copied (most:Int) k (tv v) lo tt m).2=(iD (most:Int) (Na lo tt (m.next - lo)) k { m with next:=m.next+(tt - lo) }).2:=rfl
 have hval:(copied (most:Int) k (tv v) lo tt m).1=Na lo tt (m.next - lo) (tv v):=rfl
 rcases EP most (Na lo tt (m.next - lo)) k { m with next:=m.next+(tt - lo) } hmn hle with ⟨b1,b2⟩ | ⟨b1,b2⟩
 ·rw [b1] at Tt
  have e1:(copied (most:Int) k (tv v) lo tt m).2.eqs=m.eqs++k.map (upE lo (m.next - lo)):=by rw [Tt];show m.eqs++_=_;rw [hsh]
  have e2:(copied (most:Int) k (tv v) lo tt m).2.next=m.next+(tt - lo):=by rw [Tt]
  refine .inl ⟨by rw [Tt];exact hmn,hb.1,by rw [e1,a2,he],by rw [e2,a4,hn];omega,by rw [e1];simp at b2 ⊢;omega,by rw [e2];omega,?_,?_⟩
  ·rw [hval,KP (nN.tv hv),qo]
   rw [show (g d).1=up lo (m.next - lo) (g d0).1 from a5,hr]
  ·rw [e2,show (g d).1=up lo (m.next - lo) (g d0).1 from a5,hr]
   unfold up;split<;>omega
 ·refine .inr ⟨by rw [Tt];exact b1,?_⟩
  rw [a2,<-he]
  simp at b2 ⊢;omega
end Em
end
section
namespace Em
def Up {α:Type} (f:Pm α):Prop:=∀ m,m.many=true->(f m).2.many=true
theorem Up.pure {α:Type} (a:α):Up (pu a):=fun _ h=>h
theorem Up.bind {α β:Type} {f:Pm α} {g:α->Pm β} (h:Up f) (k:∀ a,Up (g a)):Up (bd f g):=fun m hm=>k _ _ (h m hm)
theorem Up.eqn (most:Int) (l r:Ty) (fr en:Int):Up (jv most l r fr en):=fun m hm=>by
 unfold jv;dsimp only;split
 ·rfl
 ·exact hm
theorem Up.many {α:Type} (x:α) (f:Pm α):Up (cO x f):=fun m hm=>by unfold cO;rw [hm];exact hm
theorem Up.take:Up jm:=fun _ h=>h
theorem WH (most:Int) (h:Nd) (ps:To) (vs:List (Env->Pm Ty)) (e:Env):Up (xw most h ps vs e):=Up.bind Up.take fun _=>Up.many _ _
def Mon {α:Type} (g:Dm α):Prop:=∀ d,d.L.length<=(g d).2.L.length
theorem Mon.pure {α:Type} (a:α):Mon (jG a):=fun _=>Nat.le_refl _
theorem Mon.bind {α β:Type} {f:Dm α} {g:α->Dm β} (h:Mon f) (k:∀ a,Mon (g a)):Mon (fH f g):=fun d=>Nat.le_trans (h d) (k _ _)
theorem Mon.add (l r:Ty) (fr en:Int):Mon (l9 l r fr en):=fun d=>by show d.L.length<=(d.L++[(l,r,fr,en)]).length;simp
theorem Mon.take:Mon kN:=fun _=>Nat.le_refl _
theorem Mon.ite {α:Type} {c:Prop} [Decidable c] {f g:Dm α} (h1:Mon f) (h2:Mon g):Mon (if c then f else g):=by
 by_cases hc:c
 ·rw [if_pos hc];exact h1
 ·rw [if_neg hc];exact h2
def D9 (e:aS):Prop:=∀ x∈e,Mon x.2
theorem D9.cons {e:aS} {s:ByteArray} {g:Dm Nat} (h:D9 e) (k:Mon g):D9 ((s,g)::e):=fun x hx=>by
 rcases List.mem_cons.1 hx with rfl | hx
 ·exact k
 ·exact h x hx
def KQ (u:aS->Dm Nat):Prop:=∀ e,D9 e->Mon (u e)
theorem ER:∀ (e:aS) (s:ByteArray),D9 e->Mon (jU e s)
 | [],_,_=>Mon.pure _
 | x::r,s,h=>by
  unfold jU
  exact Mon.ite (h x (by simp)) (ER r s (fun y hy=>h y (by simp [hy])))
theorem qY {us:List (aS->Dm Nat)} (h:∀ u∈us,KQ u) (i:Nat) {e:aS} (he:D9 e):Mon (dat us i e):=by
 unfold dat
 rw [List.getD_eq_getElem?_getD]
 cases hi:us[i]? with
 | none=>exact Mon.pure _
 | some u=>exact h u (List.mem_of_getElem? hi) e he
theorem IV {e:aS} (he:D9 e):∀ {us:List (aS->Dm Nat)},(∀ u∈us,KQ u)->Mon (dmap e us)
 | [],_=>Mon.pure _
 | u::r,h=>Mon.bind (h u (by simp) e he) fun _=>Mon.bind (IV he (fun x hx=>h x (by simp [hx]))) fun _=>Mon.pure _
theorem yY (h:Nd) {us:List (aS->Dm Nat)} (hv:∀ u∈us,KQ u) {e:aS} (he:D9 e):Mon (nM h us e):=by
 unfold nM
 exact Mon.ite (qY hv 0 he) (Mon.bind Mon.take fun b=>Mon.bind (qY hv 0 (he.cons (Mon.pure b))) fun _=>Mon.bind (Mon.add _ _ _ _) fun _=>Mon.pure _)
theorem IW (h:Nd) (ps:To) {us:List (aS->Dm Nat)} (hv:∀ u∈us,KQ u):KQ (D7 h ps us):=by
 intro e he
 unfold D7
 have fin:∀ (l r:Ty) (fr en:Int) (own:Nat),Mon (fH (l9 l r fr en) fun _=>jG own):=fun l r fr en own=>Mon.bind (Mon.add _ _ _ _) fun _=>Mon.pure _
 refine Mon.bind Mon.take fun own=>Mon.ite (fin _ _ _ _ _) (Mon.ite (fin _ _ _ _ _) (Mon.ite (Mon.bind (ER e _ he) fun _=>fin _ _ _ _ _) (Mon.ite ?_ (Mon.ite ?_ (Mon.bind (IV he hv) fun p=>?_)))))
 ·exact Mon.bind Mon.take fun b=>Mon.bind (qY hv 0 (he.cons (Mon.pure b))) fun _=>fin _ _ _ _ _
 ·exact Mon.bind (yY h hv he) fun _=>Mon.bind (qY hv 1 (he.cons (yY h hv he))) fun _=>fin _ _ _ _ _
 ·exact Mon.ite (fin _ _ _ _ _) (Mon.ite (Mon.bind (Mon.add _ _ _ _) fun _=>Mon.bind (Mon.add _ _ _ _) fun _=>fin _ _ _ _ _) (Mon.ite (fin _ _ _ _ _) (Mon.ite (Mon.bind (Mon.add _ _ _ _) fun _=>fin _ _ _ _ _) (Mon.pure _))))
structure Ent (n:Nat) (most:Nat) (f:Pm Ty) (g:Dm Nat):Prop where
 lk:Lk most n RT f g
 self:Self n g
theorem Self.mono {n m:Nat} {g:Dm Nat} (h:Self n g) (k:n<=m):Self m g:=fun a d ha h0=>h a d (by omega) h0
theorem Ent.mono {n m most:Nat} {f:Pm Ty} {g:Dm Nat} (h:Ent n most f g) (k:n<=m):Ent m most f g:=⟨h.lk.mono k,h.self.mono k⟩
inductive uO (most n:Nat):Env->aS->Prop
 | nil:uO most n [] []
 | cons {s:ByteArray} {f:Pm Ty} {g:Dm Nat} {e:Env} {e':aS}:Ent n most f g->uO most n e e'->uO most n ((s,f)::e) ((s,g)::e')
theorem uO.mono {most n m:Nat} (hn:n<=m) {e:Env} {e':aS} (h:uO most n e e'):uO most m e e':=by
 induction h with
 | nil=>exact .nil
 | cons h1 _ ih=>exact .cons (h1.mono hn) ih
theorem uO.rs {most n:Nat} {e:Env} {e':aS} (h:uO most n e e') {a d:Nat} (ha:n<=a) (h0:0 < a):vG a d e' e':=by
 induction h with
 | nil=>exact .nil
 | cons h1 _ ih=>exact .cons (h1.self a d ha h0) ih
theorem uO.mon {most n:Nat} {e:Env} {e':aS} (h:uO most n e e'):D9 e':=by
 induction h with
 | nil=>intro x hx;cases hx
 | cons h1 _ ih=>exact D9.cons ih h1.lk.Ze
theorem Nq {most n:Nat} (h0:0 < n):Lk most n RT (pu (tv 0)) (jG 0):=Lk.pure fun k hk=>⟨rfl,by omega⟩
theorem uO.look {most n:Nat} (h0:0 < n) {e:Env} {e':aS} (h:uO most n e e') (s:ByteArray):Lk most n RT (tV e s) (jU e' s):=by
 induction h with
 | nil=>exact Nq h0
 | cons h1 _ ih =>
  unfold tV jU
  exact Lk.ite (fun _=>h1.lk) (fun _=>ih)
structure VL (most:Nat) (v:Env->Pm Ty) (u:aS->Dm Nat):Prop where
 lk:∀ n e e',uO most n e e'->Lk most n RT (v e) (u e')
 rs:Zc u
 up:∀ e,Up (v e)
 mon:KQ u
inductive KR (most:Nat):List (Env->Pm Ty)->List (aS->Dm Nat)->Prop
 | nil:KR most [] []
 | cons {v:Env->Pm Ty} {u:aS->Dm Nat} {l:List (Env->Pm Ty)} {l':List (aS->Dm Nat)}:VL most v u->KR most l l'->KR most (v::l) (u::l')
theorem KR.rs {most:Nat} {l:List (Env->Pm Ty)} {l':List (aS->Dm Nat)} (h:KR most l l'):∀ u∈l',Zc u:=by
 induction h with
 | nil=>intro u hu;cases hu
 | cons h1 _ ih =>
  intro u hu
  rcases List.mem_cons.1 hu with rfl | hu
  ·exact h1.rs
  ·exact ih u hu
theorem KR.mon {most:Nat} {l:List (Env->Pm Ty)} {l':List (aS->Dm Nat)} (h:KR most l l'):∀ u∈l',KQ u:=by
 induction h with
 | nil=>intro u hu;cases hu
 | cons h1 _ ih =>
  intro u hu
  rcases List.mem_cons.1 hu with rfl | hu
  ·exact h1.mon
  ·exact ih u hu
theorem KR.KT {most:Nat} {l:List (Env->Pm Ty)} {l':List (aS->Dm Nat)} (h:KR most l l'):∀ (i:Nat) (e:Env),Up (Pz l i e):=by
 induction h with
 | nil=>intro i e;exact Up.pure _
 | cons h1 _ ih =>
  intro i e
  cases i with
  | zero=>exact h1.up e
  | succ i=>exact ih i e
theorem KR.at {most:Nat} {l:List (Env->Pm Ty)} {l':List (aS->Dm Nat)} (h:KR most l l'):∀ (i:Nat) {n:Nat} {e:Env} {e':aS},0 < n->uO most n e e'->Lk most n RT (Pz l i e) (dat l' i e'):=by
 induction h with
 | nil=>intro i n e e' h0 _;exact Nq h0
 | cons h1 _ ih =>
  intro i n e e' h0 he
  cases i with
  | zero=>exact h1.lk n e e' he
  | succ i=>exact ih i h0 he
abbrev RLs:Nat->List Ty->List Nat->Prop:=fun n l k=>l=k.map tv/\∀ i∈k,i < n
theorem KR.map {most:Nat} {l:List (Env->Pm Ty)} {l':List (aS->Dm Nat)} (h:KR most l l'):∀ {n:Nat} {e:Env} {e':aS},0 < n->uO most n e e'->Lk most n RLs (Iy e l) (dmap e' l'):=by
 induction h with
 | nil=>intro n e e' _ _;exact Lk.pure fun _ _=>⟨rfl,fun i hi=>by cases hi⟩
 | cons h1 h2 ih =>
  intro n e e' h0 he
  have hin:=ih h0 he
  refine Lk.bind (h1.lk n e e' he) (fun a m hm=>?_) (fun b d=>?_) fun t k j hj ht=>Lk.bind (ih (by omega) (he.mono hj)) (fun a m hm=>hm) (fun b d=>Nat.le_refl _) fun l k' i hi hl=>Lk.pure fun u hu=>⟨?_,?_⟩
  ·exact hin.upf m hm
  ·exact hin.Ze d
  ·rw [hl.1,ht.1];rfl
  ·intro x hx
   rcases List.mem_cons.1 hx with rfl | hx
   ·have:=ht.2;omega
   ·have:=hl.2 x hx;omega
theorem Zf {n:Nat} {k:List Nat} (h:∀ i∈k,i < n) (i:Nat):nN n (jP k i):=by
 unfold jP
 rw [List.getD_eq_getElem?_getD,List.getElem?_map]
 cases hi:k[i]? with
 | none=>exact nN.zero n 0 (by decide)
 | some v=>exact nN.tv (h v (List.mem_of_getElem? hi))
theorem Zg {n:Nat} {g:Dm Nat} (hs:Self n g) (h0:0 < n) (d:Dk) (hd:n<=d.next):∃ k,(g d).2.L=d.L++k:=by
 obtain ⟨k,h1,_⟩:=(hs n 0 (Nat.le_refl _) h0).run d d hd (by omega)
 exact ⟨k,h1⟩
theorem WI {most : Nat} (h : Nd) {n : Nat} (h0 : 0 < n) {f : Pm Ty} {g : Dm Nat} {F : Pm Ty -> Pm Ty} {G : Dm Nat} (hf : Lk most n RT f g) (hs : Self n g) (uF : ∀ c m, (∀ m, m.many = true -> (c m).2.many = true) -> m.many = true -> (F c m).2.many = true) (uG : ∀ d, d.L.length <= (G d).2.L.length) (hF : ∀ c k, n <= k -> Ent k most c g -> Lk most k RT (F c) G) :
    Lk most n RT (Gn most h f F) (fH g fun _=>G):=by
 refine ⟨fun m hm=>uF _ _ (yX _ _ _ _ _) (hf.upf m hm),fun d=>Nat.le_trans (hf.Ze d) (uG _),fun m d hm hn ho he hx hl=>?_⟩
 rcases hf.run m d hm hn ho he hx hl with ⟨h1,h2,h3,h4,h5,h6,h7⟩ | ⟨h1,h2⟩
 ·obtain ⟨k,hk⟩:=Zg hs h0 d (by omega)
  have hdrop:(f m).2.eqs.drop m.eqs.length=k:=by rw [h3,hk,he,List.drop_left]
  have hc:Lk most (f m).2.next RT (copied most ((f m).2.eqs.drop m.eqs.length) (f m).1 m.next (f m).2.next) g:=by
   rw [hdrop,h7.1]
   exact PI h6 (by omega) (fun e he'=>h2 e (by rw [h3,hk];exact List.mem_append.2 (.inr he'))) h7.2 (hs.mono hm) (d0:=d) hx.symm hk h4.symm rfl hf.Ze
  rcases (hF _ _ (by omega) ⟨hc,hs.mono (by omega)⟩).run (f m).2 (g d).2 (Nat.le_refl _) h1 h2 h3 h4 h5 with ⟨k1,k2,k3,k4,k5,k6,k7⟩ | ⟨k1,k2⟩
  ·exact .inl ⟨k1,k2,k3,k4,k5,Nat.le_trans h6 k6,k7⟩
  ·exact .inr ⟨k1,k2⟩
 ·exact .inr ⟨uF _ _ (yX _ _ _ _ _) h1,Nat.lt_of_lt_of_le h2 (uG _)⟩
theorem IX {n b:Nat} (hb:b < n):Self n (jG b):=fun a d ha _=>RS.pure (by show b=up a d b;unfold up;rw [if_pos (by omega)])
theorem Lk.PK {γ δ:Type} {most lo:Nat} {S:Nat->γ->δ->Prop} {f':Ty->Pm γ} {g':Nat->Dm δ} (u:∀ a,Up (f' a)) (v:Mon (fH kN g')) (k:∀ own n,lo<=n->own < n->Lk most n S (f' (tv own)) (g' own)):Lk most lo S (bd jm f') (fH kN g'):=by
 refine ⟨fun m hm=>u _ _ hm,v,fun m d hm hn ho he hx hl=>?_⟩
 have h1:=(k d.next (d.next+1) (by omega) (by omega)).run (jm m).2 (kN d).2 (by show d.next+1<=m.next+1;omega) hn (ho.up (Nat.le_succ _)) he (by show m.next+1=d.next+1;omega) hl
 have e:jm m=(tv d.next,(jm m).2):=by rw [<-hx];rfl
 unfold bd fH
 rw [e]
 rcases h1 with ⟨k1,k2,k3,k4,k5,k6,k7⟩ | hh
 ·exact .inl ⟨k1,k2,k3,k4,k5,Nat.le_trans (Nat.le_succ _) k6,k7⟩
 ·exact .inr hh
theorem Nr (most:Nat) (h:Nd) (ps:To) (hg:h.k=10->gT (h.tk,h.tn,h.tp)) (hb:h.k=10->nN 0 (h.tk,h.tn,h.tp)) {vs:List (Env->Pm Ty)} {us:List (aS->Dm Nat)} (hv:KR most vs us):VL most (xw most h ps vs) (D7 h ps us):=by
 refine ⟨fun n e e' he=>?_,WG h ps hg hv.rs,WH _ h ps vs,IW h ps hv.mon⟩
 have hme:=he.mon
 have yZ:∀ (own l r:Ty) (fr en:Int),Up (bd (jv (most:Int) l r fr en) fun _=>pu own):=fun own l r fr en=>Up.bind (Up.eqn _ _ _ _ _) fun _=>Up.pure _
 have zf:∀ (own:Nat) (l r:Ty) (fr en:Int),Mon (fH (l9 l r fr en) fun _=>jG own):=fun own l r fr en=>Mon.bind (Mon.add _ _ _ _) fun _=>Mon.pure _
 have hmono:=IW h ps hv.mon e' hme
 unfold xw D7 at *
 refine Lk.PK (fun a=>Up.many _ _) hmono fun own n1 hn1 hon=>Lk.many ?_
 have h0:0 < n1:=by omega
 have he1:uO most n1 e e':=he.mono (by omega)
 have Gs:∀ {j:Nat} {l r:Ty} (fr en:Int),n1<=j->nN j l->nN j r->Lk most j RT (bd (jv (most:Int) l r fr en) fun _=>pu (tv own)) (fH (l9 l r fr en) fun _=>jG own):=fun fr en hj hl hr=>Lk.bind (Lk.eqn fr en hl hr) (fun _=>Up.pure _) (fun _=>Mon.pure _) fun _ _ i hi _=>Lk.pure fun u hu=>⟨rfl,by omega⟩
 have ho1:∀ {j:Nat},n1<=j->nN j (tv own):=fun hj=>nN.tv (by omega)
 by_cases c2:h.k=2
 ·rw [if_pos c2,if_pos c2];exact Gs _ _ (Nat.le_refl _) (ho1 (Nat.le_refl _)) (nN.zero _ 2 (by decide))
 rw [if_neg c2,if_neg c2]
 by_cases c3:h.k=3
 ·rw [if_pos c3,if_pos c3];exact Gs _ _ (Nat.le_refl _) (ho1 (Nat.le_refl _)) (nN.zero _ 3 (by decide))
 rw [if_neg c3,if_neg c3]
 by_cases c1:h.k=1
 ·rw [if_pos c1,if_pos c1]
  refine Lk.bind (he1.look h0 h.nm) (fun _=>yZ _ _ _ _ _) (fun _=>zf _ _ _ _ _) fun t t' j hj htt=>?_
  obtain ⟨rfl,htl⟩:=htt
  exact Gs _ _ hj (ho1 hj) (nN.tv htl)
 rw [if_neg c1,if_neg c1]
 by_cases c4:h.k=4
 ·rw [if_pos c4,if_pos c4]
  refine Lk.bind (Lk.take most _) (fun _=>Up.bind (hv.KT _ _) fun _=>yZ _ _ _ _ _) (fun b=>Mon.bind (qY hv.mon 0 (hme.cons (Mon.pure b))) fun _=>zf _ _ _ _ _) fun b b' j hj hbb=>?_
  obtain ⟨rfl,hbl⟩:=hbb
  refine Lk.bind (hv.at 0 (by omega) (.cons ⟨Lk.pure fun i hi=>⟨rfl,by omega⟩,IX hbl⟩ (he1.mono hj))) (fun _=>yZ _ _ _ _ _) (fun _=>zf _ _ _ _ _) fun t t' i hi htt=>?_
  obtain ⟨rfl,htl⟩:=htt
  exact Gs _ _ (by omega) (ho1 (by omega)) ((nN.tv (by omega)).arr (nN.tv htl))
 rw [if_neg c4,if_neg c4]
 have hself:Self n1 (nM h us e'):=fun a d ha ha0=>Ci h hv.rs ha0 (he1.rs ha ha0)
 have hkm:=yY h hv.mon hme
 have second:∀ {F:Pm Ty},Lk most n1 RT F (nM h us e')->Lk most n1 RT (bd (Gn (most:Int) h F fun c=>Pz vs 1 ((h.nm,c)::e)) fun t=>bd (jv (most:Int) (tv own) t h.fr h.en) fun _=>pu (tv own)) (fH (nM h us e') fun _=>fH (dat us 1 ((h.nm,nM h us e')::e')) fun t=>fH (l9 (tv own) (tv t) h.fr h.en) fun _=>jG own):=fun {F} hF=>by
  show Lk most n1 RT _ (fH (fH (nM h us e') fun _=>dat us 1 ((h.nm,nM h us e')::e')) fun t=>fH (l9 (tv own) (tv t) h.fr h.en) fun _=>jG own)
  refine Lk.bind (WI h h0 hF hself (fun c m _ hm=>hv.KT 1 _ m hm) (qY hv.mon 1 (hme.cons hkm)) fun c k hk hc=>hv.at 1 (by omega) (.cons hc (he1.mono hk))) (fun _=>yZ _ _ _ _ _) (fun _=>zf _ _ _ _ _) fun t t' i hi htt=>?_
  obtain ⟨rfl,htl⟩:=htt
  exact Gs _ _ hi (ho1 hi) (nN.tv htl)
 by_cases c6:h.k=6
 ·rw [if_pos c6,if_pos (.inl c6)]
  refine second ?_
  unfold nM
  rw [if_pos c6]
  exact hv.at 0 h0 he1
 rw [if_neg c6]
 by_cases c7:h.k=7
 ·rw [if_pos c7,if_pos (.inr c7)]
  refine second ?_
  unfold nM
  rw [if_neg c6]
  refine Lk.bind (Lk.take most _) (fun _=>Up.bind (hv.KT _ _) fun _=>yZ _ _ _ _ _) (fun b=>Mon.bind (qY hv.mon 0 (hme.cons (Mon.pure b))) fun _=>zf _ _ _ _ _) fun b b' j hj hbb=>?_
  obtain ⟨rfl,hbl⟩:=hbb
  refine Lk.bind (hv.at 0 (by omega) (.cons ⟨Lk.pure fun i hi=>⟨rfl,by omega⟩,IX hbl⟩ (he1.mono hj))) (fun _=>yZ _ _ _ _ _) (fun _=>zf _ _ _ _ _) fun t t' i hi htt=>?_
  obtain ⟨rfl,htl⟩:=htt
  exact Lk.bind (Lk.eqn _ _ (nN.tv (by omega)) (nN.tv htl)) (fun _=>Up.pure _) (fun _=>Mon.pure _) fun _ _ u hu _=>Lk.pure fun x hx=>⟨rfl,by omega⟩
 rw [if_neg c7,if_neg (fun c=>c.elim c6 c7)]
 have aaP:∀ p:List Ty,Up (if h.k=5 then bd (jv (most:Int) (Nb p 0) (pO (Nb p 1) (tv own)) h.fr h.en) fun _=>pu (tv own)
  else if h.k=8 then bd (jv (most:Int) (Nb p 0) (3,0,.nil) (aX ps 0).1 (aX ps 0).2) fun _=>bd (jv (most:Int) (tv own) (Nb p 1) (aX ps 1).1 (aX ps 1).2) fun _=>bd (jv (most:Int) (tv own) (Nb p 2) (aX ps 2).1 (aX ps 2).2) fun _=>pu (tv own)
  else if h.k=9 then bd (jv (most:Int) (tv own) (5,0,oL p) h.fr h.en) fun _=>pu (tv own)
  else if h.k=10 then bd (jv (most:Int) (Nb p 0) (h.tk,h.tn,h.tp) (aX ps 0).1 (aX ps 0).2) fun _=>bd (jv (most:Int) (tv own) (h.tk,h.tn,h.tp) h.fr h.en) fun _=>pu (tv own)
  else pu (tv own)):=fun p=>by
  split
  ·exact yZ _ _ _ _ _
  split
  ·exact Up.bind (Up.eqn _ _ _ _ _) fun _=>Up.bind (Up.eqn _ _ _ _ _) fun _=>yZ _ _ _ _ _
  split
  ·exact yZ _ _ _ _ _
  split
  ·exact Up.bind (Up.eqn _ _ _ _ _) fun _=>yZ _ _ _ _ _
  ·exact Up.pure _
 refine Lk.bind (hv.map h0 he1) aaP (fun p=>Mon.ite (zf _ _ _ _ _) (Mon.ite (Mon.bind (Mon.add _ _ _ _) fun _=>Mon.bind (Mon.add _ _ _ _) fun _=>zf _ _ _ _ _) (Mon.ite (zf _ _ _ _ _) (Mon.ite (Mon.bind (Mon.add _ _ _ _) fun _=>zf _ _ _ _ _) (Mon.pure _))))) fun p p' j hj hpp=>?_
 obtain ⟨rfl,hpl⟩:=hpp
 have tn:=Zf hpl
 refine Lk.ite (fun _=>Gs _ _ hj (tn 0) ((tn 1).arr (ho1 hj))) fun _=>Lk.ite (fun _=>?_) fun _=>Lk.ite (fun _=>Gs _ _ hj (ho1 hj) ⟨fun c=>absurd c (by decide:(5:Int)≠1),Np _ (fun t ht=>by obtain ⟨i,hi,rfl⟩:=List.mem_map.1 ht;exact nN.tv (hpl i hi))⟩) fun _=>Lk.ite (fun h10=>?_) fun _=>Lk.pure fun u hu=>⟨rfl,by omega⟩
 ·exact Lk.bind (Lk.eqn _ _ (tn 0) (nN.zero _ 3 (by decide))) (fun _=>Up.bind (Up.eqn _ _ _ _ _) fun _=>yZ _ _ _ _ _) (fun _=>Mon.bind (Mon.add _ _ _ _) fun _=>zf _ _ _ _ _) fun _ _ i hi _=>Lk.bind (Lk.eqn _ _ (ho1 (by omega)) ((tn 1).mono hi)) (fun _=>yZ _ _ _ _ _) (fun _=>zf _ _ _ _ _) fun _ _ u hu _=>Gs _ _ (by omega) (ho1 (by omega)) ((tn 2).mono (by omega))
 ·have hT:=hb h10
  exact Lk.bind (Lk.eqn _ _ (tn 0) (hT.mono (Nat.zero_le _))) (fun _=>yZ _ _ _ _ _) (fun _=>zf _ _ _ _ _) fun _ _ i hi _=>Gs _ _ (by omega) (ho1 (by omega)) (hT.mono (Nat.zero_le _))
theorem Cm (most:Nat):∀ f:To,gA f->noV f->KR most (vF most f) (valsD f)
 | .nil,_,_=>.nil
 | .cons h ps r,⟨a,b,c⟩,⟨a',b',c'⟩=>.cons (Nr most h ps a a' (Cm most ps b b')) (Cm most r c c')
theorem Tv (most:Nat) (h:Nd) (ps:To) (hg:gA (.cons h ps .nil)) (hn:noV (.cons h ps .nil)):Lk most 0 RT (EH most h ps []) (xA h ps []):=(Nr most h ps hg.1 hn.1 (Cm most ps hg.2.1 hn.2.1)).lk 0 [] [] .nil
end Em
end
section
namespace Em
open Cn (jg qX top brings tK pW cnt wK zT)
def sat (n:Nat):Int:=min top (n:Int)
theorem Zh:sat 0=0:=by
 have:∀ T:Int,0<=T->min T ((0:Nat):Int)=0:=fun T h=>by omega
 exact this _ (by decide)
theorem Tz (n:Nat):Cn.InT (sat n):=by
 have:∀ T:Int,0<=T->0<=min T (n:Int)/\min T (n:Int)<=T:=fun T h=>by omega
 exact this _ (by decide)
theorem CB (a b:Nat):qX (sat a) (sat b)=sat (a+b):=by
 have:∀ T:Int,0<=T->min T (min T (a:Int)+min T (b:Int))=min T ((a+b:Nat):Int):=fun T h=>by omega
 exact this _ (by decide)
theorem xB (a b:Nat):jg [sat a,sat b]=sat (a+b):=by rw [Cn.aaL (Tz a),CB]
theorem CG (a b c:Nat):jg [sat a,sat b,sat c]=sat (a+(b+c)):=by rw [Cn.aaM (Tz a),CB,CB,Nat.add_assoc]
def Ea (e:gV):Cn.Env:=e.map fun x=>(x.1,sat x.2)
theorem CJ:∀ (e:gV) (s:ByteArray),brings (Ea e) s=sat (qc e s)
 | [],_=>Zh.symm
 | x::r,s=>by
  show (if x.1=s then sat x.2 else brings (Ea r) s)=sat (if x.1=s then x.2 else qc r s)
  split
  ·rfl
  ·exact CJ r s
def aaQ (v:Cn.Env->Int) (u:gV->Nat):Prop:=∀ e,v (Ea e)=sat (u e)
inductive xC:List (Cn.Env->Int)->List (gV->Nat)->Prop
 | nil:xC [] []
 | cons {v:Cn.Env->Int} {u:gV->Nat} {l:List (Cn.Env->Int)} {l':List (gV->Nat)}:aaQ v u->xC l l'->xC (v::l) (u::l')
theorem xC.at {l:List (Cn.Env->Int)} {l':List (gV->Nat)} (h:xC l l'):∀ (i:Nat) (e:gV),l.getD i (fun _=>0) (Ea e)=sat (at0 l' i e):=by
 induction h with
 | nil=>intro i e;exact Zh.symm
 | cons h1 _ ih =>
  intro i e
  cases i with
  | zero=>exact h1 e
  | succ i=>exact ih i e
theorem xC.fold {l:List (Cn.Env->Int)} {l':List (gV->Nat)} (h:xC l l') (e:gV):∀ n:Nat,l.foldl (fun n v=>jg [n,v (Ea e)]) (sat n)=sat (n+IE e l'):=by
 induction h with
 | nil=>intro n;rfl
 | cons h1 _ ih =>
  intro n
  simp only [List.foldl_cons]
  rw [h1 e,xB,ih]
  congr 1
  show _=n+(_+_)
  omega
theorem IY {own:Int->Int} {ow:Int->Nat} (ho:∀ k,own k=sat (ow k)) (h:Nd) {vs:List (Cn.Env->Int)} {us:List (gV->Nat)} (hv:xC vs us):aaQ (tK own 1 h vs) (uN ow 1 h us):=by
 intro e
 have s1:(1:Int)=sat 1:=by
  have:∀ T:Int,1<=T->(1:Int)=min T ((1:Nat):Int):=fun T h=>by omega
  exact this _ (by decide)
 have c0:∀ (s:ByteArray),((s,0):ByteArray × Int)::Ea e=Ea ((s,0)::e):=fun s=>by unfold Ea;rw [List.map_cons,Zh]
 have cs:∀ (s:ByteArray) (n:Nat),((s,sat n):ByteArray × Int)::Ea e=Ea ((s,n)::e):=fun s n=>rfl
 unfold Cn.tK uN
 by_cases c1:h.k=1
 ·rw [if_pos c1,if_pos c1,CJ,ho,xB]
 rw [if_neg c1,if_neg c1]
 by_cases c4:h.k=4
 ·rw [if_pos c4,if_pos c4,c0,hv.at,ho,xB]
 rw [if_neg c4,if_neg c4]
 by_cases c6:h.k=6
 ·rw [if_pos c6,if_pos c6,hv.at 0 e,cs,hv.at 1,ho,CG]
 rw [if_neg c6,if_neg c6]
 by_cases c7:h.k=7
 ·rw [if_pos c7,if_pos c7,c0,hv.at 0,s1,xB,cs,hv.at 1,ho,CG]
 rw [if_neg c7,if_neg c7,ho,hv.fold]
theorem zh {own:Int->Int} {ow:Int->Nat} (ho:∀ k,own k=sat (ow k)):∀ f:To,xC (pW own 1 f) (EN ow 1 f)
 | .nil=>.nil
 | .cons h ps r=>.cons (IY ho h (zh ho ps)) (zh ho r)
theorem Ns {own:Int->Int} {ow:Int->Nat} (ho:∀ k,own k=sat (ow k)) (h:Nd) (ps:To):cnt own 1 h ps []=sat (Cc ow 1 h ps []):=IY ho h (zh ho ps) []
theorem ES {n:Nat} (h:(n:Int)<=1000):sat n=n:=by
 have:∀ T:Int,1000<=T->min T (n:Int)=n:=fun T h=>by omega
 exact this _ (by decide)
theorem TA (k:Int):wK k=sat (IG k):=by
 rw [ES (by unfold IG;split<;>(try split)<;>omega)]
 unfold Cn.wK IG;split<;>(try split)<;>rfl
theorem TB (k:Int):zT k=sat (PD k):=by
 rw [ES (by unfold PD;split<;>omega)]
 unfold Cn.zT PD;split<;>rfl
end Em
end
section
namespace Em
theorem Gt:∀ (f:Fo) (l:List Int),Fo.vars l f=[]->l=[]/\gF f
 | .nil,l,h=>⟨h,trivial⟩
 | .cons k n ps r,l,h=>by
  unfold Fo.vars at h
  obtain ⟨h1,h2⟩:=Gt r _ h
  obtain ⟨h3,h4⟩:=Gt ps _ h1
  by_cases hk:k=1
  ·exfalso
   subst hk
   by_cases hi:inB l n=true
   ·rw [hi] at h3
    simp at h3
    subst h3
    simp [inB] at hi
   ·have hi':inB l n=false:=by simpa using hi
    rw [hi'] at h3
    simp at h3
  ·have:(k == 1)=false:=by simpa using hk
   rw [this] at h3
   simp at h3
   exact ⟨h3,hk,h4,h2⟩
theorem TD:∀ f:Fo,gF f->fB 0 f
 | .nil,_=>trivial
 | .cons _ _ ps r,⟨a,b,c⟩=>⟨fun h=>absurd h a,TD ps b,TD r c⟩
theorem tX {h:Nd} {m:Nat} (hs:aI h m=true):1<=h.k/\h.k<=10/\dW h=true/\iI h.k<=m/\(m:Int)<=mQ h.k:=by
 unfold aI at hs
 simp only [Bool.and_eq_true,decide_eq_true_eq] at hs
 exact ⟨hs.1.1.1.1.1.1.1,hs.1.1.1.1.1.1.2,hs.1.1.1.1.2,hs.1.2,hs.2⟩
theorem TF {h:Nd} (ht:dW h=true) (h10:h.k=10):gT (h.tk,h.tn,h.tp):=by
 unfold dW at ht
 rw [if_pos (by simp [h10])] at ht
 unfold uw at ht
 rw [Bool.and_eq_true] at ht
 have hv:Fo.vars [] (.cons h.tk h.tn h.tp .nil)=[]:=by simpa [List.isEmpty_iff] using ht.2
 obtain ⟨_,a,b,_⟩:=Gt _ _ hv
 exact ⟨a,b⟩
theorem Gu:∀ f:To,pK f=true->WB f
 | .nil,_=>trivial
 | .cons h ps r,e=>by
  rw [lV,Bool.and_eq_true,Bool.and_eq_true] at e
  obtain ⟨h1,h2,_,_,h5⟩:=tX e.1.1
  refine ⟨⟨h1,h2,fun hk=>?_⟩,Gu ps e.1.2,Gu r e.2⟩
  have hm:mQ h.k=0:=by rcases hk with hk | hk<;>(rw [hk];rfl)
  rw [hm] at h5
  have hl:ps.length=0:=by omega
  cases ps with
  | nil=>rfl
  | cons _ _ _=>simp [To.length] at hl
theorem IZ:∀ f:To,pK f=true->gA f/\noV f
 | .nil,_=>⟨trivial,trivial⟩
 | .cons h ps r,e=>by
  rw [lV,Bool.and_eq_true,Bool.and_eq_true] at e
  obtain ⟨h1,h2,h3,_,_⟩:=tX e.1.1
  have hg:=TF h3
  exact ⟨⟨hg,(IZ ps e.1.2).1,(IZ r e.2).1⟩,⟨fun h10=>⟨fun hk=>absurd hk (hg h10).1,TD _ (hg h10).2⟩,(IZ ps e.1.2).2,(IZ r e.2).2⟩⟩
theorem KU:∀ f:To,pK f=true->allT sJ f->D6 f
 | .nil,_,_=>trivial
 | .cons h ps r,e,g=>by
  rw [lV,Bool.and_eq_true,Bool.and_eq_true] at e
  obtain ⟨h1,h2,_,h4,_⟩:=tX e.1.1
  have hl:∀ k:Int,h.k=k->iI k<=ps.length:=fun k hk=>by rw [<-hk];exact h4
  refine ⟨⟨⟨h1,h2⟩,fun hk=>?_,fun hk=>?_,fun hk=>?_,fun hk=>?_,fun hk=>?_,fun hk=>?_,g.1.2.1⟩,KU ps e.1.2 g.2.1,KU r e.2 g.2.2⟩ <;>
   (have:=hl _ hk;simp [iI] at this;omega)
theorem Zi {h:Nd} {ps:To} (h0:(Sc.ni h ps).2.2=0):Sc.RT h ps=true/\Sc.eG [] h ps=[]:=by
 unfold Sc.ni at h0
 split at h0
 ·next hr =>
  split at h0
  ·next hf=>exact ⟨hr,hf⟩
  ·exact absurd (show (5:Int)=0 from h0) (by decide)
 ·exact absurd h0 (by decide)
end Em
end
section
namespace Em
theorem TG {h:Nd} {ps:To} (hr:Sc.RT h ps=true) (hf:Sc.eG [] h ps=[]):(Sc.ni h ps).2.2=0:=by
 unfold Sc.ni
 rw [if_pos hr,hf]
end Em
end
section
open Go.RowKit
namespace Em
def uP:List Value->List Ty->Prop
 | xs,[]=>xs=[]
 | xs,t::r=>∃ (n:Nat) (o:Option Addr) (c:Nat) (ys:List Value),t=tv n/\xs=[.int .i64 1,.int .i64 n,.slice o 0 c]++ys/\uP ys r
theorem uP.snoc (n:Nat) (o:Option Addr) (c:Nat):∀ (l:List Ty) (xs:List Value),uP xs l->uP (xs++[.int .i64 1,.int .i64 n,.slice o 0 c]) (l++[tv n])
 | [],xs,h=>by cases h;exact ⟨n,o,c,[],rfl,by simp,rfl⟩
 | t::r,xs,h=>by
  obtain ⟨n',o',c',ys,e,rfl,hr⟩:=h
  exact ⟨n',o',c',_,e,by rw [List.append_assoc],uP.snoc n o c r ys hr⟩
theorem uP.get:∀ (l:List Ty) (xs:List Value) (i:Nat),uP xs l->i < l.length->∃ (n:Nat) (o:Option Addr) (c:Nat),l[i]?=some (tv n)/\xs[i * 3]?=some (.int .i64 1)/\xs[i * 3+1]?=some (.int .i64 n)/\xs[i * 3+2]?=some (.slice o 0 c)
 | [],xs,i,_,h=>by simp at h
 | t::r,xs,0,h,_=>by
  obtain ⟨n,o,c,ys,rfl,rfl,hr⟩:=h
  exact ⟨n,o,c,by simp⟩
 | t::r,xs,i+1,h,hi=>by
  obtain ⟨n,o,c,ys,rfl,rfl,hr⟩:=h
  obtain ⟨n',o',c',k⟩:=uP.get r ys i hr (by simpa using hi)
  refine ⟨n',o',c',?_⟩
  rw [show (i+1) * 3=i * 3+3 from by omega]
  simpa using k
theorem uP.at {T:Nat->Prop} {w:World} {g:Nat} (hg:T g) (hgl:g < w.heap.size):∀ (l:List Ty) (xs:List Value) (off:Nat),uP xs l->(∀ j u,xs[j]?=some u->w.cell? ⟨g,off+j,none⟩=some u)->AtIn T w g off (oL l)
 | [],_,_,_,_=>trivial
 | t::r,xs,off,h,hc=>by
  obtain ⟨n,o,c,ys,rfl,rfl,hr⟩:=h
  refine ⟨hg,hc 0 _ rfl,hc 1 _ rfl,⟨o,0,c,hc 2 _ rfl,rfl,Nat.zero_le _,fun h=>absurd h (Nat.lt_irrefl _)⟩,uP.at hg hgl r ys (off+3) hr ?_⟩
  intro j u hj
  have:=hc (j+3) u (by simpa using hj)
  rw [<-this];congr 2;omega
def TI (T:Nat->Prop) (w:World) (o:Option Addr) (l:List Ty):Prop:=l.length<=maxLen/\(l=[]∨∃ g,o=some ⟨g,0,none⟩/\T g/\g < w.heap.size/\∃ xs,uP xs l/\∀ j u,xs[j]?=some u->w.cell? ⟨g,j,none⟩=some u)
theorem zK:∀ l:List Ty,(oL l).length=l.length
 | []=>rfl
 | t::r=>by simp only [oL,Fo.length,List.length_cons];rw [zK r]
theorem TI.slc {T:Nat->Prop} {w:World} {o:Option Addr} {l:List Ty} (h:TI T w o l):aC T w o l.length (oL l):=by
 refine ⟨(zK l).symm,h.1,fun hl=>?_⟩
 rcases h.2 with e | ⟨g,h1,h2,h3,xs,h4,h5⟩
 ·subst e;simp at hl
 ·exact ⟨g,0,h1,uP.at h2 h3 l xs 0 h4 (fun j u hj=>by rw [Nat.zero_add];exact h5 j u hj)⟩
theorem TI.get {T:Nat->Prop} {w:World} {o:Option Addr} {l:List Ty} (h:TI T w o l) {i:Nat} (hi:i < l.length):∃ (g n:Nat) (oo:Option Addr) (cc:Nat),o=some ⟨g,0,none⟩/\Nb l i=tv n/\w.cell? ⟨g,i * 3,none⟩=some (.int .i64 1)/\w.cell? ⟨g,i * 3+1,none⟩=some (.int .i64 n)/\w.cell? ⟨g,i * 3+2,none⟩=some (.slice oo 0 cc):=by
 rcases h.2 with e | ⟨g,h1,h2,h3,xs,h4,h5⟩
 ·subst e;simp at hi
 ·obtain ⟨n,oo,cc,k0,k1,k2,k3⟩:=uP.get l xs i h4 hi
  exact ⟨g,n,oo,cc,h1,by unfold Nb;rw [List.getD_eq_getElem?_getD,k0];rfl,h5 _ _ k1,h5 _ _ k2,h5 _ _ k3⟩
theorem elemTy:Elem Tryz.prog 22 24 (.agg #[.int .i64 0,.int .i64 0,.slice none 0 0]) 3 40 :=
 ⟨Tryz.underlying22,by kernel_rfl,by decide,by decide⟩
end Em
end
section
open Go.RowKit
namespace Em
def ArQ (W:World) (a b:Nat) (e:Ending) (w':World):Prop:=∃ o' cap',e=.returned (.agg #[.int .i64 4,.int .i64 0,.slice o' 2 cap'])/\aC (fun i=>W.heap.size<=i) w' o' 2 (pO (tv a) (tv b)).2.2/\ah W w'
end Em
end
section
open Go.RowKit
namespace Hd
section
variable {P:Program} {md:Region.Mode} {ops:Array Oper} {Q:Exit->Act->World->Prop} {S S':World->Prop}
theorem TJ {oi : Oper} {r : List Oper} {fuel : Nat} {listed : Array Bool} {a : Act} {w : World} {rs : List Nat}
    (h:∀ K':Act->World->Prop,Shut (∀ a w,S w->(S w->wpAnyH P md (oi::r).toArray Q S fuel (listed.setIfInBounds 0 true) a w)->K' a w)->if Region.wanted oi (yielded (oi::r).toArray a.tmps)=true then Oper.wp P oi a w K' Q else K' (a.put oi.dst undef) w)
    (hs:AllReadyH P md (oi::r).toArray Q S fuel listed a w rs):AllReadyH P md (oi::r).toArray Q S fuel listed a w (0::rs):=AllReadyH.cons (i:=0) rfl h hs
theorem rU {o0 o1 oi : Oper} {r : List Oper} {fuel : Nat} {listed : Array Bool} {a : Act} {w : World} {rs : List Nat}
    (h:∀ K':Act->World->Prop,Shut (∀ a w,S w->(S w->wpAnyH P md (o0::o1::oi::r).toArray Q S fuel (listed.setIfInBounds 2 true) a w)->K' a w)->if Region.wanted oi (yielded (o0::o1::oi::r).toArray a.tmps)=true then Oper.wp P oi a w K' Q else K' (a.put oi.dst undef) w)
    (hs:AllReadyH P md (o0::o1::oi::r).toArray Q S fuel listed a w rs):AllReadyH P md (o0::o1::oi::r).toArray Q S fuel listed a w (2::rs):=AllReadyH.cons (i:=2) rfl h hs
theorem Nu {o0 o1 o2 oi : Oper} {r : List Oper} {fuel : Nat} {listed : Array Bool} {a : Act} {w : World} {rs : List Nat}
    (h:∀ K':Act->World->Prop,Shut (∀ a w,S w->(S w->wpAnyH P md (o0::o1::o2::oi::r).toArray Q S fuel (listed.setIfInBounds 3 true) a w)->K' a w)->if Region.wanted oi (yielded (o0::o1::o2::oi::r).toArray a.tmps)=true then Oper.wp P oi a w K' Q else K' (a.put oi.dst undef) w)
    (hs:AllReadyH P md (o0::o1::o2::oi::r).toArray Q S fuel listed a w rs):AllReadyH P md (o0::o1::o2::oi::r).toArray Q S fuel listed a w (3::rs):=AllReadyH.cons (i:=3) rfl h hs
theorem ET {o0 o1 o2 o3 oi : Oper} {r : List Oper} {fuel : Nat} {listed : Array Bool} {a : Act} {w : World} {rs : List Nat}
    (h:∀ K':Act->World->Prop,Shut (∀ a w,S w->(S w->wpAnyH P md (o0::o1::o2::o3::oi::r).toArray Q S fuel (listed.setIfInBounds 4 true) a w)->K' a w)->if Region.wanted oi (yielded (o0::o1::o2::o3::oi::r).toArray a.tmps)=true then Oper.wp P oi a w K' Q else K' (a.put oi.dst undef) w)
    (hs:AllReadyH P md (o0::o1::o2::o3::oi::r).toArray Q S fuel listed a w rs):AllReadyH P md (o0::o1::o2::o3::oi::r).toArray Q S fuel listed a w (4::rs):=AllReadyH.cons (i:=4) rfl h hs
theorem CO {o0 o1 o2 o3 o4 oi : Oper} {r : List Oper} {fuel : Nat} {listed : Array Bool} {a : Act} {w : World} {rs : List Nat}
    (h:∀ K':Act->World->Prop,Shut (∀ a w,S w->(S w->wpAnyH P md (o0::o1::o2::o3::o4::oi::r).toArray Q S fuel (listed.setIfInBounds 5 true) a w)->K' a w)->if Region.wanted oi (yielded (o0::o1::o2::o3::o4::oi::r).toArray a.tmps)=true then Oper.wp P oi a w K' Q else K' (a.put oi.dst undef) w)
    (hs:AllReadyH P md (o0::o1::o2::o3::o4::oi::r).toArray Q S fuel listed a w rs):AllReadyH P md (o0::o1::o2::o3::o4::oi::r).toArray Q S fuel listed a w (5::rs):=AllReadyH.cons (i:=5) rfl h hs
theorem I4 {o0 o1 o2 o3 o4 o5 oi : Oper} {r : List Oper} {fuel : Nat} {listed : Array Bool} {a : Act} {w : World} {rs : List Nat}
    (h:∀ K':Act->World->Prop,Shut (∀ a w,S w->(S w->wpAnyH P md (o0::o1::o2::o3::o4::o5::oi::r).toArray Q S fuel (listed.setIfInBounds 6 true) a w)->K' a w)->if Region.wanted oi (yielded (o0::o1::o2::o3::o4::o5::oi::r).toArray a.tmps)=true then Oper.wp P oi a w K' Q else K' (a.put oi.dst undef) w)
    (hs:AllReadyH P md (o0::o1::o2::o3::o4::o5::oi::r).toArray Q S fuel listed a w rs):AllReadyH P md (o0::o1::o2::o3::o4::o5::oi::r).toArray Q S fuel listed a w (6::rs):=AllReadyH.cons (i:=6) rfl h hs
theorem jV {o0 o1 o2 o3 o4 o5 o6 oi : Oper} {r : List Oper} {fuel : Nat} {listed : Array Bool} {a : Act} {w : World} {rs : List Nat}
    (h:∀ K':Act->World->Prop,Shut (∀ a w,S w->(S w->wpAnyH P md (o0::o1::o2::o3::o4::o5::o6::oi::r).toArray Q S fuel (listed.setIfInBounds 7 true) a w)->K' a w)->if Region.wanted oi (yielded (o0::o1::o2::o3::o4::o5::o6::oi::r).toArray a.tmps)=true then Oper.wp P oi a w K' Q else K' (a.put oi.dst undef) w)
    (hs:AllReadyH P md (o0::o1::o2::o3::o4::o5::o6::oi::r).toArray Q S fuel listed a w rs):AllReadyH P md (o0::o1::o2::o3::o4::o5::o6::oi::r).toArray Q S fuel listed a w (7::rs):=AllReadyH.cons (i:=7) rfl h hs
theorem EU {o0 o1 o2 o3 o4 o5 o6 o7 oi : Oper} {r : List Oper} {fuel : Nat} {listed : Array Bool} {a : Act} {w : World} {rs : List Nat}
    (h:∀ K':Act->World->Prop,Shut (∀ a w,S w->(S w->wpAnyH P md (o0::o1::o2::o3::o4::o5::o6::o7::oi::r).toArray Q S fuel (listed.setIfInBounds 8 true) a w)->K' a w)->if Region.wanted oi (yielded (o0::o1::o2::o3::o4::o5::o6::o7::oi::r).toArray a.tmps)=true then Oper.wp P oi a w K' Q else K' (a.put oi.dst undef) w)
    (hs:AllReadyH P md (o0::o1::o2::o3::o4::o5::o6::o7::oi::r).toArray Q S fuel listed a w rs):AllReadyH P md (o0::o1::o2::o3::o4::o5::o6::o7::oi::r).toArray Q S fuel listed a w (8::rs):=AllReadyH.cons (i:=8) rfl h hs
theorem EW {o0 o1 o2 o3 o4 o5 o6 o7 o8 oi : Oper} {r : List Oper} {fuel : Nat} {listed : Array Bool} {a : Act} {w : World} {rs : List Nat}
    (h:∀ K':Act->World->Prop,Shut (∀ a w,S w->(S w->wpAnyH P md (o0::o1::o2::o3::o4::o5::o6::o7::o8::oi::r).toArray Q S fuel (listed.setIfInBounds 9 true) a w)->K' a w)->if Region.wanted oi (yielded (o0::o1::o2::o3::o4::o5::o6::o7::o8::oi::r).toArray a.tmps)=true then Oper.wp P oi a w K' Q else K' (a.put oi.dst undef) w)
    (hs:AllReadyH P md (o0::o1::o2::o3::o4::o5::o6::o7::o8::oi::r).toArray Q S fuel listed a w rs):AllReadyH P md (o0::o1::o2::o3::o4::o5::o6::o7::o8::oi::r).toArray Q S fuel listed a w (9::rs):=AllReadyH.cons (i:=9) rfl h hs
theorem KW {o0 o1 o2 o3 o4 o5 o6 o7 o8 o9 oi : Oper} {r : List Oper} {fuel : Nat} {listed : Array Bool} {a : Act} {w : World} {rs : List Nat}
    (h:∀ K':Act->World->Prop,Shut (∀ a w,S w->(S w->wpAnyH P md (o0::o1::o2::o3::o4::o5::o6::o7::o8::o9::oi::r).toArray Q S fuel (listed.setIfInBounds 10 true) a w)->K' a w)->if Region.wanted oi (yielded (o0::o1::o2::o3::o4::o5::o6::o7::o8::o9::oi::r).toArray a.tmps)=true then Oper.wp P oi a w K' Q else K' (a.put oi.dst undef) w)
    (hs:AllReadyH P md (o0::o1::o2::o3::o4::o5::o6::o7::o8::o9::oi::r).toArray Q S fuel listed a w rs):AllReadyH P md (o0::o1::o2::o3::o4::o5::o6::o7::o8::o9::oi::r).toArray Q S fuel listed a w (10::rs):=AllReadyH.cons (i:=10) rfl h hs
theorem Gv {o0 o1 o2 o3 o4 o5 o6 o7 o8 o9 jo oi : Oper} {r : List Oper} {fuel : Nat} {listed : Array Bool} {a : Act} {w : World} {rs : List Nat}
    (h:∀ K':Act->World->Prop,Shut (∀ a w,S w->(S w->wpAnyH P md (o0::o1::o2::o3::o4::o5::o6::o7::o8::o9::jo::oi::r).toArray Q S fuel (listed.setIfInBounds 11 true) a w)->K' a w)->if Region.wanted oi (yielded (o0::o1::o2::o3::o4::o5::o6::o7::o8::o9::jo::oi::r).toArray a.tmps)=true then Oper.wp P oi a w K' Q else K' (a.put oi.dst undef) w)
    (hs:AllReadyH P md (o0::o1::o2::o3::o4::o5::o6::o7::o8::o9::jo::oi::r).toArray Q S fuel listed a w rs):AllReadyH P md (o0::o1::o2::o3::o4::o5::o6::o7::o8::o9::jo::oi::r).toArray Q S fuel listed a w (11::rs):=AllReadyH.cons (i:=11) rfl h hs
theorem tY {o0 o1 o2 o3 o4 o5 o6 o7 o8 o9 jo lH oi : Oper} {r : List Oper} {fuel : Nat} {listed : Array Bool} {a : Act} {w : World} {rs : List Nat}
    (h:∀ K':Act->World->Prop,Shut (∀ a w,S w->(S w->wpAnyH P md (o0::o1::o2::o3::o4::o5::o6::o7::o8::o9::jo::lH::oi::r).toArray Q S fuel (listed.setIfInBounds 12 true) a w)->K' a w)->if Region.wanted oi (yielded (o0::o1::o2::o3::o4::o5::o6::o7::o8::o9::jo::lH::oi::r).toArray a.tmps)=true then Oper.wp P oi a w K' Q else K' (a.put oi.dst undef) w)
    (hs:AllReadyH P md (o0::o1::o2::o3::o4::o5::o6::o7::o8::o9::jo::lH::oi::r).toArray Q S fuel listed a w rs):AllReadyH P md (o0::o1::o2::o3::o4::o5::o6::o7::o8::o9::jo::lH::oi::r).toArray Q S fuel listed a w (12::rs):=AllReadyH.cons (i:=12) rfl h hs
theorem qp {o0 o1 o2 o3 o4 o5 o6 o7 o8 o9 jo lH qg oi : Oper} {r : List Oper} {fuel : Nat} {listed : Array Bool} {a : Act} {w : World} {rs : List Nat}
    (h:∀ K':Act->World->Prop,Shut (∀ a w,S w->(S w->wpAnyH P md (o0::o1::o2::o3::o4::o5::o6::o7::o8::o9::jo::lH::qg::oi::r).toArray Q S fuel (listed.setIfInBounds 13 true) a w)->K' a w)->if Region.wanted oi (yielded (o0::o1::o2::o3::o4::o5::o6::o7::o8::o9::jo::lH::qg::oi::r).toArray a.tmps)=true then Oper.wp P oi a w K' Q else K' (a.put oi.dst undef) w)
    (hs:AllReadyH P md (o0::o1::o2::o3::o4::o5::o6::o7::o8::o9::jo::lH::qg::oi::r).toArray Q S fuel listed a w rs):AllReadyH P md (o0::o1::o2::o3::o4::o5::o6::o7::o8::o9::jo::lH::qg::oi::r).toArray Q S fuel listed a w (13::rs):=AllReadyH.cons (i:=13) rfl h hs
theorem qw {o0 o1 o2 o3 o4 o5 o6 o7 o8 o9 jo lH qg sG oi : Oper} {r : List Oper} {fuel : Nat} {listed : Array Bool} {a : Act} {w : World} {rs : List Nat}
    (h:∀ K':Act->World->Prop,Shut (∀ a w,S w->(S w->wpAnyH P md (o0::o1::o2::o3::o4::o5::o6::o7::o8::o9::jo::lH::qg::sG::oi::r).toArray Q S fuel (listed.setIfInBounds 14 true) a w)->K' a w)->if Region.wanted oi (yielded (o0::o1::o2::o3::o4::o5::o6::o7::o8::o9::jo::lH::qg::sG::oi::r).toArray a.tmps)=true then Oper.wp P oi a w K' Q else K' (a.put oi.dst undef) w)
    (hs:AllReadyH P md (o0::o1::o2::o3::o4::o5::o6::o7::o8::o9::jo::lH::qg::sG::oi::r).toArray Q S fuel listed a w rs):AllReadyH P md (o0::o1::o2::o3::o4::o5::o6::o7::o8::o9::jo::lH::qg::sG::oi::r).toArray Q S fuel listed a w (14::rs):=AllReadyH.cons (i:=14) rfl h hs
theorem Gw {o0 o1 o2 o3 o4 o5 o6 o7 o8 o9 jo lH qg sG Ap oi : Oper} {r : List Oper} {fuel : Nat} {listed : Array Bool} {a : Act} {w : World} {rs : List Nat}
    (h:∀ K':Act->World->Prop,Shut (∀ a w,S w->(S w->wpAnyH P md (o0::o1::o2::o3::o4::o5::o6::o7::o8::o9::jo::lH::qg::sG::Ap::oi::r).toArray Q S fuel (listed.setIfInBounds 15 true) a w)->K' a w)->if Region.wanted oi (yielded (o0::o1::o2::o3::o4::o5::o6::o7::o8::o9::jo::lH::qg::sG::Ap::oi::r).toArray a.tmps)=true then Oper.wp P oi a w K' Q else K' (a.put oi.dst undef) w)
    (hs:AllReadyH P md (o0::o1::o2::o3::o4::o5::o6::o7::o8::o9::jo::lH::qg::sG::Ap::oi::r).toArray Q S fuel listed a w rs):AllReadyH P md (o0::o1::o2::o3::o4::o5::o6::o7::o8::o9::jo::lH::qg::sG::Ap::oi::r).toArray Q S fuel listed a w (15::rs):=AllReadyH.cons (i:=15) rfl h hs
end
end Hd
end
section
open Go.RowKit
namespace Em
def Nv (w:World) (o:Option Addr) (l:List qK):Prop:=l.length<=4096/\(∀ t∈l,t.1.2.2.size<=100000/\t.2.1.2.2.size<=100000)/\(l=[]∨∃ b off,o=some ⟨b,off,none⟩/\QC (fun _=>True) w b off l)
theorem QC.stay {w w':World} {b off:Nat} {l:List qK} (h:QC (fun _=>True) w b off l) (hq:ah w w'):QC (fun _=>True) w' b off l:=by
 intro i t hi
 obtain ⟨o1,l1,c1,o2,l2,c2,s1,s2,a0,a1,a2,a3,a4,a5,a6,a7⟩:=h i t hi
 exact ⟨o1,l1,c1,o2,l2,c2,s1.stay hq,s2.stay hq,hq.at a0,hq.at a1,hq.at a2,hq.at a3,hq.at a4,hq.at a5,hq.at a6,hq.at a7⟩
theorem Nv.stay {w w':World} {o:Option Addr} {l:List qK} (h:Nv w o l) (hq:ah w w'):Nv w' o l:=by
 refine ⟨h.1,h.2.1,h.2.2.imp id ?_⟩
 rintro ⟨b,off,h1,h2⟩
 exact ⟨b,off,h1,h2.stay hq⟩
end Em
end
section
open Go.RowKit Go.Shelf
namespace Em
def TK (h:Nd) (ps:To) (w:World) (o1:Option Addr) (l1:Nat) (o2:Option Addr) (l2:Nat):Prop:=aC (Low w) w o1 l1 h.tp/\aY (Low w) w o2 l2 ps/\F6 h/\allT F6 ps/\Lx.jO w
def FrQ (W:World) (n:Nat) (e:Ending) (w':World):Prop:=∃ o c,e=.returned (.slice o n c)/\ah W w'
theorem Zj {h:Nd} {ps:To} {w W:World} {o1:Option Addr} {l1 c1:Nat} {o2:Option Addr} {l2 c2:Nat} (hp:TK h ps w o1 l1 o2 l2) (hq:ah w W) (hg:Cn.fG h ps=false) (hr:Sc.RT h ps=true):Calls Tryz.prog 16 #[bC h o1 l1 c1 o2 l2 c2,.slice none 0 0] W (FrQ W (Sc.eG [] h ps).length):=by
 have hsm:=Sc.fP (Cn.iZ hg) hp.2.2.1 hp.2.2.2.1
 have hok:=Sc.XF hr
 refine (Sc.I5 h ps W _ (fun _=>True) o1 l1 c1 o2 l2 c2 none 0 0 [] (hp.2.1.stay hq) (Sc.iE.nil _ _ _) (by have:=hsm.size;omega) hok.1 (Sc.wJ _ hok.2.1)).mono ?_
 rintro e w' ⟨o,c,xs,rfl,_,h3⟩
 exact ⟨o,c,rfl,h3⟩
theorem WJ {h:Nd} {ps:To} {w W:World} {o1:Option Addr} {l1 c1:Nat} {o2:Option Addr} {l2 c2:Nat} (hp:TK h ps w o1 l1 o2 l2) (hq:ah w W) (hg:Cn.fG h ps=false):Calls Tryz.prog 13 #[bC h o1 l1 c1 o2 l2 c2] W fun e w'=>e=.returned (.bool (Sc.RT h ps))/\ah W w':=by
 have hsm:=Sc.fP (Cn.iZ hg) hp.2.2.1 hp.2.2.2.1
 exact DN h ps W _ o1 l1 c1 o2 l2 c2 (hp.1.stay hq) (hp.2.1.stay hq) hsm.right.1 hsm.right.2
end Em
end
section
namespace Em
theorem Nw {n:Nat} (h:(n:Int)<=1000000):sat n=n:=by
 have:∀ T:Int,1000000<=T->min T (n:Int)=n:=fun T h=>by omega
 exact this _ (by decide)
theorem WM {n:Nat} (h:(300:Int) < n):300 < sat n:=by
 have:∀ T:Int,300 < T->300 < min T (n:Int):=fun T h=>by omega
 exact this _ (by decide)
theorem TL {h:Nd} {ps:To} (h0:(Sc.ni h ps).2.2=0):Cn.mV h ps=(sat (Cc IG 1 h ps []),0)/\Cn.jy h ps=(sat (Cc PD 1 h ps []),0):=by
 unfold Cn.mV Cn.jy Cn.wL
 rw [if_pos h0,if_pos h0,Ns TA,Ns TB]
 exact ⟨rfl,rfl⟩
theorem Ny {h : Nd} {ps : To} (h0 : (Sc.ni h ps).2.2 = 0) (hz : ps.size <= 1000) : ((run 300 h ps).many = true /\ 300 < (Cn.mV h ps).1) ∨
    ((run 300 h ps).many=false/\(((run 300 h ps).eqs.length:Nat):Int)=(Cn.mV h ps).1/\(run 300 h ps).eqs.length<=300/\(((run 300 h ps).next:Nat):Int)=(Cn.jy h ps).1/\(run 300 h ps).next<=10000):=by
 have hk:=Gu _ (Zi h0).1
 obtain ⟨e1,e2⟩:=TL h0
 rw [e1,e2]
 have hn:=Td (M:=300) (most:=300) (Int.le_refl _) h ps hk
 rcases (WC 300 h ps hk).ct ⟨[],0,false⟩ rfl with ⟨a,b,c⟩ | ⟨a,b⟩
 ·right
  have hm:(run ((300:Nat):Int) h ps).many=false:=a
  have hle:=Y8 hm
  have b':(run 300 h ps).eqs.length=Cc IG 1 h ps []:=by
   have:(run 300 h ps).eqs.length=0+Cc IG 1 h ps []:=b
   omega
  have c':(run 300 h ps).next=Cc PD 1 h ps []:=by
   have:(run 300 h ps).next=0+Cc PD 1 h ps []:=c
   omega
  have hle':(run 300 h ps).eqs.length<=300:=hle
  have hn':(run 300 h ps).next<=4 * 300+2 * ps.size+2:=hn
  refine ⟨a,?_,hle',?_,by omega⟩
  ·show _=sat _;rw [Nw (by omega),b']
  ·show _=sat _;rw [Nw (by omega),c']
 ·left
  have b':(300:Int) < Cc IG 1 h ps []:=by
   have:(300:Int) < ((0:Nat):Int)+Cc IG 1 h ps []:=b
   omega
  exact ⟨a,WM b'⟩
end Em
end
end Go.Proofs.YtcninopmelmajaaGreatDoor
