/-
  Texts laid together (EmEq, PaPlain, PaLaws, PaWords): laws and walks, with their conditions.
-/
import Derived.Test.YtcninopmelmajaaDoorTX4
set_option maxHeartbeats 8000000
set_option maxRecDepth 1000000
namespace Go.Proofs.YtcninopmelmajaaDoor
section
namespace Em
theorem RT.mono {n m:Nat} {t:Ty} {k:Nat} (h:RT n t k) (hn:n<=m):RT m t k:=⟨h.1,by have:=h.2;omega⟩
def Up {α:Type} (f:Pm α):Prop:=∀ m,m.many=true->(f m).2.many=true
theorem Up.pure {α:Type} (a:α):Up (pu a):=fun _ h=>h
theorem Up.bind {α β:Type} {f:Pm α} {g:α->Pm β} (h:Up f) (k:∀ a,Up (g a)):Up (bd f g):=fun m hm=>k _ _ (h m hm)
theorem Up.eqn (most:Int) (l r:Ty) (fr en:Int):Up (dh most l r fr en):=fun m hm=>by
 unfold dh;dsimp only;split
 ·rfl
 ·exact hm
theorem Up.many {α:Type} (x:α) (f:Pm α):Up (cZ x f):=fun m hm=>by unfold cZ;rw [hm];exact hm
theorem Up.take:Up iV:=fun _ h=>h
theorem Yr (most:Int) (h:Nd) (ps:To) (vs:List (Env->Pm Ty)) (e:Env):Up (vC most h ps vs e):=Up.bind Up.take fun _=>Up.many _ _
def Mon {α:Type} (g:Dm α):Prop:=∀ d,d.L.length<=(g d).2.L.length
theorem Mon.pure {α:Type} (a:α):Mon (jg a):=fun _=>Nat.le_refl _
theorem Mon.bind {α β:Type} {f:Dm α} {g:α->Dm β} (h:Mon f) (k:∀ a,Mon (g a)):Mon (fF f g):=fun d=>Nat.le_trans (h d) (k _ _)
theorem Mon.add (l r:Ty) (fr en:Int):Mon (mO l r fr en):=fun d=>by show d.L.length<=(d.L++[(l,r,fr,en)]).length;simp
theorem Mon.take:Mon jU:=fun _=>Nat.le_refl _
theorem Mon.ite {α:Type} {c:Prop} [Decidable c] {f g:Dm α} (h1:Mon f) (h2:Mon g):Mon (if c then f else g):=by
 by_cases hc:c
 ·rw [if_pos hc];exact h1
 ·rw [if_neg hc];exact h2
def EX (e:aP):Prop:=∀ x∈e,Mon x.2
theorem EX.cons {e:aP} {s:ByteArray} {g:Dm Nat} (h:EX e) (k:Mon g):EX ((s,g)::e):=fun x hx=>by
 rcases List.mem_cons.1 hx with rfl | hx
 ·exact k
 ·exact h x hx
def Nj (u:aP->Dm Nat):Prop:=∀ e,EX e->Mon (u e)
theorem Gs:∀ (e:aP) (s:ByteArray),EX e->Mon (jA e s)
 | [],_,_=>Mon.pure _
 | x::r,s,h=>by
  unfold jA;exact Mon.ite (h x (by simp)) (Gs r s (fun y hy=>h y (by simp [hy])))
theorem rY {us:List (aP->Dm Nat)} (h:∀ u∈us,Nj u) (i:Nat) {e:aP} (he:EX e):Mon (dat us i e):=by
 unfold dat;rw [List.getD_eq_getElem?_getD];cases hi:us[i]? with
 | none=>exact Mon.pure _
 | some u=>exact h u (List.mem_of_getElem? hi) e he
theorem KF {e:aP} (he:EX e):∀ {us:List (aP->Dm Nat)},(∀ u∈us,Nj u)->Mon (dmap e us)
 | [],_=>Mon.pure _
 | u::r,h=>Mon.bind (h u (by simp) e he) fun _=>Mon.bind (KF he (fun x hx=>h x (by simp [hx]))) fun _=>Mon.pure _
theorem zQ (h:Nd) {us:List (aP->Dm Nat)} (hv:∀ u∈us,Nj u) {e:aP} (he:EX e):Mon (nY h us e):=by
 unfold nY;exact Mon.ite (rY hv 0 he) (Mon.bind Mon.take fun b=>Mon.bind (rY hv 0 (he.cons (Mon.pure b))) fun _=>Mon.bind (Mon.add _ _ _ _) fun _=>Mon.pure _)
theorem KG (h:Nd) (ps:To) {us:List (aP->Dm Nat)} (hv:∀ u∈us,Nj u):Nj (EU h ps us):=by
 intro e he;unfold EU;have fin:∀ (l r:Ty) (fr en:Int) (own:Nat),Mon (fF (mO l r fr en) fun _=>jg own):=fun l r fr en own=>Mon.bind (Mon.add _ _ _ _) fun _=>Mon.pure _
 refine Mon.bind Mon.take fun own=>Mon.ite (fin _ _ _ _ _) (Mon.ite (fin _ _ _ _ _) (Mon.ite (Mon.bind (Gs e _ he) fun _=>fin _ _ _ _ _) (Mon.ite ?_ (Mon.ite ?_ (Mon.bind (KF he hv) fun p=>?_)))))
 ·exact Mon.bind Mon.take fun b=>Mon.bind (rY hv 0 (he.cons (Mon.pure b))) fun _=>fin _ _ _ _ _
 ·exact Mon.bind (zQ h hv he) fun _=>Mon.bind (rY hv 1 (he.cons (zQ h hv he))) fun _=>fin _ _ _ _ _
 ·exact Mon.ite (fin _ _ _ _ _) (Mon.ite (Mon.bind (Mon.add _ _ _ _) fun _=>Mon.bind (Mon.add _ _ _ _) fun _=>fin _ _ _ _ _) (Mon.ite (fin _ _ _ _ _) (Mon.ite (Mon.bind (Mon.add _ _ _ _) fun _=>fin _ _ _ _ _) (Mon.pure _))))
structure Ent (n:Nat) (most:Nat) (f:Pm Ty) (g:Dm Nat):Prop where
 lk:Lk most n RT f g
 self:Self n g
theorem Self.mono {n m:Nat} {g:Dm Nat} (h:Self n g) (k:n<=m):Self m g:=fun a d ha h0=>h a d (by omega) h0
theorem Ent.mono {n m most:Nat} {f:Pm Ty} {g:Dm Nat} (h:Ent n most f g) (k:n<=m):Ent m most f g:=⟨h.lk.mono k,h.self.mono k⟩
inductive vM (most n:Nat):Env->aP->Prop
 | nil:vM most n [] []
 | cons {s:ByteArray} {f:Pm Ty} {g:Dm Nat} {e:Env} {e':aP}:Ent n most f g->vM most n e e'->vM most n ((s,f)::e) ((s,g)::e')
theorem vM.mono {most n m:Nat} (hn:n<=m) {e:Env} {e':aP} (h:vM most n e e'):vM most m e e':=by
 induction h with
 | nil=>exact .nil
 | cons h1 _ ih=>exact .cons (h1.mono hn) ih
theorem vM.rs {most n:Nat} {e:Env} {e':aP} (h:vM most n e e') {a d:Nat} (ha:n<=a) (h0:0 < a):vX a d e' e':=by
 induction h with
 | nil=>exact .nil
 | cons h1 _ ih=>exact .cons (h1.self a d ha h0) ih
theorem vM.mon {most n:Nat} {e:Env} {e':aP} (h:vM most n e e'):EX e':=by
 induction h with
 | nil=>intro x hx;cases hx
 | cons h1 _ ih=>exact EX.cons ih h1.lk.upg
theorem OE {most n:Nat} (h0:0 < n):Lk most n RT (pu (tv 0)) (jg 0):=Lk.pure fun k hk=>⟨rfl,by omega⟩
theorem vM.look {most n:Nat} (h0:0 < n) {e:Env} {e':aP} (h:vM most n e e') (s:ByteArray):Lk most n RT (mD e s) (jA e' s):=by
 induction h with
 | nil=>exact OE h0
 | cons h1 _ ih =>
  unfold mD jA;exact Lk.ite (fun _=>h1.lk) (fun _=>ih)
structure VL (most:Nat) (v:Env->Pm Ty) (u:aP->Dm Nat):Prop where
 lk:∀ n e e',vM most n e e'->Lk most n RT (v e) (u e')
 rs:VRS u
 up:∀ e,Up (v e)
 mon:Nj u
inductive Nk (most:Nat):List (Env->Pm Ty)->List (aP->Dm Nat)->Prop
 | nil:Nk most [] []
 | cons {v:Env->Pm Ty} {u:aP->Dm Nat} {l:List (Env->Pm Ty)} {l':List (aP->Dm Nat)}:VL most v u->Nk most l l'->Nk most (v::l) (u::l')
theorem Nk.rs {most:Nat} {l:List (Env->Pm Ty)} {l':List (aP->Dm Nat)} (h:Nk most l l'):∀ u∈l',VRS u:=by
 induction h with
 | nil=>intro u hu;cases hu
 | cons h1 _ ih =>
  intro u hu;rcases List.mem_cons.1 hu with rfl | hu
  ·exact h1.rs
  ·exact ih u hu
theorem Nk.mon {most:Nat} {l:List (Env->Pm Ty)} {l':List (aP->Dm Nat)} (h:Nk most l l'):∀ u∈l',Nj u:=by
 induction h with
 | nil=>intro u hu;cases hu
 | cons h1 _ ih =>
  intro u hu;rcases List.mem_cons.1 hu with rfl | hu
  ·exact h1.mon
  ·exact ih u hu
theorem Nk.Nl {most:Nat} {l:List (Env->Pm Ty)} {l':List (aP->Dm Nat)} (h:Nk most l l'):∀ (i:Nat) (e:Env),Up (wM l i e):=by
 induction h with
 | nil=>intro i e;exact Up.pure _
 | cons h1 _ ih =>
  intro i e;cases i with
  | zero=>exact h1.up e
  | succ i=>exact ih i e
theorem Nk.at {most:Nat} {l:List (Env->Pm Ty)} {l':List (aP->Dm Nat)} (h:Nk most l l'):∀ (i:Nat) {n:Nat} {e:Env} {e':aP},0 < n->vM most n e e'->Lk most n RT (wM l i e) (dat l' i e'):=by
 induction h with
 | nil=>intro i n e e' h0 _;exact OE h0
 | cons h1 _ ih =>
  intro i n e e' h0 he;cases i with
  | zero=>exact h1.lk n e e' he
  | succ i=>exact ih i h0 he
abbrev RLs:Nat->List Ty->List Nat->Prop:=fun n l k=>l=k.map tv/\∀ i∈k,i < n
theorem Nk.map {most:Nat} {l:List (Env->Pm Ty)} {l':List (aP->Dm Nat)} (h:Nk most l l'):∀ {n:Nat} {e:Env} {e':aP},0 < n->vM most n e e'->Lk most n RLs (jw e l) (dmap e' l'):=by
 induction h with
 | nil=>intro n e e' _ _;exact Lk.pure fun _ _=>⟨rfl,fun i hi=>by cases hi⟩
 | cons h1 h2 ih =>
  intro n e e' h0 he;have hin:=ih h0 he;refine Lk.bind (h1.lk n e e' he) (fun a m hm=>?_) (fun b d=>?_) fun t k j hj ht=>Lk.bind (ih (by omega) (he.mono hj)) (fun a m hm=>hm) (fun b d=>Nat.le_refl _) fun l k' i hi hl=>Lk.pure fun u hu=>⟨?_,?_⟩
  ·exact hin.upf m hm
  ·exact hin.upg d
  ·rw [hl.1,ht.1];rfl
  ·intro x hx;rcases List.mem_cons.1 hx with rfl | hx
   ·have:=ht.2;omega
   ·have:=hl.2 x hx;omega
theorem aaO {n:Nat} {k:List Nat} (h:∀ i∈k,i < n) (i:Nat):nI n (jP k i):=by
 unfold jP;rw [List.getD_eq_getElem?_getD,List.getElem?_map];cases hi:k[i]? with
 | none=>exact nI.zero n 0 (by decide)
 | some v=>exact nI.tv (h v (List.mem_of_getElem? hi))
theorem aaP {n:Nat} {g:Dm Nat} (hs:Self n g) (h0:0 < n) (d:Dk) (hd:n<=d.next):∃ k,(g d).2.L=d.L++k:=by
 obtain ⟨k,h1,_⟩:=(hs n 0 (Nat.le_refl _) h0).run d d hd (by omega);exact ⟨k,h1⟩
theorem Yt {most : Nat} (h : Nd) {n : Nat} (h0 : 0 < n) {f : Pm Ty} {g : Dm Nat} {F : Pm Ty -> Pm Ty} {G : Dm Nat} (hf : Lk most n RT f g) (hs : Self n g) (uF : ∀ c m, (∀ m, m.many = true -> (c m).2.many = true) -> m.many = true -> (F c m).2.many = true) (uG : ∀ d, d.L.length <= (G d).2.L.length) (hF : ∀ c k, n <= k -> Ent k most c g -> Lk most k RT (F c) G) :
    Lk most n RT (vw most h f F) (fF g fun _=>G):=by
 refine ⟨fun m hm=>uF _ _ (zO _ _ _ _ _) (hf.upf m hm),fun d=>Nat.le_trans (hf.upg d) (uG _),fun m d hm hn ho he hx hl=>?_⟩;rcases hf.run m d hm hn ho he hx hl with ⟨h1,h2,h3,h4,h5,h6,h7⟩ | ⟨h1,h2⟩
 ·obtain ⟨k,hk⟩:=aaP hs h0 d (by omega);have hdrop:(f m).2.eqs.drop m.eqs.length=k:=by rw [h3,hk,he,List.drop_left]
  have hc:Lk most (f m).2.next RT (copied most ((f m).2.eqs.drop m.eqs.length) (f m).1 m.next (f m).2.next) g:=by
   rw [hdrop,h7.1];exact QV h6 (by omega) (fun e he'=>h2 e (by rw [h3,hk];exact List.mem_append.2 (.inr he'))) h7.2 (hs.mono hm) (d0:=d) hx.symm hk h4.symm rfl hf.upg
  rcases (hF _ _ (by omega) ⟨hc,hs.mono (by omega)⟩).run (f m).2 (g d).2 (Nat.le_refl _) h1 h2 h3 h4 h5 with ⟨k1,k2,k3,k4,k5,k6,k7⟩ | ⟨k1,k2⟩
  ·exact .inl ⟨k1,k2,k3,k4,k5,Nat.le_trans h6 k6,k7⟩
  ·exact .inr ⟨k1,k2⟩
 ·exact .inr ⟨uF _ _ (zO _ _ _ _ _) h1,Nat.lt_of_lt_of_le h2 (uG _)⟩
theorem KH {n b:Nat} (hb:b < n):Self n (jg b):=fun a d ha _=>RS.pure (by show b=up a d b;unfold up;rw [if_pos (by omega)])
theorem Lk.QW {γ δ:Type} {most lo:Nat} {S:Nat->γ->δ->Prop} {f':Ty->Pm γ} {g':Nat->Dm δ} (u:∀ a,Up (f' a)) (v:Mon (fF jU g')) (k:∀ own n,lo<=n->own < n->Lk most n S (f' (tv own)) (g' own)):Lk most lo S (bd iV f') (fF jU g'):=by
 refine ⟨fun m hm=>u _ _ hm,v,fun m d hm hn ho he hx hl=>?_⟩;have h1:=(k d.next (d.next+1) (by omega) (by omega)).run (iV m).2 (jU d).2 (by show d.next+1<=m.next+1;omega) hn (ho.up (Nat.le_succ _)) he (by show m.next+1=d.next+1;omega) hl;have e:iV m=(tv d.next,(iV m).2):=by rw [<-hx];rfl
 unfold bd fF;rw [e];rcases h1 with ⟨k1,k2,k3,k4,k5,k6,k7⟩ | hh
 ·exact .inl ⟨k1,k2,k3,k4,k5,Nat.le_trans (Nat.le_succ _) k6,k7⟩
 ·exact .inr hh
theorem OG (most:Nat) (h:Nd) (ps:To) (hg:h.k=10->gT (h.tk,h.tn,h.tp)) (hb:h.k=10->nI 0 (h.tk,h.tn,h.tp)) {vs:List (Env->Pm Ty)} {us:List (aP->Dm Nat)} (hv:Nk most vs us):VL most (vC most h ps vs) (EU h ps us):=by
 refine ⟨fun n e e' he=>?_,Yp h ps hg hv.rs,Yr _ h ps vs,KG h ps hv.mon⟩;have hme:=he.mon;have zS:∀ (own l r:Ty) (fr en:Int),Up (bd (dh (most:Int) l r fr en) fun _=>pu own):=fun own l r fr en=>Up.bind (Up.eqn _ _ _ _ _) fun _=>Up.pure _
 have zT:∀ (own:Nat) (l r:Ty) (fr en:Int),Mon (fF (mO l r fr en) fun _=>jg own):=fun own l r fr en=>Mon.bind (Mon.add _ _ _ _) fun _=>Mon.pure _
 have hmono:=KG h ps hv.mon e' hme;unfold vC EU at *;refine Lk.QW (fun a=>Up.many _ _) hmono fun own n1 hn1 hon=>Lk.many ?_
 have h0:0 < n1:=by omega
 have he1:vM most n1 e e':=he.mono (by omega);have IE:∀ {j:Nat} {l r:Ty} (fr en:Int),n1<=j->nI j l->nI j r->Lk most j RT (bd (dh (most:Int) l r fr en) fun _=>pu (tv own)) (fF (mO l r fr en) fun _=>jg own):=fun fr en hj hl hr=>Lk.bind (Lk.eqn fr en hl hr) (fun _=>Up.pure _) (fun _=>Mon.pure _) fun _ _ i hi _=>Lk.pure fun u hu=>⟨rfl,by omega⟩
 have ho1:∀ {j:Nat},n1<=j->nI j (tv own):=fun hj=>nI.tv (by omega)
 by_cases c2:h.k=2
 ·rw [if_pos c2,if_pos c2];exact IE _ _ (Nat.le_refl _) (ho1 (Nat.le_refl _)) (nI.zero _ 2 (by decide))
 rw [if_neg c2,if_neg c2]
 by_cases c3:h.k=3
 ·rw [if_pos c3,if_pos c3];exact IE _ _ (Nat.le_refl _) (ho1 (Nat.le_refl _)) (nI.zero _ 3 (by decide))
 rw [if_neg c3,if_neg c3]
 by_cases c1:h.k=1
 ·rw [if_pos c1,if_pos c1];refine Lk.bind (he1.look h0 h.nm) (fun _=>zS _ _ _ _ _) (fun _=>zT _ _ _ _ _) fun t t' j hj htt=>?_
  obtain ⟨rfl,htl⟩:=htt;exact IE _ _ hj (ho1 hj) (nI.tv htl)
 rw [if_neg c1,if_neg c1]
 by_cases c4:h.k=4
 ·rw [if_pos c4,if_pos c4];refine Lk.bind (Lk.take most _) (fun _=>Up.bind (hv.Nl _ _) fun _=>zS _ _ _ _ _) (fun b=>Mon.bind (rY hv.mon 0 (hme.cons (Mon.pure b))) fun _=>zT _ _ _ _ _) fun b b' j hj hbb=>?_
  obtain ⟨rfl,hbl⟩:=hbb;refine Lk.bind (hv.at 0 (by omega) (.cons ⟨Lk.pure fun i hi=>⟨rfl,by omega⟩,KH hbl⟩ (he1.mono hj))) (fun _=>zS _ _ _ _ _) (fun _=>zT _ _ _ _ _) fun t t' i hi htt=>?_
  obtain ⟨rfl,htl⟩:=htt;exact IE _ _ (by omega) (ho1 (by omega)) ((nI.tv (by omega)).arr (nI.tv htl))
 rw [if_neg c4,if_neg c4];have hself:Self n1 (nY h us e'):=fun a d ha ha0=>D7 h hv.rs ha0 (he1.rs ha ha0)
 have hkm:=zQ h hv.mon hme;have second:∀ {F:Pm Ty},Lk most n1 RT F (nY h us e')->Lk most n1 RT (bd (vw (most:Int) h F fun c=>wM vs 1 ((h.nm,c)::e)) fun t=>bd (dh (most:Int) (tv own) t h.fr h.en) fun _=>pu (tv own)) (fF (nY h us e') fun _=>fF (dat us 1 ((h.nm,nY h us e')::e')) fun t=>fF (mO (tv own) (tv t) h.fr h.en) fun _=>jg own):=fun {F} hF=>by
  show Lk most n1 RT _ (fF (fF (nY h us e') fun _=>dat us 1 ((h.nm,nY h us e')::e')) fun t=>fF (mO (tv own) (tv t) h.fr h.en) fun _=>jg own)
  refine Lk.bind (Yt h h0 hF hself (fun c m _ hm=>hv.Nl 1 _ m hm) (rY hv.mon 1 (hme.cons hkm)) fun c k hk hc=>hv.at 1 (by omega) (.cons hc (he1.mono hk))) (fun _=>zS _ _ _ _ _) (fun _=>zT _ _ _ _ _) fun t t' i hi htt=>?_
  obtain ⟨rfl,htl⟩:=htt;exact IE _ _ hi (ho1 hi) (nI.tv htl)
 by_cases c6:h.k=6
 ·rw [if_pos c6,if_pos (.inl c6)];refine second ?_;unfold nY;rw [if_pos c6];exact hv.at 0 h0 he1
 rw [if_neg c6]
 by_cases c7:h.k=7
 ·rw [if_pos c7,if_pos (.inr c7)];refine second ?_;unfold nY;rw [if_neg c6];refine Lk.bind (Lk.take most _) (fun _=>Up.bind (hv.Nl _ _) fun _=>zS _ _ _ _ _) (fun b=>Mon.bind (rY hv.mon 0 (hme.cons (Mon.pure b))) fun _=>zT _ _ _ _ _) fun b b' j hj hbb=>?_
  obtain ⟨rfl,hbl⟩:=hbb;refine Lk.bind (hv.at 0 (by omega) (.cons ⟨Lk.pure fun i hi=>⟨rfl,by omega⟩,KH hbl⟩ (he1.mono hj))) (fun _=>zS _ _ _ _ _) (fun _=>zT _ _ _ _ _) fun t t' i hi htt=>?_
  obtain ⟨rfl,htl⟩:=htt;exact Lk.bind (Lk.eqn _ _ (nI.tv (by omega)) (nI.tv htl)) (fun _=>Up.pure _) (fun _=>Mon.pure _) fun _ _ u hu _=>Lk.pure fun x hx=>⟨rfl,by omega⟩
 rw [if_neg c7,if_neg (fun c=>c.elim c6 c7)];have acv:∀ p:List Ty,Up (if h.k=5 then bd (dh (most:Int) (qL p 0) (iO (qL p 1) (tv own)) h.fr h.en) fun _=>pu (tv own)
  else if h.k=8 then bd (dh (most:Int) (qL p 0) (3,0,.nil) (aH ps 0).1 (aH ps 0).2) fun _=>bd (dh (most:Int) (tv own) (qL p 1) (aH ps 1).1 (aH ps 1).2) fun _=>bd (dh (most:Int) (tv own) (qL p 2) (aH ps 2).1 (aH ps 2).2) fun _=>pu (tv own)
  else if h.k=9 then bd (dh (most:Int) (tv own) (5,0,jy p) h.fr h.en) fun _=>pu (tv own)
  else if h.k=10 then bd (dh (most:Int) (qL p 0) (h.tk,h.tn,h.tp) (aH ps 0).1 (aH ps 0).2) fun _=>bd (dh (most:Int) (tv own) (h.tk,h.tn,h.tp) h.fr h.en) fun _=>pu (tv own)
  else pu (tv own)):=fun p=>by
  split
  ·exact zS _ _ _ _ _
  split
  ·exact Up.bind (Up.eqn _ _ _ _ _) fun _=>Up.bind (Up.eqn _ _ _ _ _) fun _=>zS _ _ _ _ _
  split
  ·exact zS _ _ _ _ _
  split
  ·exact Up.bind (Up.eqn _ _ _ _ _) fun _=>zS _ _ _ _ _
  ·exact Up.pure _
 refine Lk.bind (hv.map h0 he1) acv (fun p=>Mon.ite (zT _ _ _ _ _) (Mon.ite (Mon.bind (Mon.add _ _ _ _) fun _=>Mon.bind (Mon.add _ _ _ _) fun _=>zT _ _ _ _ _) (Mon.ite (zT _ _ _ _ _) (Mon.ite (Mon.bind (Mon.add _ _ _ _) fun _=>zT _ _ _ _ _) (Mon.pure _))))) fun p p' j hj hpp=>?_
 obtain ⟨rfl,hpl⟩:=hpp;have tn:=aaO hpl;refine Lk.ite (fun _=>IE _ _ hj (tn 0) ((tn 1).arr (ho1 hj))) fun _=>Lk.ite (fun _=>?_) fun _=>Lk.ite (fun _=>IE _ _ hj (ho1 hj) ⟨fun c=>absurd c (by decide:(5:Int)≠1),OD _ (fun t ht=>by obtain ⟨i,hi,rfl⟩:=List.mem_map.1 ht;exact nI.tv (hpl i hi))⟩) fun _=>Lk.ite (fun h10=>?_) fun _=>Lk.pure fun u hu=>⟨rfl,by omega⟩
 ·exact Lk.bind (Lk.eqn _ _ (tn 0) (nI.zero _ 3 (by decide))) (fun _=>Up.bind (Up.eqn _ _ _ _ _) fun _=>zS _ _ _ _ _) (fun _=>Mon.bind (Mon.add _ _ _ _) fun _=>zT _ _ _ _ _) fun _ _ i hi _=>Lk.bind (Lk.eqn _ _ (ho1 (by omega)) ((tn 1).mono hi)) (fun _=>zS _ _ _ _ _) (fun _=>zT _ _ _ _ _) fun _ _ u hu _=>IE _ _ (by omega) (ho1 (by omega)) ((tn 2).mono (by omega))
 ·have hT:=hb h10;exact Lk.bind (Lk.eqn _ _ (tn 0) (hT.mono (Nat.zero_le _))) (fun _=>zS _ _ _ _ _) (fun _=>zT _ _ _ _ _) fun _ _ i hi _=>IE _ _ (by omega) (ho1 (by omega)) (hT.mono (Nat.zero_le _))
theorem D9 (most:Nat):∀ f:To,gA f->noV f->Nk most (bQ most f) (valsD f)
 | .nil,_,_=>.nil
 | .cons h ps r,⟨a,b,c⟩,⟨a',b',c'⟩=>.cons (OG most h ps a a' (D9 most ps b b')) (D9 most r c c')
theorem Vh (most:Nat) (h:Nd) (ps:To) (hg:gA (.cons h ps .nil)) (hn:noV (.cons h ps .nil)):Lk most 0 RT (dw most h ps []) (vV h ps []):=(OG most h ps hg.1 hn.1 (D9 most ps hg.2.1 hn.2.1)).lk 0 [] [] .nil
end Em
end
section
namespace Pa
open Lx
abbrev Pt:=Int × Int
abbrev l7:=Sum ((Int × Int × Fo) × Nat) (Nat × Nat)
abbrev iU:=Sum ((Nd × To) × Pt × Nat) (Nat × Nat)
def bZ (l:List Tok) (i k:Nat) (s:List UInt8):Bool :=
 match l[i]? with
 | some t=>t.kind == k && t.text == s
 | none=>false
def oO (l:List Tok) (i:Nat):Bool :=
 match l[i]? with
 | some t=>t.kind == 1
 | none=>false
def Lp:List UInt8:=[105,110,116]
def Fh:List UInt8:=[98,111,111,108]
def sN:List UInt8:=[102,117,110]
def AL:List UInt8:=[108,101,116]
def Xw:List UInt8:=[114,101,99]
def wIn:List UInt8:=[105,110]
def wIf:List UInt8:=[105,102]
def YM:List UInt8:=[116,104,101,110]
def YN:List UInt8:=[101,108,115,101]
def vP:List UInt8:=[116,114,117,101]
def BK:List UInt8:=[102,97,108,115,101]
def nX:List UInt8:=[40]
def iw:List UInt8:=[41]
def wB:List UInt8:=[44]
def GZ:List UInt8:=[58]
def sEq:List UInt8:=[61]
def BM:List UInt8:=[42]
def BO:List UInt8:=[45,62]
def gV (T:Nat->l7) (l:List Tok):Nat->Fo->Nat->Sum (Fo × Nat) (Nat × Nat)
 | 0,ps,i=>.inl (ps,i)
 | n+1,ps,i =>
  if bZ l i 4 BM then
   if 8<=ps.length then .inr (i,6) else
    match T (i+1) with
    | .inr e=>.inr e
    | .inl ((k,m,qs),j)=>gV T l n (ps.app (.cons k m qs .nil)) j
  else .inl (ps,i)
def oP (l:List Tok):Sum (Fo × Nat) (Nat × Nat)->l7
 | .inr e=>.inr e
 | .inl (ps,i) =>
  if bZ l i 4 iw then
   match ps with
   | .cons k m qs .nil=>.inl ((k,m,qs),i+1)
   | _=>.inl ((5,0,ps),i+1)
  else .inr (i,3)
def SG (T:Nat->l7) (l:List Tok):l7->l7
 | .inr e=>.inr e
 | .inl ((k,m,qs),j)=>oP l (gV T l 8 (.cons k m qs .nil) j)
def jv (T:Nat->l7) (l:List Tok) (i:Nat):l7 :=
 if bZ l i 3 Lp then .inl ((2,0,.nil),i+1)
 else if bZ l i 3 Fh then .inl ((3,0,.nil),i+1)
 else if bZ l i 4 nX then SG T l (T (i+1))
 else .inr (i,3)
def BQ (k m:Int) (qs:Fo):l7->l7
 | .inr e=>.inr e
 | .inl ((k2,m2,qY),j)=>.inl ((4,0,.cons k m qs (.cons k2 m2 qY .nil)),j)
def Fp (T:Nat->l7) (l:List Tok):l7->l7
 | .inr e=>.inr e
 | .inl ((k,m,qs),i)=>if bZ l i 4 BO then BQ k m qs (T (i+1)) else .inl ((k,m,qs),i)
def qh (l:List Tok):Nat->Nat->l7
 | 0,i=>.inr (i,4)
 | f+1,i=>Fp (qh l f) l (jv (qh l f) l i)
def aT (a b:Pt):Pt :=
 if a.1≥a.2/\b.1≥b.2 then (0,0) else if a.1≥a.2 then b else if b.1≥b.2 then a else (min a.1 b.1,max a.2 b.2)
def oh (l:List Tok) (i:Nat):Bool :=
 match l[i]? with
 | some t=>t.kind == 1 || t.kind == 2 || (t.kind == 3 && t.text == vP) || (t.kind == 3 && t.text == BK) || (t.kind == 4 && t.text == nX)
 | none=>false
def Pn (s:List UInt8):Int:=s.foldl (fun n c=>IntKind.i64.wrap (IntKind.i64.wrap (IntKind.i64.wrap (10*n)+c.toNat)-48)) 0
def at' (l:List Tok) (i:Nat):Pt :=
 match l[i]? with
 | some t=>(t.fr,t.to)
 | none=>(0,0)
def txt (l:List Tok) (i:Nat):List UInt8 :=
 match l[i]? with
 | some t=>t.text
 | none=>[]
def nd (k:Int) (nm:List UInt8) (n:Int) (p:Pt):Nd:=⟨k,⟨nm.toArray⟩,n,0,0,.nil,p.1,p.2⟩
def pW (E:Nat->iU) (l:List Tok):Nat->To->Nat->Sum (To × Nat) (Nat × Nat)
 | 0,ps,i=>.inl (ps,i)
 | n+1,ps,i =>
  if bZ l i 4 wB then
   if 8<=ps.length then .inr (i,6) else
    match E (i+1) with
    | .inr e=>.inr e
    | .inl ((h,qs),_,j)=>pW E l n (ps.app (.cons h qs .nil)) j
  else .inl (ps,i)
def qj (l:List Tok) (i0:Nat):Sum (To × Nat) (Nat × Nat)->iU
 | .inr e=>.inr e
 | .inl (ps,i) =>
  if bZ l i 4 iw then
   match ps with
   | .cons h qs .nil=>.inl ((h,qs),aT (at' l i0) (at' l i),i+1)
   | _=>.inl ((nd 9 [] 0 (aT (at' l i0) (at' l i)),ps),aT (at' l i0) (at' l i),i+1)
  else .inr (i,3)
def EK (l:List Tok) (i0:Nat) (h:Nd) (qs:To):l7->iU
 | .inr e=>.inr e
 | .inl ((k,m,us),i) =>
  if bZ l i 4 iw then .inl ((⟨10,ByteArray.empty,0,k,m,us,(aT (at' l i0) (at' l i)).1,(aT (at' l i0) (at' l i)).2⟩,.cons h qs .nil),aT (at' l i0) (at' l i),i+1)
  else .inr (i,3)
def SK (E:Nat->iU) (T:Nat->l7) (l:List Tok) (i0:Nat):iU->iU
 | .inr e=>.inr e
 | .inl ((h,qs),_,i)=>if bZ l i 4 GZ then EK l i0 h qs (T (i+1)) else qj l i0 (pW E l 8 (.cons h qs .nil) i)
def gy (E:Nat->iU) (T:Nat->l7) (l:List Tok) (i:Nat):iU :=
 if oh l i then
  match l[i]? with
  | none=>.inr (i,3)
  | some t =>
   if t.kind == 1 then .inl ((nd 1 t.text 0 (t.fr,t.to),.nil),(t.fr,t.to),i+1)
   else if t.kind == 2 then .inl ((nd 2 [] (Pn t.text) (t.fr,t.to),.nil),(t.fr,t.to),i+1)
   else if t.text == vP then .inl ((nd 3 [] 1 (t.fr,t.to),.nil),(t.fr,t.to),i+1)
   else if t.text == nX then SK E T l i (E (i+1))
   else .inl ((nd 3 [] 0 (t.fr,t.to),.nil),(t.fr,t.to),i+1)
 else .inr (i,3)
def acw (h:Nd) (qs:To) (x:Pt) (h2:Nd) (qY:To) (x2:Pt):(Nd × To) × Pt:=((nd 5 [] 0 (aT x x2),.cons h qs (.cons h2 qY .nil)),aT x x2)
def sO (E:Nat->iU) (T:Nat->l7) (l:List Tok):Nat->(Nd × To)->Pt->Nat->iU
 | 0,t,x,i=>.inl (t,x,i)
 | n+1,t,x,i =>
  if oh l i then
   match gy E T l i with
   | .inr e=>.inr e
   | .inl (t2,x2,j)=>sO E T l n (acw t.1 t.2 x t2.1 t2.2 x2).1 (acw t.1 t.2 x t2.1 t2.2 x2).2 j
  else .inl (t,x,i)
inductive Stp where
 | e:Stp
 | n:Stp
 | s (t:List UInt8):Stp
structure Fm where
 nm:List UInt8
 ps:To
 x:Pt
 i:Nat
def jS (E:Nat->iU) (l:List Tok) (m:Fm):Stp->Sum Fm (Nat × Nat)
 | .e=>match E m.i with
  | .inr e=>.inr e
  | .inl ((h,qs),x,j)=>.inl ⟨m.nm,m.ps.app (.cons h qs .nil),x,j⟩
 | .n=>if oO l m.i then .inl ⟨txt l m.i,m.ps,m.x,m.i+1⟩ else .inr (m.i,3)
 | .s t=>if bZ l m.i 3 t || bZ l m.i 4 t then .inl ⟨m.nm,m.ps,m.x,m.i+1⟩ else .inr (m.i,3)
def gW (E:Nat->iU) (l:List Tok):List Stp->Fm->Sum Fm (Nat × Nat)
 | [],m=>.inl m
 | s::r,m=>match jS E l m s with
  | .inr e=>.inr e
  | .inl m'=>gW E l r m'
def LY (l:List Tok) (i0:Nat) (k:Int):Sum Fm (Nat × Nat)->iU
 | .inr e=>.inr e
 | .inl m=>.inl ((nd k m.nm 0 (aT (at' l i0) m.x),m.ps),aT (at' l i0) m.x,m.i)
def sG (l:List Tok) (i:Nat):Int:=if bZ l i 3 AL then (if bZ l (i+1) 3 Xw then 7 else 6) else if bZ l i 3 sN then 4 else 8
def ny (l:List Tok) (i:Nat):List Stp :=
 if bZ l i 3 AL then [.n,.s sEq,.e,.s wIn,.e] else if bZ l i 3 sN then [.n,.s BO,.e] else [.e,.s YM,.e,.s YN,.e]
def kP (l:List Tok) (i:Nat):Nat:=if bZ l i 3 AL && bZ l (i+1) 3 Xw then i+2 else i+1
def tK (E:Nat->iU) (l:List Tok) (i:Nat):iU:=LY l i (sG l i) (gW E l (ny l i) ⟨[],.nil,(0,0),kP l i⟩)
def YG (E:Nat->iU) (T:Nat->l7) (l:List Tok):iU->iU
 | .inr e=>.inr e
 | .inl (t,x,i)=>sO E T l (l.length+1) t x i
def zZ (l:List Tok):Nat->Nat->iU
 | 0,i=>.inr (i,4)
 | f+1,i =>
  if bZ l i 3 sN || bZ l i 3 AL || bZ l i 3 wIf then tK (zZ l f) l i
  else YG (zZ l f) (qh l (f-1)) l (gy (zZ l f) (qh l (f-1)) l i)
def TR (l:List Tok) (i:Nat):Bool :=
 match l[i]? with
 | some t=>t.kind == 0
 | none=>false
def nP (l:List Tok) (f:Nat):iU :=
 match zZ l f 0 with
 | .inr e=>.inr e
 | .inl (t,x,i)=>if TR l i then .inl (t,x,i+1) else .inr (i,3)
end Pa
end
section
namespace Pa
open Lx
def Shut (l:List Tok):Prop:=∀ i t,l[i]?=some t->t.kind≠0->i+1 < l.length
theorem Cj {l:List Tok} {i k:Nat} {s:List UInt8} (h:bZ l i k s=true):∃ t,l[i]?=some t/\t.kind=k/\t.text=s:=by
 unfold bZ at h
 split at h
 ·next t ht=>simp at h;exact ⟨t,ht,h.1,h.2⟩
 ·cases h
theorem dN {l:List Tok} {i k:Nat} {s:List UInt8} (hl:Shut l) (h:bZ l i k s=true) (hk:k≠0):i+1 < l.length:=by
 obtain ⟨t,ht,hkd,_⟩:=Cj h;exact hl i t ht (by omega)
theorem Jk {l:List Tok} {i:Nat} (hl:Shut l) (h:oO l i=true):i+1 < l.length:=by
 unfold oO at h
 split at h
 ·next t ht=>simp at h;exact hl i t ht (by omega)
 ·cases h
theorem NG {l:List Tok} {i:Nat} (hl:Shut l) (h:oh l i=true):i+1 < l.length:=by
 unfold oh at h
 split at h
 ·next t ht =>
  refine hl i t ht ?_;intro h0;simp [h0] at h
 ·cases h
def In (n i:Nat) {α:Type} (at2:α->Nat):Sum α (Nat × Nat)->Prop
 | .inl r=>i < at2 r/\at2 r < n
 | .inr e=>e.1 < n/\e.2≠0
def RV (n i:Nat) {α:Type} (at2:α->Nat):Sum α (Nat × Nat)->Prop
 | .inl r=>i<=at2 r/\at2 r < n
 | .inr e=>e.1 < n/\e.2≠0
abbrev xG (n i:Nat) (r:l7):Prop:=In n i (fun r=>r.2) r
abbrev sD (n i:Nat) (r:iU):Prop:=In n i (fun r=>r.2.2) r
theorem In.zero {n i:Nat} {α:Type} {f:α->Nat} {r:Sum α (Nat × Nat)} (h:In n i f r):RV n i f r:=by
 cases r with
 | inl r=>exact ⟨Nat.le_of_lt h.1,h.2⟩
 | inr e=>exact h
theorem RV.less {n i k:Nat} {α:Type} {f:α->Nat} {r:Sum α (Nat × Nat)} (h:RV n i f r) (hk:k < i):In n k f r:=by
 cases r with
 | inl r=>exact ⟨Nat.lt_of_lt_of_le hk h.1,h.2⟩
 | inr e=>exact h
theorem RV.le {n i k:Nat} {α:Type} {f:α->Nat} {r:Sum α (Nat × Nat)} (h:RV n i f r) (hk:k<=i):RV n k f r:=by
 cases r with
 | inl r=>exact ⟨Nat.le_trans hk h.1,h.2⟩
 | inr e=>exact h
theorem In.le {n i k:Nat} {α:Type} {f:α->Nat} {r:Sum α (Nat × Nat)} (h:In n i f r) (hk:k<=i):In n k f r:=by
 cases r with
 | inl r=>exact ⟨Nat.lt_of_le_of_lt hk h.1,h.2⟩
 | inr e=>exact h
section
variable {l:List Tok} (hl:Shut l)
include hl
theorem Gt {T:Nat->l7} (hT:∀ i,i < l.length->xG l.length i (T i)):∀ (n:Nat) (ps:Fo) (i:Nat),i < l.length->RV l.length i (fun r:Fo × Nat=>r.2) (gV T l n ps i)
 | 0,ps,i,hi=>⟨Nat.le_refl _,hi⟩
 | n+1,ps,i,hi=>by
  unfold gV
  split
  ·next h =>
   have h1:=dN hl h (by decide)
   split
   ·exact ⟨hi,by simp⟩
   ·have h2:=hT (i+1) h1
    split
    ·next e he=>rw [he] at h2;exact h2
    ·next k m qs j he =>
     rw [he] at h2;have h3:i+1 < j/\j < l.length:=h2;exact (Gt hT n _ j h3.2).le (by omega)
  ·exact ⟨Nat.le_refl _,hi⟩
theorem QX {i:Nat}:∀ (x:Sum (Fo × Nat) (Nat × Nat)),RV l.length i (fun r:Fo × Nat=>r.2) x->xG l.length i (oP l x)
 | .inr e,h=>h
 | .inl (ps,j),h=>by
  have h':i<=j/\j < l.length:=h;unfold oP
  by_cases hc:bZ l j 4 iw=true
  ·have h1:=dN hl hc (by decide);simp only [hc,if_true]
   split
   ·show i < j+1/\j+1 < l.length;omega
   ·show i < j+1/\j+1 < l.length;omega
  ·simp only [hc,if_false,Bool.false_eq_true];exact ⟨h'.2,by simp⟩
theorem BN:∀ (f i:Nat),i < l.length->xG l.length i (qh l f i)
 | 0,i,hi=>⟨hi,by simp⟩
 | f+1,i,hi=>by
  have ih:=fun i hi=>BN f i hi
  have hh:xG l.length i (jv (qh l f) l i):=by
   unfold jv
   split
   ·next h=>have:=dN hl h (by decide);show i < i+1/\i+1 < l.length;omega
   split
   ·next h=>have:=dN hl h (by decide);show i < i+1/\i+1 < l.length;omega
   split
   ·next h =>
    have h1:=dN hl h (by decide);have h2:=ih (i+1) h1;unfold SG
    split
    ·next e he=>rw [he] at h2;exact h2
    ·next k m qs j he =>
     rw [he] at h2;have h3:i+1 < j/\j < l.length:=h2;exact (QX hl (i:=j) _ (Gt hl ih 8 _ j h3.2)).le (by omega)
   ·exact ⟨hi,by simp⟩
  unfold qh;unfold Fp
  split
  ·next e he=>rw [he] at hh;exact hh
  ·next k m qs j he =>
   rw [he] at hh;have h3:i < j/\j < l.length:=hh
   split
   ·next h =>
    have h1:=dN hl h (by decide);have h2:=ih (j+1) h1;unfold BQ
    split
    ·next e he=>rw [he] at h2;exact h2
    ·next k m qs j2 he =>
     rw [he] at h2;have h4:j+1 < j2/\j2 < l.length:=h2
     show i < j2/\j2 < l.length;omega
   ·exact h3
theorem OH {E:Nat->iU} (hE:∀ i,i < l.length->sD l.length i (E i)):∀ (n:Nat) (ps:To) (i:Nat),i < l.length->RV l.length i (fun r:To × Nat=>r.2) (pW E l n ps i)
 | 0,ps,i,hi=>⟨Nat.le_refl _,hi⟩
 | n+1,ps,i,hi=>by
  unfold pW
  split
  ·next h =>
   have h1:=dN hl h (by decide)
   split
   ·exact ⟨hi,by simp⟩
   ·have h2:=hE (i+1) h1
    split
    ·next e he=>rw [he] at h2;exact h2
    ·next h qs x j he =>
     rw [he] at h2;have h3:i+1 < j/\j < l.length:=h2;exact (OH hE n _ j h3.2).le (by omega)
  ·exact ⟨Nat.le_refl _,hi⟩
theorem V6 {i i0:Nat}:∀ (x:Sum (To × Nat) (Nat × Nat)),RV l.length i (fun r:To × Nat=>r.2) x->sD l.length i (qj l i0 x)
 | .inr e,h=>h
 | .inl (ps,j),h=>by
  have h':i<=j/\j < l.length:=h;unfold qj
  by_cases hc:bZ l j 4 iw=true
  ·have h1:=dN hl hc (by decide);simp only [hc,if_true]
   split
   ·show i < j+1/\j+1 < l.length;omega
   ·show i < j+1/\j+1 < l.length;omega
  ·simp only [hc,if_false,Bool.false_eq_true];exact ⟨h'.2,by simp⟩
theorem Yu {i i0:Nat} {h:Nd} {qs:To}:∀ (x:l7),xG l.length i x->sD l.length i (EK l i0 h qs x)
 | .inr e,h=>h
 | .inl ((k,m,us),j),h=>by
  have h':i < j/\j < l.length:=h;unfold EK
  by_cases hc:bZ l j 4 iw=true
  ·have h1:=dN hl hc (by decide);simp only [hc,if_true]
   show i < j+1/\j+1 < l.length;omega
  ·simp only [hc,if_false,Bool.false_eq_true];exact ⟨h'.2,by simp⟩
theorem CB {E:Nat->iU} {T:Nat->l7} (hE:∀ i,i < l.length->sD l.length i (E i)) (hT:∀ i,i < l.length->xG l.length i (T i)) (i:Nat) (hi:i < l.length):sD l.length i (gy E T l i):=by
 unfold gy
 split
 ·next hb =>
  have h1:=NG hl hb;have hs:i < i+1/\i+1 < l.length:=⟨by omega,h1⟩
  split
  ·exact ⟨hi,by simp⟩
  ·split
   ·exact hs
   split
   ·exact hs
   split
   ·exact hs
   split
   ·have h2:=hE (i+1) h1;unfold SK
    split
    ·next e he=>rw [he] at h2;exact h2
    ·next h qs x j he =>
     rw [he] at h2;have h3:i+1 < j/\j < l.length:=h2
     split
     ·next hc =>
      have h4:=dN hl hc (by decide);exact (Yu hl (i:=j+1) _ (hT (j+1) h4)).le (by omega)
     ·exact (V6 hl (i:=j) _ (OH hl hE 8 _ j h3.2)).le (by omega)
   ·exact hs
 ·exact ⟨hi,by simp⟩
theorem OI {E:Nat->iU} {T:Nat->l7} (hE:∀ i,i < l.length->sD l.length i (E i)) (hT:∀ i,i < l.length->xG l.length i (T i)):∀ (n:Nat) (t:Nd × To) (x:Pt) (i:Nat),i < l.length->RV l.length i (fun r:(Nd × To) × Pt × Nat=>r.2.2) (sO E T l n t x i)
 | 0,t,x,i,hi=>⟨Nat.le_refl _,hi⟩
 | n+1,t,x,i,hi=>by
  unfold sO
  split
  ·have h2:=CB hl hE hT i hi
   split
   ·next e he=>rw [he] at h2;exact h2
   ·next t2 x2 j he =>
    rw [he] at h2;have h3:i < j/\j < l.length:=h2;exact (OI hE hT n _ _ j h3.2).le (by omega)
  ·exact ⟨Nat.le_refl _,hi⟩
theorem V7 {E:Nat->iU} (hE:∀ i,i < l.length->sD l.length i (E i)) (m:Fm) (hi:m.i < l.length) (s:Stp):In l.length m.i (fun r:Fm=>r.i) (jS E l m s):=by
 cases s with
 | e =>
  have h2:=hE m.i hi;unfold jS;simp only
  split
  ·next e he=>rw [he] at h2;exact h2
  ·next h qs x j he=>rw [he] at h2;exact h2
 | n =>
  unfold jS;simp only
  split
  ·next h=>have:=Jk hl h;show m.i < m.i+1/\m.i+1 < l.length;omega
  ·exact ⟨hi,by simp⟩
 | s t =>
  unfold jS;simp only
  split
  ·next h =>
   have:m.i+1 < l.length:=by
    rcases Bool.or_eq_true_iff.1 h with h | h
    ·exact dN hl h (by decide)
    ·exact dN hl h (by decide)
   show m.i < m.i+1/\m.i+1 < l.length;omega
  ·exact ⟨hi,by simp⟩
theorem Gu {E:Nat->iU} (hE:∀ i,i < l.length->sD l.length i (E i)):∀ (ss:List Stp) (m:Fm),m.i < l.length->RV l.length m.i (fun r:Fm=>r.i) (gW E l ss m)
 | [],m,hi=>⟨Nat.le_refl _,hi⟩
 | s::r,m,hi=>by
  have h2:=V7 hl hE m hi s;unfold gW
  split
  ·next e he=>rw [he] at h2;exact h2
  ·next m' he =>
   rw [he] at h2;have h3:m.i < m'.i/\m'.i < l.length:=h2;exact (Gu hE r m' h3.2).le (by omega)
theorem wE:∀ (f i:Nat),i < l.length->sD l.length i (zZ l f i)
 | 0,i,hi=>⟨hi,by simp⟩
 | f+1,i,hi=>by
  have ih:=fun i hi=>wE f i hi
  have iT:=fun i hi=>BN hl (f-1) i hi
  unfold zZ
  split
  ·next h =>
   have h1:i+1 < l.length:=by
    rcases Bool.or_eq_true_iff.1 h with h | h
    ·rcases Bool.or_eq_true_iff.1 h with h | h
     ·exact dN hl h (by decide)
     ·exact dN hl h (by decide)
    ·exact dN hl h (by decide)
   have h2:i < kP l i/\kP l i < l.length:=by
    unfold kP
    split
    ·next hr=>have:=dN hl (Bool.and_eq_true_iff.1 hr).2 (by decide);omega
    ·omega
   have h3:=Gu hl ih (ny l i) ⟨[],.nil,(0,0),kP l i⟩ h2.2;unfold tK LY
   split
   ·next e he=>rw [he] at h3;exact h3
   ·next m he =>
    rw [he] at h3;have h4:kP l i<=m.i/\m.i < l.length:=h3
    show i < m.i/\m.i < l.length;omega
  ·have h2:=CB hl ih iT i hi;unfold YG
   split
   ·next e he=>rw [he] at h2;exact h2
   ·next t x j he =>
    rw [he] at h2;have h3:i < j/\j < l.length:=h2;exact (OI hl ih iT _ _ _ j h3.2).less (by omega)
end
end Pa
end
section
namespace Pa
open Lx
theorem QY {l:List UInt8} (h:(nextL l).2.2=0):(nextL l).1≠0:=by
 unfold nextL at h ⊢;cases l with
 | nil=>simp at h
 | cons c r =>
  simp only at h ⊢
  split
  ·next h1 =>
   rw [if_pos h1] at h
   split
   ·simp
   ·next h2 =>
    rw [if_neg h2] at h
    split
    ·next h3=>rw [if_pos h3] at h;simp at h
    ·simp
  ·next h1 =>
   rw [if_neg h1] at h
   split
   ·next h2 =>
    rw [if_pos h2] at h
    split
    ·next h3=>rw [if_pos h3] at h;simp at h
    ·next h3 =>
     rw [if_neg h3] at h
     split
     ·next h4=>rw [if_pos h4] at h;simp at h
     ·simp
   ·next h2 =>
    rw [if_neg h2] at h
    split
    ·simp
    ·next h3 =>
     rw [if_neg h3] at h
     split
     ·simp
     ·next h4=>rw [if_neg h4] at h;simp at h
theorem tX:∀ (f a:Nat) (l:List UInt8) (ts:List Tok),gZ f a l=.inl ts->∃ us n,ts=us++[lC n]/\∀ t∈us,t.kind≠0
 | 0,a,l,ts,h=>by
  unfold gZ at h;cases h;exact ⟨[],_,rfl,by simp⟩
 | f+1,a,l,ts,h=>by
  unfold gZ at h;simp only at h
  split at h
  ·cases h;exact ⟨[],_,rfl,by simp⟩
  ·split at h
   ·cases h
   ·next hn =>
    have hk:=QY (Decidable.not_not.1 hn)
    split at h
    ·next ts' he =>
     obtain ⟨us,n,rfl,hu⟩:=tX f _ _ _ he;cases h;refine ⟨_::us,n,rfl,fun t ht=>?_⟩;rcases List.mem_cons.1 ht with e | e
     ·subst e;exact hk
     ·exact hu t e
    ·cases h
theorem mJ {l:List UInt8} {ts:List Tok} (h:jZ l=.inl ts):Shut ts/\0 < ts.length:=by
 obtain ⟨us,n,rfl,hu⟩:=tX _ _ _ _ h;refine ⟨fun i t hi hk=>?_,by simp⟩;rw [List.length_append,List.length_singleton];rcases Nat.lt_or_ge i us.length with h1 | h1
 ·omega
 ·rw [List.getElem?_append_right h1] at hi;have h2:=(List.getElem?_eq_some_iff.1 hi).1;simp at h2;have h3:i-us.length=0:=by omega
  rw [h3] at hi;simp at hi;subst hi;exact absurd rfl hk
theorem wG:∀ (f a:Nat) (l:List UInt8) (x:Nat × Nat),gZ f a l=.inr x->x.2≠0
 | 0,a,l,x,h=>by unfold gZ at h;cases h
 | f+1,a,l,x,h=>by
  unfold gZ at h;simp only at h
  split at h
  ·cases h
  ·split at h
   ·next hn=>cases h;exact hn
   ·split at h
    ·cases h
    ·next e he=>cases h;exact wG f _ _ _ he
def vT (s:List UInt8) (f:Nat):Sum (Nd × To) (Pt × Nat) :=
 match jZ s with
 | .inr (a,e)=>.inr (((a:Int),(a:Int)+1),e)
 | .inl ts =>
  match nP ts f with
  | .inl (t,_,_)=>.inl t
  | .inr (i,e)=>.inr (at' ts i,e)
theorem Fz {l:List Tok} (hl:Shut l) (h0:0 < l.length) (f:Nat):∀ i e,nP l f=.inr (i,e)->i < l.length/\e≠0:=by
 intro i e h;have h1:=wE hl f 0 h0;unfold nP at h
 split at h
 ·next x he=>cases h;rw [he] at h1;exact h1
 ·next t x j he =>
  rw [he] at h1;have h2:0 < j/\j < l.length:=h1
  split at h
  ·cases h
  ·cases h;exact ⟨h2.2,by simp⟩
end Pa
end
end Go.Proofs.YtcninopmelmajaaDoor
