/-
  Texts laid together (PaTyp, PaRd): laws and walks, with their conditions.
-/
import Derived.Test.YtcninopmelmajaaGreatDoorCC13
set_option maxHeartbeats 8000000
set_option maxRecDepth 1000000
namespace Go.Proofs.YtcninopmelmajaaGreatDoor
open Go.Lib (hid)
section
namespace Pa
open Go.RowKit Lx
structure lD (w:World) (T:Nat->Prop) (v:Value) (f:Fo) (xs:List Value):Prop where
 own:w.ownsRow 0 24 3 v f.length xs
 low:∀ k,v.ownBlock=some k->T k
 cells:RowOf (fun k=>T k/\v.ownBlock≠some k) w xs f
theorem lD.fr {w w':World} {T:Nat->Prop} {v:Value} {f:Fo} {xs:List Value} {S:Nat->Prop} (h:lD w T v f xs) (hf:Fr S w w') (hS:∀ k,T k->¬ S k):lD w' T v f xs :=
 ⟨aZ h.own hf (fun k hk hs=>hS k (h.low k hk) hs),h.low,RowOf.fr hf (fun k _ hk=>⟨hk,hS k hk.1⟩) f xs h.cells⟩
theorem lD.stay {w w':World} {T:Nat->Prop} {v:Value} {f:Fo} {xs:List Value} (h:lD w T v f xs) (hf:ah w w'):lD w' T v f xs:=h.fr hf (fun _ _ h=>h)
theorem lD.snoc {W w1 : World} {T : Nat -> Prop} {v : Value} {f : Fo} {xs : List Value} {k n : Int} {ps : Fo} {o : Option Addr} {len cap g c : Nat} (hr : lD W T v f xs)
    (hs:aC (fun k=>T k/\v.ownBlock≠some k) W o len ps)
    (ho:w1.ownsRow 0 24 3 (.slice (some ⟨g,0,none⟩) (f.length+1) c) (f.length+1) (xs++[.int .i64 k,.int .i64 n,.slice o len cap])) (hf:Fr (fun k=>v.ownBlock=some k) W w1) (hg:v.ownBlock=some g∨W.heap.size<=g) (hT:∀ k,W.heap.size<=k->T k) :
    lD w1 T (.slice (some ⟨g,0,none⟩) (f.length+1) c) (f.app (.cons k n ps .nil)) (xs++[.int .i64 k,.int .i64 n,.slice o len cap]):=by
 refine ⟨by rw [Fo.bP];exact ho,?_,?_⟩
 ·intro k hk
  simp [Value.ownBlock] at hk
  subst hk
  rcases hg with h | h
  ·exact hr.low g h
  ·exact hT _ h
 ·have hk : ∀ k, k < W.heap.size -> (T k /\ v.ownBlock ≠ some k) -> ((T k /\ (Value.slice (some ⟨g, 0, none⟩) (f.length + 1) c).ownBlock ≠ some k) /\ ¬ v.ownBlock = some k) := by
    rintro k hk ⟨h1,h2⟩
    refine ⟨⟨h1,fun h=>?_⟩,h2⟩
    simp [Value.ownBlock] at h
    subst h
    rcases hg with h | h
    ·exact h2 h
    ·omega
  exact RowOf.snoc (hs.fr hf hk) f xs (RowOf.fr hf hk f xs hr.cells)
theorem lD.slc {w:World} {T:Nat->Prop} {o:Option Addr} {len cap:Nat} {f:Fo} {xs:List Value} (h:lD w T (.slice o len cap) f xs) (hl:len=f.length) (hm:len<=maxLen):aC T w o len f:=by
 refine ⟨hl,hm,fun h0=>?_⟩
 rcases h.own.2 with ⟨_,h2⟩ | ⟨g,cap',cur,he,_⟩
 ·omega
 ·injection he with h1 h2 h3
  subst h1
  refine ⟨g,0,rfl,RowOf.at (h.low g rfl) f xs 0 (RowOf.fr (Fr.refl (fun _=>False) w) (fun k _ hk=>⟨hk.1,fun h=>h⟩) f xs h.cells) ?_⟩
  intro j u hj
  have:=h.own.cells (g:=g) rfl j u hj
  simpa [Addr.add_lit] using this
def F8 (w:World) (r:nI) (e:Ending) (w':World):Prop:=match r with
 | .inl ((k,m,qs),j)=>∃ o n c,e=.returned (.tuple #[.agg #[.int .i64 k,.int .i64 m,.slice o n c],.int .i64 (j:Nat),.int .i64 0])/\aC (fun b=>w.heap.size<=b) w' o n qs/\ah w w'
 | .inr (j,er)=>e=.returned (.tuple #[.agg #[.int .i64 0,.int .i64 0,.slice none 0 0],.int .i64 (j:Nat),.int .i64 (er:Nat)])/\ah w w'
structure Bx (W:World) (B:Nat) (k m:Int) (v:Value):Prop where
 r:W.heap[B]?=some (.cells #[.int .i64 0,.int .i64 0,.slice none 0 0] 24 (0,0))
 z:W.heap[B+1]?=some (.cells #[.int .i64 0,.int .i64 0,.slice none 0 0] 24 (0,0))
 t:W.heap[B+1+1]?=some (.cells #[.int .i64 k,.int .i64 m,v] 24 (0,0))
theorem Bx.fr {W W':World} {B:Nat} {k m:Int} {v:Value} {S:Nat->Prop} (h:Bx W B k m v) (hf:Fr S W W') (h0:¬ S B) (h1:¬ S (B+1)) (h2:¬ S (B+1+1)):Bx W' B k m v :=
 ⟨ay hf h0 h.r,ay hf h1 h.z,ay hf h2 h.t⟩
theorem Bx.stay {W W':World} {B:Nat} {k m:Int} {v:Value} (h:Bx W B k m v) (hf:ah W W'):Bx W' B k m v:=h.fr hf (fun h=>h) (fun h=>h) (fun h=>h)
theorem BI {w : World} {B : Nat} {a b c a' b' c' : Value} {t : TypeId} (h : w.heap[B]? = some (.cells #[a', b', c'] t (0, 0))) :
    (eF w B a b c).heap[B]?=some (.cells #[a,b,c] t (0,0)):=qG (u:=c) (oJ (u:=b) (qH (u:=a) h))
theorem Bx.put {W:World} {B:Nat} {k m k' m':Int} {v v':Value} (h:Bx W B k m v):Bx (eF W (B+1+1) (.int .i64 k') (.int .i64 m') v') B k' m' v':=by
 have hf:=gQ W (B+1+1) (.int .i64 k') (.int .i64 m') v'
 exact ⟨ay hf (by omega) h.r,ay hf (by omega) h.z,BI h.t⟩
def VX (ts:List Tok) (f i:Nat) (w:World) (B:Nat) (t:Value) (wx:World):Prop :=
 ∃ (k m:Int) (qs:Fo) (j:Nat) (o:Option Addr) (n c:Nat),t=.int .i64 (j:Nat)/\Bx wx B k m (.slice o n c)/\aC (fun b=>B+3<=b) wx o n qs/\lX (rO ts f) ts i=.inl ((k,m,qs),j)/\j < ts.length/\ah w wx
theorem VY {ps:Fo} (h:ps.length=1):∃ k m qs,ps=.cons k m qs .nil:=by
 match ps,h with
 | .cons k m qs .nil,_=>exact ⟨k,m,qs,rfl⟩
 | .cons _ _ _ (.cons _ _ _ _),h=>simp [Fo.length] at h
def VZ (ts:List Tok) (f:Nat) (fin:Sum (Fo × Nat) (Nat × Nat)) (w:World) (B pb:Nat) (t:Value) (wx:World):Prop :=
 ∃ (ps:Fo) (j n g c:Nat) (xs:List Value),t=.int .i64 (j:Nat)/\j < ts.length/\ps.length+n=9/\1<=ps.length/\1<=n/\Bx wx B 5 0 (.slice (some ⟨g,0,none⟩) ps.length c) /\
  (∃ x y z,wx.heap[pb]?=some (.cells #[x,y,z] 24 (0,0)))/\lD wx (fun b=>B+3<=b/\b≠pb) (.slice (some ⟨g,0,none⟩) ps.length c) ps xs/\kC (rO ts f) ts n ps j=fin/\ah w wx
theorem V3 {T:Nat->nI} {ts:List Tok} {n:Nat} {ps:Fo} {j:Nat} (h:bY ts j 4 Bj=false):kC T ts n ps j=.inl (ps,j):=by
 cases n with
 | zero=>rfl
 | succ n=>unfold kC;rw [if_neg (by rw [h];simp)]
theorem OJ {T:Nat->nI} {ts:List Tok} {n:Nat} {ps:Fo} {j:Nat} (h:bY ts j 4 Bj=true) (h8:8<=ps.length) (hn:1<=n):kC T ts n ps j=.inr (j,6):=by
 obtain ⟨m,rfl⟩:∃ m,n=m+1:=⟨n - 1,by omega⟩
 unfold kC;rw [if_pos h,if_pos h8]
theorem RI {T:Nat->nI} {ts:List Tok} {n:Nat} {ps:Fo} {j:Nat} {x:Nat × Nat} (h:bY ts j 4 Bj=true) (h8:¬ 8<=ps.length) (hn:1<=n) (ht:T (j+1)=.inr x):kC T ts n ps j=.inr x:=by
 obtain ⟨m,rfl⟩:∃ m,n=m+1:=⟨n - 1,by omega⟩
 unfold kC;rw [if_pos h,if_neg h8,ht]
theorem OL {T:Nat->nI} {ts:List Tok} {n:Nat} {ps:Fo} {j:Nat} {k m:Int} {qs:Fo} {j':Nat} (h:bY ts j 4 Bj=true) (h8:¬ 8<=ps.length) (hn:1<=n) (ht:T (j+1)=.inl ((k,m,qs),j')):kC T ts n ps j=kC T ts (n - 1) (ps.app (.cons k m qs .nil)) j':=by
 obtain ⟨l,rfl⟩:∃ l,n=l+1:=⟨n - 1,by omega⟩
 conv=>lhs;unfold kC
 rw [if_pos h,if_neg h8,ht];rfl
theorem V4 {ts:List Tok} {ps:Fo} {j:Nat} (h:bY ts j 4 jB=false):vS ts (.inl (ps,j))=.inr (j,3):=by
 show (if bY ts j 4 jB=true then _ else _)=_;rw [if_neg (by rw [h];simp)]
theorem RJ {ts:List Tok} {k m:Int} {qs:Fo} {j:Nat} (h:bY ts j 4 jB=true):vS ts (.inl (.cons k m qs .nil,j))=.inl ((k,m,qs),j+1):=by
 show (if bY ts j 4 jB=true then _ else _)=_;rw [if_pos h]
theorem OM {ts:List Tok} {ps:Fo} {j:Nat} (h:bY ts j 4 jB=true) (h1:ps.length≠1):vS ts (.inl (ps,j))=.inl ((5,0,ps),j+1):=by
 show (if bY ts j 4 jB=true then _ else _)=_;rw [if_pos h]
 split
 ·next k m qs=>exact absurd rfl h1
 ·rfl
def RdT (ts:List Tok) (g c f:Nat):Prop:=∀ (i:Nat) (ai lv mo:Int) (W:World),ai=i->i < ts.length->ny W g ts->f=(mo+1 - lv).toNat->-1000000<=lv->lv<=1000000->-1000000<=mo->mo<=900000 ->
 Calls Tryz.prog 129 #[tks g ts c,.int .i64 ai,.int .i64 lv,.int .i64 mo] W (F8 W (rO ts f i))
theorem RP {T:Nat->nI} {ts:List Tok} {i:Nat} (h:bY ts i 3 Ku=true):lX T ts i=.inl ((2,0,.nil),i+1):=by unfold lX;rw [if_pos h]
theorem OO {T:Nat->nI} {ts:List Tok} {i:Nat} (h1:bY ts i 3 Ku=false) (h:bY ts i 3 Et=true):lX T ts i=.inl ((3,0,.nil),i+1):=by unfold lX;rw [if_neg (by rw [h1];simp),if_pos h]
theorem Ez {T:Nat->nI} {ts:List Tok} {i:Nat} (h1:bY ts i 3 Ku=false) (h2:bY ts i 3 Et=false) (h:bY ts i 4 nJ=true):lX T ts i=Yx T ts (T (i+1)):=by unfold lX;rw [if_neg (by rw [h1];simp),if_neg (by rw [h2];simp),if_pos h]
theorem V5 {T:Nat->nI} {ts:List Tok} {i:Nat} (h1:bY ts i 3 Ku=false) (h2:bY ts i 3 Et=false) (h:bY ts i 4 nJ=false):lX T ts i=.inr (i,3):=by unfold lX;rw [if_neg (by rw [h1];simp),if_neg (by rw [h2];simp),if_neg (by rw [h];simp)]
theorem aaz (ts : List Tok) (g c i k : Nat) (s : ByteArray) (w : World) (ai : Int) (ea : ai = i) (h : ny w g ts) :
    Calls Tryz.prog 119 #[tks g ts c,.int .i64 ai,.int .i64 k,.string s] w fun e w'=>e=.returned (.bool (bY ts i k s.data.toList))/\w=w':=by
 subst ea;exact Kz ts g c i k s w h
abbrev zU:Obj:=.cells #[.int .i64 0,.int .i64 0,.slice none 0 0] 24
theorem OQ (ts:List Tok) (g c:Nat):RdT ts g c 0:=by
 intro i ai lv mo w ea hi ht hf h1 h2 h3 h4
 subst ea
 have hlt:lv > mo:=by omega
 have hlt':mo < lv:=hlt
 clear hf
 have HQ:Hid (ah w ((w.alloc zU).alloc zU)):=(ah.alloc _ _).trans (ah.alloc _ _)
 have hb0:((w.alloc zU).alloc zU).heap[w.heap.size]?=some (.cells #[.int .i64 0,.int .i64 0,.slice none 0 0] 24 (0,0)):=by
  rw [Below.heap_alloc _ _ _ (by simp)];exact heap_alloc_new w _
 have HB0:=hid hb0
 clear hb0 ht
 go_enter Tryz.func129,Tryz.ntmps129
 go_wp2_with fail
 change bodyPost _ _ _ _ _ ((w.alloc zU).alloc zU)
 generalize (w.alloc zU).alloc zU=wf at *
 obtain ⟨f0,f1,f2,_,_,_⟩:=aF HB0.out
 refine bodyPost_ret (by simp [results,Tryz.results129,go_sem,f0,f1,f2];rfl) rfl ?_
 exact ⟨rfl,HQ.out⟩
theorem OT (ts:List Tok) (g c f:Nat) (hsh:Shut ts) (ih:RdT ts g c f):RdT ts g c (f+1):=by
 intro i ai lv mo w ea hi ht hf h1 h2 h3 h4
 subst ea
 have hfew:=ht.few
 have hle:¬ lv > mo:=by omega
 have hle':lv<=mo:=by omega
 have hf2:f=(mo+1 - (lv+1)).toNat:=by omega
 have HIH:Hid (∀ (j:Nat) (aj:Int) (W:World),aj=j->j < ts.length->ah w W->Calls Tryz.prog 129 #[tks g ts c,.int .i64 aj,.int .i64 (lv+1),.int .i64 mo] W (F8 W (rO ts f j))):=fun j aj W ej hj hq=>ih j aj (lv+1) mo W ej hj (ht.stay hq) hf2 (by omega) (by omega) h3 h4
 have kR:Hid (∀ j,j < ts.length->wV ts.length j (rO ts f j)):=fun j hj=>Bq hsh f j hj
 have HIS:Hid (∀ (j k:Nat) (s:ByteArray) (aj:Int) (W:World),aj=j->ah w W->Calls Tryz.prog 119 #[tks g ts c,.int .i64 aj,.int .i64 k,.string s] W fun e w'=>e=.returned (.bool (bY ts j k s.data.toList))/\W=w'):=fun j k s aj W ej hq=>aaz ts g c j k s W aj ej (ht.stay hq)
 have DC:=hid hsh
 have acB:Hid (∀ W,ah w W->Calls Tryz.prog 119 #[tks g ts c,.int .i64 i,.int .i64 3,.string ⟨#[105,110,116]⟩] W fun e w'=>e=.returned (.bool (bY ts i 3 Ku))/\W=w'):=fun W hq=>HIS.out i 3 _ _ W rfl hq
 have aaA:Hid (∀ W,ah w W->Calls Tryz.prog 119 #[tks g ts c,.int .i64 i,.int .i64 3,.string ⟨#[98,111,111,108]⟩] W fun e w'=>e=.returned (.bool (bY ts i 3 Et))/\W=w'):=fun W hq=>HIS.out i 3 _ _ W rfl hq
 have aaB:Hid (∀ W,ah w W->Calls Tryz.prog 119 #[tks g ts c,.int .i64 i,.int .i64 4,.string ⟨#[40]⟩] W fun e w'=>e=.returned (.bool (bY ts i 4 nJ))/\W=w'):=fun W hq=>HIS.out i 4 _ _ W rfl hq
 have aaC:Hid (∀ (j:Nat) (W:World),ah w W->Calls Tryz.prog 119 #[tks g ts c,.int .i64 j,.int .i64 4,.string ⟨#[42]⟩] W fun e w'=>e=.returned (.bool (bY ts j 4 Bj))/\W=w'):=fun j W hq=>HIS.out j 4 _ _ W rfl hq
 have YA:Hid (∀ (j:Nat) (W:World),ah w W->Calls Tryz.prog 119 #[tks g ts c,.int .i64 j,.int .i64 4,.string ⟨#[41]⟩] W fun e w'=>e=.returned (.bool (bY ts j 4 jB))/\W=w'):=fun j W hq=>HIS.out j 4 _ _ W rfl hq
 have acC:Hid (∀ (j:Nat) (W:World),ah w W->Calls Tryz.prog 119 #[tks g ts c,.int .i64 j,.int .i64 4,.string ⟨#[45,62]⟩] W fun e w'=>e=.returned (.bool (bY ts j 4 Bl))/\W=w'):=fun j W hq=>HIS.out j 4 _ _ W rfl hq
 obtain ⟨W0,hW0⟩:∃ W0,W0=((w.alloc zU).alloc zU).alloc zU:=⟨_,rfl⟩
 have aK:Hid (ah w W0):=by rw [hW0];exact ((ah.alloc _ _).trans (ah.alloc _ _)).trans (ah.alloc _ _)
 have rY:Hid (Bx W0 w.heap.size 0 0 (.slice none 0 0)):=by
  refine ⟨?_,?_,?_⟩
  ·rw [hW0,Below.heap_alloc _ _ _ (by simp;omega),Below.heap_alloc _ _ _ (by simp)];exact heap_alloc_new w _
  ·rw [hW0,Below.heap_alloc _ _ _ (by simp)]
   have:=heap_alloc_new (w.alloc zU) zU
   simpa using this
  ·rw [hW0]
   have:=heap_alloc_new ((w.alloc zU).alloc zU) zU
   simpa using this
 have hz0:w.heap.size+3<=W0.heap.size:=by rw [hW0];simp
 have HZ0:=hid hz0
 clear hf hf2 ht ih hsh hz0
 go_enter Tryz.func129,Tryz.ntmps129
 go_upto_block 0 with (fail)
 change Code.wp _ _ _ _ (((w.alloc zU).alloc zU).alloc zU)
 rw [<-hW0]
 clear hW0
 generalize hB:w.heap.size=B at *
 have bM:=hid hB
 clear hB
 go_cut [1] (fun t wx=>VX ts f i w B t wx)
 case first =>
  obtain ⟨t0,t1,t2,y0,y1,y2⟩:=aF rY.out.t
  obtain ⟨z0,z1,z2,_,_,_⟩:=aF rY.out.z
  obtain ⟨r0,r1,r2,x0,x1,x2⟩:=aF rY.out.r
  have hps:=gQ W0 (B+1+1)
  go_wp2_with fail
  refine (acB.out W0 aK.out).mono ?_;rintro e w1 ⟨rfl,rfl⟩
  cases c1:bY ts i 3 Ku
  case true =>
   have hlt:=dI DC.out c1 (by decide)
   go_wp2_with fail
   go_meet
   exact ⟨2,0,.nil,i+1,none,0,0,by go_num,rY.out.put,aC.nil _ _ _,RP c1,by omega,aK.out.trans' (hps _ _ _) (fun k hk e=>by have:=bM.out;omega)⟩
  case false =>
  go_wp2_with fail
  refine (aaA.out W0 aK.out).mono ?_;rintro e w1 ⟨rfl,rfl⟩
  cases c2:bY ts i 3 Et
  case true =>
   have hlt:=dI DC.out c2 (by decide)
   go_wp2_with fail
   go_meet
   exact ⟨3,0,.nil,i+1,none,0,0,by go_num,rY.out.put,aC.nil _ _ _,OO c1 c2,by omega,aK.out.trans' (hps _ _ _) (fun k hk e=>by have:=bM.out;omega)⟩
  case false =>
  go_wp2_with fail
  refine (aaB.out W0 aK.out).mono ?_;rintro e w1 ⟨rfl,rfl⟩
  cases c3:bY ts i 4 nJ
  case false =>
   clear t0 t1 t2 y0 y1 y2
   go_wp2_with fail
   have hf:=gQ W0 B (.int .i64 0) (.int .i64 0) (.slice none 0 0)
   obtain ⟨f0,f1,f2⟩:=iw (a:=.int .i64 0) (b:=.int .i64 0) (c:=.slice none 0 0) (rY.out).r
   have dN:ah w (eF W0 B (.int .i64 0) (.int .i64 0) (.slice none 0 0)):=(aK.out).trans' hf (fun k hk e=>by have:=bM.out;omega)
   change bodyPost _ _ _ _ _ (eF W0 B (.int .i64 0) (.int .i64 0) (.slice none 0 0))
   generalize eF W0 B (.int .i64 0) (.int .i64 0) (.slice none 0 0)=wf at *
   refine bodyPost_ret (by simp [results,Tryz.results129,go_sem,f0,f1,f2];rfl) rfl ?_
   rw [show rO ts (f+1) i=.inr (i,3) from by unfold rO;rw [V5 c1 c2 c3];rfl]
   exact ⟨rfl,dN⟩
  case true =>
  have hlt:=dI DC.out c3 (by decide)
  have HC:=HIH.out (i+1) ((i:Int)+1) W0 (by omega) hlt aK.out
  have HI1:=kR.out (i+1) hlt
  cases hr:rO ts f (i+1) with
  | inr x =>
   obtain ⟨j,er⟩:=x
   rw [hr] at HC HI1
   have hne:er≠0:=HI1.2
   have hne2:((er:Int) != 0)=true:=by simp [hne]
   clear t0 t1 t2 y0 y1 y2 z0 z1 z2 r0 r1 r2 x0 x1 x2 HI1 hps
   go_wp2_with fail
   refine HC.mono ?_;rintro e w1 ⟨rfl,hq1⟩
   obtain ⟨W2,hW2⟩:∃ W2,W2=w1.alloc zU:=⟨_,rfl⟩
   have hq2:ah W0 W2:=by rw [hW2];exact hq1.trans (ah.alloc _ _)
   have YB:=hid (rY.out.stay hq2)
   have bI:=hid (aK.out.trans hq2)
   obtain ⟨z0,z1,z2,_,_,_⟩:=aF YB.out.z
   obtain ⟨r0,r1,r2,x0,x1,x2⟩:=aF YB.out.r
   clear HC hq1 hq2
   go_upto_region 12 with fail
   change Code.wp _ _ _ _ (w1.alloc zU)
   rw [<-hW2]
   clear hW2
   go_wp2_with fail
   have hf:=gQ W2 B (.int .i64 0) (.int .i64 0) (.slice none 0 0)
   obtain ⟨f0,f1,f2⟩:=iw (a:=.int .i64 0) (b:=.int .i64 0) (c:=.slice none 0 0) (YB.out).r
   have dN:ah w (eF W2 B (.int .i64 0) (.int .i64 0) (.slice none 0 0)):=(bI.out).trans' hf (fun k hk e=>by have:=bM.out;omega)
   change bodyPost _ _ _ _ _ (eF W2 B (.int .i64 0) (.int .i64 0) (.slice none 0 0))
   generalize eF W2 B (.int .i64 0) (.int .i64 0) (.slice none 0 0)=wf at *
   refine bodyPost_ret (by simp [results,Tryz.results129,go_sem,f0,f1,f2];rfl) rfl ?_
   rw [show rO ts (f+1) i=.inr (j,er) from by unfold rO;rw [Ez c1 c2 c3,hr];rfl]
   exact ⟨rfl,dN⟩
  | inl x =>
   obtain ⟨⟨k,m,qs⟩,j⟩:=x
   rw [hr] at HC HI1
   have hj1:i+1 < j/\j < ts.length:=HI1
   clear t0 t1 t2 y0 y1 y2 z0 z1 z2 r0 r1 r2 x0 x1 x2 HI1 hps
   go_wp2_with fail
   refine HC.mono ?_;rintro e w1 ⟨o1,n1,d1,rfl,hs1,hq1⟩
   obtain ⟨W2,hW2⟩:∃ W2,W2=w1.alloc (.cells #[.int .i64 k,.int .i64 m,.slice o1 n1 d1] 24):=⟨_,rfl⟩
   obtain ⟨pb,hpb⟩:∃ pb,pb=w1.heap.size:=⟨_,rfl⟩
   have XJ:Hid (W2.heap[pb]?=some (.cells #[.int .i64 k,.int .i64 m,.slice o1 n1 d1] 24 (0,0))):=by show _=_;rw [hW2,hpb];exact heap_alloc_new w1 _
   have hqa:ah w1 W2:=by rw [hW2];exact ah.alloc _ _
   have hq2:ah W0 W2:=hq1.trans hqa
   have acD:=hid (rY.out.stay hq2)
   have dO:=hid (aK.out.trans hq2)
   have hpz:B+3<=pb:=by have:=HZ0.out;have:=hq1.size;omega
   have acE:W2.heap.size=pb+1:=by rw [hW2,hpb];simp
   have HS2:Hid (aC (fun b=>B+3<=b/\b≠pb) W2 o1 n1 qs):=hs1.fr hqa (fun b hb h=>⟨⟨by have h':W0.heap.size<=b:=h;have:=HZ0.out;omega,by omega⟩,fun h=>h⟩)
   clear HC hq1 hq2 hs1
   go_upto_region 14 with fail
   change Code.wp _ _ _ _ (w1.alloc (.cells #[.int .i64 k,.int .i64 m,.slice o1 n1 d1] 24))
   rw [<-hW2,<-hpb]
   clear hW2 hpb hqa
   obtain ⟨p0,p1,p2,_,_,_⟩:=aF XJ.out
   obtain ⟨W3,hW3⟩:∃ W3,W3=W2.alloc (.cells #[.int .i64 k,.int .i64 m,.slice o1 n1 d1] 24):=⟨_,rfl⟩
   have hq3:ah W2 W3:=by rw [hW3];exact ah.alloc _ _
   have hg3:W3.heap[W2.heap.size]?=some (.cells #[.int .i64 k,.int .i64 m,.slice o1 n1 d1] 24 (0,0)):=by rw [hW3];exact heap_alloc_new W2 _
   have V6:=hid (acD.out.stay hq3)
   have dG:=hid (dO.out.trans hq3)
   have aaD:=ay hq3 (fun h=>h) XJ.out
   have hs3:=HS2.out.fr (T:=fun b=>B+3<=b/\b≠pb) hq3 (fun b hb h=>⟨h,fun h=>h⟩)
   have HR3:Hid (lD W3 (fun b=>B+3<=b/\b≠pb) (.slice (some ⟨pb+1,0,none⟩) 1 1) (.cons k m qs .nil) [.int .i64 k,.int .i64 m,.slice o1 n1 d1]):=by
    rw [acE] at hg3
    refine ⟨⟨rfl,.inr ⟨pb+1,1,_,rfl,Nat.zero_le _,hg3,Nat.le_refl _,by decide,rfl,rfl⟩⟩,fun b hb=>?_,⟨o1,n1,d1,[],rfl,HS2.out.fr hq3 (fun b hb h=>⟨⟨h,fun e=>by simp [Value.ownBlock] at e;omega⟩,fun h=>h⟩),rfl⟩⟩
    simp [Value.ownBlock] at hb;subst hb;exact ⟨by omega,by omega⟩
   rw [hW3] at V6
   obtain ⟨t0,t1,t2,y0,y1,y2⟩:=aF V6.out.t
   rw [<-hW3] at V6
   go_upto_region 15 with fail
   change Code.wp _ _ _ _ (eF (W2.alloc (.cells #[.int .i64 k,.int .i64 m,.slice o1 n1 d1] 24)) (B+1+1) (.int .i64 5) (.int .i64 0) (.slice (some ⟨pb+1,0,none⟩) 1 1))
   rw [<-hW3]
   clear t0 t1 t2 y0 y1 y2 p0 p1 p2 hW3 hg3 hs3
   have hfL:=gQ W3 (B+1+1) (.int .i64 5) (.int .i64 0) (.slice (some ⟨pb+1,0,none⟩) 1 1)
   have acF:Hid (Bx (eF W3 (B+1+1) (.int .i64 5) (.int .i64 0) (.slice (some ⟨pb+1,0,none⟩) 1 1)) B 5 0 (.slice (some ⟨pb+1,0,none⟩) 1 1)):=V6.out.put
   have HRL:=hid (HR3.out.fr hfL (fun b h e=>by have:=h.1;omega))
   have HQL:Hid (ah w (eF W3 (B+1+1) (.int .i64 5) (.int .i64 0) (.slice (some ⟨pb+1,0,none⟩) 1 1))):=dG.out.trans' hfL (fun b hb e=>by have:=bM.out;omega)
   have HPL:=hid (ay hfL (by omega) aaD)
   generalize eF W3 (B+1+1) (.int .i64 5) (.int .i64 0) (.slice (some ⟨pb+1,0,none⟩) 1 1)=WL at *
   obtain ⟨fin,hfin⟩:∃ fin,kC (rO ts f) ts 8 (.cons k m qs .nil) j=fin:=⟨_,rfl⟩
   have YC:Hid (lX (rO ts f) ts i=vS ts fin):=by show _=_;rw [Ez c1 c2 c3,hr,<-hfin];rfl
   have bJ:=hid hfin
   clear hfin hr hq3 hfL aaD
   go_wp2_with fail
   go_loopw [1] (fun t wr=>VZ ts f fin w B pb t wr) (fun t _=>ts.length - (intOf t).toNat)
   case atStart=>exact ⟨.cons k m qs .nil,j,8,pb+1,1,_,rfl,hj1.2,rfl,Nat.le_refl _,by omega,acF.out,⟨_,_,_,HPL.out⟩,HRL.out,bJ.out,HQL.out⟩
   case round =>
    obtain ⟨ps,j2,n,g2,c2',xs,rfl,hj2,hn9,hp1,hn1,hbx,⟨x9,y9,z9,aaE⟩,hrow,hst,hq⟩:=hrel
    have wW:=hid hbx
    have zV:=hid hq
    have HRR:=hid hrow
    have vN:=hid aaE
    have HST:=hid hst
    clear hbx hrow aaE hst hq
    go_wp2_with fail
    refine (aaC.out j2 wr zV.out).mono ?_;rintro e w4 ⟨rfl,rfl⟩
    cases cs:bY ts j2 4 Bj
    case false =>
     have RQ:fin=.inl (ps,j2):=by rw [<-HST.out,V3 cs]
     go_wp2_with fail
     refine (YA.out j2 wr zV.out).mono ?_;rintro e w4 ⟨rfl,rfl⟩
     cases cc:bY ts j2 4 jB
     case false =>
      obtain ⟨z0,z1,z2,_,_,_⟩:=aF wW.out.z
      obtain ⟨r0,r1,r2,x0,x1,x2⟩:=aF wW.out.r
      go_wp2_with fail
      have hf:=gQ wr B (.int .i64 0) (.int .i64 0) (.slice none 0 0)
      obtain ⟨f0,f1,f2⟩:=iw (a:=.int .i64 0) (b:=.int .i64 0) (c:=.slice none 0 0) (wW.out).r
      have dN:ah w (eF wr B (.int .i64 0) (.int .i64 0) (.slice none 0 0)):=(zV.out).trans' hf (fun k hk e=>by have:=bM.out;omega)
      change bodyPost _ _ _ _ _ (eF wr B (.int .i64 0) (.int .i64 0) (.slice none 0 0))
      generalize eF wr B (.int .i64 0) (.int .i64 0) (.slice none 0 0)=wf at *
      refine bodyPost_ret (by simp [results,Tryz.results129,go_sem,f0,f1,f2];rfl) rfl ?_
      rw [show rO ts (f+1) i=.inr (j2,3) from by unfold rO;rw [YC.out,RQ,V4 cc];rfl]
      exact ⟨rfl,dN⟩
     case true =>
      have hlt2:=dI DC.out cc (by decide)
      obtain ⟨t0,t1,t2,y0,y1,y2⟩:=aF wW.out.t
      by_cases hl1:ps.length=1
      ·obtain ⟨k2,m2,rX,hps⟩:=VY hl1
       have hcl:=HRR.out.cells
       rw [hps] at hcl
       obtain ⟨o2,n2,d2,ys,hxs,hs2,hys⟩:=hcl
       have acG:ys=[]:=hys
       subst acG
       have e0:wr.cell? ⟨g2,0,none⟩=some (.int .i64 k2):=by have:=HRR.out.own.cells (g:=g2) rfl 0 (.int .i64 k2) (by rw [hxs];rfl);simpa [Addr.add_lit] using this
       have e1:wr.cell? ⟨g2,1,none⟩=some (.int .i64 m2):=by have:=HRR.out.own.cells (g:=g2) rfl 1 (.int .i64 m2) (by rw [hxs];rfl);simpa [Addr.add_lit] using this
       have e2:wr.cell? ⟨g2,2,none⟩=some (.slice o2 n2 d2):=by have:=HRR.out.own.cells (g:=g2) rfl 2 (.slice o2 n2 d2) (by rw [hxs];rfl);simpa [Addr.add_lit] using this
       have HS2:=hid hs2
       rw [hl1] at t2
       clear hs2 hxs hys
       go_wp2_with fail
       go_meet
       have hfp:=gQ wr (B+1+1) (.int .i64 k2) (.int .i64 m2) (.slice o2 n2 d2)
       refine ⟨k2,m2,rX,j2+1,o2,n2,d2,by go_num,wW.out.put,HS2.out.fr hfp (fun b _ h=>⟨h.1.1,fun e=>by have:=h.1.1;omega⟩),?_,hlt2,zV.out.trans' hfp (fun b hb e=>by have:=bM.out;omega)⟩
       rw [YC.out,RQ,hps];exact RJ cc
      ·have adr:((ps.length:Int) == 1)=false:=by simp;omega
       go_wp2_with fail
       go_meet
       refine ⟨5,0,ps,j2+1,some ⟨g2,0,none⟩,ps.length,c2',by go_num,wW.out,?_,?_,hlt2,zV.out⟩
       ·exact (HRR.out.slc rfl (by unfold maxLen;omega)).fr (Fr.refl (fun _=>False) wr) (fun b _ h=>⟨h.1,fun h=>h⟩)
       ·rw [YC.out,RQ];exact OM cc hl1
    case true =>
     have hlt2:=dI DC.out cs (by decide)
     by_cases h8:8<=ps.length
     ·have h8':(8:Int)<=(ps.length:Int):=by omega
      have YD:(ps.length:Int)≥8:=h8'
      obtain ⟨_,_,t2,_,_,_⟩:=aF wW.out.t
      obtain ⟨z0,z1,z2,_,_,_⟩:=aF wW.out.z
      obtain ⟨r0,r1,r2,x0,x1,x2⟩:=aF wW.out.r
      go_wp2_with fail
      have hf:=gQ wr B (.int .i64 0) (.int .i64 0) (.slice none 0 0)
      obtain ⟨f0,f1,f2⟩:=iw (a:=.int .i64 0) (b:=.int .i64 0) (c:=.slice none 0 0) (wW.out).r
      have dN:ah w (eF wr B (.int .i64 0) (.int .i64 0) (.slice none 0 0)):=(zV.out).trans' hf (fun k hk e=>by have:=bM.out;omega)
      change bodyPost _ _ _ _ _ (eF wr B (.int .i64 0) (.int .i64 0) (.slice none 0 0))
      generalize eF wr B (.int .i64 0) (.int .i64 0) (.slice none 0 0)=wf at *
      refine bodyPost_ret (by simp [results,Tryz.results129,go_sem,f0,f1,f2];rfl) rfl ?_
      rw [show rO ts (f+1) i=.inr (j2,6) from by unfold rO;rw [YC.out,<-HST.out,OJ cs h8 hn1];rfl]
      exact ⟨rfl,dN⟩
     ·have h8':¬ (8:Int)<=(ps.length:Int):=by omega
      have YD:¬ (ps.length:Int)≥8:=h8'
      have HC:=HIH.out (j2+1) ((j2:Int)+1) wr (by omega) hlt2 zV.out
      have HI2:=kR.out (j2+1) hlt2
      cases hr2:rO ts f (j2+1) with
      | inr x =>
       obtain ⟨j3,er⟩:=x
       rw [hr2] at HC HI2
       have hne:er≠0:=HI2.2
       have hne2:((er:Int) != 0)=true:=by simp [hne]
       have HC2:=hid HC
       clear HC HI2
       obtain ⟨_,_,t2,_,_,_⟩:=aF wW.out.t
       go_wp2_with fail
       refine HC2.out.mono ?_;rintro e w5 ⟨rfl,hq5⟩
       have OU:=ay hq5 (fun h=>h) vN.out
       obtain ⟨_,_,_,v0,v1,v2⟩:=aF OU
       have GZ:=gQ w5 pb (.int .i64 0) (.int .i64 0) (.slice none 0 0)
       have OV:=hid ((wW.out.stay hq5).fr GZ (by omega) (by omega) (by omega))
       have zG:=hid ((zV.out.trans hq5).trans' GZ (fun b hb e=>by have:=bM.out;omega))
       clear t2
       go_upto_region 20 with fail
       change Code.wp _ _ _ _ (eF w5 pb (.int .i64 0) (.int .i64 0) (.slice none 0 0))
       generalize eF w5 pb (.int .i64 0) (.int .i64 0) (.slice none 0 0)=W6 at *
       clear GZ hq5 OU v0 v1 v2
       obtain ⟨z0,z1,z2,_,_,_⟩:=aF OV.out.z
       obtain ⟨r0,r1,r2,x0,x1,x2⟩:=aF OV.out.r
       go_wp2_with fail
       have hf:=gQ W6 B (.int .i64 0) (.int .i64 0) (.slice none 0 0)
       obtain ⟨f0,f1,f2⟩:=iw (a:=.int .i64 0) (b:=.int .i64 0) (c:=.slice none 0 0) (OV.out).r
       have dN:ah w (eF W6 B (.int .i64 0) (.int .i64 0) (.slice none 0 0)):=(zG.out).trans' hf (fun k hk e=>by have:=bM.out;omega)
       change bodyPost _ _ _ _ _ (eF W6 B (.int .i64 0) (.int .i64 0) (.slice none 0 0))
       generalize eF W6 B (.int .i64 0) (.int .i64 0) (.slice none 0 0)=wf at *
       refine bodyPost_ret (by simp [results,Tryz.results129,go_sem,f0,f1,f2];rfl) rfl ?_
       rw [show rO ts (f+1) i=.inr (j3,er) from by unfold rO;rw [YC.out,<-HST.out,RI cs h8 hn1 hr2];rfl]
       exact ⟨rfl,dN⟩
      | inl x =>
       obtain ⟨⟨k3,m3,qs3⟩,j3⟩:=x
       rw [hr2] at HC HI2
       have hj3:j2+1 < j3/\j3 < ts.length:=HI2
       have HC2:=hid HC
       clear HC HI2
       obtain ⟨_,_,t2,_,_,_⟩:=aF wW.out.t
       go_wp2_with fail
       refine HC2.out.mono ?_;rintro e w5 ⟨o5,n5,d5,rfl,hs5,hq5⟩
       have OU:=ay hq5 (fun h=>h) vN.out
       obtain ⟨_,_,_,v0,v1,v2⟩:=aF OU
       have GZ:=gQ w5 pb (.int .i64 k3) (.int .i64 m3) (.slice o5 n5 d5)
       have OV:=hid ((wW.out.stay hq5).fr GZ (by omega) (by omega) (by omega))
       have zG:=hid ((zV.out.trans hq5).trans' GZ (fun b hb e=>by have:=bM.out;omega))
       have HP6:=hid (BI (a:=.int .i64 k3) (b:=.int .i64 m3) (c:=.slice o5 n5 d5) OU)
       have HR6:=hid ((HRR.out.stay hq5).fr GZ (fun b h e=>h.2 e))
       have hpw:pb < wr.heap.size:=lt_of_block vN.out
       have hgw:g2 < wr.heap.size:=(HRR.out.own.lt g2 rfl).2
       have hqz:=hq5.size
       have HS6:Hid (aC (fun b=>(B+3<=b/\b≠pb)/\(Value.slice (some ⟨g2,0,none⟩) ps.length c2').ownBlock≠some b) (eF w5 pb (.int .i64 k3) (.int .i64 m3) (.slice o5 n5 d5)) o5 n5 qs3):=hs5.fr GZ (fun b hb h=>by
        have h':wr.heap.size<=b:=h
        exact ⟨⟨⟨by omega,by omega⟩,fun e=>by simp [Value.ownBlock] at e;omega⟩,by omega⟩)
       have hz6:w5.heap.size<=(eF w5 pb (.int .i64 k3) (.int .i64 m3) (.slice o5 n5 d5)).heap.size:=GZ.size
       clear t2
       go_upto_region 22 with fail
       change Code.wp _ _ _ _ (eF w5 pb (.int .i64 k3) (.int .i64 m3) (.slice o5 n5 d5))
       generalize eF w5 pb (.int .i64 k3) (.int .i64 m3) (.slice o5 n5 d5)=W6 at *
       clear GZ hq5 OU v0 v1 v2 hs5
       obtain ⟨_,_,t2,_,_,_⟩:=aF OV.out.t
       obtain ⟨p0,p1,p2,_,_,_⟩:=aF HP6.out
       go_wp2_with (at_builtin;refine aP W6 rfl (.tmp 92) (.tmp 94) 22 rfl 24 _ 3 40 elemTy (.slice (some ⟨g2,0,none⟩) ps.length c2') ps.length xs rfl HR6.out.own #[.int .i64 k3,.int .i64 m3,.slice o5 n5 d5] rfl rfl (by simp [Value.oneCell']) (by unfold maxLen;omega) (by omega) ?_;intro g3 c3 w7 ho DT hg;have wX:=hid (OV.out.fr DT (fun e=>by simp [Value.ownBlock] at e;have:=(HR6.out.low g2 rfl).1;omega) (fun e=>by simp [Value.ownBlock] at e;have:=(HR6.out.low g2 rfl).1;omega) (fun e=>by simp [Value.ownBlock] at e;have:=(HR6.out.low g2 rfl).1;omega));obtain ⟨_,_,_,_,_,u2⟩:=aF wX.out.t;have u2':=(aF wX.out.t).2.2.1;clear t2)
       go_roundw
       case rel =>
        have hlow:=HR6.out.low g2 rfl
        have hfs:=Fr.setCell (fun k=>k=B+1+1) w7 ⟨B+1+1,2,none⟩ (.slice (some ⟨g3,0,none⟩) (ps.length+1) c3) rfl
        have hlen:(ps.app (.cons k3 m3 qs3 .nil)).length=ps.length+1:=by rw [Fo.bP];simp [Fo.length]
        have RU:=(lD.snoc HR6.out HS6.out ho DT hg (fun b hb=>⟨by omega,by omega⟩)).fr hfs (fun b h e=>by have:=h.1;omega)
        refine ⟨ps.app (.cons k3 m3 qs3 .nil),j3,n - 1,g3,c3,xs++[.int .i64 k3,.int .i64 m3,.slice o5 n5 d5],rfl,hj3.2,by omega,by omega,by omega,?_,⟨.int .i64 k3,.int .i64 m3,.slice o5 n5 d5,ay hfs (by omega) (ay DT (fun e=>by simp [Value.ownBlock] at e;exact hlow.2 e) HP6.out)⟩,?_,?_,?_⟩
        ·rw [hlen];exact ⟨ay hfs (by omega) wX.out.r,ay hfs (by omega) wX.out.z,qG wX.out.t⟩
        ·rw [hlen];exact RU
        ·rw [<-OL cs h8 hn1 hr2];exact HST.out
        ·exact (zG.out.trans' DT (fun b hb e=>by simp [Value.ownBlock] at e;have:=bM.out;omega)).trans' hfs (fun b hb e=>by have:=bM.out;omega)
       case measure=>simp [intOf];omega
 case rest =>
  rename World=>wx
  obtain ⟨k,m,qs,j,o,n,d,rfl,hbx,hsl,hhd,hj,hq⟩:=hcut
  have HB:=hid hbx
  have HS:=hid hsl
  have HH:=hid hhd
  have HQ:=hid hq
  have hwz:B+3<=wx.heap.size:=by have:=lt_of_block hbx.t;omega
  clear hbx hsl hhd hq
  go_wp2_with fail
  refine (acC.out j wx HQ.out).mono ?_;rintro e w4 ⟨rfl,rfl⟩
  cases ca:bY ts j 4 Bl
  case false =>
   obtain ⟨t0,t1,t2,_,_,_⟩:=aF HB.out.t
   obtain ⟨r0,r1,r2,x0,x1,x2⟩:=aF HB.out.r
   go_wp2_with fail
   have hf:=gQ wx B (.int .i64 k) (.int .i64 m) (.slice o n d)
   obtain ⟨f0,f1,f2⟩:=iw (a:=.int .i64 k) (b:=.int .i64 m) (c:=.slice o n d) HB.out.r
   have dN:ah w (eF wx B (.int .i64 k) (.int .i64 m) (.slice o n d)):=HQ.out.trans' hf (fun k hk e=>by have:=bM.out;omega)
   have hsf:aC (fun b=>w.heap.size<=b) (eF wx B (.int .i64 k) (.int .i64 m) (.slice o n d)) o n qs:=HS.out.fr hf (fun b _ h=>⟨by have h':B+3<=b:=h;have:=bM.out;omega,fun e=>by have h':B+3<=b:=h;omega⟩)
   change bodyPost _ _ _ _ _ (eF wx B (.int .i64 k) (.int .i64 m) (.slice o n d))
   generalize eF wx B (.int .i64 k) (.int .i64 m) (.slice o n d)=wf at *
   refine bodyPost_ret (by simp [results,Tryz.results129,go_sem,f0,f1,f2];rfl) rfl ?_
   rw [show rO ts (f+1) i=.inl ((k,m,qs),j) from by unfold rO;rw [HH.out];unfold MF;simp [ca]]
   exact ⟨o,n,d,rfl,hsf,dN⟩
  case true =>
   have hlt:=dI DC.out ca (by decide)
   have HC:=HIH.out (j+1) ((j:Int)+1) wx (by omega) hlt HQ.out
   have HI1:=kR.out (j+1) hlt
   have V7:Hid (rO ts (f+1) i=Kv k m qs (rO ts f (j+1))):=by show _=_;conv=>lhs;unfold rO;rw [HH.out];unfold MF;simp only [ca,if_true]
   cases hr:rO ts f (j+1) with
   | inr x =>
    obtain ⟨j3,er⟩:=x
    rw [hr] at HC HI1 V7
    have hne:er≠0:=HI1.2
    have hne2:((er:Int) != 0)=true:=by simp [hne]
    clear HI1
    go_wp2_with fail
    refine HC.mono ?_;rintro e w5 ⟨rfl,hq5⟩
    obtain ⟨W6,uM⟩:∃ W6,W6=w5.alloc zU:=⟨_,rfl⟩
    have hq6:ah wx W6:=by rw [uM];exact hq5.trans (ah.alloc _ _)
    have Vm:=hid (HB.out.stay hq6)
    have zG:=hid (HQ.out.trans hq6)
    obtain ⟨z0,z1,z2,_,_,_⟩:=aF Vm.out.z
    obtain ⟨r0,r1,r2,x0,x1,x2⟩:=aF Vm.out.r
    clear HC hq5 hq6
    go_upto_region 32 with fail
    change Code.wp _ _ _ _ (w5.alloc zU)
    rw [<-uM]
    clear uM
    go_wp2_with fail
    have hf:=gQ W6 B (.int .i64 0) (.int .i64 0) (.slice none 0 0)
    obtain ⟨f0,f1,f2⟩:=iw (a:=.int .i64 0) (b:=.int .i64 0) (c:=.slice none 0 0) (Vm.out).r
    have dN:ah w (eF W6 B (.int .i64 0) (.int .i64 0) (.slice none 0 0)):=(zG.out).trans' hf (fun k hk e=>by have:=bM.out;omega)
    change bodyPost _ _ _ _ _ (eF W6 B (.int .i64 0) (.int .i64 0) (.slice none 0 0))
    generalize eF W6 B (.int .i64 0) (.int .i64 0) (.slice none 0 0)=wf at *
    refine bodyPost_ret (by simp [results,Tryz.results129,go_sem,f0,f1,f2];rfl) rfl ?_
    rw [V7.out]
    exact ⟨rfl,dN⟩
   | inl x =>
    obtain ⟨⟨k2,m2,rX⟩,j3⟩:=x
    rw [hr] at HC V7
    clear HI1
    go_wp2_with fail
    refine HC.mono ?_;rintro e w5 ⟨o5,n5,d5,rfl,hs5,hq5⟩
    obtain ⟨W6,uM⟩:∃ W6,W6=w5.alloc (.cells #[.int .i64 k2,.int .i64 m2,.slice o5 n5 d5] 24):=⟨_,rfl⟩
    have hqa:ah w5 W6:=by rw [uM];exact ah.alloc _ _
    have hq6:ah wx W6:=hq5.trans hqa
    have hnew:W6.heap[w5.heap.size]?=some (.cells #[.int .i64 k2,.int .i64 m2,.slice o5 n5 d5] 24 (0,0)):=by rw [uM];exact heap_alloc_new w5 _
    have Vm:=hid (HB.out.stay hq6)
    have zG:=hid (HQ.out.trans hq6)
    have HS6:=hid (HS.out.fr (T:=fun b=>B+3<=b) hq6 (fun b _ h=>⟨h,fun h=>h⟩))
    have hz5:=hq5.size
    have HS7:Hid (aC (fun b=>B+3<=b) W6 o5 n5 rX):=hs5.fr hqa (fun b _ h=>⟨by have h':wx.heap.size<=b:=h;show B+3<=b;omega,fun h=>h⟩)
    have hz6:B+3<=W6.heap.size:=by have:=hqa.size;omega
    go_upto_region 34 with fail
    change Code.wp _ _ _ _ (w5.alloc (.cells #[.int .i64 k2,.int .i64 m2,.slice o5 n5 d5] 24))
    rw [<-uM]
    clear HC hq5 hq6 hs5 uM hqa
    generalize w5.heap.size=b16 at *
    obtain ⟨t0,t1,t2,_,_,_⟩:=aF Vm.out.t
    obtain ⟨p0,p1,p2,_,_,_⟩:=aF hnew
    obtain ⟨W7,zW⟩:∃ W7,W7=W6.alloc (.cells #[.int .i64 k,.int .i64 m,.slice o n d,.int .i64 k2,.int .i64 m2,.slice o5 n5 d5] 24):=⟨_,rfl⟩
    have hq7:ah W6 W7:=by rw [zW];exact ah.alloc _ _
    have hrow:W7.heap[W6.heap.size]?=some (.cells #[.int .i64 k,.int .i64 m,.slice o n d,.int .i64 k2,.int .i64 m2,.slice o5 n5 d5] 24 (0,0)):=by rw [zW];exact heap_alloc_new W6 _
    have wX:=hid (Vm.out.stay hq7)
    have Qy:=hid (zG.out.trans hq7)
    have hsA:=HS6.out.fr (T:=fun b=>B+3<=b) hq7 (fun b _ h=>⟨h,fun h=>h⟩)
    have hsB:=HS7.out.fr (T:=fun b=>B+3<=b) hq7 (fun b _ h=>⟨h,fun h=>h⟩)
    rw [zW] at wX
    obtain ⟨r0,r1,r2,x0,x1,x2⟩:=aF wX.out.r
    rw [<-zW] at wX
    go_wp2_with fail
    change bodyPost _ _ _ _ _ (eF (W6.alloc (.cells #[.int .i64 k,.int .i64 m,.slice o n d,.int .i64 k2,.int .i64 m2,.slice o5 n5 d5] 24)) B (.int .i64 4) (.int .i64 0) (.slice (some ⟨W6.heap.size,0,none⟩) 2 2))
    rw [<-zW]
    clear r0 r1 r2 x0 x1 x2 t0 t1 t2 p0 p1 p2 zW
    have hf:=gQ W7 B (.int .i64 4) (.int .i64 0) (.slice (some ⟨W6.heap.size,0,none⟩) 2 2)
    obtain ⟨f0,f1,f2⟩:=iw (a:=.int .i64 4) (b:=.int .i64 0) (c:=.slice (some ⟨W6.heap.size,0,none⟩) 2 2) wX.out.r
    have dN:ah w (eF W7 B (.int .i64 4) (.int .i64 0) (.slice (some ⟨W6.heap.size,0,none⟩) 2 2)):=Qy.out.trans' hf (fun k hk e=>by have:=bM.out;omega)
    have hrow2:=ay hf (by omega) hrow
    have YE:=hsA.fr (T:=fun b=>w.heap.size<=b) hf (fun b _ h=>⟨by have h':B+3<=b:=h;have:=bM.out;omega,fun e=>by have h':B+3<=b:=h;omega⟩)
    have YF:=hsB.fr (T:=fun b=>w.heap.size<=b) hf (fun b _ h=>⟨by have h':B+3<=b:=h;have:=bM.out;omega,fun e=>by have h':B+3<=b:=h;omega⟩)
    generalize eF W7 B (.int .i64 4) (.int .i64 0) (.slice (some ⟨W6.heap.size,0,none⟩) 2 2)=wf at *
    refine bodyPost_ret (by simp [results,Tryz.results129,go_sem,f0,f1,f2];rfl) rfl ?_
    rw [V7.out]
    have hR:w.heap.size<=W6.heap.size:=by have:=bM.out;omega
    exact ⟨some ⟨W6.heap.size,0,none⟩,2,2,rfl,⟨rfl,by decide,fun _=>⟨W6.heap.size,0,rfl,hR,by rw [cell_of_row _ _ _ _ _ (0,0) hrow2];rfl,by rw [cell_of_row _ _ _ _ _ (0,0) hrow2];rfl,⟨o,n,d,by rw [cell_of_row _ _ _ _ _ (0,0) hrow2];rfl,YE.1,YE.2.1,YE.2.2⟩,
     hR,by rw [cell_of_row _ _ _ _ _ (0,0) hrow2];rfl,by rw [cell_of_row _ _ _ _ _ (0,0) hrow2];rfl,⟨o5,n5,d5,by rw [cell_of_row _ _ _ _ _ (0,0) hrow2];rfl,YF.1,YF.2.1,YF.2.2⟩,trivial⟩⟩,dN⟩
theorem Ig (ts:List Tok) (g c:Nat) (hsh:Shut ts):∀ f,RdT ts g c f
 | 0=>OQ ts g c
 | f+1=>OT ts g c f hsh (Ig ts g c hsh f)
end Pa
end
section
namespace Pa
open Go.RowKit Lx
def aO (w:World) (B:Nat) (a0 a1 a2 a3 a4 a5 a6 a7 a8 a9 a10 a11 a12:Value):World:=((((((((((((w.setCell ⟨B,0,none⟩ a0).setCell ⟨B,1,none⟩ a1).setCell ⟨B,2,none⟩ a2).setCell ⟨B,3,none⟩ a3).setCell ⟨B,4,none⟩ a4).setCell ⟨B,5,none⟩ a5).setCell ⟨B,6,none⟩ a6).setCell ⟨B,7,none⟩ a7).setCell ⟨B,8,none⟩ a8).setCell ⟨B,9,none⟩ a9).setCell ⟨B,10,none⟩ a10).setCell ⟨B,11,none⟩ a11).setCell ⟨B,12,none⟩ a12
theorem bf (w:World) (B:Nat) (a0 a1 a2 a3 a4 a5 a6 a7 a8 a9 a10 a11 a12:Value):Fr (fun k=>k=B) w (aO w B a0 a1 a2 a3 a4 a5 a6 a7 a8 a9 a10 a11 a12) :=
 (((((((((((((Fr.setCell (fun k=>k=B) w ⟨B,0,none⟩ a0 rfl).trans (Fr.setCell (fun k=>k=B) _ ⟨B,1,none⟩ a1 rfl)).trans (Fr.setCell (fun k=>k=B) _ ⟨B,2,none⟩ a2 rfl)).trans (Fr.setCell (fun k=>k=B) _ ⟨B,3,none⟩ a3 rfl)).trans (Fr.setCell (fun k=>k=B) _ ⟨B,4,none⟩ a4 rfl)).trans (Fr.setCell (fun k=>k=B) _ ⟨B,5,none⟩ a5 rfl)).trans (Fr.setCell (fun k=>k=B) _ ⟨B,6,none⟩ a6 rfl)).trans (Fr.setCell (fun k=>k=B) _ ⟨B,7,none⟩ a7 rfl)).trans (Fr.setCell (fun k=>k=B) _ ⟨B,8,none⟩ a8 rfl)).trans (Fr.setCell (fun k=>k=B) _ ⟨B,9,none⟩ a9 rfl)).trans (Fr.setCell (fun k=>k=B) _ ⟨B,10,none⟩ a10 rfl)).trans (Fr.setCell (fun k=>k=B) _ ⟨B,11,none⟩ a11 rfl)).trans (Fr.setCell (fun k=>k=B) _ ⟨B,12,none⟩ a12 rfl))
theorem aN {w : World} {B : Nat} {a0 a1 a2 a3 a4 a5 a6 a7 a8 a9 a10 a11 a12 b0 b1 b2 b3 b4 b5 b6 b7 b8 b9 b10 b11 b12 : Value} {t : TypeId} (h : w.heap[B]? = some (.cells #[b0, b1, b2, b3, b4, b5, b6, b7, b8, b9, b10, b11, b12] t (0, 0))) :
    (aO w B a0 a1 a2 a3 a4 a5 a6 a7 a8 a9 a10 a11 a12).heap[B]?=some (.cells #[a0,a1,a2,a3,a4,a5,a6,a7,a8,a9,a10,a11,a12] t (0,0)):=by
 have s0:(w.setCell ⟨B,0,none⟩ a0).heap[B]?=some (.cells #[a0,b1,b2,b3,b4,b5,b6,b7,b8,b9,b10,b11,b12] t (0,0)):=aB h
 have s1:((w.setCell ⟨B,0,none⟩ a0).setCell ⟨B,1,none⟩ a1).heap[B]?=some (.cells #[a0,a1,b2,b3,b4,b5,b6,b7,b8,b9,b10,b11,b12] t (0,0)):=aB s0
 have s2:(((w.setCell ⟨B,0,none⟩ a0).setCell ⟨B,1,none⟩ a1).setCell ⟨B,2,none⟩ a2).heap[B]?=some (.cells #[a0,a1,a2,b3,b4,b5,b6,b7,b8,b9,b10,b11,b12] t (0,0)):=aB s1
 have s3:((((w.setCell ⟨B,0,none⟩ a0).setCell ⟨B,1,none⟩ a1).setCell ⟨B,2,none⟩ a2).setCell ⟨B,3,none⟩ a3).heap[B]?=some (.cells #[a0,a1,a2,a3,b4,b5,b6,b7,b8,b9,b10,b11,b12] t (0,0)):=aB s2
 have s4:(((((w.setCell ⟨B,0,none⟩ a0).setCell ⟨B,1,none⟩ a1).setCell ⟨B,2,none⟩ a2).setCell ⟨B,3,none⟩ a3).setCell ⟨B,4,none⟩ a4).heap[B]?=some (.cells #[a0,a1,a2,a3,a4,b5,b6,b7,b8,b9,b10,b11,b12] t (0,0)):=aB s3
 have s5:((((((w.setCell ⟨B,0,none⟩ a0).setCell ⟨B,1,none⟩ a1).setCell ⟨B,2,none⟩ a2).setCell ⟨B,3,none⟩ a3).setCell ⟨B,4,none⟩ a4).setCell ⟨B,5,none⟩ a5).heap[B]?=some (.cells #[a0,a1,a2,a3,a4,a5,b6,b7,b8,b9,b10,b11,b12] t (0,0)):=aB s4
 have s6:(((((((w.setCell ⟨B,0,none⟩ a0).setCell ⟨B,1,none⟩ a1).setCell ⟨B,2,none⟩ a2).setCell ⟨B,3,none⟩ a3).setCell ⟨B,4,none⟩ a4).setCell ⟨B,5,none⟩ a5).setCell ⟨B,6,none⟩ a6).heap[B]?=some (.cells #[a0,a1,a2,a3,a4,a5,a6,b7,b8,b9,b10,b11,b12] t (0,0)):=aB s5
 have s7:((((((((w.setCell ⟨B,0,none⟩ a0).setCell ⟨B,1,none⟩ a1).setCell ⟨B,2,none⟩ a2).setCell ⟨B,3,none⟩ a3).setCell ⟨B,4,none⟩ a4).setCell ⟨B,5,none⟩ a5).setCell ⟨B,6,none⟩ a6).setCell ⟨B,7,none⟩ a7).heap[B]?=some (.cells #[a0,a1,a2,a3,a4,a5,a6,a7,b8,b9,b10,b11,b12] t (0,0)):=aB s6
 have s8:(((((((((w.setCell ⟨B,0,none⟩ a0).setCell ⟨B,1,none⟩ a1).setCell ⟨B,2,none⟩ a2).setCell ⟨B,3,none⟩ a3).setCell ⟨B,4,none⟩ a4).setCell ⟨B,5,none⟩ a5).setCell ⟨B,6,none⟩ a6).setCell ⟨B,7,none⟩ a7).setCell ⟨B,8,none⟩ a8).heap[B]?=some (.cells #[a0,a1,a2,a3,a4,a5,a6,a7,a8,b9,b10,b11,b12] t (0,0)):=aB s7
 have s9:((((((((((w.setCell ⟨B,0,none⟩ a0).setCell ⟨B,1,none⟩ a1).setCell ⟨B,2,none⟩ a2).setCell ⟨B,3,none⟩ a3).setCell ⟨B,4,none⟩ a4).setCell ⟨B,5,none⟩ a5).setCell ⟨B,6,none⟩ a6).setCell ⟨B,7,none⟩ a7).setCell ⟨B,8,none⟩ a8).setCell ⟨B,9,none⟩ a9).heap[B]?=some (.cells #[a0,a1,a2,a3,a4,a5,a6,a7,a8,a9,b10,b11,b12] t (0,0)):=aB s8
 have s10:(((((((((((w.setCell ⟨B,0,none⟩ a0).setCell ⟨B,1,none⟩ a1).setCell ⟨B,2,none⟩ a2).setCell ⟨B,3,none⟩ a3).setCell ⟨B,4,none⟩ a4).setCell ⟨B,5,none⟩ a5).setCell ⟨B,6,none⟩ a6).setCell ⟨B,7,none⟩ a7).setCell ⟨B,8,none⟩ a8).setCell ⟨B,9,none⟩ a9).setCell ⟨B,10,none⟩ a10).heap[B]?=some (.cells #[a0,a1,a2,a3,a4,a5,a6,a7,a8,a9,a10,b11,b12] t (0,0)):=aB s9
 have s11:((((((((((((w.setCell ⟨B,0,none⟩ a0).setCell ⟨B,1,none⟩ a1).setCell ⟨B,2,none⟩ a2).setCell ⟨B,3,none⟩ a3).setCell ⟨B,4,none⟩ a4).setCell ⟨B,5,none⟩ a5).setCell ⟨B,6,none⟩ a6).setCell ⟨B,7,none⟩ a7).setCell ⟨B,8,none⟩ a8).setCell ⟨B,9,none⟩ a9).setCell ⟨B,10,none⟩ a10).setCell ⟨B,11,none⟩ a11).heap[B]?=some (.cells #[a0,a1,a2,a3,a4,a5,a6,a7,a8,a9,a10,a11,b12] t (0,0)):=aB s10
 have s12:(((((((((((((w.setCell ⟨B,0,none⟩ a0).setCell ⟨B,1,none⟩ a1).setCell ⟨B,2,none⟩ a2).setCell ⟨B,3,none⟩ a3).setCell ⟨B,4,none⟩ a4).setCell ⟨B,5,none⟩ a5).setCell ⟨B,6,none⟩ a6).setCell ⟨B,7,none⟩ a7).setCell ⟨B,8,none⟩ a8).setCell ⟨B,9,none⟩ a9).setCell ⟨B,10,none⟩ a10).setCell ⟨B,11,none⟩ a11).setCell ⟨B,12,none⟩ a12).heap[B]?=some (.cells #[a0,a1,a2,a3,a4,a5,a6,a7,a8,a9,a10,a11,a12] t (0,0)):=aB s11
 exact s12
theorem aG {w : World} {B : Nat} {a0 a1 a2 a3 a4 a5 a6 a7 a8 a9 a10 a11 a12 : Value} {t : TypeId} (h : w.heap[B]? = some (.cells #[a0, a1, a2, a3, a4, a5, a6, a7, a8, a9, a10, a11, a12] t (0, 0))) :
    w.cell? ⟨B,0,none⟩=some a0/\w.cell? ⟨B,1,none⟩=some a1/\w.cell? ⟨B,2,none⟩=some a2/\w.cell? ⟨B,3,none⟩=some a3/\w.cell? ⟨B,4,none⟩=some a4/\w.cell? ⟨B,5,none⟩=some a5/\w.cell? ⟨B,6,none⟩=some a6/\w.cell? ⟨B,7,none⟩=some a7/\w.cell? ⟨B,8,none⟩=some a8/\w.cell? ⟨B,9,none⟩=some a9/\w.cell? ⟨B,10,none⟩=some a10/\w.cell? ⟨B,11,none⟩=some a11/\w.cell? ⟨B,12,none⟩=some a12 :=
 ⟨by rw [cell_of_row _ _ _ _ _ (0,0) h];rfl,by rw [cell_of_row _ _ _ _ _ (0,0) h];rfl,by rw [cell_of_row _ _ _ _ _ (0,0) h];rfl,by rw [cell_of_row _ _ _ _ _ (0,0) h];rfl,by rw [cell_of_row _ _ _ _ _ (0,0) h];rfl,by rw [cell_of_row _ _ _ _ _ (0,0) h];rfl,by rw [cell_of_row _ _ _ _ _ (0,0) h];rfl,by rw [cell_of_row _ _ _ _ _ (0,0) h];rfl,by rw [cell_of_row _ _ _ _ _ (0,0) h];rfl,by rw [cell_of_row _ _ _ _ _ (0,0) h];rfl,by rw [cell_of_row _ _ _ _ _ (0,0) h];rfl,by rw [cell_of_row _ _ _ _ _ (0,0) h];rfl,by rw [cell_of_row _ _ _ _ _ (0,0) h];rfl⟩
theorem au {w:World} {B:Nat} {a0 a1 a2 a3 a4 a5 a6 a7 a8 a9 a10 a11 a12:Value} {t:TypeId} (h:w.heap[B]?=some (.cells #[a0,a1,a2,a3,a4,a5,a6,a7,a8,a9,a10,a11,a12] t (0,0))) (j:Nat):w.frozen? ⟨B,j,none⟩=false:=by simp [World.frozen?,h]
abbrev c13 (h:Nd) (o1:Option Addr) (l1 c1:Nat) (o2:Option Addr) (l2 c2:Nat) (x:Pt) (j er:Int):Array Value :=
 #[.int .i64 h.k,.string h.nm,.int .i64 h.n,.int .i64 h.tk,.int .i64 h.tn,.slice o1 l1 c1,.slice o2 l2 c2,.int .i64 h.fr,.int .i64 h.en,.int .i64 x.1,.int .i64 x.2,.int .i64 j,.int .i64 er]
abbrev z13 (j er:Int):Array Value :=
 #[.int .i64 0,.string ⟨#[]⟩,.int .i64 0,.int .i64 0,.int .i64 0,.slice none 0 0,.slice none 0 0,.int .i64 0,.int .i64 0,.int .i64 0,.int .i64 0,.int .i64 j,.int .i64 er]
def iJ (w:World) (r:jL) (e:Ending) (w':World):Prop:=match r with
 | .inl ((h,ps),x,j)=>∃ o1 l1 c1 o2 l2 c2,e=.returned (.agg (c13 h o1 l1 c1 o2 l2 c2 x (j:Nat) 0))/\aC (fun b=>w.heap.size<=b) w' o1 l1 h.tp/\aY (fun b=>w.heap.size<=b) w' o2 l2 ps/\ah w w'
 | .inr (j,er)=>e=.returned (.agg (z13 (j:Nat) (er:Nat)))/\ah w w'
theorem kM (j er:Int) (w:World):Calls Tryz.prog 80 #[.int .i64 j,.int .i64 er] w fun e w'=>e=.returned (.agg (z13 j er))/\ah w w':=by
 have HB:=hid (heap_alloc_new w (.cells (z13 j er) 129))
 have HQ:Hid (ah w (w.alloc (.cells (z13 j er) 129))):=ah.alloc _ _
 go_enter Tryz.func80,Tryz.ntmps80
 go_wp2_with fail
 change bodyPost _ _ _ _ _ (w.alloc (.cells (z13 j er) 129))
 generalize w.alloc (.cells (z13 j er) 129)=wf at *
 obtain ⟨f0,f1,f2,f3,f4,f5,f6,f7,f8,f9,f10,f11,f12⟩:=aG HB.out
 refine bodyPost_ret (by simp [results,Tryz.results80,go_sem,f0,f1,f2,f3,f4,f5,f6,f7,f8,f9,f10,f11,f12];rfl) rfl ?_
 exact ⟨rfl,HQ.out⟩
theorem BJ (x y u v:Int) (w:World):Calls Tryz.prog 105 #[.agg #[.int .i64 x,.int .i64 y],.agg #[.int .i64 u,.int .i64 v]] w fun e w'=>e=.returned (.agg #[.int .i64 (aV (x,y) (u,v)).1,.int .i64 (aV (x,y) (u,v)).2])/\ah w w':=by
 by_cases h1:y<=x
 ·by_cases h2:v<=u
  ·have HJ:Hid (aV (x,y) (u,v)=(0,0)):=by show _=_;unfold aV;simp [h1,h2]
   rw [HJ.out]
   go_enter Tryz.func105,Tryz.ntmps105
   go_wp2_with fail
   refine bodyPost_ret (by first | (simp [results,Tryz.results105,go_sem];done) | (simp [results,Tryz.results105,go_sem];rfl)) rfl ⟨rfl,?_⟩
   repeat (first | exact ah.refl _ | refine ah.trans ?_ (ah.alloc _ _))
  ·have HJ:Hid (aV (x,y) (u,v)=(u,v)):=by show _=_;unfold aV;simp [h1,h2]
   rw [HJ.out]
   go_enter Tryz.func105,Tryz.ntmps105
   go_wp2_with fail
   refine bodyPost_ret (by first | (simp [results,Tryz.results105,go_sem];done) | (simp [results,Tryz.results105,go_sem];rfl)) rfl ⟨rfl,?_⟩
   repeat (first | exact ah.refl _ | refine ah.trans ?_ (ah.alloc _ _))
 ·by_cases h2:v<=u
  ·have HJ:Hid (aV (x,y) (u,v)=(x,y)):=by show _=_;unfold aV;simp [h1,h2]
   rw [HJ.out]
   go_enter Tryz.func105,Tryz.ntmps105
   go_wp2_with fail
   refine bodyPost_ret (by first | (simp [results,Tryz.results105,go_sem];done) | (simp [results,Tryz.results105,go_sem];rfl)) rfl ⟨rfl,?_⟩
   repeat (first | exact ah.refl _ | refine ah.trans ?_ (ah.alloc _ _))
  ·have HJ:Hid (aV (x,y) (u,v)=(min x u,max y v)):=by show _=_;unfold aV;simp [h1,h2]
   rw [HJ.out]
   go_enter Tryz.func105,Tryz.ntmps105
   go_wp2_with fail
   refine bodyPost_ret (by first | (simp [results,Tryz.results105,go_sem];done) | (simp [results,Tryz.results105,go_sem];rfl)) rfl ⟨rfl,?_⟩
   repeat (first | exact ah.refl _ | refine ah.trans ?_ (ah.alloc _ _))
end Pa
end
end Go.Proofs.YtcninopmelmajaaGreatDoor
