/-
  Texts laid together (EqPart, EqPk, EqKept, EqBindL): laws and walks, with their conditions.
-/
import Derived.Test.YtcninopmelmajaaGreatDoorOF32
set_option maxHeartbeats 8000000
set_option maxRecDepth 1000000
namespace Go.Proofs.YtcninopmelmajaaGreatDoor
open Go.Lib (hid)
section
open Go.RowKit
namespace Em
theorem Hl {a b:Nat} (h:tv a=tv b):a=b:=by
 have:((a:Int),Fo.nil)=((b:Int),Fo.nil):=(Prod.mk.inj h).2;have:=(Prod.mk.inj this).1;omega
def nX:List Value->List Ty->Prop
 | xs,[]=>xs=[]
 | xs,t::r=>∃ (n:Nat) (o:Option Addr) (c:Nat) (ys:List Value),t=tv n/\xs=[.int .i64 1,.int .i64 n,.slice o 0 c]++ys/\nX ys r
theorem nX.snoc (n:Nat) (o:Option Addr) (c:Nat):∀ (l:List Ty) (xs:List Value),nX xs l->nX (xs++[.int .i64 1,.int .i64 n,.slice o 0 c]) (l++[tv n])
 | [],xs,h=>by cases h;exact ⟨n,o,c,[],rfl,by simp,rfl⟩
 | t::r,xs,h=>by
  obtain ⟨n',o',c',ys,e,rfl,hr⟩:=h;exact ⟨n',o',c',_,e,by rw [List.append_assoc],nX.snoc n o c r ys hr⟩
theorem nX.length:∀ (l:List Ty) (xs:List Value),nX xs l->xs.length=l.length*3
 | [],xs,h=>by cases h;rfl
 | t::r,xs,h=>by
  obtain ⟨n,o,c,ys,_,rfl,hr⟩:=h;have:=nX.length r ys hr;simp;omega
theorem nX.get:∀ (l:List Ty) (xs:List Value) (i:Nat),nX xs l->i < l.length->∃ (n:Nat) (o:Option Addr) (c:Nat),l[i]?=some (tv n)/\xs[i*3]?=some (.int .i64 1)/\xs[i*3+1]?=some (.int .i64 n)/\xs[i*3+2]?=some (.slice o 0 c)
 | [],xs,i,_,h=>by simp at h
 | t::r,xs,0,h,_=>by
  obtain ⟨n,o,c,ys,rfl,rfl,hr⟩:=h;exact ⟨n,o,c,by simp⟩
 | t::r,xs,i+1,h,hi=>by
  obtain ⟨n,o,c,ys,rfl,rfl,hr⟩:=h;obtain ⟨n',o',c',k⟩:=nX.get r ys i hr (by simpa using hi);refine ⟨n',o',c',?_⟩;rw [show (i+1)*3=i*3+3 from by omega];simpa using k
theorem nX.at {T:Nat->Prop} {w:World} {g:Nat} (hg:T g) (hgl:g < w.heap.size):∀ (l:List Ty) (xs:List Value) (off:Nat),nX xs l->(∀ j u,xs[j]?=some u->w.cell? ⟨g,off+j,none⟩=some u)->AtIn T w g off (jF l)
 | [],_,_,_,_=>trivial
 | t::r,xs,off,h,hc=>by
  obtain ⟨n,o,c,ys,rfl,rfl,hr⟩:=h;refine ⟨hg,hc 0 _ rfl,hc 1 _ rfl,⟨o,0,c,hc 2 _ rfl,rfl,Nat.zero_le _,fun h=>absurd h (Nat.lt_irrefl _)⟩,nX.at hg hgl r ys (off+3) hr ?_⟩;intro j u hj;have:=hc (j+3) u (by simpa using hj);rw [<-this];congr 2;omega
def uh (T:Nat->Prop) (w:World) (o:Option Addr) (l:List Ty):Prop:=l.length<=maxLen/\(l=[]∨∃ g,o=some ⟨g,0,none⟩/\T g/\g < w.heap.size/\∃ xs,nX xs l/\∀ j u,xs[j]?=some u->w.cell? ⟨g,j,none⟩=some u)
theorem uh.later {X:Nat->Prop} {pb:Nat} {W W':World} {o:Option Addr} {l:List Ty} (h:uh (TF X pb W) W o l) (hl:Later pb W W'):uh (TF X pb W') W' o l:=by
 refine ⟨h.1,h.2.imp id ?_⟩;rintro ⟨g,h1,h2,h3,xs,h4,h5⟩;exact ⟨g,h1,hl.tf h3 h2,Nat.lt_of_lt_of_le h3 hl.size,xs,h4,fun j u hj=>(hl.fr.bf h3 (fun e=>e.elim h2.1 h2.2.1)).trans (h5 j u hj)⟩
theorem Ac:∀ l:List Ty,(jF l).length=l.length
 | []=>rfl
 | t::r=>by simp only [jF,Fo.length,List.length_cons];rw [Ac r]
theorem uh.slc {T:Nat->Prop} {w:World} {o:Option Addr} {l:List Ty} (h:uh T w o l):aB T w o l.length (jF l):=by
 refine ⟨(Ac l).symm,h.1,fun hl=>?_⟩;rcases h.2 with e | ⟨g,h1,h2,h3,xs,h4,h5⟩
 ·subst e;simp at hl
 ·exact ⟨g,0,h1,nX.at h2 h3 l xs 0 h4 (fun j u hj=>by rw [Nat.zero_add];exact h5 j u hj)⟩
theorem uh.get {T:Nat->Prop} {w:World} {o:Option Addr} {l:List Ty} (h:uh T w o l) {i:Nat} (hi:i < l.length):∃ (g n:Nat) (oo:Option Addr) (cc:Nat),o=some ⟨g,0,none⟩/\qQ l i=tv n/\w.cell? ⟨g,i*3,none⟩=some (.int .i64 1)/\w.cell? ⟨g,i*3+1,none⟩=some (.int .i64 n)/\w.cell? ⟨g,i*3+2,none⟩=some (.slice oo 0 cc):=by
 rcases h.2 with e | ⟨g,h1,h2,h3,xs,h4,h5⟩
 ·subst e;simp at hi
 ·obtain ⟨n,oo,cc,k0,k1,k2,k3⟩:=nX.get l xs i h4 hi;exact ⟨g,n,oo,cc,h1,by unfold qQ;rw [List.getD_eq_getElem?_getD,k0];rfl,h5 _ _ k1,h5 _ _ k2,h5 _ _ k3⟩
structure Df (W0 W:World) (v:Value) (l:List Ty) (xs:List Value):Prop where
 own:W.ownsRow 0 24 3 v l.length xs
 low:∀ k,v.ownBlock=some k->W0.heap.size<=k
 cells:nX xs l
theorem Df.nil (W0 W:World):Df W0 W (.slice none 0 0) [] []:=⟨World.ownsRow_nil _ _ _ _,fun k hk=>(by cases hk),rfl⟩
def PtQ (X:Nat->Prop) (most:Int) (pb:Nat) (W:World) (r:List Ty × Mk) (x:Ending) (w':World):Prop:=∃ o c,x=.returned (.slice o r.1.length c)/\r.1.length<=c/\uh (TF X pb w') w' o r.1/\dV X most pb w' r.2/\Later pb W w'
abbrev XO (X:Nat->Prop) (v:Value):Nat->Prop:=fun i=>X i∨v.ownBlock=some i
theorem Df.later {X:Nat->Prop} {most:Int} {pb:Nat} {W0 W W':World} {k:Mk} {v:Value} {l:List Ty} {xs:List Value} (h:Df W0 W v l xs) (hm:dV (XO X v) most pb W k) (hl:Later pb W W'):Df W0 W' v l xs :=
 ⟨aV h.own hl.fr (fun _ hg=>hm.far (.inr hg)),h.low,h.cells⟩
theorem Df.snoc {X : Nat -> Prop} {most : Int} {pb : Nat} {W0 W w' : World} {k : Mk} {v : Value} {l : List Ty} {xs : List Value} (h : Df W0 W v l xs) (hm : dV (XO X v) most pb W k) (hl : Later pb W0 W) (hp : pb < W0.heap.size) (n : Nat) (o : Option Addr) (c : Nat) {g c' : Nat}
    (ho:w'.ownsRow 0 24 3 (.slice (some ⟨g,0,none⟩) (l.length+1) c') (l.length+1) (xs++[.int .i64 1,.int .i64 n,.slice o 0 c])) (hf:Fr (fun i=>v.ownBlock=some i) W w') (hg:v.ownBlock=some g∨(W.heap.size<=g/\ah W w')) :
    Df W0 w' (.slice (some ⟨g,0,none⟩) (l.length+1) c') (l++[tv n]) (xs++[.int .i64 1,.int .i64 n,.slice o 0 c])/\dV (XO X (.slice (some ⟨g,0,none⟩) (l.length+1) c')) most pb w' k/\Later pb W0 w':=by
 have hb:∀ i,(Value.slice (some ⟨g,0,none⟩) (l.length+1) c').ownBlock=some i->i=g:=fun i hi=>by simp [Value.ownBlock] at hi;exact hi.symm
 refine ⟨⟨by rw [List.length_append];exact ho,fun i hi=>?_,nX.snoc n o c l xs h.cells⟩,?_,hl.put hf hp (fun i hi=>h.low i hi)⟩
 ·rw [hb i hi];rcases hg with e | ⟨e,_⟩
  ·exact h.low g e
  ·exact Nat.le_trans hl.size e
 ·rcases hg with e | ⟨e,hq⟩
  ·exact (hm.put (hf.mono (fun i _ hi=>.inr hi))).less (fun i hi=>hi.elim .inl (fun hi=>.inr (by rw [hb i hi];exact e)))
  ·exact (hm.more hq (fun i=>i=g) (fun i hi=>by subst hi;exact ⟨e,(ho.lt i rfl).2⟩)).less (fun i hi=>hi.elim (fun hx=>.inl (.inl hx)) (fun hi=>.inr (hb i hi)))
theorem ZL {X:Nat->Prop} {most:Int} {pb:Nat} {W W':World} {r:List Ty × Mk} {o:Option Addr} {n c:Nat} {xs:List Value} (hx:∀ i,X i->i < W.heap.size) (hn:n=r.1.length) (h:Df W W' (.slice o n c) r.1 xs) (hm:dV (XO X (.slice o n c)) most pb W' r.2) (hl:Later pb W W') (hz:r.1.length<=maxLen):PtQ X most pb W r (.returned (.slice o n c)) W':=by
 subst hn;have hc:r.1.length<=c/\uh (TF X pb W') W' o r.1:=by
  rcases h.own.2 with ⟨h1,h2⟩ | ⟨g,cap,cur,h1,h2,h3,h4,h5,_⟩
  ·injection h1 with e1 e2 e3
   exact ⟨by omega,hz,.inl (List.eq_nil_of_length_eq_zero h2)⟩
  ·injection h1 with e1 e2 e3
   subst e1;have hlow:=h.low g rfl;have abq:=hm.far (i:=g) (.inr rfl);refine ⟨by omega,hz,.inr ⟨g,rfl,⟨fun e=>abq (.inl e),fun e=>abq (.inr e),fun e=>by have:=hx g e;omega⟩,(h.own.lt g rfl).2,xs,h.cells,fun j u hj=>?_⟩⟩;have:=h.own.cells (g:=g) rfl j u hj;simpa [Addr.add_lit] using this
 exact ⟨o,c,rfl,hc.1,hc.2,hm.less (fun i hi=>.inl hi),hl⟩
theorem elemTy:Elem Tryz.prog 22 24 (.agg #[.int .i64 0,.int .i64 0,.slice none 0 0]) 3 40 :=
 ⟨Tryz.underlying22,by kernel_rfl,by decide,by decide⟩
theorem FB (e:Env):∀ (vs:List (Env->Pm Ty)) (i:Nat) (v:Env->Pm Ty) (m:Mk),vs[i]?=some v->jE e (vs.drop i) m=((v e m).1::(jE e (vs.drop (i+1)) (v e m).2).1,(jE e (vs.drop (i+1)) (v e m).2).2)
 | [],i,v,m,h=>by simp at h
 | u::r,0,v,m,h=>by simp at h;subst h;rfl
 | u::r,i+1,v,m,h=>by simpa using FB e r i v m (by simpa using h)
theorem lg (e:Env):∀ (vs:List (Env->Pm Ty)) (m:Mk),(jE e vs m).1.length=vs.length
 | [],_=>rfl
 | v::r,m=>by
  show ((v e m).1::(jE e r (v e m).2).1).length=_
  rw [List.length_cons,lg e r,List.length_cons]
def PtI (X:Nat->Prop) (most:Int) (pb:Nat) (W0:World) (E:Env) (vs:List (Env->Pm Ty)) (fin:List Ty × Mk) (lo:Nat) (a t:Value) (wr:World):Prop :=
 ∃ (i:Nat) (uQ:Mk) (l:List Ty) (o:Option Addr) (c:Nat) (xs:List Value),t=.int .i64 i/\a=.slice o i c/\i<=vs.length/\l.length=i/\l++(jE E (vs.drop i) uQ).1=fin.1/\(jE E (vs.drop i) uQ).2=fin.2/\Df W0 wr (.slice o i c) l xs/\dV (XO X (.slice o i c)) most pb wr uQ/\Later pb W0 wr/\lo<=uQ.next
theorem uS (h : Nd) (ps : To) (ih : ∀ i g qs, ps.get i = some (g, qs) -> TmT g qs) (W : World) (R X : Nat -> Prop) (most : Int) (pb : Nat) (mk : Mk) (o1 : Option Addr) (l1 c1 : Nat) (o2 : Option Addr) (l2 c2 : Nat) (eo : Option Addr) (en ec : Nat) (e : iZ) (E : Env)
    (hs2:bD R W o2 l2 ps) (hR:∀ i,R i->i < pb) (hm:dV X most pb W mk) (pK:most<=4096) (hb:XC pb W eo en e) (vX:en<=ec) (hz:en+ps.size<=100000) (hE:sK most pb mk.next W e E) (mZ:vF ps) (hfr:∀ j g qs,ps.get j=some (g,qs)->Sc.bP (names e) g qs=[]) (hN:(jE E (bT most ps) mk).2.next<=Aa) :
    Calls Tryz.prog 71 #[.pointer (some ⟨pb,0,none⟩),bI h o1 l1 c1 o2 l2 c2,.slice eo en ec] W (PtQ X most pb W (jE E (bT most ps) mk)):=by
 obtain ⟨W0,hW0⟩:∃ W0,W0=W.alloc (.cells (cells9 h o1 l1 c1 o2 l2 c2) 29):=⟨_,rfl⟩;have hq0:ah W W0:=by rw [hW0];exact ah.alloc _ _
 have h4:Bx pb W0 W.heap.size (cells9 h o1 l1 c1 o2 l2 c2) 29:=Bx.new hm hq0 (Nat.le_refl _) (by rw [hW0];exact heap_alloc_new W _);have hp:=hm.lt;have hl0:=Later.aT hq0 hp;have yQ:=hid hl0;have HM:=hid hm;have Fv:=hid (hm.stay hq0);have HX:=hid hm.old;have H4:=hid h4;have HP:=hid hp;have HS2:=hid hs2;have HR:=hid hR;have Ep:=hid hb;have HE:=hid hE;have qV:=hid mZ;have Ap:=hid hfr;have wR:=hid pK;have HLEN:Hid (l2=ps.length):=hs2.1;have HMX:Hid (l2<=100000):=by have:=To.length_le ps;rw [<-hs2.1] at this;show _<=_;omega
 have FC:Hid ((bT most ps).length=l2):=by show _=_;rw [jS,hs2.1]
 have IH:=hid ih;have hmx:l2<=100000:=HMX.out;obtain ⟨fin,hfin⟩:∃ fin,jE E (bT most ps) mk=fin:=⟨_,rfl⟩;have bH:=hid hfin;have zX:Hid (fin.2.next<=Aa):=by show _<=_;rw [<-hfin];exact hN
 have Xm:Hid (fin.1.length=l2):=by show _=_;rw [<-hfin,lg];exact FC.out
 rw [hfin];have HST:Hid (PtI X most pb W E (bT most ps) fin mk.next (.slice none 0 0) (.int .i64 0) W0):=by
  refine ⟨0,mk,[],none,0,[],rfl,rfl,Nat.zero_le _,rfl,by rw [List.drop_zero,bH.out];rfl,by rw [List.drop_zero,bH.out],Df.nil _ _,Fv.out.less (fun i hi=>hi.elim id (fun hi=>by cases hi)),yQ.out,Nat.le_refl _⟩
 have HNE:=hid hE.ne;clear ih hs2 hR hm hb hE mZ hfr hN hl0 hq0 h4 hp hfin pK;generalize hvs:bT most ps=vs at *;have N8:=hid hvs;clear hvs;unfold bI;go_enter Tryz.func71,Tryz.ntmps71;generalize dW:W.heap.size=B at *;go_upto_region 1 with fail
 rw [<-hW0];clear hW0;obtain ⟨a0,a1,a2,a3,a4,a5,a6,a7,a8⟩:=aA H4.out.1;go_wp2_with fail;clear a0 a1 a2 a3 a4 a5 a6 a7 a8;go_loopw [7,13] (fun a t wr=>PtI X most pb W E vs fin mk.next a t wr) (fun _ t _=>l2-(intOf t).toNat)
 case atStart=>exact HST.out
 case round =>
  have hPP:pb < W.heap.size:=by rw [dW];exact HP.out
  have hXX:∀ i,X i->i < W.heap.size:=by rw [dW];exact HX.out
  obtain ⟨i,uQ,l,o,c,xs,rfl,rfl,hi,hll,hf1,hf2,hrow,LM,Wh,hlo⟩:=hrel;have hil:i<=l2:=by rw [<-FC.out];exact hi
  by_cases hlt:i < l2
  ·have hlt':(i:Int) < l2:=by omega
   obtain ⟨b,off,g,qs,p1,m1,d1,p2,m2,d2,rfl,hdr,hgt,hRb,Q7,hs3,hs4⟩:=HS2.out.nth hlt;have hbp:=HR.out b hRb;have ac4:=fA Q7 hbp HM.out Wh;have RU:=hid (jI hs3 HR.out HM.out Wh);have Gm:=hid (fO hs4 HR.out HM.out Wh);obtain ⟨a0,a1,a2,a3,a4,a5,a6,a7,a8⟩:=ac4;obtain ⟨W1,hW1⟩:∃ W1,W1=wr.alloc (.cells (cells9 g p1 m1 d1 p2 m2 d2) 29):=⟨_,rfl⟩;have Ey:ah wr W1:=by rw [hW1];exact ah.alloc _ _
   have hbx:=heap_alloc_new wr (.cells (cells9 g p1 m1 d1 p2 m2 d2) 29);rw [<-hW1] at hbx;have hmw:=LM.stay Ey;have hlw:=Wh.quiet Ey hPP;have hrw:=hrow.later LM (Later.aT Ey LM.lt);have hvi:vs[i]?=some (dF most g qs):=by rw [<-N8.out];exact zx most ps i g qs hgt
   have hmd:=FB E vs i _ uQ hvi;rw [hmd] at hf1 hf2;have hnx:=G7 HNE.out (vs:=vs.drop (i+1)) (fun v hv=>by
    rw [<-N8.out] at hv;exact qR most ps v (List.mem_of_mem_drop hv)) (dF most g qs E uQ).2
   replace hnx:=hnx.1;have hok:=gJ ps i g qs qV.out hgt;have hcall:=IH.out i g qs hgt W1 R (XO X (.slice o i c)) most pb uQ p1 m1 d1 p2 m2 d2 eo en ec e E (RU.out.stay Ey) (Gm.out.stay Ey) HR.out hmw wR.out (Ep.out.later hlw) vX (by have:=To.dK ps i g qs hgt;omega) (HE.out.later hlw hlo) hok.1 hok.2 (Ap.out i g qs hgt) (Nat.le_trans (by rw [<-hf2];exact hnx) zX.out);have HC:=hid hcall;have HMW:=hid hmw;have HLW:=hid hlw;have HRW:=hid hrw;have vO:=hid hf1;have HF2:=hid hf2;have xA:=hid (lQ most g qs E HNE.out uQ).1;obtain ⟨d0,d1',d2',d3,d4,d5,d6,d7,d8⟩:=aA hbx;clear hf1 hf2 hrow LM Wh hmw hlw hrw hcall hnx hmd Ey Q7 hs3 hs4 hbx;generalize dF most g qs E uQ=res at *;obtain ⟨rt,mk2⟩:=res;dsimp only at vO HF2 xA;unfold bI at HC;go_upto_region 5 with fail
   change Code.wp _ _ _ _ (wr.alloc (.cells (cells9 g p1 m1 d1 p2 m2 d2) 29));rw [<-hW1];clear hW1 a0 a1 a2 a3 a4 a5 a6 a7 a8;generalize hE1:wr.heap.size=E1 at *;go_wp2_with fail;refine HC.out.mono ?_;rintro x w3 ⟨n3,o3,c3,hr3,rfl,nR,hl3⟩;dsimp only at hr3 nR;subst hr3;have AY:=hid nR;have tY:=hid hl3;have HR3:=hid (HRW.out.later HMW.out hl3);clear nR hl3 d0 d1' d2' d3 d4 d5 d6 d7 d8;unfold dZ;subst hll;go_wp2_with (at_builtin;go_must (refine yO w3 rfl (.tmp 17) (.tmp 22) 22 rfl 24 _ 3 40 elemTy (.slice o l.length c) l.length xs rfl HR3.out.own #[.int .i64 1,.int .i64 n3,.slice o3 0 c3] rfl rfl ?c1 (by unfold maxLen;omega) (by omega) ?_);(case c1=>simp [Value.oneCell']));intro g4 c4 w4 mM hf4 hg4;obtain ⟨k1,k2,k3⟩:=HR3.out.snoc AY.out (HLW.out.trans tY.out) hPP n3 o3 c3 mM hf4 hg4;have K1:=hid k1;have K2:=hid k2;have K3:=hid k3;clear k1 k2 k3 mM hf4 hg4;go_wp2_with fail;go_roundw
   case rel =>
    refine ⟨l.length+1,mk2,l++[tv n3],some ⟨g4,0,none⟩,c4,_,by go_num,rfl,by rw [FC.out];omega,by simp,by rw [List.append_assoc];exact vO.out,HF2.out,K1.out,K2.out,K3.out,Nat.le_trans hlo xA.out⟩
   case measure=>simp [intOf];omega
  ·have hlt':¬ (i:Int) < l2:=by omega
   have hi2:i=l2:=by omega
   subst hi2;have hd:vs.drop i=[]:=List.drop_eq_nil_of_le (by rw [FC.out];exact Nat.le_refl _);rw [hd] at hf1 hf2;have hl1:l=fin.1:=by rw [<-hf1];show l=l++[];simp
   have hm1:uQ=fin.2:=hf2;subst hl1;subst hm1;have zy:=hid (ZL (r:=fin) (c:=c) (o:=o) hXX hll.symm hrow LM Wh (by rw [hll];unfold maxLen;omega));clear hrow LM Wh hf1 hf2;go_wp2_with fail;go_ret;exact zy.out
end Em
end
section
open Go.RowKit
namespace Em
def ArQ (W:World) (a b:Nat) (e:Ending) (w':World):Prop:=∃ o' cap',e=.returned (.agg #[.int .i64 4,.int .i64 0,.slice o' 2 cap'])/\aB (fun i=>W.heap.size<=i) w' o' 2 (iY (tv a) (tv b)).2.2/\ah W w'
theorem Dh {W : World} {g a b : Nat} {o1 : Option Addr} {c1 : Nat} {o2 : Option Addr} {c2 : Nat} (h : W.heap[g]? = some (.cells #[.int .i64 1, .int .i64 a, .slice o1 0 c1, .int .i64 1, .int .i64 b, .slice o2 0 c2] 24 (0, 0))) :
    Calls Tryz.prog 40 #[.slice (some ⟨g,0,none⟩) 2 2] W (ArQ W a b):=by
 have hs:kT W (some ⟨g,0,none⟩) 2 (.cons 1 (a:Int) .nil (.cons 1 (b:Int) .nil .nil)):=by
  refine ⟨rfl,by unfold maxLen;omega,fun _=>⟨g,0,rfl,?_⟩⟩;have c:∀ j (hj:j < 6),W.cell? ⟨g,j,none⟩=(#[Value.int .i64 1,.int .i64 a,.slice o1 0 c1,.int .i64 1,.int .i64 b,.slice o2 0 c2]:Array Value)[j]?:=fun j hj=>by rw [cell_of_row _ _ _ _ _ (0,0) h]
  exact ⟨c 0 (by omega),c 1 (by omega),⟨o1,0,c1,c 2 (by omega),rfl,Nat.zero_le _,fun h=>absurd h (Nat.lt_irrefl _)⟩,c 3 (by omega),c 4 (by omega),⟨o2,0,c2,c 5 (by omega),rfl,Nat.zero_le _,fun h=>absurd h (Nat.lt_irrefl _)⟩,trivial⟩
 refine (FD _ W _ 2 2 hs (Nat.le_refl _) (by show Fo.size _<=_;simp [Fo.size])).mono ?_;rintro e w' ⟨o',len',cap',rfl,h2,h3⟩;have hl:len'=2:=h2.1;subst hl;exact ⟨o',cap',rfl,h2,h3⟩
def Ij (most:Int) (pb lo:Nat) (W:World) (o:Option Addr) (n:Nat) (e:iZ) (E:Env):Prop:=XC pb W o n e/\sK most pb lo W e E
theorem Ij.later {most:Int} {pb lo:Nat} {W W':World} {o:Option Addr} {n:Nat} {e:iZ} {E:Env} (h:Ij most pb lo W o n e E) (hl:Later pb W W'):Ij most pb lo W' o n e E:=⟨h.1.later hl,h.2.later hl (Nat.le_refl _)⟩
theorem Ij.st {X:Nat->Prop} {most:Int} {pb lo:Nat} {W W':World} {k:Mk} {o:Option Addr} {n:Nat} {e:iZ} {E:Env} (hm:dV X most pb W k) (hq:ah W W') (h:Ij most pb lo W o n e E):Ij most pb lo W' o n e E:=h.later (Later.aT hq hm.lt)
theorem jW.st {X:Nat->Prop} {most:Int} {pb lo:Nat} {W W':World} {k:Mk} {v:Value} {f:Pm Ty} (hm:dV X most pb W k) (hq:ah W W') (h:jW most pb lo W v f):jW most pb lo W' v f:=h.later (Later.aT hq hm.lt) (Nat.le_refl _)
def WtQ (most:Int) (pb lo:Nat) (W:World) (n:Nat) (e:iZ) (E:Env) (x:Ending) (w':World):Prop:=∃ o c,x=.returned (.slice o n c)/\n<=c/\Ij most pb lo w' o n e E/\ah W w'
theorem uT {X : Nat -> Prop} {most : Int} {pb lo : Nat} {W : World} {k : Mk} {eo : Option Addr} {en ec : Nat} {e : iZ} {E : Env} {f : Pm Ty} {bs : Fn} {ls : Array Value} (s : ByteArray) (hm : dV X most pb W k) (hb : XC pb W eo en e) (hE : sK most pb lo W e E) (vX : en <= ec) (hz : en <= 900000) (hf : jW most pb lo W (.func bs #[] ls) f) (hn : NM f) :
    Calls Tryz.prog 68 #[.slice eo en ec,.string s,.func bs #[] ls] W (WtQ most pb lo W (en+1) ((s,.func bs #[] ls)::e) ((s,f)::E)):=by
 refine (Qe _ e s bs #[] ls eo en ec W hb vX hz).mono ?_;rintro x w' ⟨o,c,rfl,h1,h2,hq⟩;have hl:=Later.aT hq hm.lt;rw [List.length_cons,<-hb.1] at h1 h2 ⊢;exact ⟨o,c,rfl,h2,⟨ZK hm hq h1,.cons (hf.later hl (Nat.le_refl _)) hn (hE.later hl (Nat.le_refl _))⟩,hq⟩
theorem pO {k:Int} (nm:ByteArray) {j:Nat} (x:List ByteArray) (h:Sc.mP k j=false):Sc.bZ k nm j x=x:=by unfold Sc.bZ;rw [h];rfl
theorem rM {k:Int} (nm:ByteArray) {j:Nat} (x:List ByteArray) (h:Sc.mP k j=true):Sc.bZ k nm j x=nm::x:=by unfold Sc.bZ;rw [h];rfl
theorem uU {k:Int} (h4:k≠4) (h6:k≠6) (h7:k≠7) (j:Nat):Sc.mP k j=false:=by unfold Sc.mP;simp [h4,h6,h7]
theorem cell_later {X:Nat->Prop} {pb:Nat} {W W':World} {g j:Nat} {v:Value} (hg:TF X pb W g) (hl:Later pb W W') (h:W.cell? ⟨g,j,none⟩=some v):W'.cell? ⟨g,j,none⟩=some v :=
 (hl.fr.bf (World.block_lt_of_cell? W _ h) (fun e=>e.elim hg.1 hg.2.1)).trans h
theorem XD {X:Nat->Prop} {most:Int} {pb:Nat} {W W':World} {k:Mk} {g j:Nat} {v:Value} {G:Prop} (hm:dV X most pb W k) (hq:ah W W') (hc:W.cell? ⟨g,j,none⟩=some v) (ht:TF X pb W g) (K:TF X pb W' g->G):G:=K ((Later.aT hq hm.lt).tf (World.block_lt_of_cell? W _ hc) ht)
theorem uh.tf {T:Nat->Prop} {w:World} {o:Option Addr} {l:List Ty} (h:uh T w o l) {g:Nat} (ho:o=some ⟨g,0,none⟩) (hl:0 < l.length):T g:=by
 rcases h.2 with e | ⟨g',h1,h2,_⟩
 ·subst e;simp at hl
 ·rw [ho] at h1;cases h1;exact h2
theorem JC {e:List ByteArray} {h:Nd} {ps:To} (hk:h.k=1) (hf:Sc.bP e h ps=[]):h.nm∈e:=by
 unfold Sc.bP at hf;rw [if_pos hk] at hf
 by_cases hx:Sc.ix e h.nm < 0
 ·rw [if_pos hx] at hf;cases hf
 ·rcases Sc.yx e h.nm 0 with ⟨h1,_⟩ | ⟨j,h1,h2,_⟩
  ·exact absurd (show Sc.ix e h.nm < 0 by unfold Sc.ix;omega) hx
  ·exact List.mem_of_getElem? h2
theorem nX.size:∀ (l:List Ty) (xs:List Value),nX xs l->(jF l).size=l.length
 | [],_,_=>rfl
 | t::r,xs,h=>by
  obtain ⟨n,o,c,ys,rfl,_,hr⟩:=h;have:=nX.size r ys hr
  show Fo.size (.cons 1 (n:Int) .nil (jF r))=_
  simp only [Fo.size,List.length_cons];omega
theorem uh.size {T:Nat->Prop} {w:World} {o:Option Addr} {l:List Ty} (h:uh T w o l):(jF l).size=l.length:=by
 rcases h.2 with e | ⟨g,h1,h2,h3,xs,h4,h5⟩
 ·subst e;rfl
 ·exact nX.size l xs h4
def TpQ (X:Nat->Prop) (most:Int) (pb:Nat) (W:World) (n:Nat) (r:List Ty × Mk) (x:Ending) (w':World):Prop:=∃ o c,x=.returned (.slice o n c)/\aB (TF X pb w') w' o n (jF r.1)/\(jF r.1).size<=100000/\dV X most pb w' r.2/\Later pb W w'
def AnQ (X:Nat->Prop) (most:Int) (pb:Nat) (W:World) (n:Nat) (r:List Ty × Mk) (x:Ending) (w':World):Prop:=∃ gp c n0 wS n0c,x=.returned (.slice (some ⟨gp,0,none⟩) n c)/\qQ r.1 0=tv n0/\TF X pb w' gp/\w'.cell? ⟨gp,0*3,none⟩=some (.int .i64 1)/\w'.cell? ⟨gp,0*3+1,none⟩=some (.int .i64 n0)/\w'.cell? ⟨gp,0*3+2,none⟩=some (.slice wS 0 n0c)/\dV X most pb w' r.2/\Later pb W w'
def CoQ (W:World) (k n:Int) (len:Nat) (ps:Fo) (e:Ending) (w':World):Prop:=∃ o' cap',e=.returned (.agg #[.int .i64 k,.int .i64 n,.slice o' len cap'])/\aB (fun b=>W.heap.size<=b) w' o' len ps/\ah W w'
theorem rO (most:Int) (l r:Ty) (fr en:Int) (m:Mk):(dw most l r fr en m).2.next=m.next:=yg most l r fr en m
def SgQ (most:Int) (pb lo:Nat) (W:World) (f:Pm Ty) (x:Ending) (w':World):Prop:=∃ bs ls,x=.returned (.func bs #[] ls)/\jW most pb lo w' (.func bs #[] ls) f/\ah W w'
def TmN (h:Nd) (ps:To):Prop:=∀ (W:World) (R X:Nat->Prop) (most:Int) (pb:Nat) (mk:Mk) (o1:Option Addr) (l1 c1:Nat) (o2:Option Addr) (l2 c2:Nat) (eo:Option Addr) (en ec:Nat) (e:iZ) (E:Env),
 aB R W o1 l1 h.tp->bD R W o2 l2 ps->(∀ i,R i->i < pb)->dV X most pb W mk->most<=4096->XC pb W eo en e->en<=ec->en+ps.size<=100000->sK most pb mk.next W e E->Ri h ps.length->vF ps->Sc.bP (names e) h ps=[]->(dF most h ps E mk).2.next<=Aa->mk.many=false ->
 Calls Tryz.prog 42 #[.pointer (some ⟨pb,0,none⟩),bI h o1 l1 c1 o2 l2 c2,.slice eo en ec] W (Iz X most pb W (dF most h ps E mk))
end Em
end
section
open Go.RowKit
namespace Em
theorem N9 {X:Nat->Prop} {most:Int} {pb:Nat} {W:World} {k:Mk} {g c:Nat} {xs:List Value} (h:l7 X most pb W k (some ⟨g,0,none⟩) c xs) (s:Nat):KeptAt pb W (some ⟨g,s*8,none⟩) (k.eqs.drop s):=by
 refine .inr ⟨g,s*8,rfl,fun W' hl=>?_⟩;have hc:W.cell? ⟨pb,0,none⟩=some (.slice (some ⟨g,0,none⟩) k.eqs.length c):=(bV h.box).1;have hlow:=h.low g rfl;have hgl:=(h.own.lt g rfl).2;have hpre:=(hl.pre g _ _ hc (by omega) hgl).1;have h1:DY (TF X pb W) W g 0 k.eqs:=DY.KJ h.cells (fun j u hj=>by
  have:=h.own.cells (g:=g) rfl j u hj;simpa [Addr.add_lit] using this)
 have h2:DY (TF X pb W') W' g 0 k.eqs:=h1.move hl.fr (fun i hi ht=>⟨hl.tf hi ht,fun e=>e.elim ht.1 ht.2.1⟩) (fun j hj=>by rw [Nat.zero_add];exact hpre j hj);intro i t hi;rw [List.getElem?_drop] at hi;obtain ⟨o1,l1,c1,o2,l2,c2,s1,s2,a0,a1,a2,a3,a4,a5,a6,a7⟩:=h2 (s+i) t hi;have e:∀ j,0+(s+i)*8+j=s*8+i*8+j:=fun j=>by omega
 have m:∀ i,TF X pb W' i->TF (fun _=>False) pb W' i:=fun i h=>⟨h.1,h.2.1,fun h=>h⟩
 refine ⟨o1,l1,c1,o2,l2,c2,s1.mono (fun i _ h=>m i h),s2.mono (fun i _ h=>m i h),?_⟩;have e0:=e 0;simp only [Nat.add_zero] at e0;rw [e0] at a0;rw [e 1] at a1;rw [e 2] at a2;rw [e 3] at a3;rw [e 4] at a4;rw [e 5] at a5;rw [e 6] at a6;rw [e 7] at a7;exact ⟨a0,a1,a2,a3,a4,a5,a6,a7⟩
def Oa (X:Nat->Prop) (most:Int) (pb:Nat) (W:World) (r:Ty × Mk) (f:Pm Ty) (x:Ending) (w':World):Prop:=∃ bs ls,x=.returned (.func bs #[] ls)/\jW most pb r.2.next w' (.func bs #[] ls) f/\dV X most pb w' r.2/\Later pb W w'
def ac5 (X:Nat->Prop) (most:Int) (pb:Nat) (W4:World) (rt:Ty × Mk) (v:Value) (wx:World):Prop:=∃ F n9 o9 c9,v=.pointer (some ⟨F,0,none⟩)/\rt.1=tv n9/\Bx pb wx F #[.int .i64 1,.int .i64 n9,.slice o9 0 c9] 24/\dV X most pb wx rt.2/\Later pb W4 wx
theorem FH (most:Int) (h:Nd) (ps:To) {E:Env} (hE:NE E):NM (firstM most h (bT most ps) E):=by
 unfold firstM;exact NM.ite (wM (qR most ps) 0 hE) (NM.bind NM.take fun v=>NM.bind (wM (qR most ps) 0 (hE.cons (NM.pure v))) fun _=>NM.bind (NM.eqn _ _ _ _ _) fun _=>NM.pure _)
end Em
end
section
open Go.RowKit
namespace Em
theorem Uh (h : Nd) (ps : To) (ih : ∀ i g qs, ps.get i = some (g, qs) -> TmT g qs) (hk : h.k = 6) (W : World) (R X : Nat -> Prop) (most : Int) (pb : Nat) (mk : Mk) (o1 : Option Addr) (l1 c1 : Nat) (o2 : Option Addr) (l2 c2 : Nat) (eo : Option Addr) (en ec : Nat) (e : iZ) (E : Env)
    (hs2:bD R W o2 l2 ps) (hR:∀ i,R i->i < pb) (hm:dV X most pb W mk) (pK:most<=4096) (hb:XC pb W eo en e) (vX:en<=ec) (hz:en+ps.size<=100000) (hE:sK most pb mk.next W e E) (hok:Ri h ps.length) (mZ:vF ps) (hfr:Sc.bP (names e) h ps=[]) (hN:(firstM most h (bT most ps) E mk).2.next<=Aa) :
    Calls Tryz.prog 70 #[.pointer (some ⟨pb,0,none⟩),bI h o1 l1 c1 o2 l2 c2,.slice eo en ec] W (Oa X most pb W (firstM most h (bT most ps) E mk) (ug most h (bT most ps) E mk)):=by
 have hl2:2<=l2:=by rw [hs2.1];exact hok.2.2.2.1 hk
 obtain ⟨b9,aK,u,qu,lq,lu,d1u,lC,lD,lF,e9,_,gu,ru,cu,su,tu⟩:=hs2.nth (i:=0) (by omega);subst e9;have ig:=hR b9 ru;obtain ⟨W0,hW0⟩:∃ W0,W0=W.alloc (.cells (cells9 h o1 l1 c1 (some ⟨b9,aK,none⟩) l2 c2) 29):=⟨_,rfl⟩;have hq0:ah W W0:=by rw [hW0];exact ah.alloc _ _
 have h4:Bx pb W0 W.heap.size (cells9 h o1 l1 c1 (some ⟨b9,aK,none⟩) l2 c2) 29:=Bx.new hm hq0 (Nat.le_refl _) (by rw [hW0];exact heap_alloc_new W _);have hp:=hm.lt;have hl0:=Later.aT hq0 hp;have yQ:=hid hl0;have HM:=hid hm;have Fv:=hid (hm.stay hq0);have H4:=hid h4;have HP:=hid hp;have HR:=hid hR;have Ep:=hid hb;have HE:=hid hE;have wR:=hid pK;have Ku:=hid gu;have Aw:=hid su;have Az:=hid tu;have AZ:=hid cu;have Q9:=hid ig;have XE:=hid (To.dK ps 0 u qu gu);have Ob:=hid (gJ ps 0 u qu mZ gu);have IH:=hid ih;have HZ:=hid hz;have HEC:=hid vX;have hi0:(0:Int) < l2:=by omega
 have hj0:0 < l2:=by omega
 have t7:(h.k == 7)=false:=by rw [hk];rfl
 have XF:Hid (Sc.bP (names e) u qu=[]):=by
  show _=_
  have k:=oK hfr (by rw [hk];decide) gu
  rwa [pO _ _ (by rw [hk];rfl)] at k
 obtain ⟨res,hres⟩:∃ res,dF most u qu E mk=res:=⟨_,rfl⟩;have hf:firstM most h (bT most ps) E mk=res:=by rw [<-hres];unfold firstM;rw [if_pos hk,yw gu]
 have sN:Hid (res.2.next<=Aa):=by show _<=_;rw [<-hf];exact hN
 have ZM:Hid (ug most h (bT most ps) E mk=copied most (res.2.eqs.drop mk.eqs.length) res.1 mk.next res.2.next):=by show _=_;unfold ug;rw [hf]
 have Ui:Hid (mk.next<=res.2.next/\mk.eqs.length<=res.2.eqs.length):=by
  have k:=lQ most u qu E hE.ne mk;rw [hres] at k;exact k
 have lT:=hid hres;rw [hf];rw [ZM.out];obtain ⟨o0,k0,xs0,lH⟩:=Fv.out;obtain ⟨q0,q1,q2,q3⟩:=bV lH.box;have hsl:∀ j,j=mk.eqs.length->(0:Int)<=(j:Int):=fun j _=>by omega
 have hfew:=lH.few;clear hsl lH;obtain ⟨a0,a1,a2,a3,a4,a5,a6,a7,a8⟩:=aA H4.out.1;clear hk hs2 hR hm hb hE hok mZ hfr hN hl0 hq0 h4 hp hf pK gu su tu cu ig ru ih hz vX;obtain ⟨start,hstart⟩:∃ start,mk.eqs.length=start:=⟨_,rfl⟩;have HST:=hid hstart;rw [hstart] at q0 hfew;clear hstart;unfold bI;go_enter Tryz.func70,Tryz.ntmps70;generalize dW:W.heap.size=B at *;go_upto_region 1 with fail
 rw [<-hW0];clear hW0;go_quiet (fail);have xu:=ah.drewN W0 nq;obtain ⟨W1,hW1⟩:∃ W1,W1=(W0.drewN nq).alloc (.cells #[.int .i64 0,.int .i64 0,.slice none 0 0] 24):=⟨_,rfl⟩;have hq1:ah W0 W1:=by rw [hW1];exact xu.trans (ah.alloc _ _)
 have h9:Bx pb W1 W0.heap.size #[.int .i64 0,.int .i64 0,.slice none 0 0] 24:=Bx.new Fv.out hq1 (Nat.le_refl _) (by rw [hW1];exact heap_alloc_new (W0.drewN nq) _);have hz1:W0.heap.size < W1.heap.size:=by rw [hW1];simp [World.drewN]
 have hm1:=Fv.out.more hq1 (fun i=>i=W0.heap.size) (fun i hi=>by subst hi;exact ⟨Nat.le_refl _,hz1⟩);obtain ⟨X1,hX1⟩:∃ X1,X1=(fun i=>X i∨i=W0.heap.size):=⟨_,rfl⟩;have jO:Hid (∀ i,X1 i=(X i∨i=W0.heap.size)):=fun i=>by rw [hX1]
 rw [<-hX1] at hm1;have V4:=hid hm1;have N7:Hid (pb < W.heap.size):=by show pb < _;rw [dW];exact HP.out
 have OL:=hid (yQ.out.quiet hq1 N7.out);have H9:=hid h9;have H41:=hid (H4.out.later (Later.aT hq1 Fv.out.lt));have HB1:Hid (B < W0.heap.size):=lt_of_block H4.out.1;have HB0:Hid (B<=W0.heap.size):=by show B<=_;rw [<-dW];exact (yQ.out).size
 clear hq1 hm1 h9 xu hX1 hz1 q0 q1 q2 q3 a0 a1 a2 a3 a4 a5 a6 a7 a8;go_upto_region 3 with fail
 change Code.wp _ _ _ _ ((W0.drewN nq).alloc (.cells #[.int .i64 0,.int .i64 0,.slice none 0 0] 24));rw [<-hW1];clear hW1;have hD0:(W0.drewN nq).heap.size=W0.heap.size:=rfl
 try rw [hD0]
 clear hD0;generalize hD:W0.heap.size=D at *;clear yQ Fv H4 hD;obtain ⟨a0,a1,a2,a3,a4,a5,a6,a7,a8⟩:=aA H41.out.1;have ZN:(EC W1 b9 aK u lq lu d1u lC lD lF):=fA AZ.out Q9.out HM.out OL.out;obtain ⟨v0,v1,v2,v3,v4,v5,v6,v7,v8⟩:=ZN;obtain ⟨d0,d1,d2,y0,y1,y2⟩:=ay H9.out.1;have nY:Hid (Calls Tryz.prog 42 #[.pointer (some ⟨pb,0,none⟩),bI u lq lu d1u lC lD lF,.slice eo en ec] W1 (Iz X1 most pb W1 res)):=by
  have k:=IH.out 0 u qu Ku.out W1 R X1 most pb mk lq lu d1u lC lD lF eo en ec _ _ (jI Aw.out HR.out HM.out OL.out) (fO Az.out HR.out HM.out OL.out) HR.out V4.out wR.out (Ep.out.later OL.out) HEC.out (by have:=XE.out;have:=HZ.out;omega) (HE.out.later OL.out (Nat.le_refl _)) Ob.out.1 Ob.out.2 XF.out (by rw [lT.out];exact sN.out);rw [lT.out] at k;exact k
 unfold bI at nY;go_wp2_with fail;refine nY.out.mono ?_;rintro x w3 ⟨nv,ov,cv,hnv,rfl,nR,hl3⟩;have ZO:=H9.out.later hl3;have Uj:=OL.out.trans hl3;obtain ⟨d0',d1',d2',y0',y1',y2'⟩:=ay ZO.1;clear a0 a1 a2 a3 a4 a5 a6 a7 a8 v0 v1 v2 v3 v4 v5 v6 v7 v8 d0 d1 d2 y0 y1 y2;have AY:=hid nR;have tY:=hid Uj;have ac6:=hid hl3;have H93:=hid ZO;have HNV:=hid hnv;clear nR hl3 ZO Uj hnv;unfold dZ;go_upto_region 8 with fail
 clear d0' d1' d2' y0' y1' y2';obtain ⟨W5,O6⟩:∃ W5,W5=bC w3 D (.int .i64 1) (.int .i64 nv) (.slice ov 0 cv):=⟨_,rfl⟩;change Code.wp _ _ _ _ (bC w3 D (.int .i64 1) (.int .i64 nv) (.slice ov 0 cv));have hf5:=bg w3 D (.int .i64 1) (.int .i64 nv) (.slice ov 0 cv);obtain ⟨f0,f1,f2⟩:=aW (a:=.int .i64 1) (b:=.int .i64 nv) (c:=.slice ov 0 cv) H93.out.1;rw [<-O6] at hf5 f0 f1 f2 ⊢;clear O6;have Kv:=hid (AY.out.put (hf5.mono (fun i _ e=>by rw [jO.out];exact Or.inr e)));have Wj:=hid (tY.out.put hf5 N7.out (fun i hi=>by have:=HB0.out;omega));clear AY ac6 H93 hf5;obtain ⟨o5,c5,xs5,hmk5⟩:=Kv.out;obtain ⟨q0,q1,q2,q3⟩:=bV hmk5.box;obtain ⟨ln,hln⟩:∃ ln,res.2.eqs.length=ln:=⟨_,rfl⟩;have hle:start<=ln:=by have:=Ui.out.2;rw [HST.out,hln] at this;exact this
 have hform:=hmk5.form;have hlz:ln<=4096:=by have:=hmk5.few;omega
 have Uk:=hmk5.small;rw [hln] at q0 hform;have wE:=hid hln;have hs0:(0:Int)<=start:=by omega
 have hs1:(start:Int)<=ln:=by omega
 have hs2:(ln:Int)<=ln:=Int.le_refl _;have hs3:IntKind.i64.wrap ((ln:Int)-start)=((ln-start:Nat):Int):=by rw [IntWalk.i64_in _ (by omega)];omega
 have hkd:(res.2.eqs.drop start).length=ln-start/\∀ t∈res.2.eqs.drop start,t.1.2.2.size<=100000/\t.2.1.2.2.size<=100000:=by
  exact ⟨by rw [List.length_drop,wE.out],fun t ht=>Uk t (List.mem_of_mem_drop ht)⟩
 have ZP:=hid hmk5;have Ul:Hid (ln=start->∀ ko,KeptAt pb W5 ko (res.2.eqs.drop start)):=fun he ko=>.inl (List.eq_nil_of_length_eq_zero (by rw [List.length_drop,wE.out];omega))
 have Qo:Hid (∀ ko,KeptAt pb W5 ko (res.2.eqs.drop start)->Calls Tryz.prog 99 #[.slice ko (ln-start) (ln-start),.agg #[.int .i64 1,.int .i64 nv,.slice ov 0 cv],.int .i64 mk.next,.int .i64 res.2.next] W5.drew fun x w'=>∃ bs ls,x=.returned (.func bs #[] ls)/\jW most pb res.2.next w' (.func bs #[] ls) (copied most (res.2.eqs.drop start) (tv nv) mk.next res.2.next)/\ah W5.drew w'):=fun ko hk=>by
  have hl:=Later.aT (ah.drew W5) Kv.out.lt;have k:=Dc (lo:=res.2.next) (Kv.out.stay (ah.drew W5)) wR.out nv mk.next res.2.next (res.2.eqs.drop start) ko (ln-start) ov cv (hk.later hl) (by rw [hkd.1];omega) hkd.2 Ui.out.1 (Nat.le_refl _)
  rw [hkd.1] at k;exact k
 unfold dZ at Qo;have ZQ:Hid (res.1=tv nv):=HNV.out;clear hmk5 hln hkd Uk;go_upto_region 8 with fail
 rcases hform with ⟨h1,h2,h3⟩ | ⟨g,h1,_,_,h4⟩
 ·subst h1;subst h2;subst h3;obtain rfl:start=0:=by omega
  have Qp:=hid (Qo.out none (Ul.out rfl none));refine wp_region_still_tail 22 (by kernel_rfl) (by kernel_rfl) ?_;simp only [List.take_succ_cons,List.take_zero,List.drop_succ_cons,List.drop_zero];change wpStill _ _ (World.drew W5) _ _ _
  repeat still_step
  refine wpStill_nil ?_;change wpList _ _ _ _ _ (World.drew W5);go_wp2_with fail;refine Qp.out.mono ?_;rintro x w6 ⟨bs,ls,rfl,hme,hq6⟩;go_wp2_with fail;go_ret;have hq5:=(ah.drew W5).trans hq6;exact ⟨bs,ls,rfl,by rw [HST.out,ZQ.out];exact hme,(Kv.out.stay hq5).less (fun i hi=>by rw [jO.out];exact Or.inl hi),Wj.out.quiet hq5 N7.out⟩
 ·subst h1;have hs4:(ln:Int)<=c5:=by omega
  by_cases hls:ln=start
  ·subst hls;have Qp:=hid (Qo.out (some ⟨g,0,none⟩) (Ul.out rfl _));simp only [Nat.sub_self] at Qp hs3;refine wp_region_still_tail 22 (by kernel_rfl) (by kernel_rfl) ?_;simp only [List.take_succ_cons,List.take_zero,List.drop_succ_cons,List.drop_zero];change wpStill _ _ (World.drew W5) _ _ _
   repeat still_step
   refine wpStill_nil ?_;change wpList _ _ _ _ _ (World.drew W5);go_wp2_with fail;refine Qp.out.mono ?_;rintro x w6 ⟨bs,ls,rfl,hme,hq6⟩;go_wp2_with fail;go_ret;have hq5:=(ah.drew W5).trans hq6;exact ⟨bs,ls,rfl,by rw [HST.out,ZQ.out];exact hme,(Kv.out.stay hq5).less (fun i hi=>by rw [jO.out];exact Or.inl hi),Wj.out.quiet hq5 N7.out⟩
  ·have hne1:¬ (ln-start=0):=by omega
   have hne2:¬ (ln<=start):=by omega
   have Xc:start < ln:=by omega
   have ac7:0 < ln-start:=by omega
   have Qp:=hid (Qo.out (some ⟨g,start*8,none⟩) (N9 ZP.out start));refine wp_region_still_tail 22 (by kernel_rfl) (by kernel_rfl) ?_;simp only [List.take_succ_cons,List.take_zero,List.drop_succ_cons,List.drop_zero];change wpStill _ _ (World.drew W5) _ _ _
   repeat still_step
   refine wpStill_nil ?_;change wpList _ _ _ _ _ (World.drew W5);go_wp2_with fail;refine Qp.out.mono ?_;rintro x w6 ⟨bs,ls,rfl,hme,hq6⟩;go_wp2_with fail;go_ret;have hq5:=(ah.drew W5).trans hq6;exact ⟨bs,ls,rfl,by rw [HST.out,ZQ.out];exact hme,(Kv.out.stay hq5).less (fun i hi=>by rw [jO.out];exact Or.inl hi),Wj.out.quiet hq5 N7.out⟩
end Em
end
end Go.Proofs.YtcninopmelmajaaGreatDoor
