/-
  Texts laid together (EqPart, EqPk, EqKept, EqBindL): laws and walks, with their conditions.
-/
import Derived.Test.YtcninopmelmajaaDoorTX29
set_option maxHeartbeats 8000000
set_option maxRecDepth 1000000
namespace Go.Proofs.YtcninopmelmajaaDoor
open Go.Lib (hid)
section
open Go.RowKit
namespace Em
theorem Il {a b:Nat} (h:tv a=tv b):a=b:=by
 have:((a:Int),Fo.nil)=((b:Int),Fo.nil):=(Prod.mk.inj h).2;have:=(Prod.mk.inj this).1;omega
def nS:List Value->List Ty->Prop
 | xs,[]=>xs=[]
 | xs,t::r=>∃ (n:Nat) (o:Option Addr) (c:Nat) (ys:List Value),t=tv n/\xs=[.int .i64 1,.int .i64 n,.slice o 0 c]++ys/\nS ys r
theorem nS.snoc (n:Nat) (o:Option Addr) (c:Nat):∀ (l:List Ty) (xs:List Value),nS xs l->nS (xs++[.int .i64 1,.int .i64 n,.slice o 0 c]) (l++[tv n])
 | [],xs,h=>by cases h;exact ⟨n,o,c,[],rfl,by simp,rfl⟩
 | t::r,xs,h=>by
  obtain ⟨n',o',c',ys,e,rfl,hr⟩:=h;exact ⟨n',o',c',_,e,by rw [List.append_assoc],nS.snoc n o c r ys hr⟩
theorem nS.length:∀ (l:List Ty) (xs:List Value),nS xs l->xs.length=l.length*3
 | [],xs,h=>by cases h;rfl
 | t::r,xs,h=>by
  obtain ⟨n,o,c,ys,_,rfl,hr⟩:=h;have:=nS.length r ys hr;simp;omega
theorem nS.get:∀ (l:List Ty) (xs:List Value) (i:Nat),nS xs l->i < l.length->∃ (n:Nat) (o:Option Addr) (c:Nat),l[i]?=some (tv n)/\xs[i*3]?=some (.int .i64 1)/\xs[i*3+1]?=some (.int .i64 n)/\xs[i*3+2]?=some (.slice o 0 c)
 | [],xs,i,_,h=>by simp at h
 | t::r,xs,0,h,_=>by
  obtain ⟨n,o,c,ys,rfl,rfl,hr⟩:=h;exact ⟨n,o,c,by simp⟩
 | t::r,xs,i+1,h,hi=>by
  obtain ⟨n,o,c,ys,rfl,rfl,hr⟩:=h;obtain ⟨n',o',c',k⟩:=nS.get r ys i hr (by simpa using hi);refine ⟨n',o',c',?_⟩;rw [show (i+1)*3=i*3+3 from by omega];simpa using k
theorem nS.at {T:Nat->Prop} {w:World} {g:Nat} (hg:T g) (hgl:g < w.heap.size):∀ (l:List Ty) (xs:List Value) (off:Nat),nS xs l->(∀ j u,xs[j]?=some u->w.cell? ⟨g,off+j,none⟩=some u)->AtIn T w g off (jy l)
 | [],_,_,_,_=>trivial
 | t::r,xs,off,h,hc=>by
  obtain ⟨n,o,c,ys,rfl,rfl,hr⟩:=h;refine ⟨hg,hc 0 _ rfl,hc 1 _ rfl,⟨o,0,c,hc 2 _ rfl,rfl,Nat.zero_le _,fun h=>absurd h (Nat.lt_irrefl _)⟩,nS.at hg hgl r ys (off+3) hr ?_⟩;intro j u hj;have:=hc (j+3) u (by simpa using hj);rw [<-this];congr 2;omega
def ug (T:Nat->Prop) (w:World) (o:Option Addr) (l:List Ty):Prop:=l.length<=maxLen/\(l=[]∨∃ g,o=some ⟨g,0,none⟩/\T g/\g < w.heap.size/\∃ xs,nS xs l/\∀ j u,xs[j]?=some u->w.cell? ⟨g,j,none⟩=some u)
theorem ug.later {X:Nat->Prop} {pb:Nat} {W W':World} {o:Option Addr} {l:List Ty} (h:ug (TF X pb W) W o l) (hl:Later pb W W'):ug (TF X pb W') W' o l:=by
 refine ⟨h.1,h.2.imp id ?_⟩;rintro ⟨g,h1,h2,h3,xs,h4,h5⟩;exact ⟨g,h1,hl.tf h3 h2,Nat.lt_of_lt_of_le h3 hl.size,xs,h4,fun j u hj=>(hl.fr.aY h3 (fun e=>e.elim h2.1 h2.2.1)).trans (h5 j u hj)⟩
theorem Ak:∀ l:List Ty,(jy l).length=l.length
 | []=>rfl
 | t::r=>by simp only [jy,Fo.length,List.length_cons];rw [Ak r]
theorem ug.slc {T:Nat->Prop} {w:World} {o:Option Addr} {l:List Ty} (h:ug T w o l):aB T w o l.length (jy l):=by
 refine ⟨(Ak l).symm,h.1,fun hl=>?_⟩;rcases h.2 with e | ⟨g,h1,h2,h3,xs,h4,h5⟩
 ·subst e;simp at hl
 ·exact ⟨g,0,h1,nS.at h2 h3 l xs 0 h4 (fun j u hj=>by rw [Nat.zero_add];exact h5 j u hj)⟩
theorem ug.get {T:Nat->Prop} {w:World} {o:Option Addr} {l:List Ty} (h:ug T w o l) {i:Nat} (hi:i < l.length):∃ (g n:Nat) (oo:Option Addr) (cc:Nat),o=some ⟨g,0,none⟩/\qL l i=tv n/\w.cell? ⟨g,i*3,none⟩=some (.int .i64 1)/\w.cell? ⟨g,i*3+1,none⟩=some (.int .i64 n)/\w.cell? ⟨g,i*3+2,none⟩=some (.slice oo 0 cc):=by
 rcases h.2 with e | ⟨g,h1,h2,h3,xs,h4,h5⟩
 ·subst e;simp at hi
 ·obtain ⟨n,oo,cc,k0,k1,k2,k3⟩:=nS.get l xs i h4 hi;exact ⟨g,n,oo,cc,h1,by unfold qL;rw [List.getD_eq_getElem?_getD,k0];rfl,h5 _ _ k1,h5 _ _ k2,h5 _ _ k3⟩
structure DF (W0 W:World) (v:Value) (l:List Ty) (xs:List Value):Prop where
 own:W.ownsRow 0 25 3 v l.length xs
 low:∀ k,v.ownBlock=some k->W0.heap.size<=k
 cells:nS xs l
theorem DF.nil (W0 W:World):DF W0 W (.slice none 0 0) [] []:=⟨World.ownsRow_nil _ _ _ _,fun k hk=>(by cases hk),rfl⟩
def PtQ (X:Nat->Prop) (most:Int) (pb:Nat) (W:World) (r:List Ty × Mk) (x:Ending) (w':World):Prop:=∃ o c,x=.returned (.slice o r.1.length c)/\r.1.length<=c/\ug (TF X pb w') w' o r.1/\dQ X most pb w' r.2/\Later pb W w'
abbrev XO (X:Nat->Prop) (v:Value):Nat->Prop:=fun i=>X i∨v.ownBlock=some i
theorem DF.later {X:Nat->Prop} {most:Int} {pb:Nat} {W0 W W':World} {k:Mk} {v:Value} {l:List Ty} {xs:List Value} (h:DF W0 W v l xs) (hm:dQ (XO X v) most pb W k) (hl:Later pb W W'):DF W0 W' v l xs :=
 ⟨aU h.own hl.fr (fun _ hg=>hm.far (.inr hg)),h.low,h.cells⟩
theorem DF.snoc {X : Nat -> Prop} {most : Int} {pb : Nat} {W0 W w' : World} {k : Mk} {v : Value} {l : List Ty} {xs : List Value} (h : DF W0 W v l xs) (hm : dQ (XO X v) most pb W k) (hl : Later pb W0 W) (hp : pb < W0.heap.size) (n : Nat) (o : Option Addr) (c : Nat) {g c' : Nat}
    (ho:w'.ownsRow 0 25 3 (.slice (some ⟨g,0,none⟩) (l.length+1) c') (l.length+1) (xs++[.int .i64 1,.int .i64 n,.slice o 0 c])) (hf:Fr (fun i=>v.ownBlock=some i) W w') (hg:v.ownBlock=some g∨(W.heap.size<=g/\ah W w')) :
    DF W0 w' (.slice (some ⟨g,0,none⟩) (l.length+1) c') (l++[tv n]) (xs++[.int .i64 1,.int .i64 n,.slice o 0 c])/\dQ (XO X (.slice (some ⟨g,0,none⟩) (l.length+1) c')) most pb w' k/\Later pb W0 w':=by
 have hb:∀ i,(Value.slice (some ⟨g,0,none⟩) (l.length+1) c').ownBlock=some i->i=g:=fun i hi=>by simp [Value.ownBlock] at hi;exact hi.symm
 refine ⟨⟨by rw [List.length_append];exact ho,fun i hi=>?_,nS.snoc n o c l xs h.cells⟩,?_,hl.put hf hp (fun i hi=>h.low i hi)⟩
 ·rw [hb i hi];rcases hg with e | ⟨e,_⟩
  ·exact h.low g e
  ·exact Nat.le_trans hl.size e
 ·rcases hg with e | ⟨e,hq⟩
  ·exact (hm.put (hf.mono (fun i _ hi=>.inr hi))).less (fun i hi=>hi.elim .inl (fun hi=>.inr (by rw [hb i hi];exact e)))
  ·exact (hm.more hq (fun i=>i=g) (fun i hi=>by subst hi;exact ⟨e,(ho.lt i rfl).2⟩)).less (fun i hi=>hi.elim (fun hx=>.inl (.inl hx)) (fun hi=>.inr (hb i hi)))
theorem Z8 {X:Nat->Prop} {most:Int} {pb:Nat} {W W':World} {r:List Ty × Mk} {o:Option Addr} {n c:Nat} {xs:List Value} (hx:∀ i,X i->i < W.heap.size) (hn:n=r.1.length) (h:DF W W' (.slice o n c) r.1 xs) (hm:dQ (XO X (.slice o n c)) most pb W' r.2) (hl:Later pb W W') (hz:r.1.length<=maxLen):PtQ X most pb W r (.returned (.slice o n c)) W':=by
 subst hn;have hc:r.1.length<=c/\ug (TF X pb W') W' o r.1:=by
  rcases h.own.2 with ⟨h1,h2⟩ | ⟨g,cap,cur,h1,h2,h3,h4,h5,_⟩
  ·injection h1 with e1 e2 e3
   exact ⟨by omega,hz,.inl (List.eq_nil_of_length_eq_zero h2)⟩
  ·injection h1 with e1 e2 e3
   subst e1;have hlow:=h.low g rfl;have abt:=hm.far (i:=g) (.inr rfl);refine ⟨by omega,hz,.inr ⟨g,rfl,⟨fun e=>abt (.inl e),fun e=>abt (.inr e),fun e=>by have:=hx g e;omega⟩,(h.own.lt g rfl).2,xs,h.cells,fun j u hj=>?_⟩⟩;have:=h.own.cells (g:=g) rfl j u hj;simpa [Addr.add_lit] using this
 exact ⟨o,c,rfl,hc.1,hc.2,hm.less (fun i hi=>.inl hi),hl⟩
theorem elemTy:Elem Tryd.prog 23 25 (.agg #[.int .i64 0,.int .i64 0,.slice none 0 0]) 3 40 :=
 ⟨Tryd.underlying23,by kernel_rfl,by decide,by decide⟩
theorem F6 (e:Env):∀ (vs:List (Env->Pm Ty)) (i:Nat) (v:Env->Pm Ty) (m:Mk),vs[i]?=some v->jw e (vs.drop i) m=((v e m).1::(jw e (vs.drop (i+1)) (v e m).2).1,(jw e (vs.drop (i+1)) (v e m).2).2)
 | [],i,v,m,h=>by simp at h
 | u::r,0,v,m,h=>by simp at h;subst h;rfl
 | u::r,i+1,v,m,h=>by simpa using F6 e r i v m (by simpa using h)
theorem kR (e:Env):∀ (vs:List (Env->Pm Ty)) (m:Mk),(jw e vs m).1.length=vs.length
 | [],_=>rfl
 | v::r,m=>by
  show ((v e m).1::(jw e r (v e m).2).1).length=_
  rw [List.length_cons,kR e r,List.length_cons]
def PtI (X:Nat->Prop) (most:Int) (pb:Nat) (W0:World) (E:Env) (vs:List (Env->Pm Ty)) (fin:List Ty × Mk) (lo:Nat) (a t:Value) (wr:World):Prop :=
 ∃ (i:Nat) (uS:Mk) (l:List Ty) (o:Option Addr) (c:Nat) (xs:List Value),t=.int .i64 i/\a=.slice o i c/\i<=vs.length/\l.length=i/\l++(jw E (vs.drop i) uS).1=fin.1/\(jw E (vs.drop i) uS).2=fin.2/\DF W0 wr (.slice o i c) l xs/\dQ (XO X (.slice o i c)) most pb wr uS/\Later pb W0 wr/\lo<=uS.next
theorem uT (h : Nd) (ps : To) (ih : ∀ i g qs, ps.get i = some (g, qs) -> TmT g qs) (W : World) (R X : Nat -> Prop) (most : Int) (pb : Nat) (mk : Mk) (o1 : Option Addr) (l1 c1 : Nat) (o2 : Option Addr) (l2 c2 : Nat) (eo : Option Addr) (en ec : Nat) (e : iP) (E : Env)
    (hs2:bC R W o2 l2 ps) (hR:∀ i,R i->i < pb) (hm:dQ X most pb W mk) (oZ:most<=4096) (hb:XR pb W eo en e) (vW:en<=ec) (hz:en+ps.size<=100000) (hE:sU most pb mk.next W e E) (kF:rH ps) (hfr:∀ j g qs,ps.get j=some (g,qs)->Sc.bM (names e) g qs=[]) (hN:(jw E (bQ most ps) mk).2.next<=Aj) :
    Calls Tryd.prog 44 #[.pointer (some ⟨pb,0,none⟩),bP h o1 l1 c1 o2 l2 c2,.slice eo en ec] W (PtQ X most pb W (jw E (bQ most ps) mk)):=by
 obtain ⟨W0,hW0⟩:∃ W0,W0=W.alloc (.cells (cells9 h o1 l1 c1 o2 l2 c2) 30):=⟨_,rfl⟩;have hq0:ah W W0:=by rw [hW0];exact ah.alloc _ _
 have h4:Bx pb W0 W.heap.size (cells9 h o1 l1 c1 o2 l2 c2) 30:=Bx.new hm hq0 (Nat.le_refl _) (by rw [hW0];exact heap_alloc_new W _);have hp:=hm.lt;have hl0:=Later.aS hq0 hp;have yS:=hid hl0;have HM:=hid hm;have FY:=hid (hm.stay hq0);have HX:=hid hm.old;have H4:=hid h4;have HP:=hid hp;have HS2:=hid hs2;have HR:=hid hR;have EL:=hid hb;have HE:=hid hE;have qO:=hid kF;have AO:=hid hfr;have wS:=hid oZ;have HLEN:Hid (l2=ps.length):=hs2.1;have HMX:Hid (l2<=100000):=by have:=To.length_le ps;rw [<-hs2.1] at this;show _<=_;omega
 have F7:Hid ((bQ most ps).length=l2):=by show _=_;rw [jK,hs2.1]
 have IH:=hid ih;have hmx:l2<=100000:=HMX.out;obtain ⟨fin,hfin⟩:∃ fin,jw E (bQ most ps) mk=fin:=⟨_,rfl⟩;have bF:=hid hfin;have yM:Hid (fin.2.next<=Aj):=by show _<=_;rw [<-hfin];exact hN
 have XC:Hid (fin.1.length=l2):=by show _=_;rw [<-hfin,kR];exact F7.out
 rw [hfin];have HST:Hid (PtI X most pb W E (bQ most ps) fin mk.next (.slice none 0 0) (.int .i64 0) W0):=by
  refine ⟨0,mk,[],none,0,[],rfl,rfl,Nat.zero_le _,rfl,by rw [List.drop_zero,bF.out];rfl,by rw [List.drop_zero,bF.out],DF.nil _ _,FY.out.less (fun i hi=>hi.elim id (fun hi=>by cases hi)),yS.out,Nat.le_refl _⟩
 have HNE:=hid hE.ne;clear ih hs2 hR hm hb hE kF hfr hN hl0 hq0 h4 hp hfin oZ;generalize hvs:bQ most ps=vs at *;have Oi:=hid hvs;clear hvs;unfold bP;go_enter Tryd.func44,Tryd.ntmps44;generalize dV:W.heap.size=B at *;go_upto_region 1 with fail
 rw [<-hW0];clear hW0;obtain ⟨a0,a1,a2,a3,a4,a5,a6,a7,a8⟩:=aA H4.out.1;go_wp2_with fail;clear a0 a1 a2 a3 a4 a5 a6 a7 a8;go_loopw [7,13] (fun a t wr=>PtI X most pb W E vs fin mk.next a t wr) (fun _ t _=>l2-(intOf t).toNat)
 case atStart=>exact HST.out
 case round =>
  have hPP:pb < W.heap.size:=by rw [dV];exact HP.out
  have hXX:∀ i,X i->i < W.heap.size:=by rw [dV];exact HX.out
  obtain ⟨i,uS,l,o,c,xs,rfl,rfl,hi,hll,hf1,hf2,hrow,LZ,WJ,hlo⟩:=hrel;have hil:i<=l2:=by rw [<-F7.out];exact hi
  by_cases hlt:i < l2
  ·have hlt':(i:Int) < l2:=by omega
   obtain ⟨b,off,g,qs,p1,m1,d1,p2,m2,d2,rfl,hdr,hgt,hRb,KP,hs3,hs4⟩:=HS2.out.nth hlt;have hbp:=HR.out b hRb;have ac9:=eu KP hbp HM.out WJ;have Sl:=hid (jD hs3 HR.out HM.out WJ);have GV:=hid (eY hs4 HR.out HM.out WJ);obtain ⟨a0,a1,a2,a3,a4,a5,a6,a7,a8⟩:=ac9;obtain ⟨W1,hW1⟩:∃ W1,W1=wr.alloc (.cells (cells9 g p1 m1 d1 p2 m2 d2) 30):=⟨_,rfl⟩;have EO:ah wr W1:=by rw [hW1];exact ah.alloc _ _
   have hbx:=heap_alloc_new wr (.cells (cells9 g p1 m1 d1 p2 m2 d2) 30);rw [<-hW1] at hbx;have hmw:=LZ.stay EO;have hlw:=WJ.quiet EO hPP;have hrw:=hrow.later LZ (Later.aS EO LZ.lt);have hvi:vs[i]?=some (dw most g qs):=by rw [<-Oi.out];exact zB most ps i g qs hgt
   have hmd:=F6 E vs i _ uS hvi;rw [hmd] at hf1 hf2;have hnx:=Ie HNE.out (vs:=vs.drop (i+1)) (fun v hv=>by
    rw [<-Oi.out] at hv;exact qM most ps v (List.mem_of_mem_drop hv)) (dw most g qs E uS).2
   replace hnx:=hnx.1;have hok:=fO ps i g qs qO.out hgt;have hcall:=IH.out i g qs hgt W1 R (XO X (.slice o i c)) most pb uS p1 m1 d1 p2 m2 d2 eo en ec e E (Sl.out.stay EO) (GV.out.stay EO) HR.out hmw wS.out (EL.out.later hlw) vW (by have:=To.dG ps i g qs hgt;omega) (HE.out.later hlw hlo) hok.1 hok.2 (AO.out i g qs hgt) (Nat.le_trans (by rw [<-hf2];exact hnx) yM.out);have HC:=hid hcall;have HMW:=hid hmw;have HLW:=hid hlw;have HRW:=hid hrw;have vO:=hid hf1;have HF2:=hid hf2;have HNM:=hid (lQ most g qs E HNE.out uS).1;obtain ⟨d0,d1',d2',d3,d4,d5,d6,d7,d8⟩:=aA hbx;clear hf1 hf2 hrow LZ WJ hmw hlw hrw hcall hnx hmd EO KP hs3 hs4 hbx;generalize dw most g qs E uS=res at *;obtain ⟨rt,mk2⟩:=res;dsimp only at vO HF2 HNM;unfold bP at HC;go_upto_region 5 with fail
   change Code.wp _ _ _ _ (wr.alloc (.cells (cells9 g p1 m1 d1 p2 m2 d2) 30));rw [<-hW1];clear hW1 a0 a1 a2 a3 a4 a5 a6 a7 a8;generalize hE1:wr.heap.size=E1 at *;go_wp2_with fail;refine HC.out.mono ?_;rintro x w3 ⟨n3,o3,c3,hr3,rfl,nZ,hl3⟩;dsimp only at hr3 nZ;subst hr3;have Bh:=hid nZ;have rF:=hid hl3;have HR3:=hid (HRW.out.later HMW.out hl3);clear nZ hl3 d0 d1' d2' d3 d4 d5 d6 d7 d8;unfold fG;subst hll;go_wp2_with (at_builtin;go_must (refine yQ w3 rfl (.tmp 17) (.tmp 22) 23 rfl 25 _ 3 40 elemTy (.slice o l.length c) l.length xs rfl HR3.out.own #[.int .i64 1,.int .i64 n3,.slice o3 0 c3] rfl rfl ?c1 (by unfold maxLen;omega) (by omega) ?_);(case c1=>simp [Value.oneCell']));intro g4 c4 w4 nM hf4 hg4;obtain ⟨k1,k2,k3⟩:=HR3.out.snoc Bh.out (HLW.out.trans rF.out) hPP n3 o3 c3 nM hf4 hg4;have K1:=hid k1;have K2:=hid k2;have K3:=hid k3;clear k1 k2 k3 nM hf4 hg4;go_wp2_with fail;go_roundw
   case rel =>
    refine ⟨l.length+1,mk2,l++[tv n3],some ⟨g4,0,none⟩,c4,_,by go_num,rfl,by rw [F7.out];omega,by simp,by rw [List.append_assoc];exact vO.out,HF2.out,K1.out,K2.out,K3.out,Nat.le_trans hlo HNM.out⟩
   case measure=>simp [intOf];omega
  ·have hlt':¬ (i:Int) < l2:=by omega
   have hi2:i=l2:=by omega
   subst hi2;have hd:vs.drop i=[]:=List.drop_eq_nil_of_le (by rw [F7.out];exact Nat.le_refl _);rw [hd] at hf1 hf2;have hl1:l=fin.1:=by rw [<-hf1];show l=l++[];simp
   have hm1:uS=fin.2:=hf2;subst hl1;subst hm1;have zC:=hid (Z8 (r:=fin) (c:=c) (o:=o) hXX hll.symm hrow LZ WJ (by rw [hll];unfold maxLen;omega));clear hrow LZ WJ hf1 hf2;go_wp2_with fail;go_ret;exact zC.out
end Em
end
section
open Go.RowKit
namespace Em
def ArQ (W:World) (a b:Nat) (e:Ending) (w':World):Prop:=∃ o' cap',e=.returned (.agg #[.int .i64 4,.int .i64 0,.slice o' 2 cap'])/\aB (fun i=>W.heap.size<=i) w' o' 2 (iO (tv a) (tv b)).2.2/\ah W w'
theorem DI {W : World} {g a b : Nat} {o1 : Option Addr} {c1 : Nat} {o2 : Option Addr} {c2 : Nat} (h : W.heap[g]? = some (.cells #[.int .i64 1, .int .i64 a, .slice o1 0 c1, .int .i64 1, .int .i64 b, .slice o2 0 c2] 25 (0, 0))) :
    Calls Tryd.prog 14 #[.slice (some ⟨g,0,none⟩) 2 2] W (ArQ W a b):=by
 have hs:nJ W (some ⟨g,0,none⟩) 2 (.cons 1 (a:Int) .nil (.cons 1 (b:Int) .nil .nil)):=by
  refine ⟨rfl,by unfold maxLen;omega,fun _=>⟨g,0,rfl,?_⟩⟩;have c:∀ j (hj:j < 6),W.cell? ⟨g,j,none⟩=(#[Value.int .i64 1,.int .i64 a,.slice o1 0 c1,.int .i64 1,.int .i64 b,.slice o2 0 c2]:Array Value)[j]?:=fun j hj=>by rw [cell_of_row _ _ _ _ _ (0,0) h]
  exact ⟨c 0 (by omega),c 1 (by omega),⟨o1,0,c1,c 2 (by omega),rfl,Nat.zero_le _,fun h=>absurd h (Nat.lt_irrefl _)⟩,c 3 (by omega),c 4 (by omega),⟨o2,0,c2,c 5 (by omega),rfl,Nat.zero_le _,fun h=>absurd h (Nat.lt_irrefl _)⟩,trivial⟩
 refine (F8 _ W _ 2 2 hs (Nat.le_refl _) (by show Fo.size _<=_;simp [Fo.size])).mono ?_;rintro e w' ⟨o',len',cap',rfl,h2,h3⟩;have hl:len'=2:=h2.1;subst hl;exact ⟨o',cap',rfl,h2,h3⟩
def IU (most:Int) (pb lo:Nat) (W:World) (o:Option Addr) (n:Nat) (e:iP) (E:Env):Prop:=XR pb W o n e/\sU most pb lo W e E
theorem IU.later {most:Int} {pb lo:Nat} {W W':World} {o:Option Addr} {n:Nat} {e:iP} {E:Env} (h:IU most pb lo W o n e E) (hl:Later pb W W'):IU most pb lo W' o n e E:=⟨h.1.later hl,h.2.later hl (Nat.le_refl _)⟩
theorem IU.st {X:Nat->Prop} {most:Int} {pb lo:Nat} {W W':World} {k:Mk} {o:Option Addr} {n:Nat} {e:iP} {E:Env} (hm:dQ X most pb W k) (hq:ah W W') (h:IU most pb lo W o n e E):IU most pb lo W' o n e E:=h.later (Later.aS hq hm.lt)
theorem jO.st {X:Nat->Prop} {most:Int} {pb lo:Nat} {W W':World} {k:Mk} {v:Value} {f:Pm Ty} (hm:dQ X most pb W k) (hq:ah W W') (h:jO most pb lo W v f):jO most pb lo W' v f:=h.later (Later.aS hq hm.lt) (Nat.le_refl _)
def WtQ (most:Int) (pb lo:Nat) (W:World) (n:Nat) (e:iP) (E:Env) (x:Ending) (w':World):Prop:=∃ o c,x=.returned (.slice o n c)/\n<=c/\IU most pb lo w' o n e E/\ah W w'
theorem uU {X : Nat -> Prop} {most : Int} {pb lo : Nat} {W : World} {k : Mk} {eo : Option Addr} {en ec : Nat} {e : iP} {E : Env} {f : Pm Ty} {bs : Fn} {ls : Array Value} (s : ByteArray) (hm : dQ X most pb W k) (hb : XR pb W eo en e) (hE : sU most pb lo W e E) (vW : en <= ec) (hz : en <= 900000) (hf : jO most pb lo W (.func bs #[] ls) f) (hn : NM f) :
    Calls Tryd.prog 41 #[.slice eo en ec,.string s,.func bs #[] ls] W (WtQ most pb lo W (en+1) ((s,.func bs #[] ls)::e) ((s,f)::E)):=by
 refine (Qr _ e s bs #[] ls eo en ec W hb vW hz).mono ?_;rintro x w' ⟨o,c,rfl,h1,h2,hq⟩;have hl:=Later.aS hq hm.lt;rw [List.length_cons,<-hb.1] at h1 h2 ⊢;exact ⟨o,c,rfl,h2,⟨Z7 hm hq h1,.cons (hf.later hl (Nat.le_refl _)) hn (hE.later hl (Nat.le_refl _))⟩,hq⟩
theorem o7 {k:Int} (nm:ByteArray) {j:Nat} (x:List ByteArray) (h:Sc.mF k j=false):Sc.bW k nm j x=x:=by unfold Sc.bW;rw [h];rfl
theorem rP {k:Int} (nm:ByteArray) {j:Nat} (x:List ByteArray) (h:Sc.mF k j=true):Sc.bW k nm j x=nm::x:=by unfold Sc.bW;rw [h];rfl
theorem uV {k:Int} (h4:k≠4) (h6:k≠6) (h7:k≠7) (j:Nat):Sc.mF k j=false:=by unfold Sc.mF;simp [h4,h6,h7]
theorem cell_later {X:Nat->Prop} {pb:Nat} {W W':World} {g j:Nat} {v:Value} (hg:TF X pb W g) (hl:Later pb W W') (h:W.cell? ⟨g,j,none⟩=some v):W'.cell? ⟨g,j,none⟩=some v :=
 (hl.fr.aY (World.block_lt_of_cell? W _ h) (fun e=>e.elim hg.1 hg.2.1)).trans h
theorem XU {X:Nat->Prop} {most:Int} {pb:Nat} {W W':World} {k:Mk} {g j:Nat} {v:Value} {G:Prop} (hm:dQ X most pb W k) (hq:ah W W') (hc:W.cell? ⟨g,j,none⟩=some v) (ht:TF X pb W g) (K:TF X pb W' g->G):G:=K ((Later.aS hq hm.lt).tf (World.block_lt_of_cell? W _ hc) ht)
theorem ug.tf {T:Nat->Prop} {w:World} {o:Option Addr} {l:List Ty} (h:ug T w o l) {g:Nat} (ho:o=some ⟨g,0,none⟩) (hl:0 < l.length):T g:=by
 rcases h.2 with e | ⟨g',h1,h2,_⟩
 ·subst e;simp at hl
 ·rw [ho] at h1;cases h1;exact h2
theorem JY {e:List ByteArray} {h:Nd} {ps:To} (hk:h.k=1) (hf:Sc.bM e h ps=[]):h.nm∈e:=by
 unfold Sc.bM at hf;rw [if_pos hk] at hf
 by_cases hx:Sc.ix e h.nm < 0
 ·rw [if_pos hx] at hf;cases hf
 ·rcases Sc.yA e h.nm 0 with ⟨h1,_⟩ | ⟨j,h1,h2,_⟩
  ·exact absurd (show Sc.ix e h.nm < 0 by unfold Sc.ix;omega) hx
  ·exact List.mem_of_getElem? h2
theorem nS.size:∀ (l:List Ty) (xs:List Value),nS xs l->(jy l).size=l.length
 | [],_,_=>rfl
 | t::r,xs,h=>by
  obtain ⟨n,o,c,ys,rfl,_,hr⟩:=h;have:=nS.size r ys hr
  show Fo.size (.cons 1 (n:Int) .nil (jy r))=_
  simp only [Fo.size,List.length_cons];omega
theorem ug.size {T:Nat->Prop} {w:World} {o:Option Addr} {l:List Ty} (h:ug T w o l):(jy l).size=l.length:=by
 rcases h.2 with e | ⟨g,h1,h2,h3,xs,h4,h5⟩
 ·subst e;rfl
 ·exact nS.size l xs h4
def TpQ (X:Nat->Prop) (most:Int) (pb:Nat) (W:World) (n:Nat) (r:List Ty × Mk) (x:Ending) (w':World):Prop:=∃ o c,x=.returned (.slice o n c)/\aB (TF X pb w') w' o n (jy r.1)/\(jy r.1).size<=100000/\dQ X most pb w' r.2/\Later pb W w'
def AnQ (X:Nat->Prop) (most:Int) (pb:Nat) (W:World) (n:Nat) (r:List Ty × Mk) (x:Ending) (w':World):Prop:=∃ gp c n0 wU n0c,x=.returned (.slice (some ⟨gp,0,none⟩) n c)/\qL r.1 0=tv n0/\TF X pb w' gp/\w'.cell? ⟨gp,0*3,none⟩=some (.int .i64 1)/\w'.cell? ⟨gp,0*3+1,none⟩=some (.int .i64 n0)/\w'.cell? ⟨gp,0*3+2,none⟩=some (.slice wU 0 n0c)/\dQ X most pb w' r.2/\Later pb W w'
def CoQ (W:World) (k n:Int) (len:Nat) (ps:Fo) (e:Ending) (w':World):Prop:=∃ o' cap',e=.returned (.agg #[.int .i64 k,.int .i64 n,.slice o' len cap'])/\aB (fun b=>W.heap.size<=b) w' o' len ps/\ah W w'
theorem rQ (most:Int) (l r:Ty) (fr en:Int) (m:Mk):(dh most l r fr en m).2.next=m.next:=yh most l r fr en m
def SgQ (most:Int) (pb lo:Nat) (W:World) (f:Pm Ty) (x:Ending) (w':World):Prop:=∃ bs ls,x=.returned (.func bs #[] ls)/\jO most pb lo w' (.func bs #[] ls) f/\ah W w'
def TmN (h:Nd) (ps:To):Prop:=∀ (W:World) (R X:Nat->Prop) (most:Int) (pb:Nat) (mk:Mk) (o1:Option Addr) (l1 c1:Nat) (o2:Option Addr) (l2 c2:Nat) (eo:Option Addr) (en ec:Nat) (e:iP) (E:Env),
 aB R W o1 l1 h.tp->bC R W o2 l2 ps->(∀ i,R i->i < pb)->dQ X most pb W mk->most<=4096->XR pb W eo en e->en<=ec->en+ps.size<=100000->sU most pb mk.next W e E->KU h ps.length->rH ps->Sc.bM (names e) h ps=[]->(dw most h ps E mk).2.next<=Aj->mk.many=false ->
 Calls Tryd.prog 22 #[.pointer (some ⟨pb,0,none⟩),bP h o1 l1 c1 o2 l2 c2,.slice eo en ec] W (I8 X most pb W (dw most h ps E mk))
end Em
end
section
open Go.RowKit
namespace Em
theorem Oj {X:Nat->Prop} {most:Int} {pb:Nat} {W:World} {k:Mk} {g c:Nat} {xs:List Value} (h:l9 X most pb W k (some ⟨g,0,none⟩) c xs) (s:Nat):KeptAt pb W (some ⟨g,s*8,none⟩) (k.eqs.drop s):=by
 refine .inr ⟨g,s*8,rfl,fun W' hl=>?_⟩;have hc:W.cell? ⟨pb,0,none⟩=some (.slice (some ⟨g,0,none⟩) k.eqs.length c):=(bT h.box).1;have hlow:=h.low g rfl;have hgl:=(h.own.lt g rfl).2;have hpre:=(hl.pre g _ _ hc (by omega) hgl).1;have h1:Ep (TF X pb W) W g 0 k.eqs:=Ep.Lj h.cells (fun j u hj=>by
  have:=h.own.cells (g:=g) rfl j u hj;simpa [Addr.add_lit] using this)
 have h2:Ep (TF X pb W') W' g 0 k.eqs:=h1.move hl.fr (fun i hi ht=>⟨hl.tf hi ht,fun e=>e.elim ht.1 ht.2.1⟩) (fun j hj=>by rw [Nat.zero_add];exact hpre j hj);intro i t hi;rw [List.getElem?_drop] at hi;obtain ⟨o1,l1,c1,o2,l2,c2,s1,s2,a0,a1,a2,a3,a4,a5,a6,a7⟩:=h2 (s+i) t hi;have e:∀ j,0+(s+i)*8+j=s*8+i*8+j:=fun j=>by omega
 have m:∀ i,TF X pb W' i->TF (fun _=>False) pb W' i:=fun i h=>⟨h.1,h.2.1,fun h=>h⟩
 refine ⟨o1,l1,c1,o2,l2,c2,s1.mono (fun i _ h=>m i h),s2.mono (fun i _ h=>m i h),?_⟩;have e0:=e 0;simp only [Nat.add_zero] at e0;rw [e0] at a0;rw [e 1] at a1;rw [e 2] at a2;rw [e 3] at a3;rw [e 4] at a4;rw [e 5] at a5;rw [e 6] at a6;rw [e 7] at a7;exact ⟨a0,a1,a2,a3,a4,a5,a6,a7⟩
def Ol (X:Nat->Prop) (most:Int) (pb:Nat) (W:World) (r:Ty × Mk) (f:Pm Ty) (x:Ending) (w':World):Prop:=∃ bs ls,x=.returned (.func bs #[] ls)/\jO most pb r.2.next w' (.func bs #[] ls) f/\dQ X most pb w' r.2/\Later pb W w'
def ada (X:Nat->Prop) (most:Int) (pb:Nat) (W4:World) (rt:Ty × Mk) (v:Value) (wx:World):Prop:=∃ F n9 o9 c9,v=.pointer (some ⟨F,0,none⟩)/\rt.1=tv n9/\Bx pb wx F #[.int .i64 1,.int .i64 n9,.slice o9 0 c9] 25/\dQ X most pb wx rt.2/\Later pb W4 wx
theorem F9 (most:Int) (h:Nd) (ps:To) {E:Env} (hE:NE E):NM (firstM most h (bQ most ps) E):=by
 unfold firstM;exact NM.ite (wP (qM most ps) 0 hE) (NM.bind NM.take fun v=>NM.bind (wP (qM most ps) 0 (hE.cons (NM.pure v))) fun _=>NM.bind (NM.eqn _ _ _ _ _) fun _=>NM.pure _)
end Em
end
section
open Go.RowKit
namespace Em
theorem Uy (h : Nd) (ps : To) (ih : ∀ i g qs, ps.get i = some (g, qs) -> TmT g qs) (hk : h.k = 6) (W : World) (R X : Nat -> Prop) (most : Int) (pb : Nat) (mk : Mk) (o1 : Option Addr) (l1 c1 : Nat) (o2 : Option Addr) (l2 c2 : Nat) (eo : Option Addr) (en ec : Nat) (e : iP) (E : Env)
    (hs2:bC R W o2 l2 ps) (hR:∀ i,R i->i < pb) (hm:dQ X most pb W mk) (oZ:most<=4096) (hb:XR pb W eo en e) (vW:en<=ec) (hz:en+ps.size<=100000) (hE:sU most pb mk.next W e E) (hok:KU h ps.length) (kF:rH ps) (hfr:Sc.bM (names e) h ps=[]) (hN:(firstM most h (bQ most ps) E mk).2.next<=Aj) :
    Calls Tryd.prog 43 #[.pointer (some ⟨pb,0,none⟩),bP h o1 l1 c1 o2 l2 c2,.slice eo en ec] W (Ol X most pb W (firstM most h (bQ most ps) E mk) (uf most h (bQ most ps) E mk)):=by
 have hl2:2<=l2:=by rw [hs2.1];exact hok.2.2.2.1 hk
 obtain ⟨b9,aJ,u,qu,kS,kT,d1u,kU,kV,kW,e9,_,gu,ru,cu,su,tu⟩:=hs2.nth (i:=0) (by omega);subst e9;have gB:=hR b9 ru;obtain ⟨W0,hW0⟩:∃ W0,W0=W.alloc (.cells (cells9 h o1 l1 c1 (some ⟨b9,aJ,none⟩) l2 c2) 30):=⟨_,rfl⟩;have hq0:ah W W0:=by rw [hW0];exact ah.alloc _ _
 have h4:Bx pb W0 W.heap.size (cells9 h o1 l1 c1 (some ⟨b9,aJ,none⟩) l2 c2) 30:=Bx.new hm hq0 (Nat.le_refl _) (by rw [hW0];exact heap_alloc_new W _);have hp:=hm.lt;have hl0:=Later.aS hq0 hp;have yS:=hid hl0;have HM:=hid hm;have FY:=hid (hm.stay hq0);have H4:=hid h4;have HP:=hid hp;have HR:=hid hR;have EL:=hid hb;have HE:=hid hE;have wS:=hid oZ;have KW:=hid gu;have AV:=hid su;have AX:=hid tu;have Bj:=hid cu;have Ry:=hid gB;have XV:=hid (To.dG ps 0 u qu gu);have Om:=hid (fO ps 0 u qu kF gu);have IH:=hid ih;have HZ:=hid hz;have HEC:=hid vW;have hi0:(0:Int) < l2:=by omega
 have hj0:0 < l2:=by omega
 have t7:(h.k == 7)=false:=by rw [hk];rfl
 have XW:Hid (Sc.bM (names e) u qu=[]):=by
  show _=_
  have k:=oC hfr (by rw [hk];decide) gu
  rwa [o7 _ _ (by rw [hk];rfl)] at k
 obtain ⟨res,hres⟩:∃ res,dw most u qu E mk=res:=⟨_,rfl⟩;have hf:firstM most h (bQ most ps) E mk=res:=by rw [<-hres];unfold firstM;rw [if_pos hk,yw gu]
 have uh:Hid (res.2.next<=Aj):=by show _<=_;rw [<-hf];exact hN
 have Z9:Hid (uf most h (bQ most ps) E mk=copied most (res.2.eqs.drop mk.eqs.length) res.1 mk.next res.2.next):=by show _=_;unfold uf;rw [hf]
 have Uz:Hid (mk.next<=res.2.next/\mk.eqs.length<=res.2.eqs.length):=by
  have k:=lQ most u qu E hE.ne mk;rw [hres] at k;exact k
 have lT:=hid hres;rw [hf];rw [Z9.out];obtain ⟨o0,k0,xs0,lg⟩:=FY.out;obtain ⟨q0,q1,q2,q3⟩:=bT lg.box;have hsl:∀ j,j=mk.eqs.length->(0:Int)<=(j:Int):=fun j _=>by omega
 have hfew:=lg.few;clear hsl lg;obtain ⟨a0,a1,a2,a3,a4,a5,a6,a7,a8⟩:=aA H4.out.1;clear hk hs2 hR hm hb hE hok kF hfr hN hl0 hq0 h4 hp hf oZ gu su tu cu gB ru ih hz vW;obtain ⟨start,hstart⟩:∃ start,mk.eqs.length=start:=⟨_,rfl⟩;have HST:=hid hstart;rw [hstart] at q0 hfew;clear hstart;unfold bP;go_enter Tryd.func43,Tryd.ntmps43;generalize dV:W.heap.size=B at *;go_upto_region 1 with fail
 rw [<-hW0];clear hW0;go_quiet (fail);have yT:=ah.drewN W0 nq;obtain ⟨W1,hW1⟩:∃ W1,W1=(W0.drewN nq).alloc (.cells #[.int .i64 0,.int .i64 0,.slice none 0 0] 25):=⟨_,rfl⟩;have hq1:ah W0 W1:=by rw [hW1];exact yT.trans (ah.alloc _ _)
 have h9:Bx pb W1 W0.heap.size #[.int .i64 0,.int .i64 0,.slice none 0 0] 25:=Bx.new FY.out hq1 (Nat.le_refl _) (by rw [hW1];exact heap_alloc_new (W0.drewN nq) _);have hz1:W0.heap.size < W1.heap.size:=by rw [hW1];simp [World.drewN]
 have hm1:=FY.out.more hq1 (fun i=>i=W0.heap.size) (fun i hi=>by subst hi;exact ⟨Nat.le_refl _,hz1⟩);obtain ⟨X1,hX1⟩:∃ X1,X1=(fun i=>X i∨i=W0.heap.size):=⟨_,rfl⟩;have jR:Hid (∀ i,X1 i=(X i∨i=W0.heap.size)):=fun i=>by rw [hX1]
 rw [<-hX1] at hm1;have Wx:=hid hm1;have Oh:Hid (pb < W.heap.size):=by show pb < _;rw [dV];exact HP.out
 have O1:=hid (yS.out.quiet hq1 Oh.out);have H9:=hid h9;have H41:=hid (H4.out.later (Later.aS hq1 FY.out.lt));have HB1:Hid (B < W0.heap.size):=lt_of_block H4.out.1;have HB0:Hid (B<=W0.heap.size):=by show B<=_;rw [<-dV];exact (yS.out).size
 clear hq1 hm1 h9 yT hX1 hz1 q0 q1 q2 q3 a0 a1 a2 a3 a4 a5 a6 a7 a8;go_upto_region 3 with fail
 change Code.wp _ _ _ _ ((W0.drewN nq).alloc (.cells #[.int .i64 0,.int .i64 0,.slice none 0 0] 25));rw [<-hW1];clear hW1;have hD0:(W0.drewN nq).heap.size=W0.heap.size:=rfl
 try rw [hD0]
 clear hD0;generalize hD:W0.heap.size=D at *;clear yS FY H4 hD;obtain ⟨a0,a1,a2,a3,a4,a5,a6,a7,a8⟩:=aA H41.out.1;have aac:(ES W1 b9 aJ u kS kT d1u kU kV kW):=eu Bj.out Ry.out HM.out O1.out;obtain ⟨v0,v1,v2,v3,v4,v5,v6,v7,v8⟩:=aac;obtain ⟨d0,d1,d2,y0,y1,y2⟩:=ay H9.out.1;have nT:Hid (Calls Tryd.prog 22 #[.pointer (some ⟨pb,0,none⟩),bP u kS kT d1u kU kV kW,.slice eo en ec] W1 (I8 X1 most pb W1 res)):=by
  have k:=IH.out 0 u qu KW.out W1 R X1 most pb mk kS kT d1u kU kV kW eo en ec _ _ (jD AV.out HR.out HM.out O1.out) (eY AX.out HR.out HM.out O1.out) HR.out Wx.out wS.out (EL.out.later O1.out) HEC.out (by have:=XV.out;have:=HZ.out;omega) (HE.out.later O1.out (Nat.le_refl _)) Om.out.1 Om.out.2 XW.out (by rw [lT.out];exact uh.out);rw [lT.out] at k;exact k
 unfold bP at nT;go_wp2_with fail;refine nT.out.mono ?_;rintro x w3 ⟨nv,ov,cv,hnv,rfl,nZ,hl3⟩;have h93:=H9.out.later hl3;have UA:=O1.out.trans hl3;obtain ⟨d0',d1',d2',y0',y1',y2'⟩:=ay h93.1;clear a0 a1 a2 a3 a4 a5 a6 a7 a8 v0 v1 v2 v3 v4 v5 v6 v7 v8 d0 d1 d2 y0 y1 y2;have Bh:=hid nZ;have rF:=hid UA;have adb:=hid hl3;have H93:=hid h93;have HNV:=hid hnv;clear nZ hl3 h93 UA hnv;unfold fG;go_upto_region 8 with fail
 clear d0' d1' d2' y0' y1' y2';obtain ⟨W5,Py⟩:∃ W5,W5=bf w3 D (.int .i64 1) (.int .i64 nv) (.slice ov 0 cv):=⟨_,rfl⟩;change Code.wp _ _ _ _ (bf w3 D (.int .i64 1) (.int .i64 nv) (.slice ov 0 cv));have hf5:=aZ w3 D (.int .i64 1) (.int .i64 nv) (.slice ov 0 cv);obtain ⟨f0,f1,f2⟩:=aV (a:=.int .i64 1) (b:=.int .i64 nv) (c:=.slice ov 0 cv) H93.out.1;rw [<-Py] at hf5 f0 f1 f2 ⊢;clear Py;have KX:=hid (Bh.out.put (hf5.mono (fun i _ e=>by rw [jR.out];exact Or.inr e)));have WO:=hid (rF.out.put hf5 Oh.out (fun i hi=>by have:=HB0.out;omega));clear Bh adb H93 hf5;obtain ⟨o5,c5,xs5,hmk5⟩:=KX.out;obtain ⟨q0,q1,q2,q3⟩:=bT hmk5.box;obtain ⟨ln,hln⟩:∃ ln,res.2.eqs.length=ln:=⟨_,rfl⟩;have hle:start<=ln:=by have:=Uz.out.2;rw [HST.out,hln] at this;exact this
 have hform:=hmk5.form;have hlz:ln<=4096:=by have:=hmk5.few;omega
 have UC:=hmk5.small;rw [hln] at q0 hform;have qX:=hid hln;have hs0:(0:Int)<=start:=by omega
 have hs1:(start:Int)<=ln:=by omega
 have hs2:(ln:Int)<=ln:=Int.le_refl _;have hs3:IntKind.i64.wrap ((ln:Int)-start)=((ln-start:Nat):Int):=by rw [IntWalk.i64_in _ (by omega)];omega
 have hkd:(res.2.eqs.drop start).length=ln-start/\∀ t∈res.2.eqs.drop start,t.1.2.2.size<=100000/\t.2.1.2.2.size<=100000:=by
  exact ⟨by rw [List.length_drop,qX.out],fun t ht=>UC t (List.mem_of_mem_drop ht)⟩
 have aad:=hid hmk5;have UD:Hid (ln=start->∀ ko,KeptAt pb W5 ko (res.2.eqs.drop start)):=fun he ko=>.inl (List.eq_nil_of_length_eq_zero (by rw [List.length_drop,qX.out];omega))
 have QC:Hid (∀ ko,KeptAt pb W5 ko (res.2.eqs.drop start)->Calls Tryd.prog 62 #[.slice ko (ln-start) (ln-start),.agg #[.int .i64 1,.int .i64 nv,.slice ov 0 cv],.int .i64 mk.next,.int .i64 res.2.next] W5.drew fun x w'=>∃ bs ls,x=.returned (.func bs #[] ls)/\jO most pb res.2.next w' (.func bs #[] ls) (copied most (res.2.eqs.drop start) (tv nv) mk.next res.2.next)/\ah W5.drew w'):=fun ko hk=>by
  have hl:=Later.aS (ah.drew W5) KX.out.lt;have k:=Dw (lo:=res.2.next) (KX.out.stay (ah.drew W5)) wS.out nv mk.next res.2.next (res.2.eqs.drop start) ko (ln-start) ov cv (hk.later hl) (by rw [hkd.1];omega) hkd.2 Uz.out.1 (Nat.le_refl _)
  rw [hkd.1] at k;exact k
 unfold fG at QC;have HRV:Hid (res.1=tv nv):=HNV.out;clear hmk5 hln hkd UC;go_upto_region 8 with fail
 rcases hform with ⟨h1,h2,h3⟩ | ⟨g,h1,_,_,h4⟩
 ·subst h1;subst h2;subst h3;obtain rfl:start=0:=by omega
  have QD:=hid (QC.out none (UD.out rfl none));refine wp_region_still_tail 22 (by kernel_rfl) (by kernel_rfl) ?_;simp only [List.take_succ_cons,List.take_zero,List.drop_succ_cons,List.drop_zero];change wpStill _ _ (World.drew W5) _ _ _
  repeat still_step
  refine wpStill_nil ?_;change wpList _ _ _ _ _ (World.drew W5);go_wp2_with fail;refine QD.out.mono ?_;rintro x w6 ⟨bs,ls,rfl,hme,hq6⟩;go_wp2_with fail;go_ret;have hq5:=(ah.drew W5).trans hq6;exact ⟨bs,ls,rfl,by rw [HST.out,HRV.out];exact hme,(KX.out.stay hq5).less (fun i hi=>by rw [jR.out];exact Or.inl hi),WO.out.quiet hq5 Oh.out⟩
 ·subst h1;have hs4:(ln:Int)<=c5:=by omega
  by_cases hls:ln=start
  ·subst hls;have QD:=hid (QC.out (some ⟨g,0,none⟩) (UD.out rfl _));simp only [Nat.sub_self] at QD hs3;refine wp_region_still_tail 22 (by kernel_rfl) (by kernel_rfl) ?_;simp only [List.take_succ_cons,List.take_zero,List.drop_succ_cons,List.drop_zero];change wpStill _ _ (World.drew W5) _ _ _
   repeat still_step
   refine wpStill_nil ?_;change wpList _ _ _ _ _ (World.drew W5);go_wp2_with fail;refine QD.out.mono ?_;rintro x w6 ⟨bs,ls,rfl,hme,hq6⟩;go_wp2_with fail;go_ret;have hq5:=(ah.drew W5).trans hq6;exact ⟨bs,ls,rfl,by rw [HST.out,HRV.out];exact hme,(KX.out.stay hq5).less (fun i hi=>by rw [jR.out];exact Or.inl hi),WO.out.quiet hq5 Oh.out⟩
  ·have hne1:¬ (ln-start=0):=by omega
   have hne2:¬ (ln<=start):=by omega
   have Xq:start < ln:=by omega
   have ade:0 < ln-start:=by omega
   have QD:=hid (QC.out (some ⟨g,start*8,none⟩) (Oj aad.out start));refine wp_region_still_tail 22 (by kernel_rfl) (by kernel_rfl) ?_;simp only [List.take_succ_cons,List.take_zero,List.drop_succ_cons,List.drop_zero];change wpStill _ _ (World.drew W5) _ _ _
   repeat still_step
   refine wpStill_nil ?_;change wpList _ _ _ _ _ (World.drew W5);go_wp2_with fail;refine QD.out.mono ?_;rintro x w6 ⟨bs,ls,rfl,hme,hq6⟩;go_wp2_with fail;go_ret;have hq5:=(ah.drew W5).trans hq6;exact ⟨bs,ls,rfl,by rw [HST.out,HRV.out];exact hme,(KX.out.stay hq5).less (fun i hi=>by rw [jR.out];exact Or.inl hi),WO.out.quiet hq5 Oh.out⟩
end Em
end
end Go.Proofs.YtcninopmelmajaaDoor
