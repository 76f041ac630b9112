/-
  Texts laid together (TySame2, TyEach, TySize, TyMap, TyVars, TyVars2, TyCanon, TyRefVars0, TyShift, TyOpen): laws and walks, with their conditions.
-/
import Derived.OneCell
import Derived.Maps.OwnOps
import Derived.Maps.Views
import Derived.Deep.DeepCutAuto
import Derived.Deep.Slices
import Derived.Test.YtcninopmelmajaaGreatDoorOF9
set_option maxHeartbeats 8000000
set_option maxRecDepth 1000000
namespace Go.Proofs.YtcninopmelmajaaGreatDoor
open Go.Lib (hid)
section
open Go.RowKit
theorem Wu:∀ args w,(callFunc 87 args).run Tryz.prog w=.ok (.enter 87 args) w:=enters_of Tryz.func87 (by kernel_rfl) rfl
def RD (k n:Int) (ps:Fo):Prop:=∀ (k' n':Int) (ps':Fo) (w:World) (o:Option Addr) (len cap:Nat) (o':Option Addr) (len' cap':Nat),kT w o len ps->kT w o' len' ps' ->
 Calls Tryz.prog 87 #[dZ k n o len cap,dZ k' n' o' len' cap'] w fun e w'=>e=.returned (.bool (gG k n ps k' n' ps'))/\ah w w'
theorem Eh (ps ps' : Fo) (ih : ∀ i k n qs, ps.get i = some (k, n, qs) -> RD k n qs) (w : World) (o : Option Addr) (len cap : Nat) (o' : Option Addr) (len' cap' : Nat) (hs : kT w o len ps) (hs' : kT w o' len' ps') :
    Calls Tryz.prog 110 #[.slice o len cap,.slice o' len' cap',.func (.func 87) #[] #[]] w fun e w'=>e=.returned (.bool (ps.same ps'))/\ah w w':=by
 have HS:=hid hs;have HS':=hid hs';have IH:=hid ih;have HL:=hid hs.1;have HL':=hid hs'.1;have hmx:=hs.2.1;unfold maxLen at hmx;have eg:=Wu;clear hs hs' ih;obtain ⟨res,hres⟩:∃ res,res=ps.same ps':=⟨_,rfl⟩;have aQ:=hid hres;rw [<-hres];clear hres
 by_cases hlen:len=len'
 ·subst hlen;have b3:((len:Int) != (len:Int))=false:=by simp
  go_enter Tryz.func110,Tryz.ntmps110;go_wp2_with fail;go_loopw [17] (fun t wr=>∃ (i:Nat),t=.int .i64 i/\i<=len/\res=(ps.drop i).same (ps'.drop i)/\ah w wr) (fun t _=>len-(intOf t).toNat)
  case atStart=>exact ⟨0,rfl,Nat.zero_le _,by rw [Fo.drop_zero,Fo.drop_zero];exact aQ.out,ah.refl _⟩
  case round =>
   obtain ⟨i,rfl,hi,hr,hq⟩:=hrel;have HR:=hid hr;have HQ:=hid hq;clear hr hq
   by_cases hlt:i < len
   ·have hlt':(i:Int) < len:=by omega
    obtain ⟨b,off,k1,n1,YN,o1,len1,cap1,rfl,hd1,hg1,e0,e1,e2,hs1⟩:=(HS.out.stay HQ.out).nth hlt;obtain ⟨b2,off2,k2,n2,sF,o2,len2,cap2,rfl,hd2,hg2,f0,f1,f2,hs2⟩:=(HS'.out.stay HQ.out).nth hlt;have hbl:=World.block_lt_of_cell? _ _ e0;have adE:=World.block_lt_of_cell? _ _ f0;have HC:=hid (fun (W:World) (hq:ah wr W)=>IH.out i k1 n1 YN hg1 k2 n2 sF W o1 len1 cap1 o2 len2 cap2 (hs1.stay hq) (hs2.stay hq));have HN:Hid (res=(gG k1 n1 YN k2 n2 sF && (ps.drop (i+1)).same (ps'.drop (i+1)))):=by
     show _=_
     rw [HR.out,hd1,hd2,EN]
    unfold dZ at HC;clear hd1 hg1 hs1 hd2 hg2 hs2;cases hb:gG k1 n1 YN k2 n2 sF
    all_goals
     have KD:=hid hb;rw [hb] at HC;clear hb;go_wp2_with fail;refine (HC.out _ ((ah.alloc _ _).trans (ah.alloc _ _))).mono ?_;rintro e w1 ⟨rfl,hq1⟩;have bU:=hid (HQ.out.trans (((ah.alloc _ _).trans (ah.alloc _ _)).trans hq1));clear hq1;go_wp2_with fail
    ·go_ret;exact ⟨by rw [HN.out,KD.out];rfl,bU.out⟩
    ·go_roundw
     case rel=>exact ⟨i+1,by go_num,by omega,by rw [HN.out,KD.out];rfl,bU.out⟩
     case measure=>simp [intOf];omega
   ·have hlt':¬ (i:Int) < len:=by omega
    have HY:Hid (res=true):=by
     show _=_
     rw [HR.out,Fo.drop_end ps i (by have:=HL.out;omega),Fo.drop_end ps' i (by have:=HL'.out;omega)];rfl
    go_wp2_with fail;go_ret;exact ⟨by rw [HY.out];rfl,HQ.out⟩
 ·have HF : Hid (res = false) := by
    show _=_
    rw [aQ.out];cases h:ps.same ps'
    ·rfl
    ·exact absurd (Fo.same_length _ _ h) (by have:=HL.out;have:=HL'.out;omega)
  have b3:((len:Int) != (len':Int))=true:=by simp;omega
  go_enter Tryz.func110,Tryz.ntmps110;go_wp2_with fail;go_ret;exact ⟨by rw [HF.out];rfl,ah.refl _⟩
theorem RF (k n:Int) (ps:Fo):RD k n ps:=by
 refine Fo.sG (T:=RD) ?_ k n ps;intro k n ps ih k' n' ps' w o len cap o' len' cap' hs hs';have HC:=hid (fun (W:World) (hq:ah w W)=>Eh ps ps' ih W o len cap o' len' cap' (hs.stay hq) (hs'.stay hq));unfold gG;clear hs hs' ih;generalize ps.same ps'=r at *;cases hk:(k == k')
 ·unfold dZ;go_enter Tryz.func87,Tryz.ntmps87;go_wp2_with fail;go_ret;exact ⟨rfl,(ah.alloc _ _).trans (ah.alloc _ _)⟩
 ·cases hn:(n == n')
  ·unfold dZ;go_enter Tryz.func87,Tryz.ntmps87;go_wp2_with fail;go_ret;exact ⟨rfl,(ah.alloc _ _).trans (ah.alloc _ _)⟩
  ·unfold dZ;go_enter Tryz.func87,Tryz.ntmps87;go_wp2_with fail;refine (HC.out _ ((ah.alloc _ _).trans (ah.alloc _ _))).mono ?_;rintro e w1 ⟨rfl,hq1⟩;go_wp2_with fail;go_ret;exact ⟨by simp,((ah.alloc _ _).trans (ah.alloc _ _)).trans hq1⟩
end
section
open Go.RowKit Go.Shelf
def qy {σ:Type} (step:σ->Int->Int->Fo->σ):σ->Fo->σ
 | s,.nil=>s
 | s,.cons k n ps r=>qy step (qy step (step s k n ps) ps) r
structure Yj (g:Nat) (lb:Array Value) (N:Nat) (w0:World) (G:Int->Prop) (S:World->Nat->Prop) {σ:Type} (step:σ->Int->Int->Fo->σ) (J:Nat->σ->World->Prop):Prop where
 quiet:∀ m s W,J m s W->ah w0 W
 alloc:∀ m s W o,J m s W->J m s (W.alloc o)
 low:∀ m s W,J m s W->∀ k,S W k->k < W.heap.size
 back:∀ m s W o k,J m s W->S (W.alloc o) k->S W k
 call:∀ m s k n ps (W:World) (o:Option Addr) (len cap:Nat),m < N->J m s W->kT w0 o len ps->G n ->
  Calls Tryz.prog g (#[dZ k n o len cap]++lb) W fun e W'=>e=.returned (.tuple #[])/\J (m+1) (step s k n ps) W'/\Fr (S W) W W'
section
variable {g:Nat} {lb:Array Value} {N:Nat} {w0:World} {G:Int->Prop} {S:World->Nat->Prop} {σ:Type} {step:σ->Int->Int->Fo->σ} {J:Nat->σ->World->Prop}
def Yk (g:Nat) (lb:Array Value) (N:Nat) (w0:World) (G:Int->Prop) {σ:Type} (step:σ->Int->Int->Fo->σ) (J:Nat->σ->World->Prop) (k n:Int) (ps:Fo):Prop :=
 ∀ (m:Nat) (s:σ) (w:World) (o:Option Addr) (len cap:Nat),J m s w->kT w0 o len ps->m+(ps.size+1)<=N->G n->Ip G ps ->
  Calls Tryz.prog 72 #[dZ k n o len cap,.func (.func g) #[] lb] w fun e w'=>e=.returned (.tuple #[])/\J (m+(ps.size+1)) (qy step (step s k n ps) ps) w'
theorem RG (eg:∀ args w,(callFunc g args).run Tryz.prog w=.ok (.enter g args) w) (hK:Yj g lb N w0 G S step J) (k n:Int) (ps:Fo):Yk g lb N w0 G step J k n ps:=by
 refine Fo.sG (T:=Yk g lb N w0 G step J) ?_ k n ps;intro k n ps ih m s w o len cap hJ hs hN hgn DX;have YO:=hid DX;have HS:=hid hs;have IH:=hid ih;have HL:=hid hs.1;have hmx:=hs.2.1;unfold maxLen at hmx;have HK:=hid hK;have HJ:=hid (hK.alloc m s w (.cells #[.int .i64 k,.int .i64 n,.slice o len cap] 24) hJ);have Wv:=hid (hK.low m s w hJ);have aaL:=hid (fun j=>hK.back m s w (.cells #[.int .i64 k,.int .i64 n,.slice o len cap] 24) j hJ);have HC:=hid (hK.call m s k n ps _ o len cap (by omega) HJ.out hs hgn);clear hs ih hJ hK hgn DX;unfold dZ at HC ⊢;go_enter Tryz.func72,Tryz.ntmps72;go_wp2_with fail;refine HC.out.mono ?_;rintro e w1 ⟨rfl,hj1,hf1⟩;have HJ1:=hid hj1;have c2:w1.cell? ⟨w.heap.size,2,none⟩=some (.slice o len cap):=by
  rw [hf1.bf (by simp) (fun h=>absurd (Wv.out _ (aaL.out _ h)) (Nat.lt_irrefl _)),cell_of_row _ _ _ _ _ (0,0) (heap_alloc_new w _)];rfl
 clear hj1 hf1;go_wp2_with fail;clear c2;go_loopw [12] (fun t wr=>∃ (i m':Nat) (s':σ),t=.int .i64 i/\i<=len/\m'+(ps.drop i).size=m+(ps.size+1)/\qy step s' (ps.drop i)=qy step (step s k n ps) ps/\J m' s' wr) (fun t _=>len-(intOf t).toNat)
 case atStart=>exact ⟨0,m+1,_,rfl,Nat.zero_le _,by rw [Fo.drop_zero];omega,by rw [Fo.drop_zero],HJ1.out⟩
 case round =>
  obtain ⟨i,m',s',rfl,hi,hm,hfo,hj⟩:=hrel;have HM:=hid hm;have HFO:=hid hfo;have HJJ:=hid hj;clear hm hfo hj
  by_cases hlt:i < len
  ·have hlt':(i:Int) < len:=by omega
   have HQ:=hid (HK.out.quiet _ _ _ HJJ.out);obtain ⟨b,off,k1,n1,qs,o1,len1,cap1,rfl,hd,hg,e0,e1,e2,hs1⟩:=(HS.out.stay HQ.out).nth hlt;obtain ⟨_,_,_,_,_,_,_,_,ho,hd',hg',_,_,f2,hs0⟩:=HS.out.nth hlt;rw [hg] at hg';cases hg';cases ho;have f2':=HQ.out.at f2;rw [e2] at f2';cases f2';have HC1:=hid (IH.out i k1 n1 qs hg m' s' _ o1 len1 cap1 (HK.out.alloc m' s' wr (.cells #[.int .i64 k1,.int .i64 n1,.slice o1 len1 cap1] 24) HJJ.out) hs0 (by
    have:=HM.out;rw [hd] at this;simp only [Fo.size] at this;omega) (nJ ps i k1 n1 qs YO.out hg).1 (nJ ps i k1 n1 qs YO.out hg).2)
   have EO:Hid (m'+(qs.size+1)+(ps.drop (i+1)).size=m+(ps.size+1)):=by
    have:=HM.out;rw [hd] at this;simp only [Fo.size] at this;show _=_;omega
   have acv:Hid (qy step (qy step (step s' k1 n1 qs) qs) (ps.drop (i+1))=qy step (step s k n ps) ps):=by
    show _=_
    rw [<-HFO.out,hd];rfl
   unfold dZ at HC1;clear hd hg hs1 hd' f2 hs0;go_wp2_with fail;refine HC1.out.mono ?_;rintro e w2 ⟨rfl,hj2⟩;have HJ2:=hid hj2;clear hj2;go_wp2_with fail;go_roundw
   case rel=>exact ⟨i+1,m'+(qs.size+1),_,by go_num,by omega,EO.out,acv.out,HJ2.out⟩
   case measure=>simp [intOf];omega
  ·have hlt':¬ (i:Int) < len:=by omega
   have HE:Hid (J (m+(ps.size+1)) (qy step (step s k n ps) ps) wr):=by
    have h1:=HM.out;have h2:=HFO.out;rw [Fo.drop_end ps i (by have:=HL.out;omega)] at h1 h2;simp only [Fo.size,Nat.add_zero,qy] at h1 h2
    show J _ _ _
    rw [<-h1,<-h2];exact HJJ.out
   go_wp2_with fail;go_end0;exact ⟨rfl,HE.out⟩
end
end
section
open Go.RowKit Go.Shelf
def gQ (w:World) (c:Nat) (v:Value) (t:TypeId):Prop:=w.heap[c]?=some (.cells #[v] t (0,0))
theorem gQ.alloc {w:World} {c:Nat} {v:Value} {t:TypeId} (h:gQ w c v t) (o:Obj):gQ (w.alloc o) c v t:=by
 unfold gQ at *;rw [Below.heap_alloc _ _ _ (lt_of_block h)];exact h
theorem gQ.new (w:World) (v:Value) (t:TypeId):gQ (w.alloc (.cells #[v] t)) w.heap.size v t:=heap_alloc_new w _
end
section
open Go.RowKit Go.Maps
def sQ (n:Int):Prop:=(Lit.int .i64 n).wf=true
theorem YP {n:Int} (h0:-9223372036854775808<=n) (h1:n<=9223372036854775807):sQ n:=WalkArith.wf_i64 (by omega)
theorem aaM:Keyed Tryz.prog 3:=int_keyed Tryz.underlying3
theorem zeroE (w:World):(zeroValue 3).run Tryz.prog w=.ok (.int .i64 0) w:=by kernel_rfl
def Wx (f:Fo):Prop:=Ip sQ f
def MapOf (w:World) (b n:Nat) (p:Int->Int):Prop :=
 ∃ D:DataW Unit,w.ownsMap Tryz.prog 3 (plainElem Tryz.prog 3) b n D/\IsMap D/\∀ v,sQ v->D.atKey (.int .i64 v) (.lit (.int .i64 0))=.lit (.int .i64 (p v))
theorem MapOf.made (w:World):MapOf (w.alloc (.map #[] 0)) w.heap.size 0 (fun _=>0) :=
 ⟨.map [],World.ownsMap_made _ _ _ _,⟨_,rfl⟩,fun _ _=>rfl⟩
theorem MapOf.lt {w:World} {b n:Nat} {p:Int->Int} (h:MapOf w b n p):b < w.heap.size:=by
 obtain ⟨D,h,_⟩:=h;exact h.lt
theorem MapOf.fr {w w':World} {b n:Nat} {p:Int->Int} {S:Nat->Prop} (h:MapOf w b n p) (hf:Fr S w w') (hb:¬ S b):MapOf w' b n p:=by
 have hlt:=h.lt;obtain ⟨D,⟨es,clock,hh,F,hs,hD⟩,hm,ha⟩:=h;exact ⟨D,⟨es,clock,(hf.block b hlt hb).trans hh,F,hs,hD⟩,hm,ha⟩
theorem MapOf.stay {w w':World} {b n:Nat} {p:Int->Int} (h:MapOf w b n p) (hq:ah w w'):MapOf w' b n p:=h.fr hq (fun h=>h)
theorem MapOf.aaN {w:World} {b n:Nat} {p q:Int->Int} (h:MapOf w b n p) (he:∀ v,sQ v->p v=q v):MapOf w b n q:=by
 obtain ⟨D,h1,h2,h3⟩:=h;exact ⟨D,h1,h2,fun v hv=>by rw [h3 v hv,he v hv]⟩
theorem MapOf.look {w:World} {b n:Nat} {p:Int->Int} (h:MapOf w b n p) {v:Int} (hv:sQ v):(Instr.lookup 124 (.map (some b)) (.int .i64 v) false).run Tryz.prog w=.ok (.int .i64 (p v)) w:=by
 obtain ⟨D,h1,h2,h3⟩:=h;obtain ⟨c,hr,hc,_⟩:=h1.lookup_int aaM Tryz.underlying124 Tryz.underlying3 (zeroE _) (keyOf_int_mk Tryz.underlying3 hv);rw [h3 v hv] at hc;injection hc with hc
 injection hc with _ hc
 rw [hc];exact hr
theorem Gf (w : World) {ops : Array Oper} {rest : List Oper} {o : Oper} {a : Act} {Q : Exit -> Act -> World -> Prop}
    (hg:o.guard=none) (m x y:Operand) (hop:o.op=Op.mapUpdate 124 m x y) {b n:Nat} {p:Int->Int} (hm:a.eval m=.map (some b)) (hown:MapOf w b n p) (hn:n < maxLen) (v u:Int) (hv:sQ v) (hu:sQ u) (hx:a.eval x=.int .i64 v) (hy:a.eval y=.int .i64 u)
    (hK:∀ w',MapOf w' b (n+1) (fun k=>if k=v then u else p k)->Fr (fun k=>k=b) w w'->wpList Tryz.prog ops Q rest (a.put o.dst undef) w'):wpList Tryz.prog ops Q (o::rest) a w:=by
 obtain ⟨D,h1,h2,h3⟩:=hown;refine wpList_mapUpdate_own w hg m x y 124 hop 3 3 aaM Tryz.underlying124 _ b n D hm h1 hn _ _ (.int .i64 v) hx hy (keyOf_int_mk Tryz.underlying3 hv) _ [] (plainElem_int Tryz.underlying3 hu) ?_;intro w' hown' hgr;refine hK w' ⟨_,hown',h2.put _ _,?_⟩ (Fr.grown hgr (fun k hk=>by cases hk;rfl));intro k hk
 by_cases he:k=v
 ·subst he;rw [atKey_put_same h2 (by trivial)];simp
 ·rw [atKey_put_other (by intro h;injection h with _ h;exact he h),h3 k hk];simp [he]
end
section
open Go.RowKit Go.Maps
theorem rC:Elem Tryz.prog 35 3 (.int .i64 0) 1 8 :=
 ⟨Tryz.underlying35,by kernel_rfl,by decide,by decide⟩
def dL (l:List Int) (k n:Int) (_:Fo):List Int:=if k == 1 && !inB l n then l++[n] else l
theorem yM:∀ (f:Fo) (l:List Int),qy dL l f=Fo.vars l f
 | .nil,l=>rfl
 | .cons k n ps r,l=>by
  show qy dL (qy dL (dL l k n ps) ps) r=_
  rw [yM ps,yM r];rfl
def xC (l:List Int) (v:Int):Int:=if inB l v then 1 else 0
def ints (l:List Int):List Value:=l.map (Value.int .i64)
def Iq (w0:World) (cs co bm:Nat) (m:Nat) (l:List Int) (W:World):Prop :=
 ∃ vo,gQ W cs (.map (some bm)) 124/\gQ W co vo 35/\MapOf W bm m (xC l)/\W.ownsRow 0 3 1 vo l.length (ints l)/\(∀ g,vo.ownBlock=some g->w0.heap.size<=g/\g≠cs/\g≠co/\g≠bm)/\l.length<=m/\ah w0 W
def Yl (co bm:Nat) (W:World) (k:Nat):Prop:=k=co∨k=bm∨∃ vo,gQ W co vo 35/\vo.ownBlock=some k
theorem gQ.inj {w:World} {c:Nat} {v u:Value} {t t':TypeId} (h:gQ w c v t) (h':gQ w c u t'):v=u:=by
 unfold gQ at *;rw [h] at h';injection h' with h'
 injection h' with h1 h2 h3
 have:=congrArg (fun a:Array Value=>a[0]?) h1;simpa using this
theorem gQ.back {w:World} {c:Nat} {v u:Value} {t t':TypeId} {o:Obj} (h:gQ w c v t) (h':gQ (w.alloc o) c u t'):gQ w c u t':=by
 have:=lt_of_block h;unfold gQ at *;rw [Below.heap_alloc _ _ _ this] at h';exact h'
theorem gQ.fr {w w':World} {c:Nat} {v:Value} {t:TypeId} {S:Nat->Prop} (h:gQ w c v t) (hf:Fr S w w') (hS:¬ S c):gQ w' c v t:=by
 have:=lt_of_block h;unfold gQ at *;rw [hf.block c this hS];exact h
theorem RH (l:List Int) (n v:Int):inB (l++[n]) v=(inB l v || v == n):=by
 unfold inB;rw [Bool.eq_iff_iff];simp
theorem OE (w0 : World) (cs co bm : Nat) (hcs : w0.heap.size <= cs) (hco : w0.heap.size <= co) (hbm : w0.heap.size <= bm) (h12 : cs ≠ co) (h13 : cs ≠ bm) (h23 : co ≠ bm) :
    Yj 73 #[.pointer (some ⟨cs,0,none⟩),.pointer (some ⟨co,0,none⟩)] 10000000 w0 sQ (Yl co bm) dL (Iq w0 cs co bm) where
 quiet:=fun m l W h=>by obtain ⟨vo,_,_,_,_,_,_,h⟩:=h;exact h
 alloc:=fun m l W o h=>by
  obtain ⟨vo,h1,h2,h3,h4,h5,h6,h7⟩:=h;exact ⟨vo,h1.alloc o,h2.alloc o,h3.stay (ah.alloc _ _),h4.alloc o,h5,h6,h7.trans (ah.alloc _ _)⟩
 low:=fun m l W h k hk=>by
  obtain ⟨vo,h1,h2,h3,h4,h5,h6,h7⟩:=h;rcases hk with rfl | rfl | ⟨vo',hb,hk⟩
  ·exact lt_of_block h2
  ·exact h3.lt
  ·have:=h2.inj hb;subst this;exact (h4.lt k hk).2
 back:=fun m l W o k h hk=>by
  obtain ⟨vo,h1,h2,h3,h4,h5,h6,h7⟩:=h;rcases hk with rfl | rfl | ⟨vo',hb,hk⟩
  ·exact .inl rfl
  ·exact .inr (.inl rfl)
  ·exact .inr (.inr ⟨vo',h2.back hb,hk⟩)
 call:=by
  intro m l k n ps W o len cap hm hJ hs hgn;have HJ:=hid hJ;obtain ⟨vo,h1,h2,h3,h4,h5,h6,h7⟩:=hJ;have HW:=hid hgn;have H1:=hid h1;have H2:=hid h2;have H3:=hid (h3.stay (ah.alloc W (.cells #[.int .i64 k,.int .i64 n,.slice o len cap] 24)));have H4:=hid h4;have H5:=hid h5;have H6:=hid h6;have H7:=hid h7;have hb1:=h1.alloc (.cells #[.int .i64 k,.int .i64 n,.slice o len cap] 24);have hb2:=h2.alloc (.cells #[.int .i64 k,.int .i64 n,.slice o len cap] 24);have c1:=cell_of_one hb1;have c2:=cell_of_one hb2;have z2:=free_of_one hb2;have hcl:=lt_of_block h1;have hol:=lt_of_block h2;have YQ:Hid (ah W (W.alloc (.cells #[.int .i64 k,.int .i64 n,.slice o len cap] 24))):=ah.alloc _ _;have Q5:Hid (dL l k n ps=l->∀ W',ah W W'->Iq w0 cs co bm (m+1) (dL l k n ps) W'/\Fr (Yl co bm W) W W'):=by
   intro e W' hq;rw [e];refine ⟨⟨vo,h1.fr hq (fun h=>h),h2.fr hq (fun h=>h),?_,aV h4 hq (fun _ _ h=>h),h5,by omega,h7.trans hq⟩,hq.mono (fun _ _ h=>h.elim)⟩;obtain ⟨D,hD,hM,hA⟩:=h3.stay hq;exact ⟨D,hD.mono (by omega),hM,hA⟩
  clear h1 h2 h3 h4 h5 h6 h7 hgn hs hb1 hb2;have hlk:=H3.out.look HW.out;unfold dZ;cases hk:(k == 1)
  ·go_enter Tryz.func73,Tryz.ntmps73;go_wp2_with fail;go_end0;exact ⟨rfl,Q5.out (by unfold dL;rw [hk];rfl) _ YQ.out⟩
  ·cases hin:inB l n
   ·have hsn:(xC l n == 0)=true:=by unfold xC;rw [hin];rfl
    have hsz:xC l n=0:=by unfold xC;rw [hin];rfl
    have HV:Hid (dL l k n ps=l++[n]):=by show _=_;unfold dL;rw [hk,hin];rfl
    clear hin;rw [hsz] at hlk;have hbm:=H3.out.lt;have adF:bm < W.heap.size:=by
     obtain ⟨vo',_,_,h3,_⟩:=HJ.out;exact h3.lt
    have hbx:=heap_alloc_new W (.cells #[.int .i64 k,.int .i64 n,.slice o len cap] 24);have sH:=hid hbx;clear hbx hsz hsn;go_enter Tryz.func73,Tryz.ntmps73;go_wp2_with (at_mapUpdate;go_must (refine Gf _ rfl _ _ _ rfl rfl H3.out ?hn n 1 HW.out (YP (by omega) (by omega)) rfl rfl ?_))
    case hn=>unfold maxLen;omega
    intro w1 hm1 hf1;have B1:=hid (gQ.fr (H1.out.alloc _) hf1 (fun h=>h13 h));have B2:=hid (gQ.fr (H2.out.alloc _) hf1 (fun h=>h23 h));have HB1:Hid (w1.heap[W.heap.size]?=some (.cells #[.int .i64 k,.int .i64 n,.slice o len cap] 24 (0,0))):=by
     show _=_
     rw [hf1.block W.heap.size (by simp) (fun h=>by have h':W.heap.size=bm:=h;omega)];exact sH.out
    have V4:=hid hm1;have vO:=hid hf1;have H41:Hid (w1.ownsRow 0 3 1 vo l.length (ints l)):=aV (H4.out.alloc _) hf1 (fun g hg h=>(H5.out g hg).2.2.2 h);obtain ⟨g0,g1,g2,_,_,_⟩:=ay HB1.out;have d2:=cell_of_one B2.out;clear c1 c2 z2 hlk hm1 hf1;go_wp2_with (at_builtin;go_must (refine aY w1 rfl (.tmp 19) (.tmp 22) 35 rfl 3 _ 1 8 rC vo l.length (ints l) rfl H41.out #[.int .i64 n] rfl rfl ?c1 ?c2 ?c3 ?_))
    case c1=>simp [Value.oneCell']
    case c2=>have:=H6.out;unfold maxLen;omega
    case c3=>have:=H6.out;omega
    intro gg c' w2 ho hf hgg;have hz1:W.heap.size+1<=w1.heap.size:=by have:=vO.out.size;simpa using this
    have C1:=hid (gQ.fr B1.out hf (fun h=>(H5.out _ h).2.1 rfl));have C2:=hid (gQ.fr B2.out hf (fun h=>(H5.out _ h).2.2.1 rfl));have CM:=hid (V4.out.fr hf (fun h=>(H5.out _ h).2.2.2 rfl));have e2:=cell_of_one C2.out;have y2:=free_of_one C2.out;have HOW:=hid ho;have YR:=hid hf;have HGG:Hid (w0.heap.size<=gg/\gg≠cs/\gg≠co/\gg≠bm):=by
     rcases hgg with h | h
     ·exact H5.out gg h
     ·have:=H7.out.size;exact ⟨by omega,by omega,by omega,by omega⟩
    clear g0 g1 g2 d2 ho hf hgg;go_wp2_with fail;go_end0;have hset:=Fr.setCell (fun j=>j=co) w2 ⟨co,0,none⟩ (.slice (some ⟨gg,0,none⟩) (l.length+1) c') rfl;refine ⟨rfl,?_,?_⟩
    ·rw [HV.out];refine ⟨.slice (some ⟨gg,0,none⟩) (l.length+1) c',C1.out.fr hset (fun h=>h12 h),one_setCell C2.out,(CM.out.fr hset (fun h=>h23 h.symm)).aaN ?_,?_,?_,by simp;have:=H6.out;omega,?_⟩
     ·intro v hv;unfold xC;rw [RH]
      by_cases he:v=n
      ·simp [he]
      ·simp [he]
     ·have hrow := ownsRow_setCell_other HOW.out ⟨co, 0, none⟩ (.slice (some ⟨gg, 0, none⟩) (l.length + 1) c') (by
        intro h;simp [Value.ownBlock] at h;exact HGG.out.2.2.1 h)
      simpa [ints] using hrow
     ·intro g hg;simp [Value.ownBlock] at hg;subst hg;exact HGG.out
     ·refine Fr.trans' (Fr.trans' (Fr.trans' (H7.out.trans YQ.out) vO.out (fun i hi h=>?_)) YR.out (fun i hi h=>?_)) hset (fun i hi h=>?_)
      ·have h':i=bm:=h;omega
      ·have:=(H5.out i h).1;omega
      ·have h':i=co:=h;omega
    ·refine Fr.trans' (Fr.trans' (Fr.trans' (YQ.out.mono (fun _ _ h=>h.elim)) vO.out (fun i hi h=>.inr (.inl h))) YR.out (fun i hi h=>.inr (.inr ⟨vo,H2.out,h⟩))) hset (fun i hi h=>.inl h)
   ·have hsn:(xC l n == 0)=false:=by unfold xC;rw [hin];rfl
    go_enter Tryz.func73,Tryz.ntmps73;go_wp2_with fail;go_end0;exact ⟨rfl,Q5.out (by unfold dL;rw [hk,hin];rfl) _ YQ.out⟩
end
section
open Go.RowKit Go.Maps
theorem At.lt {w:World}:∀ (f:Fo) (b off:Nat),At w b off f->AtIn (fun k=>k < w.heap.size) w b off f
 | .nil,_,_,_=>trivial
 | .cons k n ps r,b,off,h=>by
  obtain ⟨h1,h2,⟨o,len,cap,h3,h4,h4',h5⟩,h6⟩:=h;refine ⟨World.block_lt_of_cell? w _ h1,h1,h2,⟨o,len,cap,h3,h4,h4',fun hl=>?_⟩,At.lt r b (off+3) h6⟩;obtain ⟨b',off',ho,ha⟩:=h5 hl;exact ⟨b',off',ho,At.lt ps b' off' ha⟩
theorem kT.lt {w:World} {o:Option Addr} {len:Nat} {f:Fo} (h:kT w o len f):aB (fun k=>k < w.heap.size) w o len f:=by
 refine ⟨h.1,h.2.1,fun hl=>?_⟩;obtain ⟨b,off,ho,ha⟩:=h.2.2 hl;exact ⟨b,off,ho,At.lt f b off ha⟩
theorem Wy:∀ args w,(callFunc 73 args).run Tryz.prog w=.ok (.enter 73 args) w:=enters_of Tryz.func73 (by kernel_rfl) rfl
def Gg (B:Nat) (w:World) (vo:Value) (l:List Int):Prop:=w.ownsRow 0 3 1 vo l.length (ints l)/\∀ g,vo.ownBlock=some g->B<=g
theorem EP (k n:Int) (ps r:Fo) (l:List Int):Fo.vars l (.cons k n ps r)=Fo.vars (Fo.vars (dL l k n ps) ps) r:=rfl
theorem RI (f : Fo) (w : World) (o : Option Addr) (len cap : Nat) (hs : kT w o len f) (hw : Wx f) (hsz : f.size <= 1000000) :
    Calls Tryz.prog 45 #[.slice o len cap] w fun e w'=>∃ vo,e=.returned vo/\Gg w.heap.size w' vo (Fo.vars [] f)/\ah w w':=by
 have HS:=hid hs;have HL:=hid hs.1;have HWF:=hid hw;have hmx:=hs.2.1;unfold maxLen at hmx;have hmm:=@run_makeMap Tryz.prog;clear hs hw;go_enter Tryz.func45,Tryz.ntmps45;go_wp2_with fail;obtain ⟨W0,hW0⟩:∃ W0,W0=((w.alloc (.map #[] 0)).alloc (.cells #[.map (some w.heap.size)] 124)).alloc (.cells #[.slice none 0 0] 35):=⟨_,rfl⟩;change Code.wp _ _ _ _ (((w.alloc (.map #[] 0)).alloc (.cells #[.map (some w.heap.size)] 124)).alloc (.cells #[.slice none 0 0] 35));have HJ0:Hid (Iq w (w.heap.size+1) (w.heap.size+1+1) w.heap.size 0 [] W0):=by
  rw [hW0];refine ⟨.slice none 0 0,?_,?_,?_,World.ownsRow_nil _ _ _ _,(fun g hg=>by cases hg),Nat.le_refl _,(((ah.alloc _ _).trans (ah.alloc _ _)).trans (ah.alloc _ _))⟩
  ·refine gQ.alloc ?_ _;have:=gQ.new (w.alloc (.map #[] 0)) (.map (some w.heap.size)) 124;rw [show (w.alloc (.map #[] 0)).heap.size=w.heap.size+1 from by simp] at this;exact this
  ·have:=gQ.new ((w.alloc (.map #[] 0)).alloc (.cells #[.map (some w.heap.size)] 124)) (.slice none 0 0) 35;rw [show ((w.alloc (.map #[] 0)).alloc (.cells #[.map (some w.heap.size)] 124)).heap.size=w.heap.size+1+1 from by simp] at this;exact this
  ·exact ((MapOf.made w).stay ((ah.alloc _ _).trans (ah.alloc _ _))).aaN (fun v _=>by simp [xC,inB])
 have HE:=hid (RG Wy (OE w (w.heap.size+1) (w.heap.size+1+1) w.heap.size (by omega) (by omega) (by omega) (by omega) (by omega) (by omega)));rw [<-hW0];clear hW0;generalize hB:w.heap.size=B at *;go_loopw [10] (fun t wr=>∃ (i m:Nat) (l:List Int),t=.int .i64 i/\i<=len/\m+(f.drop i).size=f.size/\Fo.vars l (f.drop i)=Fo.vars [] f/\Iq w (B+1) (B+1+1) B m l wr) (fun t _=>len-(intOf t).toNat)
 case atStart=>exact ⟨0,0,[],rfl,Nat.zero_le _,by rw [Fo.drop_zero];omega,by rw [Fo.drop_zero],HJ0.out⟩
 case round =>
  obtain ⟨i,m,l,rfl,hi,hm,hv,hj⟩:=hrel;have HM:=hid hm;have HV:=hid hv;have HJ:=hid hj;have hqq:ah w wr:=by obtain ⟨_,_,_,_,_,_,_,h⟩:=hj;exact h
  have HQ:=hid hqq;clear hm hv hj hqq
  by_cases hlt:i < len
  ·have hlt':(i:Int) < len:=by omega
   obtain ⟨b,off,k1,n1,qs,o1,len1,cap1,rfl,hd,hg,e0,e1,e2,hs1⟩:=(HS.out.stay HQ.out).nth hlt;obtain ⟨_,_,_,_,_,_,_,_,ho,hd',hg',_,_,f2,hs0⟩:=HS.out.nth hlt;rw [hg] at hg';cases hg';cases ho;have f2':=HQ.out.at f2;rw [e2] at f2';cases f2';have hjb:Iq w (B+1) (B+1+1) B m l (wr.alloc (.cells #[.int .i64 k1,.int .i64 n1,.slice o1 len1 cap1] 24)):=by
    obtain ⟨vo,h1,h2,h3,h4,h5,h6,h7⟩:=HJ.out;exact ⟨vo,h1.alloc _,h2.alloc _,h3.stay (ah.alloc _ _),h4.alloc _,h5,h6,h7.trans (ah.alloc _ _)⟩
   have hgn:=nJ f i k1 n1 qs HWF.out hg;have HC:=hid (HE.out k1 n1 qs m l _ o1 len1 cap1 hjb hs0 (by
    have:=HM.out;rw [hd] at this;simp only [Fo.size] at this;omega) hgn.1 hgn.2)
   have EO:Hid (m+(qs.size+1)+(f.drop (i+1)).size=f.size):=by
    have:=HM.out;rw [hd] at this;simp only [Fo.size] at this;show _=_;omega
   have RJ:Hid (Fo.vars (qy dL (dL l k1 n1 qs) qs) (f.drop (i+1))=Fo.vars [] f):=by
    show _=_
    rw [<-HV.out,hd,yM,EP]
   unfold dZ at HC;clear hd hg hs1 hd' f2 hs0 hjb hgn;go_wp2_with fail;refine HC.out.mono ?_;rintro e w2 ⟨rfl,hj2⟩;have HJ2:=hid hj2;clear hj2;go_wp2_with fail;go_roundw
   case rel=>exact ⟨i+1,_,_,by go_num,by omega,EO.out,RJ.out,HJ2.out⟩
   case measure=>simp [intOf];omega
  ·have hlt':¬ (i:Int) < len:=by omega
   have hfin:Fo.vars [] f=l:=by
    have:=HV.out;rw [Fo.drop_end f i (by have:=HL.out;omega)] at this;exact this.symm
   have bH:=hid hfin;obtain ⟨vo,h1,h2,h3,h4,h5,h6,h7⟩:=HJ.out;have c2:=cell_of_one h2;have H4:=hid h4;have H5:=hid h5;have H7:=hid h7;clear h1 h2 h3 h4 h5 h6 h7 hfin;go_wp2_with fail;go_ret;refine ⟨vo,rfl,?_,H7.out⟩;rw [bH.out];exact ⟨H4.out,fun g hg=>by have:=(H5.out g hg).1;omega⟩
end
section
open Go.RowKit Go.Maps
theorem sU:∀ (f:Fo) (l:List Int),(Fo.vars l f).length<=l.length+f.size
 | .nil,l=>by simp [Fo.vars,Fo.size]
 | .cons k n ps r,l=>by
  rw [EP];have h1:=sU r (Fo.vars (dL l k n ps) ps);have h2:=sU ps (dL l k n ps);have h3:(dL l k n ps).length<=l.length+1:=by unfold dL;split<;>simp
  simp only [Fo.size];omega
theorem Gg.at {B:Nat} {w:World} {vo:Value} {l:List Int} (h:Gg B w vo l):∃ a c,vo=.slice a l.length c/\l.length<=c/\(∀ g,(Value.slice a l.length c).ownBlock=some g->B<=g)/\w.ownsRow 0 3 1 (.slice a l.length c) l.length (ints l):=by
 obtain ⟨h1,h2⟩:=h;have h1':=h1;rcases h1.2 with ⟨rfl,h0⟩ | ⟨g,cap,cur,rfl,_,_,hc,_⟩
 ·exact ⟨none,0,by rw [h0],by omega,by rw [h0];exact h2,by rw [h0];rw [h0] at h1';exact h1'⟩
 ·exact ⟨some ⟨g,0,none⟩,cap,rfl,by omega,h2,h1'⟩
theorem WA {w:World} {a:Option Addr} {n c:Nat} {l:List Int} (h:w.ownsRow 0 3 1 (.slice a n c) l.length (ints l)) {i:Nat} {x:Int} (hx:l[i]?=some x):∃ g,a=some ⟨g,0,none⟩/\w.cell? ⟨g,i,none⟩=some (.int .i64 x):=by
 rcases h.2 with ⟨he,h0⟩ | ⟨g,cap,cur,he,_⟩
 ·rw [List.length_eq_zero_iff.1 h0] at hx;simp at hx
 ·injection he with h1 h2 h3
  subst h1;have:=h.cells (g:=g) rfl i (.int .i64 x) (by unfold ints;rw [List.getElem?_map,hx];rfl);exact ⟨g,rfl,by simpa [Addr.add_lit] using this⟩
end
section
open Go.RowKit Go.Maps
def vP (w:World) (v:Value) (l:List Int):Prop:=∃ a c,v=.slice a l.length c/\oW w a l
theorem vP.stay {w w':World} {v:Value} {l:List Int} (h:vP w v l) (hq:ah w w'):vP w' v l:=by
 obtain ⟨a,c,rfl,h⟩:=h;exact ⟨a,c,rfl,h.stay hq⟩
theorem KE {w:World} {v:Value} {l:List Int} (h:w.ownsRow 0 3 1 v l.length (ints l)):vP w v l:=by
 obtain ⟨a,c,rfl,_,_,h'⟩:=Gg.at (B:=0) ⟨h,fun _ _=>Nat.zero_le _⟩;refine ⟨a,c,rfl,fun i x hx=>?_⟩;obtain ⟨g,rfl,hc⟩:=WA h' hx;exact ⟨g,0,rfl,by simpa using hc⟩
theorem gY {w:World} {b:Nat} (h:w.heap[b]?=some (.cells #[] 3 (0,0))):w.ownsRow 0 3 1 (.slice (some ⟨b,0,none⟩) 0 0) ([]:List Int).length (ints []):=by
 refine ⟨rfl,.inr ⟨b,0,#[],rfl,Nat.zero_le _,h,Nat.le_refl _,Nat.zero_le _,rfl,rfl⟩⟩
theorem run_append_nothing (w : World) (ty : TypeId) (v : Value) (n : Nat) (xs : List Value) (hown : w.ownsRow 0 3 1 v n xs) (hv : v ≠ .slice none 0 0) (o : Option Addr) (c : Nat) :
    (Builtin.append_ #[35,35] ty #[v,.slice o 0 c]).run Tryz.prog w=.ok v w:=by
 rcases hown.2 with ⟨rfl,_⟩ | ⟨g,cap,cur,rfl,_,hg,hc,hm,hs,_⟩
 ·exact absurd rfl hv
 ·obtain ⟨i0,hi,hz0,hz1,hz2⟩:=info_parts rC.info;have hu:=rC.under;cases o<;>simp [Builtin.append_,run_underlying hu,sizeOf,typeInfo,hi,Builtin.lenOf,Builtin.firstCells,loadCells,loadCellsFrom,storeCells,hc]
end
section
open Go.RowKit Go.Maps
theorem RP:∀ args w,(callFunc 128 args).run Tryz.prog w=.ok (.enter 128 args) w:=enters_of Tryz.func128 (by kernel_rfl) rfl
end
section
open Go.ChangeShapes Go.WideShapes Go.ChangeAt Go.RowKit
theorem ER {w:World} {a:Addr} {v:Value} (h:w.cell? (a.add 0)=some v):∃ b off,a=⟨b,off,none⟩:=by
 obtain ⟨b,off,s⟩:=a;cases s with
 | none=>exact ⟨b,off,rfl⟩
 | some s =>
  unfold World.cell? Addr.add at h;simp only [if_true] at h
  split at h<;>simp_all
section
variable {H:Type} {enc:TypeId × Value->H} {P:Program} {w:World} {base:Nat} {spare:Nat->Bool} {held:Bool}
theorem zT {b off len : Nat} (one : ∀ i, i < len -> ∃ k n o l c ps, w.cell? ⟨b, off + i * 3, none⟩ = some (.int .i64 k) /\ w.cell? ⟨b, off + i * 3 + 1, none⟩ = some (.int .i64 n) /\ w.cell? ⟨b, off + i * 3 + 2, none⟩ = some (.slice o l c) /\ kT w o l ps /\ sQ n /\ Wx ps) :
    ∀ m s,s+m=len->∃ f:Fo,f.length=m/\At w b (off+s*3) f/\Wx f
 | 0,s,_=>⟨.nil,rfl,trivial,trivial⟩
 | m+1,s,h=>by
  obtain ⟨k,n,o,l,c,ps,h1,h2,h3,hs,hw,hwp⟩:=one s (by omega);obtain ⟨r,hr,ha,hwr⟩:=zT one m (s+1) (by omega);refine ⟨.cons k n ps r,by simp [Fo.length,hr],⟨h1,h2,⟨o,l,c,h3,hs.1,hs.2.1,hs.2.2⟩,?_⟩,hw,hwp,hwr⟩;rw [show off+s*3+3=off+(s+1)*3 from by omega];exact ha
theorem KF {te : TypeId} {f0 f1 f2 : Field} (he : P.underlying te = some (.struct #[f0, f1, f2])) (ce : P.cellsOf te = 3)
    (o0:f0.offset=0) (o1:f1.offset=1) (o2:f2.offset=2) (c0:P.cellsOf f0.type=1) (c1:P.cellsOf f1.type=1) (c2:P.cellsOf f2.type=1) (k0:P.underlying f0.type=some (.int .i64)) (k1:P.underlying f1.type=some (.int .i64)) (k2:P.underlying f2.type=some (.slice te)) :
    ∀ (fuel:Nat) (ts:TypeId) (cs:List Value) (x:DataW H × List MemPlace),P.underlying ts=some (.slice te)->DataW.trod enc P w base spare held fuel ts cs=some x->∃ o len cap f,cs=[.slice o len cap]/\kT w o len f/\Wx f:=by
 intro fuel
 induction fuel using Nat.strongRecOn with
 | _ fuel ih =>
 intro ts cs x hts h;rcases DataW.trod_slice hts h with ⟨rfl,_⟩ | ⟨a,len,cap,elems,rest,n,hfu,rfl,_,_,hl,hm,hlen,hel,_⟩
 ·exact ⟨_,_,_,.nil,rfl,kT.nil _ _,trivial⟩
 ·have one : ∀ i, i < len -> ∃ k n o l c ps, w.cell? (a.add (i * 3)) = some (.int .i64 k) /\ w.cell? (a.add (i * 3 + 1)) = some (.int .i64 n) /\ w.cell? (a.add (i * 3 + 2)) = some (.slice o l c) /\ kT w o l ps /\ sQ n /\ Wx ps := by
    intro i hi;have h1:=hel i hi;rw [List.getElem?_eq_getElem (by omega)] at h1;obtain ⟨cs',h2,h3⟩:=Option.bind_eq_some_iff.1 h1;rw [ce] at h2;obtain ⟨_,hcl,hcell⟩:=World.cells?_some h2;obtain ⟨xs,n',hn',_,_,hxl,hfx⟩:=DataW.trod_struct he h3
    match cs',hcl with
    | [u0,u1,u2],_ =>
     have KG:xs.length=3:=by simpa using hxl
     have s0:=hfx 0 f0 rfl;have s1:=hfx 1 f1 rfl;have s2:=hfx 2 f2 rfl;rw [c0,o0,show xs[0]?=some (xs[0]'(by omega)) from by simp [KG]] at s0;rw [c1,o1,show xs[1]?=some (xs[1]'(by omega)) from by simp [KG]] at s1;rw [c2,o2,show xs[2]?=some (xs[2]'(by omega)) from by simp [KG]] at s2;obtain ⟨z0,hz0,_,hw0⟩:=DataW.trod_int k0 s0;obtain ⟨z1,hz1,_,hw1⟩:=DataW.trod_int k1 s1;obtain ⟨o,l,c,ps,hz2,hps,hwp⟩:=ih n' (by omega) f2.type _ _ k2 s2;simp at hz0 hz1 hz2;have e1:=hcell 1 (by omega);have e2:=hcell 2 (by omega);simp [Deep.add_add] at e1 e2;refine ⟨z0,z1,o,l,c,ps,?_,?_,?_,hps,hw1,hwp⟩
     ·have:(a.add (i*3)).add 0=a.add (i*3):=by rw [Deep.add_add];rfl
      rw [<-this,hcell 0 (by omega)];simp [hz0]
     ·rw [e1,hz1]
     ·rw [e2,hz2]
  by_cases h0:len=0
  ·subst h0;exact ⟨_,_,_,.nil,rfl,kT.nil _ _,trivial⟩
  ·obtain ⟨k,n,o,l,c,ps,h1,_⟩:=one 0 (by omega);rw [Nat.zero_mul] at h1;obtain ⟨b,off,rfl⟩:=ER h1;obtain ⟨f,hf,hA,hwf⟩:=zT (b:=b) (off:=off) (len:=len) (w:=w) (fun i hi=>by
    obtain ⟨k,n,o,l,c,ps,h1,h2,h3,h4⟩:=one i hi;exact ⟨k,n,o,l,c,ps,by simpa [Addr.add_lit] using h1,by simpa [Addr.add_lit,Nat.add_assoc] using h2,by simpa [Addr.add_lit,Nat.add_assoc] using h3,h4⟩) len 0 (by omega)
   rw [Nat.zero_mul,Nat.add_zero] at hA;exact ⟨_,_,_,f,rfl,⟨hf.symm,by omega,fun _=>⟨b,off,rfl,hA⟩⟩,hwf⟩
theorem RQ {te : TypeId} {f0 f1 f2 : Field} (he : P.underlying te = some (.struct #[f0, f1, f2])) (ce : P.cellsOf te = 3)
    (o0:f0.offset=0) (o1:f1.offset=1) (o2:f2.offset=2) (c0:P.cellsOf f0.type=1) (c1:P.cellsOf f1.type=1) (c2:P.cellsOf f2.type=1) (k0:P.underlying f0.type=some (.int .i64)) (k1:P.underlying f1.type=some (.int .i64)) (k2:P.underlying f2.type=some (.slice te))
    {fuel:Nat} {cs:List Value} {x:DataW H × List MemPlace} (h:DataW.trod enc P w base spare held fuel te cs=some x):∃ k n o len cap f,cs=[.int .i64 k,.int .i64 n,.slice o len cap]/\kT w o len f/\sQ n/\Wx f:=by
 obtain ⟨xs,n',hn',_,hcl,hxl,hfx⟩:=DataW.trod_struct he h;rw [ce] at hcl
 match cs,hcl with
 | [u0,u1,u2],_ =>
  have KG:xs.length=3:=by simpa using hxl
  have s0:=hfx 0 f0 rfl;have s1:=hfx 1 f1 rfl;have s2:=hfx 2 f2 rfl;rw [c0,o0,show xs[0]?=some (xs[0]'(by omega)) from by simp [KG]] at s0;rw [c1,o1,show xs[1]?=some (xs[1]'(by omega)) from by simp [KG]] at s1;rw [c2,o2,show xs[2]?=some (xs[2]'(by omega)) from by simp [KG]] at s2;obtain ⟨z0,hz0,_,hw0⟩:=DataW.trod_int k0 s0;obtain ⟨z1,hz1,_,hw1⟩:=DataW.trod_int k1 s1;obtain ⟨o,l,c,ps,hz2,hps,hwp⟩:=KF he ce o0 o1 o2 c0 c1 c2 k0 k1 k2 n' f2.type _ _ k2 s2;simp at hz0 hz1 hz2;exact ⟨z0,z1,o,l,c,ps,by rw [hz0,hz1,hz2],hps,hw1,hwp⟩
end
section
variable {H:Type} {enc:TypeId × Value->H} {w:World} {base:Nat} {spare:Nat->Bool} {held:Bool}
end
end
end Go.Proofs.YtcninopmelmajaaGreatDoor
