/-
  Texts laid together (TyVars, TyVars2, TyCanon, TyRefVars0, TyShift, TeMem, TeAll, TeOpen, TeLaid): laws and walks, with their conditions.
-/
import Derived.Deep.DeepCutAuto
import Derived.Shelf.RegionOpen
import Derived.OwnWalkIn
import Derived.TacticsInMore
import Derived.LoopNIn
import Derived.LoopIn
import Derived.Sort.CutIn
import Derived.Laws.EntriesVeiled
import Derived.Deep.Slices
import Derived.LaidMore
import Derived.Stop.Joined
import Derived.LaidLaws
import Derived.Lib.LaidTab
import Derived.Stop.LaidErr
import Derived.Test.YtcninopmelmajaaDoorTX9
set_option maxHeartbeats 8000000
set_option maxRecDepth 1000000
namespace Go.Proofs.YtcninopmelmajaaDoor
open Go.Lib (hid)
section
open Go.RowKit Go.Maps
theorem GH:Elem Tryd.prog 59 3 (.int .i64 0) 1 8 :=
 ⟨Tryd.underlying59,by kernel_rfl,by decide,by decide⟩
def je (l:List Int) (k n:Int) (_:Fo):List Int:=if k == 1 && !inB l n then l++[n] else l
theorem yO:∀ (f:Fo) (l:List Int),qg je l f=Fo.vars l f
 | .nil,l=>rfl
 | .cons k n ps r,l=>by
  show qg je (qg je (je l k n ps) ps) r=_
  rw [yO ps,yO r];rfl
def xB (l:List Int) (v:Int):Int:=if inB l v then 1 else 0
def ints (l:List Int):List Value:=l.map (Value.int .i64)
def IZ (w0:World) (cs co bm:Nat) (m:Nat) (l:List Int) (W:World):Prop :=
 ∃ vo,fQ W cs (.map (some bm)) 125/\fQ W co vo 59/\MapOf W bm m (xB l)/\W.ownsRow 0 3 1 vo l.length (ints l)/\(∀ g,vo.ownBlock=some g->w0.heap.size<=g/\g≠cs/\g≠co/\g≠bm)/\l.length<=m/\ah w0 W
def YC (co bm:Nat) (W:World) (k:Nat):Prop:=k=co∨k=bm∨∃ vo,fQ W co vo 59/\vo.ownBlock=some k
theorem fQ.inj {w:World} {c:Nat} {v u:Value} {t t':TypeId} (h:fQ w c v t) (h':fQ w c u t'):v=u:=by
 unfold fQ at *;rw [h] at h';injection h' with h'
 injection h' with h1 h2 h3
 have:=congrArg (fun a:Array Value=>a[0]?) h1;simpa using this
theorem fQ.back {w:World} {c:Nat} {v u:Value} {t t':TypeId} {o:Obj} (h:fQ w c v t) (h':fQ (w.alloc o) c u t'):fQ w c u t':=by
 have:=lt_of_block h;unfold fQ at *;rw [Below.heap_alloc _ _ _ this] at h';exact h'
theorem fQ.fr {w w':World} {c:Nat} {v:Value} {t:TypeId} {S:Nat->Prop} (h:fQ w c v t) (hf:Fr S w w') (hS:¬ S c):fQ w' c v t:=by
 have:=lt_of_block h;unfold fQ at *;rw [hf.block c this hS];exact h
theorem RY (l:List Int) (n v:Int):inB (l++[n]) v=(inB l v || v == n):=by
 unfold inB;rw [Bool.eq_iff_iff];simp
theorem OV (w0 : World) (cs co bm : Nat) (hcs : w0.heap.size <= cs) (hco : w0.heap.size <= co) (hbm : w0.heap.size <= bm) (h12 : cs ≠ co) (h13 : cs ≠ bm) (h23 : co ≠ bm) :
    YD 90 #[.pointer (some ⟨cs,0,none⟩),.pointer (some ⟨co,0,none⟩)] 10000000 w0 OW (YC co bm) je (IZ w0 cs co bm) where
 quiet:=fun m l W h=>by obtain ⟨vo,_,_,_,_,_,_,h⟩:=h;exact h
 alloc:=fun m l W o h=>by
  obtain ⟨vo,h1,h2,h3,h4,h5,h6,h7⟩:=h;exact ⟨vo,h1.alloc o,h2.alloc o,h3.stay (ah.alloc _ _),h4.alloc o,h5,h6,h7.trans (ah.alloc _ _)⟩
 low:=fun m l W h k hk=>by
  obtain ⟨vo,h1,h2,h3,h4,h5,h6,h7⟩:=h;rcases hk with rfl | rfl | ⟨vo',hb,hk⟩
  ·exact lt_of_block h2
  ·exact h3.lt
  ·have:=h2.inj hb;subst this;exact (h4.lt k hk).2
 back:=fun m l W o k h hk=>by
  obtain ⟨vo,h1,h2,h3,h4,h5,h6,h7⟩:=h;rcases hk with rfl | rfl | ⟨vo',hb,hk⟩
  ·exact .inl rfl
  ·exact .inr (.inl rfl)
  ·exact .inr (.inr ⟨vo',h2.back hb,hk⟩)
 call:=by
  intro m l k n ps W o len cap hm hJ hs hgn;have HJ:=hid hJ;obtain ⟨vo,h1,h2,h3,h4,h5,h6,h7⟩:=hJ;have HW:=hid hgn;have H1:=hid h1;have H2:=hid h2;have H3:=hid (h3.stay (ah.alloc W (.cells #[.int .i64 k,.int .i64 n,.slice o len cap] 25)));have H4:=hid h4;have H5:=hid h5;have H6:=hid h6;have H7:=hid h7;have hb1:=h1.alloc (.cells #[.int .i64 k,.int .i64 n,.slice o len cap] 25);have hb2:=h2.alloc (.cells #[.int .i64 k,.int .i64 n,.slice o len cap] 25);have c1:=cell_of_one hb1;have c2:=cell_of_one hb2;have z2:=free_of_one hb2;have hcl:=lt_of_block h1;have hol:=lt_of_block h2;have Zc:Hid (ah W (W.alloc (.cells #[.int .i64 k,.int .i64 n,.slice o len cap] 25))):=ah.alloc _ _;have Rt:Hid (je l k n ps=l->∀ W',ah W W'->IZ w0 cs co bm (m+1) (je l k n ps) W'/\Fr (YC co bm W) W W'):=by
   intro e W' hq;rw [e];refine ⟨⟨vo,h1.fr hq (fun h=>h),h2.fr hq (fun h=>h),?_,aU h4 hq (fun _ _ h=>h),h5,by omega,h7.trans hq⟩,hq.mono (fun _ _ h=>h.elim)⟩;obtain ⟨D,hD,hM,hA⟩:=h3.stay hq;exact ⟨D,hD.mono (by omega),hM,hA⟩
  clear h1 h2 h3 h4 h5 h6 h7 hgn hs hb1 hb2;have hlk:=H3.out.look HW.out;unfold fG;cases hk:(k == 1)
  ·go_enter Tryd.func90,Tryd.ntmps90;go_wp2_with fail;go_end0;exact ⟨rfl,Rt.out (by unfold je;rw [hk];rfl) _ Zc.out⟩
  ·cases hin:inB l n
   ·have hsn:(xB l n == 0)=true:=by unfold xB;rw [hin];rfl
    have hsz:xB l n=0:=by unfold xB;rw [hin];rfl
    have HV:Hid (je l k n ps=l++[n]):=by show _=_;unfold je;rw [hk,hin];rfl
    clear hin;rw [hsz] at hlk;have hbm:=H3.out.lt;have adL:bm < W.heap.size:=by
     obtain ⟨vo',_,_,h3,_⟩:=HJ.out;exact h3.lt
    have hbx:=heap_alloc_new W (.cells #[.int .i64 k,.int .i64 n,.slice o len cap] 25);have sK:=hid hbx;clear hbx hsz hsn;go_enter Tryd.func90,Tryd.ntmps90;go_wp2_with (at_mapUpdate;go_must (refine GI _ rfl _ _ _ rfl rfl H3.out ?hn n 1 HW.out (GK (by omega) (by omega)) rfl rfl ?_))
    case hn=>unfold maxLen;omega
    intro w1 hm1 hf1;have B1:=hid (fQ.fr (H1.out.alloc _) hf1 (fun h=>h13 h));have B2:=hid (fQ.fr (H2.out.alloc _) hf1 (fun h=>h23 h));have HB1:Hid (w1.heap[W.heap.size]?=some (.cells #[.int .i64 k,.int .i64 n,.slice o len cap] 25 (0,0))):=by
     show _=_
     rw [hf1.block W.heap.size (by simp) (fun h=>by have h':W.heap.size=bm:=h;omega)];exact sK.out
    have Wx:=hid hm1;have vO:=hid hf1;have H41:Hid (w1.ownsRow 0 3 1 vo l.length (ints l)):=aU (H4.out.alloc _) hf1 (fun g hg h=>(H5.out g hg).2.2.2 h);obtain ⟨g0,g1,g2,_,_,_⟩:=ay HB1.out;have d2:=cell_of_one B2.out;clear c1 c2 z2 hlk hm1 hf1;go_wp2_with (at_builtin;go_must (refine aX w1 rfl (.tmp 19) (.tmp 22) 59 rfl 3 _ 1 8 GH vo l.length (ints l) rfl H41.out #[.int .i64 n] rfl rfl ?c1 ?c2 ?c3 ?_))
    case c1=>simp [Value.oneCell']
    case c2=>have:=H6.out;unfold maxLen;omega
    case c3=>have:=H6.out;omega
    intro gg c' w2 ho hf hgg;have hz1:W.heap.size+1<=w1.heap.size:=by have:=vO.out.size;simpa using this
    have C1:=hid (fQ.fr B1.out hf (fun h=>(H5.out _ h).2.1 rfl));have C2:=hid (fQ.fr B2.out hf (fun h=>(H5.out _ h).2.2.1 rfl));have CM:=hid (Wx.out.fr hf (fun h=>(H5.out _ h).2.2.2 rfl));have e2:=cell_of_one C2.out;have y2:=free_of_one C2.out;have HOW:=hid ho;have Zd:=hid hf;have HGG:Hid (w0.heap.size<=gg/\gg≠cs/\gg≠co/\gg≠bm):=by
     rcases hgg with h | h
     ·exact H5.out gg h
     ·have:=H7.out.size;exact ⟨by omega,by omega,by omega,by omega⟩
    clear g0 g1 g2 d2 ho hf hgg;go_wp2_with fail;go_end0;have hset:=Fr.setCell (fun j=>j=co) w2 ⟨co,0,none⟩ (.slice (some ⟨gg,0,none⟩) (l.length+1) c') rfl;refine ⟨rfl,?_,?_⟩
    ·rw [HV.out];refine ⟨.slice (some ⟨gg,0,none⟩) (l.length+1) c',C1.out.fr hset (fun h=>h12 h),one_setCell C2.out,(CM.out.fr hset (fun h=>h23 h.symm)).aaV ?_,?_,?_,by simp;have:=H6.out;omega,?_⟩
     ·intro v hv;unfold xB;rw [RY]
      by_cases he:v=n
      ·simp [he]
      ·simp [he]
     ·have hrow := ownsRow_setCell_other HOW.out ⟨co, 0, none⟩ (.slice (some ⟨gg, 0, none⟩) (l.length + 1) c') (by
        intro h;simp [Value.ownBlock] at h;exact HGG.out.2.2.1 h)
      simpa [ints] using hrow
     ·intro g hg;simp [Value.ownBlock] at hg;subst hg;exact HGG.out
     ·refine Fr.trans' (Fr.trans' (Fr.trans' (H7.out.trans Zc.out) vO.out (fun i hi h=>?_)) Zd.out (fun i hi h=>?_)) hset (fun i hi h=>?_)
      ·have h':i=bm:=h;omega
      ·have:=(H5.out i h).1;omega
      ·have h':i=co:=h;omega
    ·refine Fr.trans' (Fr.trans' (Fr.trans' (Zc.out.mono (fun _ _ h=>h.elim)) vO.out (fun i hi h=>.inr (.inl h))) Zd.out (fun i hi h=>.inr (.inr ⟨vo,H2.out,h⟩))) hset (fun i hi h=>.inl h)
   ·have hsn:(xB l n == 0)=false:=by unfold xB;rw [hin];rfl
    go_enter Tryd.func90,Tryd.ntmps90;go_wp2_with fail;go_end0;exact ⟨rfl,Rt.out (by unfold je;rw [hk,hin];rfl) _ Zc.out⟩
end
section
open Go.RowKit Go.Maps
theorem At.lt {w:World}:∀ (f:Fo) (b off:Nat),At w b off f->AtIn (fun k=>k < w.heap.size) w b off f
 | .nil,_,_,_=>trivial
 | .cons k n ps r,b,off,h=>by
  obtain ⟨h1,h2,⟨o,len,cap,h3,h4,h4',h5⟩,h6⟩:=h;refine ⟨World.block_lt_of_cell? w _ h1,h1,h2,⟨o,len,cap,h3,h4,h4',fun hl=>?_⟩,At.lt r b (off+3) h6⟩;obtain ⟨b',off',ho,ha⟩:=h5 hl;exact ⟨b',off',ho,At.lt ps b' off' ha⟩
theorem nJ.lt {w:World} {o:Option Addr} {len:Nat} {f:Fo} (h:nJ w o len f):aB (fun k=>k < w.heap.size) w o len f:=by
 refine ⟨h.1,h.2.1,fun hl=>?_⟩;obtain ⟨b,off,ho,ha⟩:=h.2.2 hl;exact ⟨b,off,ho,At.lt f b off ha⟩
theorem WU:∀ args w,(callFunc 90 args).run Tryd.prog w=.ok (.enter 90 args) w:=enters_of Tryd.func90 (by kernel_rfl) rfl
def Ld (B:Nat) (w:World) (vo:Value) (l:List Int):Prop:=w.ownsRow 0 3 1 vo l.length (ints l)/\∀ g,vo.ownBlock=some g->B<=g
theorem OX (k n:Int) (ps r:Fo) (l:List Int):Fo.vars l (.cons k n ps r)=Fo.vars (Fo.vars (je l k n ps) ps) r:=rfl
theorem RZ (f : Fo) (w : World) (o : Option Addr) (len cap : Nat) (hs : nJ w o len f) (hw : wfF f) (hsz : f.size <= 1000000) :
    Calls Tryd.prog 74 #[.slice o len cap] w fun e w'=>∃ vo,e=.returned vo/\Ld w.heap.size w' vo (Fo.vars [] f)/\ah w w':=by
 have HS:=hid hs;have HL:=hid hs.1;have HWF:=hid hw;have hmx:=hs.2.1;unfold maxLen at hmx;have hmm:=@run_makeMap Tryd.prog;clear hs hw;go_enter Tryd.func74,Tryd.ntmps74;go_wp2_with fail;obtain ⟨W0,hW0⟩:∃ W0,W0=((w.alloc (.map #[] 0)).alloc (.cells #[.map (some w.heap.size)] 125)).alloc (.cells #[.slice none 0 0] 59):=⟨_,rfl⟩;change Code.wp _ _ _ _ (((w.alloc (.map #[] 0)).alloc (.cells #[.map (some w.heap.size)] 125)).alloc (.cells #[.slice none 0 0] 59));have HJ0:Hid (IZ w (w.heap.size+1) (w.heap.size+1+1) w.heap.size 0 [] W0):=by
  rw [hW0];refine ⟨.slice none 0 0,?_,?_,?_,World.ownsRow_nil _ _ _ _,(fun g hg=>by cases hg),Nat.le_refl _,(((ah.alloc _ _).trans (ah.alloc _ _)).trans (ah.alloc _ _))⟩
  ·refine fQ.alloc ?_ _;have:=fQ.new (w.alloc (.map #[] 0)) (.map (some w.heap.size)) 125;rw [show (w.alloc (.map #[] 0)).heap.size=w.heap.size+1 from by simp] at this;exact this
  ·have:=fQ.new ((w.alloc (.map #[] 0)).alloc (.cells #[.map (some w.heap.size)] 125)) (.slice none 0 0) 59;rw [show ((w.alloc (.map #[] 0)).alloc (.cells #[.map (some w.heap.size)] 125)).heap.size=w.heap.size+1+1 from by simp] at this;exact this
  ·exact ((MapOf.made w).stay ((ah.alloc _ _).trans (ah.alloc _ _))).aaV (fun v _=>by simp [xB,inB])
 have HE:=hid (Si WU (OV w (w.heap.size+1) (w.heap.size+1+1) w.heap.size (by omega) (by omega) (by omega) (by omega) (by omega) (by omega)));rw [<-hW0];clear hW0;generalize hB:w.heap.size=B at *;go_loopw [10] (fun t wr=>∃ (i m:Nat) (l:List Int),t=.int .i64 i/\i<=len/\m+(f.drop i).size=f.size/\Fo.vars l (f.drop i)=Fo.vars [] f/\IZ w (B+1) (B+1+1) B m l wr) (fun t _=>len-(intOf t).toNat)
 case atStart=>exact ⟨0,0,[],rfl,Nat.zero_le _,by rw [Fo.drop_zero];omega,by rw [Fo.drop_zero],HJ0.out⟩
 case round =>
  obtain ⟨i,m,l,rfl,hi,hm,hv,hj⟩:=hrel;have HM:=hid hm;have HV:=hid hv;have HJ:=hid hj;have hqq:ah w wr:=by obtain ⟨_,_,_,_,_,_,_,h⟩:=hj;exact h
  have HQ:=hid hqq;clear hm hv hj hqq
  by_cases hlt:i < len
  ·have hlt':(i:Int) < len:=by omega
   obtain ⟨b,off,k1,n1,qs,o1,len1,cap1,rfl,hd,hg,e0,e1,e2,hs1⟩:=(HS.out.stay HQ.out).nth hlt;obtain ⟨_,_,_,_,_,_,_,_,ho,hd',hg',_,_,f2,hs0⟩:=HS.out.nth hlt;rw [hg] at hg';cases hg';cases ho;have f2':=HQ.out.at f2;rw [e2] at f2';cases f2';have hjb:IZ w (B+1) (B+1+1) B m l (wr.alloc (.cells #[.int .i64 k1,.int .i64 n1,.slice o1 len1 cap1] 25)):=by
    obtain ⟨vo,h1,h2,h3,h4,h5,h6,h7⟩:=HJ.out;exact ⟨vo,h1.alloc _,h2.alloc _,h3.stay (ah.alloc _ _),h4.alloc _,h5,h6,h7.trans (ah.alloc _ _)⟩
   have hgn:=ni f i k1 n1 qs HWF.out hg;have HC:=hid (HE.out k1 n1 qs m l _ o1 len1 cap1 hjb hs0 (by
    have:=HM.out;rw [hd] at this;simp only [Fo.size] at this;omega) hgn.1 hgn.2)
   have Fe:Hid (m+(qs.size+1)+(f.drop (i+1)).size=f.size):=by
    have:=HM.out;rw [hd] at this;simp only [Fo.size] at this;show _=_;omega
   have HV2:Hid (Fo.vars (qg je (je l k1 n1 qs) qs) (f.drop (i+1))=Fo.vars [] f):=by
    show _=_
    rw [<-HV.out,hd,yO,OX]
   unfold fG at HC;clear hd hg hs1 hd' f2 hs0 hjb hgn;go_wp2_with fail;refine HC.out.mono ?_;rintro e w2 ⟨rfl,hj2⟩;have HJ2:=hid hj2;clear hj2;go_wp2_with fail;go_roundw
   case rel=>exact ⟨i+1,_,_,by go_num,by omega,Fe.out,HV2.out,HJ2.out⟩
   case measure=>simp [intOf];omega
  ·have hlt':¬ (i:Int) < len:=by omega
   have hfin:Fo.vars [] f=l:=by
    have:=HV.out;rw [Fo.drop_end f i (by have:=HL.out;omega)] at this;exact this.symm
   have bF:=hid hfin;obtain ⟨vo,h1,h2,h3,h4,h5,h6,h7⟩:=HJ.out;have c2:=cell_of_one h2;have H4:=hid h4;have H5:=hid h5;have H7:=hid h7;clear h1 h2 h3 h4 h5 h6 h7 hfin;go_wp2_with fail;go_ret;refine ⟨vo,rfl,?_,H7.out⟩;rw [bF.out];exact ⟨H4.out,fun g hg=>by have:=(H5.out g hg).1;omega⟩
end
section
open Go.RowKit Go.Maps
theorem Ld.at {B:Nat} {w:World} {vo:Value} {l:List Int} (h:Ld B w vo l):∃ a c,vo=.slice a l.length c/\l.length<=c/\(∀ g,(Value.slice a l.length c).ownBlock=some g->B<=g)/\w.ownsRow 0 3 1 (.slice a l.length c) l.length (ints l):=by
 obtain ⟨h1,h2⟩:=h;have h1':=h1;rcases h1.2 with ⟨rfl,h0⟩ | ⟨g,cap,cur,rfl,_,_,hc,_⟩
 ·exact ⟨none,0,by rw [h0],by omega,by rw [h0];exact h2,by rw [h0];rw [h0] at h1';exact h1'⟩
 ·exact ⟨some ⟨g,0,none⟩,cap,rfl,by omega,h2,h1'⟩
end
section
open Go.RowKit Go.Maps
theorem iZ {w:World} {b:Nat} (h:w.heap[b]?=some (.cells #[] 3 (0,0))):w.ownsRow 0 3 1 (.slice (some ⟨b,0,none⟩) 0 0) ([]:List Int).length (ints []):=by
 refine ⟨rfl,.inr ⟨b,0,#[],rfl,Nat.zero_le _,h,Nat.le_refl _,Nat.zero_le _,rfl,rfl⟩⟩
end
section
open Go.RowKit Go.Maps
theorem Sj:∀ args w,(callFunc 91 args).run Tryd.prog w=.ok (.enter 91 args) w:=enters_of Tryd.func91 (by kernel_rfl) rfl
end
section
open Go.RowKit
def bP (h:Nd) (o1:Option Addr) (l1 c1:Nat) (o2:Option Addr) (l2 c2:Nat):Value :=
 .agg #[.int .i64 h.k,.string h.nm,.int .i64 h.n,.int .i64 h.tk,.int .i64 h.tn,.slice o1 l1 c1,.slice o2 l2 c2,.int .i64 h.fr,.int .i64 h.en]
def dL (w:World) (b off:Nat) (h:Nd) (o1:Option Addr) (l1 c1:Nat) (o2:Option Addr) (l2 c2:Nat):Prop :=
 w.cell? ⟨b,off,none⟩=some (.int .i64 h.k)/\w.cell? ⟨b,off+1,none⟩=some (.string h.nm)/\w.cell? ⟨b,off+2,none⟩=some (.int .i64 h.n) /\
 w.cell? ⟨b,off+3,none⟩=some (.int .i64 h.tk)/\w.cell? ⟨b,off+4,none⟩=some (.int .i64 h.tn)/\w.cell? ⟨b,off+5,none⟩=some (.slice o1 l1 c1) /\
 w.cell? ⟨b,off+6,none⟩=some (.slice o2 l2 c2)/\w.cell? ⟨b,off+7,none⟩=some (.int .i64 h.fr)/\w.cell? ⟨b,off+8,none⟩=some (.int .i64 h.en)
theorem dL.fr {S:Nat->Prop} {w w':World} {b off:Nat} {h:Nd} {o1:Option Addr} {l1 c1:Nat} {o2:Option Addr} {l2 c2:Nat} (hc:dL w b off h o1 l1 c1 o2 l2 c2) (hf:Fr S w w') (hs:¬ S b):dL w' b off h o1 l1 c1 o2 l2 c2:=by
 obtain ⟨h0,h1,h2,h3,h4,h5,h6,h7,h8⟩:=hc;have hb:=World.block_lt_of_cell? w _ h0;exact ⟨(hf.aY hb hs).trans h0,(hf.aY hb hs).trans h1,(hf.aY hb hs).trans h2,(hf.aY hb hs).trans h3,(hf.aY hb hs).trans h4,(hf.aY hb hs).trans h5,(hf.aY hb hs).trans h6,(hf.aY hb hs).trans h7,(hf.aY hb hs).trans h8⟩
theorem dL.lt {w:World} {b off:Nat} {h:Nd} {o1:Option Addr} {l1 c1:Nat} {o2:Option Addr} {l2 c2:Nat} (hc:dL w b off h o1 l1 c1 o2 l2 c2):b < w.heap.size:=World.block_lt_of_cell? w _ hc.1
def Le (R:Nat->Prop) (w:World):Nat->Nat->To->Prop
 | _,_,.nil=>True
 | b,off,.cons h ps r=>R b/\(∃ o1 l1 c1 o2 l2 c2,dL w b off h o1 l1 c1 o2 l2 c2/\aB R w o1 l1 h.tp/\l2=ps.length/\l2<=maxLen/\(0 < l2->∃ b' off',o2=some ⟨b',off',none⟩/\Le R w b' off' ps))/\Le R w b (off+9) r
def bC (R:Nat->Prop) (w:World) (o:Option Addr) (len:Nat) (f:To):Prop:=len=f.length/\len<=maxLen/\(0 < len->∃ b off,o=some ⟨b,off,none⟩/\Le R w b off f)
theorem bC.nil (R:Nat->Prop) (w:World) (o:Option Addr):bC R w o 0 .nil:=⟨rfl,Nat.zero_le _,fun h=>absurd h (Nat.lt_irrefl _)⟩
theorem Le.fr {R T S:Nat->Prop} {w w':World} (hf:Fr S w w') (hR:∀ k,k < w.heap.size->R k->T k/\¬ S k):∀ (f:To) (b off:Nat),Le R w b off f->Le T w' b off f
 | .nil,_,_,_=>trivial
 | .cons h ps r,b,off,ht=>by
  obtain ⟨h0,⟨o1,l1,c1,o2,l2,c2,hc,hs,h4,h4',h5⟩,h6⟩:=ht;obtain ⟨hT,hS⟩:=hR b hc.lt h0;refine ⟨hT,⟨o1,l1,c1,o2,l2,c2,hc.fr hf hS,hs.fr hf hR,h4,h4',fun hl=>?_⟩,Le.fr hf hR r b (off+9) h6⟩;obtain ⟨b',off',ho,ha⟩:=h5 hl;exact ⟨b',off',ho,Le.fr hf hR ps b' off' ha⟩
theorem bC.fr {R T S:Nat->Prop} {w w':World} {o:Option Addr} {len:Nat} {f:To} (h:bC R w o len f) (hf:Fr S w w') (hR:∀ k,k < w.heap.size->R k->T k/\¬ S k):bC T w' o len f:=by
 refine ⟨h.1,h.2.1,fun hl=>?_⟩;obtain ⟨b,off,ho,ha⟩:=h.2.2 hl;exact ⟨b,off,ho,Le.fr hf hR f b off ha⟩
theorem bC.stay {R:Nat->Prop} {w w':World} {o:Option Addr} {len:Nat} {f:To} (h:bC R w o len f) (hq:ah w w'):bC R w' o len f:=h.fr hq (fun _ _ hk=>⟨hk,fun h=>h⟩)
theorem aB.stay {R:Nat->Prop} {w w':World} {o:Option Addr} {len:Nat} {f:Fo} (h:aB R w o len f) (hq:ah w w'):aB R w' o len f:=h.fr hq (fun _ _ hk=>⟨hk,fun h=>h⟩)
theorem aB.mono {R T:Nat->Prop} {w:World} {o:Option Addr} {len:Nat} {f:Fo} (h:aB R w o len f) (hk:∀ k,k < w.heap.size->R k->T k):aB T w o len f:=h.fr (Fr.refl (fun _=>False) w) (fun k hl hr=>⟨hk k hl hr,fun h=>h⟩)
theorem bC.mono {R T:Nat->Prop} {w:World} {o:Option Addr} {len:Nat} {f:To} (h:bC R w o len f) (hk:∀ k,k < w.heap.size->R k->T k):bC T w o len f:=h.fr (Fr.refl (fun _=>False) w) (fun k hl hr=>⟨hk k hl hr,fun h=>h⟩)
theorem Le.nth {R : Nat -> Prop} {w : World} : ∀ (f : To) (b off i : Nat), Le R w b off f -> i < f.length -> ∃ h ps o1 l1 c1 o2 l2 c2, f.drop i = .cons h ps (f.drop (i + 1)) /\ f.get i = some (h, ps) /\ R b /\
    dL w b (off+i*9) h o1 l1 c1 o2 l2 c2/\aB R w o1 l1 h.tp/\bC R w o2 l2 ps
 | .nil,_,_,_,_,h=>by simp [To.length] at h
 | .cons h ps r,b,off,0,ht,_=>by
  obtain ⟨h0,⟨o1,l1,c1,o2,l2,c2,hc,hs,h4,h4',h5⟩,h6⟩:=ht;exact ⟨h,ps,o1,l1,c1,o2,l2,c2,by simp [To.drop,To.drop_zero],rfl,h0,by simpa using hc,hs,h4,h4',h5⟩
 | .cons h ps r,b,off,i+1,ht,hi=>by
  obtain ⟨_,_,h6⟩:=ht;obtain ⟨h',ps',o1,l1,c1,o2,l2,c2,e1,e2,hb,hc,hs⟩:=Le.nth r b (off+9) i h6 (by simp [To.length] at hi;omega);refine ⟨h',ps',o1,l1,c1,o2,l2,c2,by simp only [To.drop];rw [e1],e2,hb,?_,hs⟩;rw [show off+(i+1)*9=off+9+i*9 from by omega];exact hc
theorem bC.nth {R : Nat -> Prop} {w : World} {o : Option Addr} {len : Nat} {f : To} (h : bC R w o len f) {i : Nat} (hi : i < len) : ∃ b off hd ps o1 l1 c1 o2 l2 c2, o = some ⟨b, off, none⟩ /\ f.drop i = .cons hd ps (f.drop (i + 1)) /\ f.get i = some (hd, ps) /\ R b /\
    dL w b (off+i*9) hd o1 l1 c1 o2 l2 c2/\aB R w o1 l1 hd.tp/\bC R w o2 l2 ps:=by
 obtain ⟨b,off,rfl,ha⟩:=h.2.2 (by omega);obtain ⟨hd,ps,o1,l1,c1,o2,l2,c2,h1⟩:=Le.nth f b off i ha (by have:=h.1;omega);exact ⟨b,off,hd,ps,o1,l1,c1,o2,l2,c2,rfl,h1⟩
abbrev cells9 (h:Nd) (o1:Option Addr) (l1 c1:Nat) (o2:Option Addr) (l2 c2:Nat):Array Value :=
 #[.int .i64 h.k,.string h.nm,.int .i64 h.n,.int .i64 h.tk,.int .i64 h.tn,.slice o1 l1 c1,.slice o2 l2 c2,.int .i64 h.fr,.int .i64 h.en]
theorem aA {w:World} {B:Nat} {h:Nd} {o1:Option Addr} {l1 c1:Nat} {o2:Option Addr} {l2 c2:Nat} {t:TypeId} {z:Nat × Nat} (hb:w.heap[B]?=some (.cells (cells9 h o1 l1 c1 o2 l2 c2) t z)):dL w B 0 h o1 l1 c1 o2 l2 c2:=by
 refine ⟨?_,?_,?_,?_,?_,?_,?_,?_,?_⟩<;>(rw [cell_of_row _ _ _ _ _ z hb];rfl)
theorem wz (w:World) (h:Nd) (o1:Option Addr) (l1 c1:Nat) (o2:Option Addr) (l2 c2:Nat) (t:TypeId):dL (w.alloc (.cells (cells9 h o1 l1 c1 o2 l2 c2) t)) w.heap.size 0 h o1 l1 c1 o2 l2 c2:=aA (heap_alloc_new w _)
def kC (R:Nat->Prop) (w:World):List Value->To->Prop
 | xs,.nil=>xs=[]
 | xs,.cons h ps r=>∃ o1 l1 c1 o2 l2 c2 ys,xs=(cells9 h o1 l1 c1 o2 l2 c2).toList++ys/\aB R w o1 l1 h.tp/\bC R w o2 l2 ps/\kC R w ys r
theorem kC.fr {R T S:Nat->Prop} {w w':World} (hf:Fr S w w') (hR:∀ k,k < w.heap.size->R k->T k/\¬ S k):∀ (f:To) (xs:List Value),kC R w xs f->kC T w' xs f
 | .nil,_,h=>h
 | .cons h ps r,xs,ht=>by
  obtain ⟨o1,l1,c1,o2,l2,c2,ys,rfl,hs,ht,hr⟩:=ht;exact ⟨o1,l1,c1,o2,l2,c2,ys,rfl,hs.fr hf hR,ht.fr hf hR,kC.fr hf hR r ys hr⟩
theorem kC.snoc {R:Nat->Prop} {w:World} {h:Nd} {ps:To} {o1:Option Addr} {l1 c1:Nat} {o2:Option Addr} {l2 c2:Nat} (hs:aB R w o1 l1 h.tp) (ht:bC R w o2 l2 ps):∀ (f:To) (xs:List Value),kC R w xs f->kC R w (xs++(cells9 h o1 l1 c1 o2 l2 c2).toList) (f.app (.cons h ps .nil))
 | .nil,xs,e=>by
  cases e;exact ⟨o1,l1,c1,o2,l2,c2,[],by simp,hs,ht,rfl⟩
 | .cons h' ps' r,xs,e=>by
  obtain ⟨p1,m1,d1,p2,m2,d2,ys,rfl,hs',ht',hr⟩:=e;exact ⟨p1,m1,d1,p2,m2,d2,_,by rw [List.append_assoc],hs',ht',kC.snoc hs ht r ys hr⟩
theorem kC.at {R:Nat->Prop} {w:World} {g:Nat} (hg:R g):∀ (f:To) (xs:List Value) (off:Nat),kC R w xs f->(∀ j u,xs[j]?=some u->w.cell? ⟨g,off+j,none⟩=some u)->Le R w g off f
 | .nil,_,_,_,_=>trivial
 | .cons h ps r,xs,off,e,hc=>by
  obtain ⟨o1,l1,c1,o2,l2,c2,ys,rfl,hs,ht,hr⟩:=e;refine ⟨hg,⟨o1,l1,c1,o2,l2,c2,⟨hc 0 _ rfl,hc 1 _ rfl,hc 2 _ rfl,hc 3 _ rfl,hc 4 _ rfl,hc 5 _ rfl,hc 6 _ rfl,hc 7 _ rfl,hc 8 _ rfl⟩,hs,ht.1,ht.2.1,ht.2.2⟩,kC.at hg r ys (off+9) hr ?_⟩;intro j u hj;have:=hc (j+9) u (by simpa using hj);rw [<-this];congr 2;omega
structure kM (w:World) (B:Nat) (v:Value) (f:To) (xs:List Value):Prop where
 own:w.ownsRow 0 30 9 v f.length xs
 low:∀ k,v.ownBlock=some k->B<=k
 cells:kC (fun k=>B<=k/\v.ownBlock≠some k) w xs f
theorem kM.nil (w:World) (B:Nat):kM w B (.slice none 0 0) .nil []:=⟨World.ownsRow_nil _ _ _ _,fun k hk=>(by cases hk),rfl⟩
theorem kM.fr {w w':World} {B:Nat} {v:Value} {f:To} {xs:List Value} {S:Nat->Prop} (h:kM w B v f xs) (hf:Fr S w w') (hS:∀ k,S k->k < B):kM w' B v f xs:=by
 refine ⟨aU h.own hf (fun k hk hs=>?_),h.low,kC.fr hf (fun k _ hk=>⟨hk,fun hs=>?_⟩) f xs h.cells⟩
 ·have:=h.low k hk;have:=hS k hs;omega
 ·have:=hS k hs;omega
theorem kM.stay {w w':World} {B:Nat} {v:Value} {f:To} {xs:List Value} (h:kM w B v f xs) (hf:ah w w'):kM w' B v f xs:=h.fr hf (fun _ hk=>hk.elim)
theorem kM.lt {w:World} {B:Nat} {v:Value} {f:To} {xs:List Value} (h:kM w B v f xs):∀ k,v.ownBlock=some k->k < w.heap.size:=fun k hk=>(h.own.lt k hk).2
theorem kM.snoc {W w1 : World} {B : Nat} {v : Value} {f : To} {xs : List Value} {h : Nd} {ps : To} {o1 : Option Addr} {l1 c1 : Nat} {o2 : Option Addr} {l2 c2 g c : Nat} (hr : kM W B v f xs)
    (hs:aB (fun k=>B<=k/\v.ownBlock≠some k) W o1 l1 h.tp) (ht:bC (fun k=>B<=k/\v.ownBlock≠some k) W o2 l2 ps)
    (ho:w1.ownsRow 0 30 9 (.slice (some ⟨g,0,none⟩) (f.length+1) c) (f.length+1) (xs++(cells9 h o1 l1 c1 o2 l2 c2).toList)) (hf:Fr (fun k=>v.ownBlock=some k) W w1) (hg:v.ownBlock=some g∨W.heap.size<=g) (hB:B<=W.heap.size) :
    kM w1 B (.slice (some ⟨g,0,none⟩) (f.length+1) c) (f.app (.cons h ps .nil)) (xs++(cells9 h o1 l1 c1 o2 l2 c2).toList):=by
 refine ⟨by rw [To.bJ];exact ho,?_,?_⟩
 ·intro k hk;simp [Value.ownBlock] at hk;subst hk;rcases hg with h | h
  ·exact hr.low g h
  ·omega
 ·have hk : ∀ k, k < W.heap.size -> (B <= k /\ v.ownBlock ≠ some k) -> ((B <= k /\ (Value.slice (some ⟨g, 0, none⟩) (f.length + 1) c).ownBlock ≠ some k) /\ ¬ v.ownBlock = some k) := by
    rintro k hk ⟨h1,h2⟩;refine ⟨⟨h1,fun h=>?_⟩,h2⟩;simp [Value.ownBlock] at h;subst h;rcases hg with h | h
    ·exact h2 h
    ·omega
  exact kC.snoc (hs.fr hf hk) (ht.fr hf hk) f xs (kC.fr hf hk f xs hr.cells)
theorem kM.slc {w:World} {B:Nat} {o:Option Addr} {len cap:Nat} {f:To} {xs:List Value} (h:kM w B (.slice o len cap) f xs) (hl:len=f.length) (hm:len<=maxLen):bC (fun k=>B<=k) w o len f:=by
 refine ⟨hl,hm,fun h0=>?_⟩;rcases h.own.2 with ⟨_,h2⟩ | ⟨g,cap',cur,he,_⟩
 ·omega
 ·injection he with h1 h2 h3
  subst h1;refine ⟨g,0,rfl,kC.at (h.low g rfl) f xs 0 (kC.fr (Fr.refl (fun _=>False) w) (fun k _ hk=>⟨hk.1,fun h=>h⟩) f xs h.cells) ?_⟩;intro j u hj;have:=h.own.cells (g:=g) rfl j u hj;simpa [Addr.add_lit] using this
theorem sZ:Elem Tryd.prog 26 30 (.agg #[.int .i64 0,.string ⟨#[]⟩,.int .i64 0,.int .i64 0,.int .i64 0,.slice none 0 0,.slice none 0 0,.int .i64 0,.int .i64 0]) 9 112 :=
 ⟨Tryd.underlying26,by kernel_rfl,by decide,by decide⟩
end
section
open Go.RowKit Go.Shelf
attribute [local go_sem] Oper.semAt_some
def Ze (R:Nat->Prop) (i:Nat) (x:Nd × To) (va:Array Value) (W:World):Prop :=
 ∃ o1 l1 c1 o2 l2 c2,va=#[.int .i64 (i:Int),bP x.1 o1 l1 c1 o2 l2 c2]/\aB R W o1 l1 x.1.tp/\bC R W o2 l2 x.2
structure xC (nb yb wb l:Nat) (W:World) (i:Nat):Prop where
 n:W.heap[nb]?=some (.cells #[.int .i64 (i:Int)] 3 (0,0))
 y:W.heap[yb]?=some (.cells #[.func (.yield l) #[] #[]] 111 (0,0))
 w:W.heap[wb]?=some (.cells #[.func (.func 69) #[] #[.pointer (some ⟨nb,0,none⟩),.pointer (some ⟨yb,0,none⟩),.pointer (some ⟨wb,0,none⟩)]] 33 (0,0))
theorem xC.fr {nb yb wb l:Nat} {S:Nat->Prop} {W W':World} {i:Nat} (h:xC nb yb wb l W i) (hf:Fr S W W') (h1:¬ S nb) (h2:¬ S yb) (h3:¬ S wb):xC nb yb wb l W' i :=
 ⟨(hf.block _ (lt_of_block h.n) h1).trans h.n,(hf.block _ (lt_of_block h.y) h2).trans h.y,(hf.block _ (lt_of_block h.w) h3).trans h.w⟩
theorem I4:∀ (f:To) (m:Nat) (h:Nd) (qs:To),f.get m=some (h,qs)->(f.drop m).size=1+qs.size+(f.drop (m+1)).size/\(f.drop m).size<=f.size/\∀ j x,(To.cons h qs .nil).flat[j]?=some x->f.flat[f.size-(f.drop m).size+j]?=some x
 | .nil,m,h,qs,e=>by simp [To.get] at e
 | .cons h' ps r,0,h,qs,e=>by
  simp [To.get] at e;obtain ⟨rfl,rfl⟩:=e;refine ⟨by simp [To.drop,To.drop_zero,To.size];omega,by simp [To.drop],fun j x hj=>?_⟩;have hlt:=(List.getElem?_eq_some_iff.1 hj).1;simp only [To.drop,Nat.sub_self,Nat.zero_add];rw [show (To.cons h' ps r).flat=(To.cons h' ps .nil).flat++r.flat from by simp [To.flat],List.getElem?_append_left hlt];exact hj
 | .cons h' ps r,m+1,h,qs,e=>by
  obtain ⟨e1,e2,e3⟩:=I4 r m h qs e;simp only [To.drop];refine ⟨e1,by simp only [To.size];omega,fun j x hj=>?_⟩;have h3:=e3 j x hj;rw [show (To.cons h' ps r).flat=((h',ps)::ps.flat)++r.flat from by simp [To.flat],List.getElem?_append_right (by simp [To.size,To.flat_length];omega)];rw [<-h3]
  congr 1
  simp [To.size,To.flat_length];omega
section
variable (R:Nat->Prop) (l nb yb wb L0:Nat) (xs:List (Nd × To)) (J:Nat->(Nat->Prop)->World->Prop) (Jx:World->Prop)
def YE (h:Nd) (ps:To):Prop:=∀ (n i:Nat) (D:Nat->Prop) (W:World) (o1:Option Addr) (l1 c1:Nat) (o2:Option Addr) (l2 c2:Nat),J i D W->xC nb yb wb l W i->aB R W o1 l1 h.tp->bC R W o2 l2 ps ->
 (∀ k,D k->k≠nb/\k≠yb/\k≠wb)->(∀ j x,(To.cons h ps .nil).flat[j]?=some x->xs[i+j]?=some x)->i+ps.size+1<=1000000 ->
 CallsIn Fence.wide n Tryd.prog 69 #[bP h o1 l1 c1 o2 l2 c2,.pointer (some ⟨nb,0,none⟩),.pointer (some ⟨yb,0,none⟩),.pointer (some ⟨wb,0,none⟩)] W fun e W' =>
  (e=.returned (.bool true)/\∃ D',J (i+ps.size+1) D' W'/\xC nb yb wb l W' (i+ps.size+1)/\Fr (fun k=>D k∨k=nb) W W'/\∀ k,D' k->D k∨W.heap.size<=k)∨(e=.returned (.bool false)/\Jx W')
end
theorem walk_any (R : Nat -> Prop) (l nb yb wb L0 : Nat) (xs : List (Nd × To)) (J : Nat -> (Nat -> Prop) -> World -> Prop) (Jx : World -> Prop)
    (hRb:∀ k,R k->k < L0) (hnb:L0<=nb/\L0<=yb/\L0<=wb/\nb≠yb/\nb≠wb)
    (hown:∀ i D A,J i D A->∀ k,D k->k < A.heap.size/\¬ R k)
    (hst:∀ i D A B,J i D A->Fr (fun k=>L0<=k/\¬ D k) A B->J i D B)
    (hY:∀ m i x va D W1,xs[i]?=some x->Ze R i x va W1->J i D W1->YieldAt Fence.wide m Tryd.prog l va W1 fun e W' =>
     (e=.returned (.bool true)/\∃ D',J (i+1) D' W'/\Fr D W1 W'/\∀ k,D' k->D k∨W1.heap.size<=k)∨(e=.returned (.bool false)/\Jx W'))
    (h:Nd) (ps:To):YE R l nb yb wb xs J Jx h ps:=by
 refine To.uY (T:=YE R l nb yb wb xs J Jx) ?_ h ps;intro h ps ih n i D W o1 l1 c1 o2 l2 c2 hJ hB hs ht hD hx hz;have IH:=hid ih;have HD:=hid hD;have HX:=hid hx;have hmx:=ht.2.1;have HL:=hid ht.1;have hlen:=To.length_le ps;unfold maxLen at hmx;obtain ⟨W1,hW1⟩:∃ W1,W1=W.alloc (.cells (cells9 h o1 l1 c1 o2 l2 c2) 30):=⟨_,rfl⟩;obtain ⟨tb,htb⟩:∃ tb,tb=W.heap.size:=⟨_,rfl⟩;have hq1:Fr (fun _=>False) W W1:=by rw [hW1];exact Fr.alloc _ _ _
 have hb1:xC nb yb wb l W1 i:=hB.fr hq1 (fun h=>h) (fun h=>h) (fun h=>h);have ht1:W1.heap[tb]?=some (.cells (cells9 h o1 l1 c1 o2 l2 c2) 30 (0,0)):=by rw [hW1,htb];exact heap_alloc_new _ _
 have hnt:tb≠nb/\tb≠yb/\tb≠wb:=⟨fun e=>by have:=lt_of_block hB.n;omega,fun e=>by have:=lt_of_block hB.y;omega,fun e=>by have:=lt_of_block hB.w;omega⟩;obtain ⟨W2,hW2⟩:∃ W2,W2=W1.setCell ⟨nb,0,none⟩ (.int .i64 ((i:Int)+1)):=⟨_,rfl⟩;have hq2:Fr (fun k=>k=nb) W1 W2:=by rw [hW2];exact Fr.setCell _ _ _ _ rfl
 have hb2:xC nb yb wb l W2 (i+1):=⟨by rw [hW2];exact one_setCell hb1.n,(hq2.block _ (lt_of_block hb1.y) (fun e=>hnb.2.2.2.1 e.symm)).trans hb1.y,(hq2.block _ (lt_of_block hb1.w) (fun e=>hnb.2.2.2.2 e.symm)).trans hb1.w⟩;have ht2:=(hq2.block _ (lt_of_block ht1) hnt.1).trans ht1;have hJ2:J i D W2:=hst i D W W2 hJ ((hq1.mono (fun k _ h=>h.elim)).trans (hq2.mono (fun k _ e=>⟨by omega,fun hd=>(hD k hd).1 (by omega)⟩)));have hs2:aB R W2 o1 l1 h.tp:=(hs.fr hq1 (fun k _ hk=>⟨hk,fun h=>h⟩)).fr hq2 (fun k _ hk=>⟨hk,fun e=>by have:=hRb k hk;omega⟩);have ht3:bC R W2 o2 l2 ps:=(ht.fr hq1 (fun k _ hk=>⟨hk,fun h=>h⟩)).fr hq2 (fun k _ hk=>⟨hk,fun e=>by have:=hRb k hk;omega⟩);have hsz1:W1.heap.size=tb+1:=by rw [hW1,htb];simp
 have hsz2:W1.heap.size<=W2.heap.size:=hq2.size;have hy:=fun m=>hY m i (h,ps) #[.int .i64 (i:Int),bP h o1 l1 c1 o2 l2 c2] D W2 (by have:=hx 0 (h,ps) rfl;simpa using this) ⟨o1,l1,c1,o2,l2,c2,rfl,hs2,ht3⟩ hJ2
 obtain ⟨fn,tmps,assign,body,hyr,hR⟩:=hy (n-1);have HR:=hid hR;have WV:Hid (Fr (fun k=>D k∨k=nb) W W2):=(hq1.mono (fun k _ h=>h.elim)).trans (hq2.mono (fun k _ e=>.inr e));have cn1:=cell_of_one hb1.n;have zn1:=free_of_one hb1.n;have cy2:=cell_of_one hb2.y;have cw2:=cell_of_one hb2.w;have cn2:=cell_of_one hb2.n;have HB2:=hid hb2;have HT2:=hid ht2;have HJ2:=hid hJ2;obtain ⟨a0,a1,a2,a3,a4,a5,a6,a7,a8⟩:=aA ht2;have I5:W2=(W.alloc (.cells (cells9 h o1 l1 c1 o2 l2 c2) 30)).setCell ⟨nb,0,none⟩ (.int .i64 ((i:Int)+1)):=by rw [hW2,hW1]
 rw [hW1] at cn1 zn1;have HTS:=hid ht3;have HTL:Hid (tb < W2.heap.size):=lt_of_block ht2;have HDW:Hid (∀ k,D k->k < tb):=fun k hk=>by rw [htb];exact (hown _ _ _ hJ k hk).1
 have HST:=hid hst;clear hs ht ih hD hx hJ hB hq1 hq2 hb1 ht1 hb2 ht2 hJ2 hs2 ht3 hy hR hY hst hsz1 hsz2;unfold bP;refine callsIn_of_wp Tryd.func69 rfl trivial ?_ rfl;simp only [Tryd.ntmps69,List.size_toArray,List.length_cons,List.length_nil,Nat.reduceAdd,Nat.reduceSub,Array.replicate_succ,Array.replicate_zero,List.push_toArray,List.append_toArray,List.nil_append,List.cons_append]
 gi_upto_region 2 with fail
 change Code.wpIn _ _ _ _ _ _ ((W.alloc (.cells (cells9 h o1 l1 c1 o2 l2 c2) 30)).setCell ⟨nb,0,none⟩ (.int .i64 ((i:Int)+1)));rw [<-I5,<-htb];clear I5 hW2 hW1 htb cn1 zn1;unfold bP at hyr
 gi_wp2
 refine ⟨fun h=>(by cases h),HR.out.mono ?_⟩;rintro e W3 (⟨rfl,D3,hJ3,hf3,hd3⟩ | ⟨rfl,hx3⟩)
 ·have hb3:=HB2.out.fr hf3 (fun hk=>(HD.out _ hk).1 rfl) (fun hk=>(HD.out _ hk).2.1 rfl) (fun hk=>(HD.out _ hk).2.2 rfl);have htD:¬ D tb:=fun hk=>by have:=(hown _ _ _ HJ2.out _ hk).1;have:=HTL.out;have:=HDW.out _ hk;omega
  have ht3:=(hf3.block _ (lt_of_block HT2.out) htD).trans HT2.out;have HB3:=hid hb3;have HJ3:=hid hJ3;have HF3:=hid hf3;have HD3:=hid hd3;have Sl:Hid (bC R W3 o2 l2 ps):=HTS.out.fr hf3 (fun k _ hk=>⟨hk,fun hd=>(hown _ _ _ HJ2.out k hd).2 hk⟩);clear a0 a1 a2 a3 a4 a5 a6 a7 a8 cn2 cy2 cw2;obtain ⟨a0,a1,a2,a3,a4,a5,a6,a7,a8⟩:=aA ht3;clear hJ3 hf3 hd3 hb3 ht3
  gi_wp2
  gi_loopw [19] (fun t wr=>∃ (m:Nat) (D':Nat->Prop),t=.int .i64 m/\m<=l2/\J (i+1+(ps.size-(ps.drop m).size)) D' wr/\xC nb yb wb l wr (i+1+(ps.size-(ps.drop m).size))/\Fr (fun k=>D3 k∨k=nb∨W3.heap.size<=k) W3 wr/\∀ k,D' k->D3 k∨W3.heap.size<=k) (fun t wr=>l2-(intOf t).toNat)
  case atStart=>exact ⟨0,D3,rfl,Nat.zero_le _,by rw [To.drop_zero,Nat.sub_self];exact HJ3.out,by rw [To.drop_zero,Nat.sub_self];exact HB3.out,Fr.refl _ _,fun k hk=>.inl hk⟩
  case round =>
   obtain ⟨m,D',rfl,hm,hj,hb,hf,hd⟩:=hrel
   by_cases hlt:m < l2
   ·have hlt':(m:Int) < l2:=by omega
    have hts:bC R wr o2 l2 ps:=Sl.out.fr hf (fun k hk hr=>⟨hr,fun hs=>by
     rcases hs with hs | hs | hs
     ·exact (hown _ _ _ HJ3.out k hs).2 hr
     ·have:=hRb k hr;omega
     ·omega⟩)
    obtain ⟨b,off,hd1,qs,p1,m1,d1,p2,m2,d2,rfl,hdr,hg,acD,KP,hs1,ht1⟩:=hts.nth hlt;obtain ⟨q1,q2,q3⟩:=I4 ps m hd1 qs hg;obtain ⟨W4,yP⟩:∃ W4,W4=wr.alloc (.cells (cells9 hd1 p1 m1 d1 p2 m2 d2) 30):=⟨_,rfl⟩;have hq4:Fr (fun _=>False) wr W4:=by rw [yP];exact Fr.alloc _ _ _
    have hc4:dL W4 wr.heap.size 0 hd1 p1 m1 d1 p2 m2 d2:=by rw [yP];exact wz _ _ _ _ _ _ _ _ _
    have hnd:∀ k,D' k->k≠nb/\k≠yb/\k≠wb:=fun k hk=>by
     have e1:=lt_of_block HB3.out.n;have e2:=lt_of_block HB3.out.y;have e3:=lt_of_block HB3.out.w;rcases hd k hk with h | h
     ·rcases HD3.out k h with h | h
      ·exact HD.out k h
      ·have f1:=lt_of_block HB2.out.n;have f2:=lt_of_block HB2.out.y;have f3:=lt_of_block HB2.out.w;omega
     ·omega
    have HC:=hid (IH.out m hd1 qs hg (n-1) (i+1+(ps.size-(ps.drop m).size)) D' W4 p1 m1 d1 p2 m2 d2 (HST.out _ _ _ _ hj (hq4.mono (fun k _ h=>h.elim))) (hb.fr hq4 (fun h=>h) (fun h=>h) (fun h=>h)) (hs1.fr hq4 (fun k _ hk=>⟨hk,fun h=>h⟩)) (ht1.fr hq4 (fun k _ hk=>⟨hk,fun h=>h⟩)) hnd
     (fun j x hj=>by
      have h1:=q3 j x hj;have h2:=HX.out (1+(ps.size-(ps.drop m).size)+j) x (by
       rw [show 1+(ps.size-(ps.drop m).size)+j=(ps.size-(ps.drop m).size+j)+1 from by omega];simpa [To.flat] using h1)
      rw [<-h2];congr 1;omega) (by omega))
    have xE:Hid (i+1+(ps.size-(ps.drop m).size)+qs.size+1=i+1+(ps.size-(ps.drop (m+1)).size)):=by show _=_;have:=To.size_drop ps (m+1);omega
    have cw4:=cell_of_one (hb.fr hq4 (fun h=>h) (fun h=>h) (fun h=>h)).w;obtain ⟨z0,z1,z2,z3,z4,z5,z6,z7,z8⟩:=KP;obtain ⟨y0,y1,y2,y3,y4,y5,y6,y7,y8⟩:=hc4;have HF:=hid hf;have OY:=hid hd;have uI:=hid hq4;unfold bP at HC;clear hf hd hj hb hq4 q1 q2 q3 hts hdr hg hs1 ht1 hnd acD a0 a1 a2 a3 a4 a5 a6 a7 a8
    gi_upto_region 7 with fail
    change Code.wpIn _ _ _ _ _ _ (wr.alloc (.cells (cells9 hd1 p1 m1 d1 p2 m2 d2) 30));rw [<-yP];generalize wr.heap.size=pb at *;clear yP z0 z1 z2 z3 z4 z5 z6 z7 z8
    gi_wp2
    refine ⟨trivial,fun h=>(by cases h),HC.out.mono ?_⟩;rintro e W5 (⟨rfl,D5,hj5,hb5,hf5,hd5⟩ | ⟨rfl,hx5⟩)
    ·rw [xE.out] at hj5 hb5;have Zf:Hid (Fr (fun k=>D3 k∨k=nb∨W3.heap.size<=k) W3 W5):=(HF.out.trans (uI.out.mono (fun k _ h=>h.elim))).trans (hf5.mono (fun k _ hk=>by
      rcases hk with h | h
      ·rcases OY.out k h with h | h
       ·exact .inl h
       ·exact .inr (.inr h)
      ·exact .inr (.inl h)))
     have HDF:Hid (∀ k,D5 k->D3 k∨W3.heap.size<=k):=fun k hk=>by
      rcases hd5 k hk with h | h
      ·exact OY.out k h
      ·have:=HF.out.size;have:=uI.out.size;exact .inr (by omega)
     have HJ5:=hid hj5;have HB5:=hid hb5;clear hj5 hb5 hf5 hd5
     gi_wp2
     go_roundw
     case rel=>exact ⟨m+1,D5,by go_num,by omega,HJ5.out,HB5.out,Zf.out,HDF.out⟩
     case measure=>simp [intOf];omega
    ·gi_wp2
     go_ret;exact .inr ⟨rfl,hx5⟩
   ·have hlt':¬ (m:Int) < l2:=by omega
    have hme:ps.drop m=.nil:=To.drop_end ps m (by have:=HL.out;omega);rw [hme] at hj hb;have HJE:=hid hj;have bY:=hid hb;have rZ:=hid hf;have HDE:=hid hd;clear hj hb hf hd hme
    gi_wp2
    go_ret;have h1:=HJE.out;have h2:=bY.out;rw [show i+1+(ps.size-To.nil.size)=i+ps.size+1 from by simp [To.size];omega] at h1 h2;refine .inl ⟨rfl,D',h1,h2,?_,?_⟩
    ·have e1:=WV.out.size;have e2:=HF3.out.size;refine (WV.out.trans (HF3.out.mono (fun k _ h=>.inl h))).trans' rZ.out (fun k hk h=>?_);rcases h with h | h | h
     ·rcases HD3.out k h with h | h
      ·exact .inl h
      ·omega
     ·exact .inr h
     ·omega
    ·intro k hk;rcases HDE.out k hk with h | h
     ·rcases HD3.out k h with h | h
      ·exact .inl h
      ·have:=WV.out.size;exact .inr (by omega)
     ·have:=WV.out.size;have:=HF3.out.size;exact .inr (by omega)
 ·gi_wp2
  go_ret;exact .inr ⟨rfl,hx3⟩
theorem WW (n : Nat) (R : Nat -> Prop) (h : Nd) (ps : To) (o1 : Option Addr) (l1 c1 : Nat) (o2 : Option Addr) (l2 c2 tb : Nat) (w : World) (hRw : ∀ k, R k -> k < w.heap.size)
    (hb:w.heap[tb]?=some (.cells (cells9 h o1 l1 c1 o2 l2 c2) 30 (0,0))) (_:R tb) (hs:aB R w o1 l1 h.tp) (ht:bC R w o2 l2 ps) (hz:ps.size<=100000) :
    aaW n Tryd.prog 68 #[.pointer (some ⟨tb,0,none⟩)] (Ze R) R (To.cons h ps .nil).flat w:=by
 intro l J Jx W D0 hW hown hst acE hY hJ;obtain ⟨W2,hW2⟩:∃ W2,W2=((W.alloc (.cells #[.func (.yield l) #[] #[]] 111)).alloc (.cells #[.int .i64 0] 3)).alloc (.cells #[.nilFunc] 33):=⟨_,rfl⟩;obtain ⟨W3,hW3⟩:∃ W3,W3=W2.setCell ⟨W.heap.size+1+1,0,none⟩ (.func (.func 69) #[] #[.pointer (some ⟨W.heap.size+1,0,none⟩),.pointer (some ⟨W.heap.size,0,none⟩),.pointer (some ⟨W.heap.size+1+1,0,none⟩)]):=⟨_,rfl⟩;have hf2:Fr (fun _=>False) W W2:=by rw [hW2];exact ((Fr.alloc _ _ _).trans (Fr.alloc _ _ _)).trans (Fr.alloc _ _ _)
 have WX:Fr (fun k=>k=W.heap.size+1+1) W2 W3:=by rw [hW3];exact Fr.setCell _ _ _ _ rfl
 have hf3:Fr (fun _=>False) W W3:=hf2.trans' WX (fun k hk e=>by omega);have hw2:W2.heap[W.heap.size+1+1]?=some (.cells #[.nilFunc] 33 (0,0)):=by
  rw [hW2];have:=heap_alloc_new ((W.alloc (.cells #[.func (.yield l) #[] #[]] 111)).alloc (.cells #[.int .i64 0] 3)) (.cells #[.nilFunc] 33);simpa using this
 have hB3:xC (W.heap.size+1) W.heap.size (W.heap.size+1+1) l W3 0:=by
  refine ⟨?_,?_,?_⟩
  ·rw [WX.block _ (by rw [hW2];simp) (by omega),hW2,Below.heap_alloc _ _ _ (by simp)];have:=heap_alloc_new (W.alloc (.cells #[.func (.yield l) #[] #[]] 111)) (.cells #[.int .i64 0] 3);simpa using this
  ·rw [WX.block _ (by rw [hW2];simp;omega) (by omega),hW2,Below.heap_alloc _ _ _ (by simp;omega),Below.heap_alloc _ _ _ (by simp)];exact heap_alloc_new W _
  ·rw [hW3];exact one_setCell hw2
 have hle:=hW.size;have hwf:=hW.trans hf3;have hb3:=(hwf.block _ (lt_of_block hb) (fun h=>h)).trans hb;have cw2:=cell_of_one hw2;have zw2:=free_of_one hw2;have HC:=hid (walk_any R l (W.heap.size+1) W.heap.size (W.heap.size+1+1) W.heap.size (To.cons h ps .nil).flat J Jx (fun k hk=>by have:=hRw k hk;omega) (by omega) hown hst
  (fun m i x va D W1 hx he hj=>OZ m (hY i x va D W1 hx he hj)) h ps (n-1) 0 D0 W3 o1 l1 c1 o2 l2 c2 (hst 0 D0 W W3 hJ (hf3.mono (fun k _ h=>h.elim))) hB3
  (hs.fr hwf (fun k _ hk=>⟨hk,fun h=>h⟩)) (ht.fr hwf (fun k _ hk=>⟨hk,fun h=>h⟩)) (fun k hk=>by have:=(hown 0 D0 W hJ k hk).1;omega) (fun j x hx=>by rw [Nat.zero_add];exact hx) (by omega))
 have qX:Hid (0+ps.size+1=(To.cons h ps .nil).flat.length):=by show _=_;rw [To.flat_length];simp [To.size]
 have cw:=cell_of_one hB3.w;obtain ⟨a0,a1,a2,a3,a4,a5,a6,a7,a8⟩:=aA hb3;unfold bP at HC;clear hb3 hB3 hs ht hY hJ hst acE hown hb hwf hf3 hf2 WX hw2;refine callsIn_of_wp Tryd.func68 rfl trivial ?_ rfl;simp only [Tryd.ntmps68,List.size_toArray,List.length_cons,List.length_nil,Nat.reduceAdd,Nat.reduceSub,Array.replicate_succ,Array.replicate_zero,List.push_toArray,List.append_toArray,List.nil_append,List.cons_append];have HW3:=hid hW3;clear hW3
 gi_upto_region 3 with fail
 rw [<-hW2];clear hW2
 gi_upto_region 4 with fail
 rw [<-HW3.out];clear HW3 cw2 zw2
 gi_wp2
 refine ⟨trivial,fun h=>(by cases h),HC.out.mono ?_⟩;rintro e W5 (⟨rfl,D5,hj5,hb5,hf5,hd5⟩ | ⟨rfl,hx5⟩)
 ·rw [qX.out] at hj5
  gi_wp2
  go_end0;exact ⟨⟨_,rfl⟩,.inl ⟨D5,hj5⟩⟩
 ·gi_wp2
  go_end0;exact ⟨⟨_,rfl⟩,.inr hx5⟩
theorem Sm (h : Nd) (o1 : Option Addr) (l1 c1 : Nat) (o2 : Option Addr) (l2 c2 : Nat) (w : World) :
    Calls Tryd.prog 53 #[bP h o1 l1 c1 o2 l2 c2] w fun e w'=>e=.returned (.func (.func 68) #[] #[.pointer (some ⟨w.heap.size,0,none⟩)])/\w'=w.alloc (.cells (cells9 h o1 l1 c1 o2 l2 c2) 30):=by
 unfold bP;go_enter Tryd.func53,Tryd.ntmps53;go_wp2_with fail;go_ret;exact ⟨rfl,rfl⟩
end
section
open Go.ChangeShapes Go.WideShapes Go.ChangeAt Go.RowKit
def Wy (h:Nd):Prop:=h.nm.size<=maxLen/\OW h.tn/\wfF h.tp/\OW h.n
section
variable {H:Type} {enc:TypeId × Value->H} {P:Program} {w:World} {base:Nat} {spare:Nat->Bool} {held:Bool}
abbrev Low (w:World):Nat->Prop:=fun k=>k < w.heap.size
end
section
variable {H:Type} {enc:TypeId × Value->H} {w:World} {base:Nat} {spare:Nat->Bool} {held:Bool}
end
end
section
open Go.ChangeShapes Go.WideShapes Go.ChangeAt Go.RowKit
def Fg:Nat:=48
def I7:List (String × DataW Unit):=[("unicode.White_Space",Rows.laid_unicode_White_Space),("strings.asciiSpace",Rows.laid_strings_asciiSpace)]
theorem Lh:(Rows.laid_strings_asciiSpace:DataW Unit)=Lib.tabData .u8 Lib.asciiSpaceTab:=by rfl
theorem door_met (os:Os) (args:Array Value):laidMetH Tryd.prog I7 ((World.doorLaid Tryd.prog Fg os).forCall (fun _ _=>0) ⟨#[],args,[]⟩).memory :=
 laidMetH_of_parts3 (fuel:=8) (laidMet_of_run' 8 (by kernel_rfl) (by kernel_rfl)) (by kernel_rfl) (by kernel_rfl)
theorem BA {W:World} (h:laidMetH Tryd.prog I7 W):Lx.kD W:=by
 rw [MakeChecks.laidMetH_plain _ _ _ (by kernel_rfl)] at h;have h2:=laidMet.tail h;rw [Lh] at h2;exact Lib.tabIs_of_head (g:=0) (n:=256) (by kernel_rfl) (by kernel_rfl) (t:=132) (e:=5) Tryd.underlying132 Tryd.underlying5 (by kernel_rfl) (by kernel_rfl) h2
end
end Go.Proofs.YtcninopmelmajaaDoor
