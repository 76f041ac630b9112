/-
  Texts laid together (TyChange, TyArrow, TySame2, TyEach, TySize, TyMap): laws and walks, with their conditions.
-/
import Derived.Handy
import Derived.OneCell
import Derived.Maps.OwnOps
import Derived.Maps.Views
import Derived.Test.YtcninopmelmajaaDoorTX8
set_option maxHeartbeats 8000000
set_option maxRecDepth 1000000
namespace Go.Proofs.YtcninopmelmajaaDoor
open Go.Lib (hid)
section
open Go.RowKit Go.Shelf
theorem elemTy:Elem Tryd.prog 23 25 (.agg #[.int .i64 0,.int .i64 0,.slice none 0 0]) 3 40 :=
 ⟨Tryd.underlying23,by kernel_rfl,by decide,by decide⟩
def DoK (g:Nat) (lb:Array Value) (w0:World) (G:Int->Prop) (p:Int->Int):Prop:=∀ (n:Int) (W:World),G n->ah w0 W ->
 Calls Tryd.prog g (#[.int .i64 n]++lb) W fun e W'=>e=.returned (.int .i64 (p n))/\ah W W'
def tC (p:Int->Int) (k n:Int):Int:=if k == 1 then p n else n
def OO (g:Nat) (lb:Array Value) (w0:World) (G:Int->Prop) (p:Int->Int) (k n:Int) (ps:Fo):Prop :=
 ∀ (w:World) (o:Option Addr) (len cap:Nat),ah w0 w->nJ w o len ps->ps.size<=1000000->G n->Jj G ps ->
  Calls Tryd.prog 45 #[fG k n o len cap,.func (.func g) #[] lb] w fun e w'=>∃ o' cap',e=.returned (fG k (tC p k n) o' len cap')/\aB (fun b=>w.heap.size<=b) w' o' len (ps.change p)/\ah w w'
theorem dF {w W:World} {a b c:Value} {t:TypeId} {B:Nat} (h:w.heap[B]?=some (.cells #[a,b,c] t (0,0))) (hq:ah w W):W.heap[B]?=some (.cells #[a,b,c] t (0,0)):=by
 rw [hq.block B (lt_of_block h) (fun h=>h)];exact h
theorem ay {w:World} {a b c:Value} {t:TypeId} {B:Nat} (h:w.heap[B]?=some (.cells #[a,b,c] t (0,0))):w.cell? ⟨B,0,none⟩=some a/\w.cell? ⟨B,1,none⟩=some b/\w.cell? ⟨B,2,none⟩=some c/\w.frozen? ⟨B,0,none⟩=false/\w.frozen? ⟨B,1,none⟩=false/\w.frozen? ⟨B,2,none⟩=false:=by
 refine ⟨?_,?_,?_,?_,?_,?_⟩
 ·rw [cell_of_row _ _ _ _ _ (0,0) h];rfl
 ·rw [cell_of_row _ _ _ _ _ (0,0) h];rfl
 ·rw [cell_of_row _ _ _ _ _ (0,0) h];rfl
 ·simp [World.frozen?,h]
 ·simp [World.frozen?,h]
 ·simp [World.frozen?,h]
theorem iW {w:World} {a b c u:Value} {t:TypeId} {B:Nat} (h:w.heap[B]?=some (.cells #[a,b,c] t (0,0))):(w.setCell ⟨B,1,none⟩ u).heap[B]?=some (.cells #[a,u,c] t (0,0)):=by
 have hlt:=lt_of_block h;have h':w.heap[B]=.cells #[a,b,c] t (0,0):=by simpa [Array.getElem?_eq_getElem hlt] using h
 show (w.heap.modify B _)[B]?=_
 rw [Array.getElem?_eq_getElem (by simpa using hlt),Array.getElem_modify_self,h'];rfl
theorem jk {w:World} {a b c u:Value} {t:TypeId} {B:Nat} (h:w.heap[B]?=some (.cells #[a,b,c] t (0,0))):(w.setCell ⟨B,0,none⟩ u).heap[B]?=some (.cells #[u,b,c] t (0,0)):=by
 have hlt:=lt_of_block h;have h':w.heap[B]=.cells #[a,b,c] t (0,0):=by simpa [Array.getElem?_eq_getElem hlt] using h
 show (w.heap.modify B _)[B]?=_
 rw [Array.getElem?_eq_getElem (by simpa using hlt),Array.getElem_modify_self,h'];rfl
theorem ji {w:World} {a b c u:Value} {t:TypeId} {B:Nat} (h:w.heap[B]?=some (.cells #[a,b,c] t (0,0))):(w.setCell ⟨B,2,none⟩ u).heap[B]?=some (.cells #[a,b,u] t (0,0)):=by
 have hlt:=lt_of_block h;have h':w.heap[B]=.cells #[a,b,c] t (0,0):=by simpa [Array.getElem?_eq_getElem hlt] using h
 show (w.heap.modify B _)[B]?=_
 rw [Array.getElem?_eq_getElem (by simpa using hlt),Array.getElem_modify_self,h'];rfl
theorem BI {g:Nat} {lb:Array Value} {w0:World} {G:Int->Prop} {p:Int->Int} (eg:∀ args w,(callFunc g args).run Tryd.prog w=.ok (.enter g args) w) (hK:DoK g lb w0 G p) (k n:Int) (ps:Fo):OO g lb w0 G p k n ps:=by
 refine Fo.uY (T:=OO g lb w0 G p) ?_ k n ps;intro k n ps ih w o len cap hw hs hsz hgn GR;have HGN:=hid hgn;have HGP:=hid GR;clear hgn GR;have HS:=hid hs;have IH:=hid ih;have HL:=hid hs.1;have hmx:=hs.2.1;have hll:=Fo.length_le ps;rw [<-hs.1] at hll;unfold maxLen at hmx;have HK:=hid hK;have HW:=hid hw;have hb0:((w.alloc (.cells #[.int .i64 k,.int .i64 n,.slice o len cap] 25)).alloc (.cells #[.int .i64 0,.int .i64 0,.slice none 0 0] 25)).heap[w.heap.size]?=some (.cells #[.int .i64 k,.int .i64 n,.slice o len cap] 25 (0,0)):=by
  rw [Below.heap_alloc _ _ _ (by simp)];exact heap_alloc_new w _
 have hb1:((w.alloc (.cells #[.int .i64 k,.int .i64 n,.slice o len cap] 25)).alloc (.cells #[.int .i64 0,.int .i64 0,.slice none 0 0] 25)).heap[w.heap.size+1]?=some (.cells #[.int .i64 0,.int .i64 0,.slice none 0 0] 25 (0,0)):=by
  have:=heap_alloc_new (w.alloc (.cells #[.int .i64 k,.int .i64 n,.slice o len cap] 25)) (.cells #[.int .i64 0,.int .i64 0,.slice none 0 0] 25);simpa using this
 have HB0:=hid hb0;have HB1:=hid hb1;clear hs ih hK hw hb0 hb1;unfold fG;cases hk:(k == 1)
 ·go_enter Tryd.func45,Tryd.ntmps45;go_wp2_with fail;obtain ⟨W0,hW0⟩:∃ W0,W0=((w.alloc (.cells #[.int .i64 k,.int .i64 n,.slice o len cap] 25)).alloc (.cells #[.int .i64 0,.int .i64 0,.slice none 0 0] 25)):=⟨_,rfl⟩;change Code.wp _ _ _ _ ((w.alloc (.cells #[.int .i64 k,.int .i64 n,.slice o len cap] 25)).alloc (.cells #[.int .i64 0,.int .i64 0,.slice none 0 0] 25));have bD:Hid (ah w W0):=by rw [hW0];exact (ah.alloc _ _).trans (ah.alloc _ _)
  have hz0:w.heap.size+2<=W0.heap.size:=by rw [hW0];simp
  have HN:Hid (tC p k n=n):=by show _=_;unfold tC;rw [hk];rfl
  rw [<-hW0] at HB0 HB1 ⊢;clear hW0 hk;generalize hnn:tC p k n=n' at *;generalize hB:w.heap.size=B at *;have bY:=hid hB;clear hB;go_loopw [5,19] (fun v t wr=>∃ (i:Nat) (f:Fo) (xs:List Value) (vo:Option Addr) (vc:Nat),t=.int .i64 i/\i<=len/\v=.slice vo i vc/\f.length=i/\f.app ((ps.drop i).change p)=ps.change p/\jH wr W0.heap.size (.slice vo i vc) f xs/\ah W0 wr) (fun _ t _=>len-(intOf t).toNat)
  case atStart=>exact ⟨0,.nil,[],none,0,rfl,Nat.zero_le _,rfl,rfl,by rw [Fo.drop_zero];rfl,jH.nil _ _,ah.refl _⟩
  case round =>
   obtain ⟨i,f,xs,vo,vc,rfl,hi,rfl,hfl,hap,hrow,hq⟩:=hrel;have HF:=hid hfl;have Tt:=hid hap;have HR:=hid hrow;have HQ:=hid hq;clear hfl hap hrow hq
   by_cases hlt:i < len
   ·have hlt':(i:Int) < len:=by omega
    obtain ⟨b,off,k1,n1,qs,o1,len1,cap1,rfl,hd,hg,e0,e1,e2,hs1⟩:=(HS.out.stay (bD.out.trans HQ.out)).nth hlt;have Jf:=Fo.dG ps i k1 n1 qs hg;have HC:=hid (IH.out i k1 n1 qs hg (wr.alloc (.cells #[.int .i64 k1,.int .i64 n1,.slice o1 len1 cap1] 25)) o1 len1 cap1 (HW.out.trans ((bD.out.trans HQ.out).trans (ah.alloc _ _))) (hs1.stay (ah.alloc _ _)) (by omega) (ni ps i k1 n1 qs HGP.out hg).1 (ni ps i k1 n1 qs HGP.out hg).2);have HD:Hid ((f.app (.cons k1 (tC p k1 n1) (qs.change p) .nil)).app ((ps.drop (i+1)).change p)=ps.change p):=by
     show _=_
     rw [<-Tt.out,hd,Fo.mG];rfl
    unfold fG at HC;clear hd hg hs1 Jf;generalize tC p k1 n1=n2 at *;go_wp2_with fail;refine HC.out.mono ?_;rintro e w1 ⟨o2,cap2,rfl,hs2,hq1⟩;have HS2:=hid hs2;have fD:=hid ((ah.alloc _ _).trans hq1);have HR1:=hid (HR.out.stay fD.out);clear hs2 hq1;go_wp2_with (at_builtin;go_must (refine aX w1 rfl (.tmp 23) (.tmp 27) 23 rfl 25 _ 3 40 elemTy (.slice vo i vc) i xs rfl (HF.out ▸ HR1.out.own) #[.int .i64 k1,.int .i64 n2,.slice o2 len1 cap2] rfl rfl ?c1 ?c2 ?c3 ?_))
    case c1=>simp [Value.oneCell']
    case c2=>unfold maxLen;omega
    case c3=>omega
    intro g2 c' w2 ho hf hg2;have hlow:W0.heap.size<=w1.heap.size:=Nat.le_trans HQ.out.size fD.out.size;have hown:∀ kk,(Value.slice vo i vc).ownBlock=some kk->kk < wr.heap.size:=fun kk h=>(HR.out.own.lt kk h).2
    have HR2:Hid (jH w2 W0.heap.size (.slice (some ⟨g2,0,none⟩) (i+1) c') (f.app (.cons k1 n2 (qs.change p) .nil)) (xs++[.int .i64 k1,.int .i64 n2,.slice o2 len1 cap2])):=by
     show jH _ _ _ _ _
     have hf':=HF.out;subst hf';refine jH.snoc HR1.out (HS2.out.fr (Fr.refl (fun _=>False) _) ?_) ho hf hg2 hlow;intro kk _ hkk;have hkk':(wr.alloc (.cells #[.int .i64 k1,.int .i64 n1,.slice o1 len1 cap1] 25)).heap.size<=kk:=hkk;simp at hkk';refine ⟨⟨by have:=HQ.out.size;omega,fun h=>?_⟩,fun h=>h⟩;have:=hown kk h;omega
    have fC:Hid (ah W0 w2):=by
     show ah _ _
     exact Fr.trans' (HQ.out.trans fD.out) hf (fun kk hkk h=>absurd (HR.out.low kk h) (by omega))
    have HL2:Hid ((f.app (.cons k1 n2 (qs.change p) .nil)).length=i+1):=by
     show _=_
     rw [Fo.bJ,HF.out];rfl
    clear ho hf hg2 hown;go_wp2_with fail;go_roundw
    case rel=>exact ⟨i+1,_,_,some ⟨g2,0,none⟩,c',by go_num,by omega,rfl,HL2.out,HD.out,HR2.out,fC.out⟩
    case measure=>simp [intOf];omega
   ·have hlt':¬ (i:Int) < len:=by omega
    have hb1:=dF HB1.out HQ.out;have hb0:=dF HB0.out HQ.out;obtain ⟨c0,c1,c2,z0,z1,z2⟩:=ay hb0;obtain ⟨d0,d1,d2,y0,y1,y2⟩:=ay hb1;have HB0:=hid hb0;have HB1:=hid hb1;clear hb0 hb1;have hil:i=len:=by omega
    have bF:Hid (∀ u v x y:Value,aB (fun b=>w.heap.size<=b) ((((wr.setCell ⟨B,2,none⟩ u).setCell ⟨B+1,0,none⟩ v).setCell ⟨B+1,1,none⟩ x).setCell ⟨B+1,2,none⟩ y) vo len (ps.change p)/\ah w ((((wr.setCell ⟨B,2,none⟩ u).setCell ⟨B+1,0,none⟩ v).setCell ⟨B+1,1,none⟩ x).setCell ⟨B+1,2,none⟩ y)):=by
     intro u v x y;have hf:Fr (fun kk=>kk=B∨kk=B+1) wr ((((wr.setCell ⟨B,2,none⟩ u).setCell ⟨B+1,0,none⟩ v).setCell ⟨B+1,1,none⟩ x).setCell ⟨B+1,2,none⟩ y) :=
      (((Fr.setCell _ _ _ _ (.inl rfl)).trans (Fr.setCell _ _ _ _ (.inr rfl))).trans (Fr.setCell _ _ _ _ (.inr rfl))).trans (Fr.setCell _ _ _ _ (.inr rfl))
     have hap:=Tt.out;subst hil;rw [Fo.drop_end ps i (by have:=HL.out;omega)] at hap;simp only [Fo.change] at hap;rw [Fo.qZ] at hap;refine ⟨?_,?_⟩
     ·rw [<-hap];refine (HR.out.slc HF.out.symm (by unfold maxLen;omega)).fr hf ?_;intro kk _ hkk;have hkk':W0.heap.size<=kk:=hkk;have hz:=bY.out;exact ⟨by omega,by omega⟩
     ·exact Fr.trans' (bD.out.trans HQ.out) hf (fun kk hkk h=>by have hz:=bY.out;omega)
    go_wp2_with fail;have hbf:=ji (u:=.slice vo len vc) (iW (u:=.int .i64 n') (jk (u:=.int .i64 k) (B:=B+1) (w:=wr.setCell ⟨B,2,none⟩ (.slice vo len vc)) (by rw [Below.heap_setCell _ _ _ _ (by show B+1≠B;omega)];exact HB1.out)));obtain ⟨f0,f1,f2,_,_,_⟩:=ay hbf;have Zf:=bF.out (.slice vo len vc) (.int .i64 k) (.int .i64 n') (.slice vo len vc);have hn':=HN.out;clear hbf;rw [hn'] at f0 f1 f2 Zf ⊢;generalize ((((wr.setCell ⟨B,2,none⟩ (.slice vo len vc)).setCell ⟨B+1,0,none⟩ (.int .i64 k)).setCell ⟨B+1,1,none⟩ (.int .i64 n)).setCell ⟨B+1,2,none⟩ (.slice vo len vc))=wf at *;refine bodyPost_ret (by simp [results,Tryd.results45,go_sem,f0,f1,f2];rfl) rfl ?_;exact ⟨vo,⟨vc,rfl⟩,Zf⟩
 ·go_enter Tryd.func45,Tryd.ntmps45;go_wp2_with fail;refine (HK.out n _ HGN.out (HW.out.trans ((ah.alloc _ _).trans (ah.alloc _ _)))).mono ?_;rintro e w1 ⟨rfl,hq1⟩;have hb1:=dF HB1.out hq1;have hb0:=dF HB0.out hq1;obtain ⟨c0,c1,c2,z0,z1,z2⟩:=ay hb0;have HB0:=hid hb0;have HB1:=hid hb1;clear hb0 hb1;go_wp2_with fail;obtain ⟨W0,hW0⟩:∃ W0,W0=w1.setCell ⟨w.heap.size,1,none⟩ (.int .i64 (p n)):=⟨_,rfl⟩;change Code.wp _ _ _ _ (w1.setCell ⟨w.heap.size,1,none⟩ (.int .i64 (p n)));have hsz1:w.heap.size+2<=w1.heap.size:=by have:=hq1.size;simp at this;omega
  have bD:Hid (ah w W0):=by
   rw [hW0];exact (((ah.alloc _ _).trans (ah.alloc _ _)).trans hq1).trans' (Fr.setCell (fun kk=>kk=w.heap.size) _ _ _ rfl) (fun i hi h=>by omega)
  have hz0:w.heap.size+2<=W0.heap.size:=by rw [hW0];simpa [World.setCell] using hsz1
  have HN:Hid (tC p k n=p n):=by show _=_;unfold tC;rw [hk];rfl
  replace HB0:Hid (W0.heap[w.heap.size]?=some (.cells #[.int .i64 k,.int .i64 (p n),.slice o len cap] 25 (0,0))):=by
   rw [hW0];exact iW HB0.out
  replace HB1:Hid (W0.heap[w.heap.size+1]?=some (.cells #[.int .i64 0,.int .i64 0,.slice none 0 0] 25 (0,0))):=by
   show _=_
   rw [hW0,Below.heap_setCell _ _ _ _ (by show w.heap.size+1≠w.heap.size;omega)];exact HB1.out
  rw [<-hW0];clear hW0 hk hsz1 c0 c1 c2 z0 z1 z2 hq1;generalize hnn:tC p k n=n' at *;generalize hB:w.heap.size=B at *;have bY:=hid hB;clear hB;go_loopw [5,19] (fun v t wr=>∃ (i:Nat) (f:Fo) (xs:List Value) (vo:Option Addr) (vc:Nat),t=.int .i64 i/\i<=len/\v=.slice vo i vc/\f.length=i/\f.app ((ps.drop i).change p)=ps.change p/\jH wr W0.heap.size (.slice vo i vc) f xs/\ah W0 wr) (fun _ t _=>len-(intOf t).toNat)
  case atStart=>exact ⟨0,.nil,[],none,0,rfl,Nat.zero_le _,rfl,rfl,by rw [Fo.drop_zero];rfl,jH.nil _ _,ah.refl _⟩
  case round =>
   obtain ⟨i,f,xs,vo,vc,rfl,hi,rfl,hfl,hap,hrow,hq⟩:=hrel;have HF:=hid hfl;have Tt:=hid hap;have HR:=hid hrow;have HQ:=hid hq;clear hfl hap hrow hq
   by_cases hlt:i < len
   ·have hlt':(i:Int) < len:=by omega
    obtain ⟨b,off,k1,n1,qs,o1,len1,cap1,rfl,hd,hg,e0,e1,e2,hs1⟩:=(HS.out.stay (bD.out.trans HQ.out)).nth hlt;have Jf:=Fo.dG ps i k1 n1 qs hg;have HC:=hid (IH.out i k1 n1 qs hg (wr.alloc (.cells #[.int .i64 k1,.int .i64 n1,.slice o1 len1 cap1] 25)) o1 len1 cap1 (HW.out.trans ((bD.out.trans HQ.out).trans (ah.alloc _ _))) (hs1.stay (ah.alloc _ _)) (by omega) (ni ps i k1 n1 qs HGP.out hg).1 (ni ps i k1 n1 qs HGP.out hg).2);have HD:Hid ((f.app (.cons k1 (tC p k1 n1) (qs.change p) .nil)).app ((ps.drop (i+1)).change p)=ps.change p):=by
     show _=_
     rw [<-Tt.out,hd,Fo.mG];rfl
    unfold fG at HC;clear hd hg hs1 Jf;generalize tC p k1 n1=n2 at *;go_wp2_with fail;refine HC.out.mono ?_;rintro e w1 ⟨o2,cap2,rfl,hs2,hq1⟩;have HS2:=hid hs2;have fD:=hid ((ah.alloc _ _).trans hq1);have HR1:=hid (HR.out.stay fD.out);clear hs2 hq1;go_wp2_with (at_builtin;go_must (refine aX w1 rfl (.tmp 23) (.tmp 27) 23 rfl 25 _ 3 40 elemTy (.slice vo i vc) i xs rfl (HF.out ▸ HR1.out.own) #[.int .i64 k1,.int .i64 n2,.slice o2 len1 cap2] rfl rfl ?c1 ?c2 ?c3 ?_))
    case c1=>simp [Value.oneCell']
    case c2=>unfold maxLen;omega
    case c3=>omega
    intro g2 c' w2 ho hf hg2;have hlow:W0.heap.size<=w1.heap.size:=Nat.le_trans HQ.out.size fD.out.size;have hown:∀ kk,(Value.slice vo i vc).ownBlock=some kk->kk < wr.heap.size:=fun kk h=>(HR.out.own.lt kk h).2
    have HR2:Hid (jH w2 W0.heap.size (.slice (some ⟨g2,0,none⟩) (i+1) c') (f.app (.cons k1 n2 (qs.change p) .nil)) (xs++[.int .i64 k1,.int .i64 n2,.slice o2 len1 cap2])):=by
     show jH _ _ _ _ _
     have hf':=HF.out;subst hf';refine jH.snoc HR1.out (HS2.out.fr (Fr.refl (fun _=>False) _) ?_) ho hf hg2 hlow;intro kk _ hkk;have hkk':(wr.alloc (.cells #[.int .i64 k1,.int .i64 n1,.slice o1 len1 cap1] 25)).heap.size<=kk:=hkk;simp at hkk';refine ⟨⟨by have:=HQ.out.size;omega,fun h=>?_⟩,fun h=>h⟩;have:=hown kk h;omega
    have fC:Hid (ah W0 w2):=by
     show ah _ _
     exact Fr.trans' (HQ.out.trans fD.out) hf (fun kk hkk h=>absurd (HR.out.low kk h) (by omega))
    have HL2:Hid ((f.app (.cons k1 n2 (qs.change p) .nil)).length=i+1):=by
     show _=_
     rw [Fo.bJ,HF.out];rfl
    clear ho hf hg2 hown;go_wp2_with fail;go_roundw
    case rel=>exact ⟨i+1,_,_,some ⟨g2,0,none⟩,c',by go_num,by omega,rfl,HL2.out,HD.out,HR2.out,fC.out⟩
    case measure=>simp [intOf];omega
   ·have hlt':¬ (i:Int) < len:=by omega
    have hb1:=dF HB1.out HQ.out;have hb0:=dF HB0.out HQ.out;obtain ⟨c0,c1,c2,z0,z1,z2⟩:=ay hb0;obtain ⟨d0,d1,d2,y0,y1,y2⟩:=ay hb1;have HB0:=hid hb0;have HB1:=hid hb1;clear hb0 hb1;have hil:i=len:=by omega
    have bF:Hid (∀ u v x y:Value,aB (fun b=>w.heap.size<=b) ((((wr.setCell ⟨B,2,none⟩ u).setCell ⟨B+1,0,none⟩ v).setCell ⟨B+1,1,none⟩ x).setCell ⟨B+1,2,none⟩ y) vo len (ps.change p)/\ah w ((((wr.setCell ⟨B,2,none⟩ u).setCell ⟨B+1,0,none⟩ v).setCell ⟨B+1,1,none⟩ x).setCell ⟨B+1,2,none⟩ y)):=by
     intro u v x y;have hf:Fr (fun kk=>kk=B∨kk=B+1) wr ((((wr.setCell ⟨B,2,none⟩ u).setCell ⟨B+1,0,none⟩ v).setCell ⟨B+1,1,none⟩ x).setCell ⟨B+1,2,none⟩ y) :=
      (((Fr.setCell _ _ _ _ (.inl rfl)).trans (Fr.setCell _ _ _ _ (.inr rfl))).trans (Fr.setCell _ _ _ _ (.inr rfl))).trans (Fr.setCell _ _ _ _ (.inr rfl))
     have hap:=Tt.out;subst hil;rw [Fo.drop_end ps i (by have:=HL.out;omega)] at hap;simp only [Fo.change] at hap;rw [Fo.qZ] at hap;refine ⟨?_,?_⟩
     ·rw [<-hap];refine (HR.out.slc HF.out.symm (by unfold maxLen;omega)).fr hf ?_;intro kk _ hkk;have hkk':W0.heap.size<=kk:=hkk;have hz:=bY.out;exact ⟨by omega,by omega⟩
     ·exact Fr.trans' (bD.out.trans HQ.out) hf (fun kk hkk h=>by have hz:=bY.out;omega)
    go_wp2_with fail;have hbf:=ji (u:=.slice vo len vc) (iW (u:=.int .i64 n') (jk (u:=.int .i64 k) (B:=B+1) (w:=wr.setCell ⟨B,2,none⟩ (.slice vo len vc)) (by rw [Below.heap_setCell _ _ _ _ (by show B+1≠B;omega)];exact HB1.out)));obtain ⟨f0,f1,f2,_,_,_⟩:=ay hbf;have Zf:=bF.out (.slice vo len vc) (.int .i64 k) (.int .i64 n') (.slice vo len vc);have hn':=HN.out;clear hbf;rw [hn'] at f0 f1 f2 Zf ⊢;generalize ((((wr.setCell ⟨B,2,none⟩ (.slice vo len vc)).setCell ⟨B+1,0,none⟩ (.int .i64 k)).setCell ⟨B+1,1,none⟩ (.int .i64 (p n))).setCell ⟨B+1,2,none⟩ (.slice vo len vc))=wf at *;refine bodyPost_ret (by simp [results,Tryd.results45,go_sem,f0,f1,f2];rfl) rfl ?_;exact ⟨vo,⟨vc,rfl⟩,Zf⟩
end
section
open Go.RowKit Go.Shelf
def bf (w:World) (B:Nat) (a b c:Value):World:=((w.setCell ⟨B,0,none⟩ a).setCell ⟨B,1,none⟩ b).setCell ⟨B,2,none⟩ c
theorem aZ (w:World) (B:Nat) (a b c:Value):Fr (fun k=>k=B) w (bf w B a b c) :=
 ((Fr.setCell (fun k=>k=B) w ⟨B,0,none⟩ a rfl).trans (Fr.setCell (fun k=>k=B) _ ⟨B,1,none⟩ b rfl)).trans (Fr.setCell (fun k=>k=B) _ ⟨B,2,none⟩ c rfl)
theorem aV {w : World} {B : Nat} {a b c a' b' c' : Value} {t : TypeId} (h : w.heap[B]? = some (.cells #[a', b', c'] t (0, 0))) :
    (bf w B a b c).cell? ⟨B,0,none⟩=some a/\(bf w B a b c).cell? ⟨B,1,none⟩=some b/\(bf w B a b c).cell? ⟨B,2,none⟩=some c:=by
 have hbf:=ji (u:=c) (iW (u:=b) (jk (u:=a) h));obtain ⟨f0,f1,f2,_,_,_⟩:=ay hbf;exact ⟨f0,f1,f2⟩
theorem Rj (w0:World):DoK 46 #[] w0 (fun _=>True) (fun n=>n):=by
 intro n W _ _;go_enter Tryd.func46,Tryd.ntmps46;go_wp2_with fail;go_ret;exact ⟨rfl,ah.refl _⟩
theorem YA:∀ args w,(callFunc 46 args).run Tryd.prog w=.ok (.enter 46 args) w:=enters_of Tryd.func46 (by kernel_rfl) rfl
theorem xO (k n : Int) (ps : Fo) (w : World) (o : Option Addr) (len cap : Nat) (hs : nJ w o len ps) (hsz : ps.size <= 1000000) :
    Calls Tryd.prog 23 #[fG k n o len cap] w fun e w'=>∃ o' cap',e=.returned (fG k n o' len cap')/\aB (fun b=>w.heap.size<=b) w' o' len ps/\ah w w':=by
 have HC:=hid (BI YA (Rj w) k n ps ((w.alloc (.cells #[.int .i64 k,.int .i64 n,.slice o len cap] 25)).alloc (.cells #[.int .i64 0,.int .i64 0,.slice none 0 0] 25)) o len cap ((ah.alloc _ _).trans (ah.alloc _ _)) (hs.stay ((ah.alloc _ _).trans (ah.alloc _ _))) hsz trivial (uM (fun _=>trivial) ps));rw [Fo.zk,show tC (fun n=>n) k n=n from by unfold tC;split<;>rfl] at HC;have hb1:((w.alloc (.cells #[.int .i64 k,.int .i64 n,.slice o len cap] 25)).alloc (.cells #[.int .i64 0,.int .i64 0,.slice none 0 0] 25)).heap[w.heap.size+1]?=some (.cells #[.int .i64 0,.int .i64 0,.slice none 0 0] 25 (0,0)):=by
  have:=heap_alloc_new (w.alloc (.cells #[.int .i64 k,.int .i64 n,.slice o len cap] 25)) (.cells #[.int .i64 0,.int .i64 0,.slice none 0 0] 25);simpa using this
 have HB1:=hid hb1;clear hs hb1;unfold fG at *;go_enter Tryd.func23,Tryd.ntmps23;go_wp2_with fail;refine HC.out.mono ?_;rintro e w1 ⟨o2,cap2,rfl,hs2,hq1⟩;have hb1:=dF HB1.out hq1;have HB2:=hid hb1;obtain ⟨d0,d1,d2,y0,y1,y2⟩:=ay hb1;have HS2:=hid hs2;have fD:=hid hq1;clear hs2 hq1 hb1;go_wp2_with fail;clear d0 d1 d2 y0 y1 y2;have hf:=aZ w1 (w.heap.size+1) (.int .i64 k) (.int .i64 n) (.slice o2 len cap2);obtain ⟨f0,f1,f2⟩:=aV (a:=.int .i64 k) (b:=.int .i64 n) (c:=.slice o2 len cap2) HB2.out;change bodyPost _ _ _ _ _ (bf w1 (w.heap.size+1) (.int .i64 k) (.int .i64 n) (.slice o2 len cap2));generalize bf w1 (w.heap.size+1) (.int .i64 k) (.int .i64 n) (.slice o2 len cap2)=wf at *;refine bodyPost_ret (by simp [results,Tryd.results23,go_sem,f0,f1,f2];rfl) rfl ?_;refine ⟨o2,cap2,rfl,HS2.out.fr hf ?_,(((ah.alloc _ _).trans (ah.alloc _ _)).trans fD.out).trans' hf (fun kk hkk h=>by omega)⟩;intro kk _ hkk;have hkk':((w.alloc (.cells #[.int .i64 k,.int .i64 n,.slice o len cap] 25)).alloc (.cells #[.int .i64 0,.int .i64 0,.slice none 0 0] 25)).heap.size<=kk:=hkk;simp at hkk';exact ⟨by omega,by omega⟩
theorem NC (n : Int) (w : World) :
    Calls Tryd.prog 13 #[.int .i64 n] w fun e w'=>e=.returned (fG 1 n none 0 0)/\ah w w':=by
 unfold fG;go_enter Tryd.func13,Tryd.ntmps13;go_wp2_with fail;obtain ⟨f0,f1,f2⟩:=kY w 1 n none 0 0 25 _ (ah.refl _);have hq:=ah.alloc w (.cells #[.int .i64 1,.int .i64 n,.slice none 0 0] 25);generalize w.alloc (.cells #[.int .i64 1,.int .i64 n,.slice none 0 0] 25)=wf at *;refine bodyPost_ret (by simp [results,Tryd.results13,go_sem,f0,f1,f2];rfl) rfl ?_;exact ⟨rfl,hq⟩
def Nw:Fo->Int
 | .nil=>0
 | .cons k _ _ .nil=>k
 | .cons _ _ _ (.cons _ _ _ _)=>4
def Ny:Fo->Int
 | .nil=>0
 | .cons _ n _ .nil=>n
 | .cons _ _ _ (.cons _ _ _ _)=>0
def Rk:Fo->Fo
 | .nil=>.nil
 | .cons _ _ ps .nil=>ps
 | .cons k n ps (.cons k' n' ps' r)=>.cons k n ps (.cons (Nw (.cons k' n' ps' r)) (Ny (.cons k' n' ps' r)) (Rk (.cons k' n' ps' r)) .nil)
def zW (f : Fo) : Prop := ∀ (w : World) (o : Option Addr) (len cap : Nat), nJ w o len f -> len <= cap -> f.size <= 1000000 ->
    Calls Tryd.prog 14 #[.slice o len cap] w fun e w'=>∃ o' len' cap',e=.returned (fG (Nw f) (Ny f) o' len' cap')/\aB (fun b=>w.heap.size<=b) w' o' len' (Rk f)/\ah w w'
theorem Rn:zW .nil:=by
 intro w o len cap hs hc hsz;have hl:len=0:=hs.1;subst hl;unfold fG Nw Ny;go_enter Tryd.func14,Tryd.ntmps14;go_wp2_with fail;obtain ⟨f0,f1,f2⟩:=kY w 0 0 none 0 0 25 _ (ah.refl _);have hq:=ah.alloc w (.cells #[.int .i64 0,.int .i64 0,.slice none 0 0] 25);generalize w.alloc (.cells #[.int .i64 0,.int .i64 0,.slice none 0 0] 25)=wf at *;refine bodyPost_ret (by simp [results,Tryd.results14,go_sem,f0,f1,f2];rfl) rfl ?_;exact ⟨none,0,0,rfl,aB.nil _ _ _,hq⟩
theorem Ro (k n:Int) (ps:Fo):zW (.cons k n ps .nil):=by
 intro w o len cap hs hc hsz;have hl:len=1:=hs.1;subst hl;obtain ⟨b,off,k',n',qs,o1,len1,cap1,rfl,hd,hg,e0,e1,e2,hs1⟩:=hs.nth (i:=0) (by omega);simp only [Fo.get] at hg;cases hg;have Jf:ps.size<=1000000:=by simp only [Fo.size] at hsz;omega
 have HC:=hid (xO k n ps (w.alloc (.cells #[.int .i64 0,.int .i64 0,.slice none 0 0] 25)) o1 len1 cap1 (hs1.stay (ah.alloc _ _)) Jf);have HB1:=hid (heap_alloc_new w (.cells #[.int .i64 0,.int .i64 0,.slice none 0 0] 25));rw [Nat.zero_mul,Nat.add_zero] at e0 e1 e2;have hbl:=World.block_lt_of_cell? w _ e0;clear hd hs hs1 hsz;unfold fG at *;simp only [Nw,Ny,Rk];go_enter Tryd.func14,Tryd.ntmps14;go_wp2_with fail;refine HC.out.mono ?_;rintro e w1 ⟨o2,cap2,rfl,hs2,hq1⟩;have hb1:=dF HB1.out hq1;have HB2:=hid hb1;obtain ⟨d0,d1,d2,y0,y1,y2⟩:=ay hb1;have HS2:=hid hs2;have fD:=hid hq1;clear hs2 hq1 hb1;go_wp2_with fail;clear d0 d1 d2 y0 y1 y2;have hf:=aZ w1 w.heap.size (.int .i64 k) (.int .i64 n) (.slice o2 len1 cap2);obtain ⟨f0,f1,f2⟩:=aV (a:=.int .i64 k) (b:=.int .i64 n) (c:=.slice o2 len1 cap2) HB2.out;change bodyPost _ _ _ _ _ (bf w1 w.heap.size (.int .i64 k) (.int .i64 n) (.slice o2 len1 cap2));generalize bf w1 w.heap.size (.int .i64 k) (.int .i64 n) (.slice o2 len1 cap2)=wf at *;refine bodyPost_ret (by simp [results,Tryd.results14,go_sem,f0,f1,f2];rfl) rfl ?_;refine ⟨o2,len1,cap2,rfl,HS2.out.fr hf ?_,((ah.alloc _ _).trans fD.out).trans' hf (fun kk hkk h=>by omega)⟩;intro kk _ hkk;have hkk':(w.alloc (.cells #[.int .i64 0,.int .i64 0,.slice none 0 0] 25)).heap.size<=kk:=hkk;simp at hkk';exact ⟨by omega,by omega⟩
theorem Nz (k n:Int) (ps:Fo) (k2 n2:Int) (ps2 r:Fo) (ih:zW (.cons k2 n2 ps2 r)):zW (.cons k n ps (.cons k2 n2 ps2 r)):=by
 intro w o len cap hs hc hsz;have hl:len=r.length+1+1:=hs.1;have hmx:=hs.2.1;unfold maxLen at hmx;obtain ⟨b,off,k',n',qs,o1,len1,cap1,rfl,hd,hg,e0,e1,e2,hs1⟩:=hs.nth (i:=0) (by omega);simp only [Fo.get] at hg;cases hg;have Jf:ps.size<=1000000:=by simp only [Fo.size] at hsz;omega
 have HC:=hid (xO k n ps);have hs2:nJ w (some ⟨b,off+3,none⟩) (len-1) (.cons k2 n2 ps2 r):=by
  refine ⟨by simp only [Fo.length];omega,by unfold maxLen;omega,fun _=>⟨b,off+3,rfl,?_⟩⟩;obtain ⟨b',off',he,ha⟩:=hs.2.2 (by omega);cases he;exact ha.2.2.2
 have HB1:=hid (heap_alloc_new w (.cells #[.int .i64 0,.int .i64 0,.slice none 0 0] 25));rw [Nat.zero_mul,Nat.add_zero] at e0 e1 e2;have hsz2:(Fo.cons k2 n2 ps2 r).size<=1000000:=by simp only [Fo.size] at hsz ⊢;omega
 have nH:=hid hs1;have HS2:=hid hs2;have hlen2:2<=len:=by omega
 unfold zW at ih;have IH:=hid ih;have j0:(0:Int) < (len:Int):=by omega
 have jn:0 < len:=by omega
 have j1:(1:Int)<=(len:Int):=by omega
 have j2:(len:Int)<=(cap:Int):=by omega
 clear hd hs hs1 hs2 hsz hl ih;unfold fG at *;have e4:Nw (.cons k n ps (.cons k2 n2 ps2 r))=4:=rfl;have e0':Ny (.cons k n ps (.cons k2 n2 ps2 r))=0:=rfl;have eP:Rk (.cons k n ps (.cons k2 n2 ps2 r))=.cons k n ps (.cons (Nw (.cons k2 n2 ps2 r)) (Ny (.cons k2 n2 ps2 r)) (Rk (.cons k2 n2 ps2 r)) .nil):=rfl;rw [e4,e0',eP];clear e4 e0' eP;generalize Rk (.cons k2 n2 ps2 r)=pa at *;generalize Nw (.cons k2 n2 ps2 r)=ka at *;generalize Ny (.cons k2 n2 ps2 r)=na at *;go_enter Tryd.func14,Tryd.ntmps14;go_wp2_with fail;obtain ⟨W0,hW0⟩:∃ W0,W0=w.alloc (.cells #[.int .i64 0,.int .i64 0,.slice none 0 0] 25):=⟨_,rfl⟩;change Code.wp _ _ _ _ (w.alloc (.cells #[.int .i64 0,.int .i64 0,.slice none 0 0] 25));have bD:Hid (ah w W0):=by rw [hW0];exact ah.alloc _ _
 have hz0:w.heap.size+1=W0.heap.size:=by rw [hW0];simp
 have HZ:=hid hz0;rw [<-hW0] at HB1 ⊢;have g0:=bD.out.at e0;have g1:=bD.out.at e1;have g2:=bD.out.at e2;have hbB:¬ b=w.heap.size:=by have:=World.block_lt_of_cell? w _ e0;simp at this;omega
 clear hW0 e0 e1 e2 hz0;generalize hB:w.heap.size=B at *;have bY:=hid hB;clear hB;go_region_held3 (fun w'=>w'.cell? ⟨b,off,none⟩=some (.int .i64 k)/\w'.cell? ⟨b,off+1,none⟩=some (.int .i64 n)/\w'.cell? ⟨b,off+2,none⟩=some (.slice o1 len1 cap1))
  (first
   | (go_keep;done)
   | (exact ⟨h0,h1,h2⟩)
   | (exact ⟨f0,f1,f2⟩)
   | (exact ⟨g0,g1,g2⟩)
   | (have hp:=aZ w4 B (.int .i64 4) (.int .i64 0) (.slice (some ⟨w4.heap.size,0,none⟩) 2 2);exact ⟨(ah.alloc _ _).at ((hp.aY aaU hbB).trans h0),(ah.alloc _ _).at ((hp.aY aaU hbB).trans h1),(ah.alloc _ _).at ((hp.aY aaU hbB).trans h2)⟩))
  (first
   | (go_at_call 23;refine (HC.out _ _ _ _ (nH.out.stay (bD.out.trans (ah.drew _))) Jf).mono ?_;rintro e w3 ⟨o2,cap2,rfl,hs3,hq3⟩;have f3:=(ah.drew W0).trans hq3;have f0:=f3.at g0;have f1:=f3.at g1;have f2:=f3.at g2;have qI:=hid hq3;have Sl:=hid hs3;have HF3:=hid f3;clear hq3 hs3)
   | (go_at_call 14;refine (IH.out _ _ _ _ (HS2.out.stay (bD.out.trans HF3.out)) (by omega) hsz2).mono ?_;rintro e w4 ⟨o3,Rq,cap3,rfl,hs4,hq4⟩;have h3:=HF3.out.trans hq4;have h0:=h3.at g0;have aaU:=World.block_lt_of_cell? w4 _ h0;have h1:=h3.at g1;have h2:=h3.at g2;have hb4:=dF HB1.out h3;have hlt4:=lt_of_block hb4;obtain ⟨d0,d1,d2,y0,y1,y2⟩:=ay hb4;have HB4:=hid hb4;have uI:=hid hq4;have GV:=hid hs4;have MC:=hid h3;clear hq4 hs4 hb4))
 all_goals
  go_wp2_with fail;clear d0 d1 d2 y0 y1 y2;have hf:=aZ w4 B (.int .i64 4) (.int .i64 0) (.slice (some ⟨w4.heap.size,0,none⟩) 2 2);obtain ⟨p0,p1,p2⟩:=aV (a:=.int .i64 4) (b:=.int .i64 0) (c:=.slice (some ⟨w4.heap.size,0,none⟩) 2 2) HB4.out;have hps:(bf w4 B (.int .i64 4) (.int .i64 0) (.slice (some ⟨w4.heap.size,0,none⟩) 2 2)).heap.size=w4.heap.size:=by simp [bf,World.setCell]
  change bodyPost _ _ _ _ _ ((bf w4 B (.int .i64 4) (.int .i64 0) (.slice (some ⟨w4.heap.size,0,none⟩) 2 2)).alloc (.cells #[.int .i64 k,.int .i64 n,.slice o2 len1 cap2,.int .i64 ka,.int .i64 na,.slice o3 Rq cap3] 25));generalize bf w4 B (.int .i64 4) (.int .i64 0) (.slice (some ⟨w4.heap.size,0,none⟩) 2 2)=w5 at *;have hnew:=heap_alloc_new w5 (.cells #[.int .i64 k,.int .i64 n,.slice o2 len1 cap2,.int .i64 ka,.int .i64 na,.slice o3 Rq cap3] 25);have hqa:=ah.alloc w5 (.cells #[.int .i64 k,.int .i64 n,.slice o2 len1 cap2,.int .i64 ka,.int .i64 na,.slice o3 Rq cap3] 25);generalize w5.alloc (.cells #[.int .i64 k,.int .i64 n,.slice o2 len1 cap2,.int .i64 ka,.int .i64 na,.slice o3 Rq cap3] 25)=wf at *;rw [hps] at hnew;have q0:=hqa.at p0;have q1:=hqa.at p1;have q2:=hqa.at p2;refine bodyPost_ret (by simp [results,Tryd.results14,go_sem,q0,q1,q2];rfl) rfl ?_;have hbe:=bY.out;have hz:=HZ.out;have hw3:=HF3.out.size;have hw4:=MC.out.size;have hfa:Fr (fun kk=>kk=B) w4 wf:=hf.trans (hqa.mono (fun _ _ h=>h.elim));refine ⟨some ⟨w4.heap.size,0,none⟩,2,2,rfl,⟨rfl,by decide,fun _=>⟨w4.heap.size,0,rfl,?_⟩⟩,((bD.out.trans MC.out).trans' hfa (fun kk hkk h=>by omega))⟩;have hsa:aB (fun kk=>w.heap.size<=kk) wf o2 len1 ps:=by
   refine (Sl.out.fr (T:=fun kk=>W0.heap.size<=kk) uI.out (fun kk _ h=>⟨h,fun h=>h⟩)).fr hfa ?_;intro kk _ h;have h':W0.heap.size<=kk:=h;exact ⟨by omega,by omega⟩
  have hsb:aB (fun kk=>w.heap.size<=kk) wf o3 Rq pa:=by
   refine GV.out.fr hfa ?_;intro kk _ h;have h':w3.heap.size<=kk:=h;exact ⟨by omega,by omega⟩
  have hR:w.heap.size<=w4.heap.size:=by omega
  exact ⟨hR,by rw [cell_of_row _ _ _ _ _ (0,0) hnew];rfl,by rw [cell_of_row _ _ _ _ _ (0,0) hnew];rfl,⟨o2,len1,cap2,by rw [cell_of_row _ _ _ _ _ (0,0) hnew];rfl,hsa.1,hsa.2.1,hsa.2.2⟩,
   hR,by rw [cell_of_row _ _ _ _ _ (0,0) hnew];rfl,by rw [cell_of_row _ _ _ _ _ (0,0) hnew];rfl,⟨o3,Rq,cap3,by rw [cell_of_row _ _ _ _ _ (0,0) hnew];rfl,hsb.1,hsb.2.1,hsb.2.2⟩,trivial⟩
theorem F8:∀ f:Fo,zW f
 | .nil=>Rn
 | .cons k n ps .nil=>Ro k n ps
 | .cons k n ps (.cons k2 n2 ps2 r)=>Nz k n ps k2 n2 ps2 r (F8 (.cons k2 n2 ps2 r))
end
section
open Go.RowKit
theorem YB:∀ args w,(callFunc 72 args).run Tryd.prog w=.ok (.enter 72 args) w:=enters_of Tryd.func72 (by kernel_rfl) rfl
def Wv (k n:Int) (ps:Fo):Prop:=∀ (k' n':Int) (ps':Fo) (w:World) (o:Option Addr) (len cap:Nat) (o':Option Addr) (len' cap':Nat),nJ w o len ps->nJ w o' len' ps' ->
 Calls Tryd.prog 72 #[fG k n o len cap,fG k' n' o' len' cap'] w fun e w'=>e=.returned (.bool (lJ k n ps k' n' ps'))/\ah w w'
theorem Fb (ps ps' : Fo) (ih : ∀ i k n qs, ps.get i = some (k, n, qs) -> Wv k n qs) (w : World) (o : Option Addr) (len cap : Nat) (o' : Option Addr) (len' cap' : Nat) (hs : nJ w o len ps) (hs' : nJ w o' len' ps') :
    Calls Tryd.prog 85 #[.slice o len cap,.slice o' len' cap',.func (.func 72) #[] #[]] w fun e w'=>e=.returned (.bool (ps.same ps'))/\ah w w':=by
 have HS:=hid hs;have HS':=hid hs';have IH:=hid ih;have HL:=hid hs.1;have HL':=hid hs'.1;have hmx:=hs.2.1;unfold maxLen at hmx;have eg:=YB;clear hs hs' ih;obtain ⟨res,hres⟩:∃ res,res=ps.same ps':=⟨_,rfl⟩;have aQ:=hid hres;rw [<-hres];clear hres
 by_cases hlen:len=len'
 ·subst hlen;have b3:((len:Int) != (len:Int))=false:=by simp
  go_enter Tryd.func85,Tryd.ntmps85;go_wp2_with fail;go_loopw [17] (fun t wr=>∃ (i:Nat),t=.int .i64 i/\i<=len/\res=(ps.drop i).same (ps'.drop i)/\ah w wr) (fun t _=>len-(intOf t).toNat)
  case atStart=>exact ⟨0,rfl,Nat.zero_le _,by rw [Fo.drop_zero,Fo.drop_zero];exact aQ.out,ah.refl _⟩
  case round =>
   obtain ⟨i,rfl,hi,hr,hq⟩:=hrel;have HR:=hid hr;have HQ:=hid hq;clear hr hq
   by_cases hlt:i < len
   ·have hlt':(i:Int) < len:=by omega
    obtain ⟨b,off,k1,n1,qs1,o1,len1,cap1,rfl,hd1,hg1,e0,e1,e2,hs1⟩:=(HS.out.stay HQ.out).nth hlt;obtain ⟨b2,off2,k2,n2,qY,o2,len2,cap2,rfl,hd2,hg2,f0,f1,f2,hs2⟩:=(HS'.out.stay HQ.out).nth hlt;have hbl:=World.block_lt_of_cell? _ _ e0;have aee:=World.block_lt_of_cell? _ _ f0;have HC:=hid (fun (W:World) (hq:ah wr W)=>IH.out i k1 n1 qs1 hg1 k2 n2 qY W o1 len1 cap1 o2 len2 cap2 (hs1.stay hq) (hs2.stay hq));have HN:Hid (res=(lJ k1 n1 qs1 k2 n2 qY && (ps.drop (i+1)).same (ps'.drop (i+1)))):=by
     show _=_
     rw [HR.out,hd1,hd2,Gy]
    unfold fG at HC;clear hd1 hg1 hs1 hd2 hg2 hs2;cases hb:lJ k1 n1 qs1 k2 n2 qY
    all_goals
     have Yz:=hid hb;rw [hb] at HC;clear hb;go_wp2_with fail;refine (HC.out _ ((ah.alloc _ _).trans (ah.alloc _ _))).mono ?_;rintro e w1 ⟨rfl,hq1⟩;have fD:=hid (HQ.out.trans (((ah.alloc _ _).trans (ah.alloc _ _)).trans hq1));clear hq1;go_wp2_with fail
    ·go_ret;exact ⟨by rw [HN.out,Yz.out];rfl,fD.out⟩
    ·go_roundw
     case rel=>exact ⟨i+1,by go_num,by omega,by rw [HN.out,Yz.out];rfl,fD.out⟩
     case measure=>simp [intOf];omega
   ·have hlt':¬ (i:Int) < len:=by omega
    have HY:Hid (res=true):=by
     show _=_
     rw [HR.out,Fo.drop_end ps i (by have:=HL.out;omega),Fo.drop_end ps' i (by have:=HL'.out;omega)];rfl
    go_wp2_with fail;go_ret;exact ⟨by rw [HY.out];rfl,HQ.out⟩
 ·have HF : Hid (res = false) := by
    show _=_
    rw [aQ.out];cases h:ps.same ps'
    ·rfl
    ·exact absurd (Fo.same_length _ _ h) (by have:=HL.out;have:=HL'.out;omega)
  have b3:((len:Int) != (len':Int))=true:=by simp;omega
  go_enter Tryd.func85,Tryd.ntmps85;go_wp2_with fail;go_ret;exact ⟨by rw [HF.out];rfl,ah.refl _⟩
theorem TA (k n:Int) (ps:Fo):Wv k n ps:=by
 refine Fo.uY (T:=Wv) ?_ k n ps;intro k n ps ih k' n' ps' w o len cap o' len' cap' hs hs';have HC:=hid (fun (W:World) (hq:ah w W)=>Fb ps ps' ih W o len cap o' len' cap' (hs.stay hq) (hs'.stay hq));unfold lJ;clear hs hs' ih;generalize ps.same ps'=r at *;cases hk:(k == k')
 ·unfold fG;go_enter Tryd.func72,Tryd.ntmps72;go_wp2_with fail;go_ret;exact ⟨rfl,(ah.alloc _ _).trans (ah.alloc _ _)⟩
 ·cases hn:(n == n')
  ·unfold fG;go_enter Tryd.func72,Tryd.ntmps72;go_wp2_with fail;go_ret;exact ⟨rfl,(ah.alloc _ _).trans (ah.alloc _ _)⟩
  ·unfold fG;go_enter Tryd.func72,Tryd.ntmps72;go_wp2_with fail;refine (HC.out _ ((ah.alloc _ _).trans (ah.alloc _ _))).mono ?_;rintro e w1 ⟨rfl,hq1⟩;go_wp2_with fail;go_ret;exact ⟨by simp,((ah.alloc _ _).trans (ah.alloc _ _)).trans hq1⟩
end
section
open Go.RowKit Go.Shelf
def qg {σ:Type} (step:σ->Int->Int->Fo->σ):σ->Fo->σ
 | s,.nil=>s
 | s,.cons k n ps r=>qg step (qg step (step s k n ps) ps) r
structure YD (g:Nat) (lb:Array Value) (N:Nat) (w0:World) (G:Int->Prop) (S:World->Nat->Prop) {σ:Type} (step:σ->Int->Int->Fo->σ) (J:Nat->σ->World->Prop):Prop where
 quiet:∀ m s W,J m s W->ah w0 W
 alloc:∀ m s W o,J m s W->J m s (W.alloc o)
 low:∀ m s W,J m s W->∀ k,S W k->k < W.heap.size
 back:∀ m s W o k,J m s W->S (W.alloc o) k->S W k
 call:∀ m s k n ps (W:World) (o:Option Addr) (len cap:Nat),m < N->J m s W->nJ w0 o len ps->G n ->
  Calls Tryd.prog g (#[fG k n o len cap]++lb) W fun e W'=>e=.returned (.tuple #[])/\J (m+1) (step s k n ps) W'/\Fr (S W) W W'
section
variable {g:Nat} {lb:Array Value} {N:Nat} {w0:World} {G:Int->Prop} {S:World->Nat->Prop} {σ:Type} {step:σ->Int->Int->Fo->σ} {J:Nat->σ->World->Prop}
def Zb (g:Nat) (lb:Array Value) (N:Nat) (w0:World) (G:Int->Prop) {σ:Type} (step:σ->Int->Int->Fo->σ) (J:Nat->σ->World->Prop) (k n:Int) (ps:Fo):Prop :=
 ∀ (m:Nat) (s:σ) (w:World) (o:Option Addr) (len cap:Nat),J m s w->nJ w0 o len ps->m+(ps.size+1)<=N->G n->Jj G ps ->
  Calls Tryd.prog 89 #[fG k n o len cap,.func (.func g) #[] lb] w fun e w'=>e=.returned (.tuple #[])/\J (m+(ps.size+1)) (qg step (step s k n ps) ps) w'
theorem Si (eg:∀ args w,(callFunc g args).run Tryd.prog w=.ok (.enter g args) w) (hK:YD g lb N w0 G S step J) (k n:Int) (ps:Fo):Zb g lb N w0 G step J k n ps:=by
 refine Fo.uY (T:=Zb g lb N w0 G step J) ?_ k n ps;intro k n ps ih m s w o len cap hJ hs hN hgn GR;have HGP:=hid GR;have HS:=hid hs;have IH:=hid ih;have HL:=hid hs.1;have hmx:=hs.2.1;unfold maxLen at hmx;have HK:=hid hK;have HJ:=hid (hK.alloc m s w (.cells #[.int .i64 k,.int .i64 n,.slice o len cap] 25) hJ);have XE:=hid (hK.low m s w hJ);have acB:=hid (fun j=>hK.back m s w (.cells #[.int .i64 k,.int .i64 n,.slice o len cap] 25) j hJ);have HC:=hid (hK.call m s k n ps _ o len cap (by omega) HJ.out hs hgn);clear hs ih hJ hK hgn GR;unfold fG at HC ⊢;go_enter Tryd.func89,Tryd.ntmps89;go_wp2_with fail;refine HC.out.mono ?_;rintro e w1 ⟨rfl,hj1,hf1⟩;have HJ1:=hid hj1;have c2:w1.cell? ⟨w.heap.size,2,none⟩=some (.slice o len cap):=by
  rw [hf1.aY (by simp) (fun h=>absurd (XE.out _ (acB.out _ h)) (Nat.lt_irrefl _)),cell_of_row _ _ _ _ _ (0,0) (heap_alloc_new w _)];rfl
 clear hj1 hf1;go_wp2_with fail;clear c2;go_loopw [12] (fun t wr=>∃ (i m':Nat) (s':σ),t=.int .i64 i/\i<=len/\m'+(ps.drop i).size=m+(ps.size+1)/\qg step s' (ps.drop i)=qg step (step s k n ps) ps/\J m' s' wr) (fun t _=>len-(intOf t).toNat)
 case atStart=>exact ⟨0,m+1,_,rfl,Nat.zero_le _,by rw [Fo.drop_zero];omega,by rw [Fo.drop_zero],HJ1.out⟩
 case round =>
  obtain ⟨i,m',s',rfl,hi,hm,hfo,hj⟩:=hrel;have HM:=hid hm;have HFO:=hid hfo;have HJJ:=hid hj;clear hm hfo hj
  by_cases hlt:i < len
  ·have hlt':(i:Int) < len:=by omega
   have HQ:=hid (HK.out.quiet _ _ _ HJJ.out);obtain ⟨b,off,k1,n1,qs,o1,len1,cap1,rfl,hd,hg,e0,e1,e2,hs1⟩:=(HS.out.stay HQ.out).nth hlt;obtain ⟨_,_,_,_,_,_,_,_,ho,hd',hg',_,_,f2,hs0⟩:=HS.out.nth hlt;rw [hg] at hg';cases hg';cases ho;have f2':=HQ.out.at f2;rw [e2] at f2';cases f2';have HC1:=hid (IH.out i k1 n1 qs hg m' s' _ o1 len1 cap1 (HK.out.alloc m' s' wr (.cells #[.int .i64 k1,.int .i64 n1,.slice o1 len1 cap1] 25) HJJ.out) hs0 (by
    have:=HM.out;rw [hd] at this;simp only [Fo.size] at this;omega) (ni ps i k1 n1 qs HGP.out hg).1 (ni ps i k1 n1 qs HGP.out hg).2)
   have Fe:Hid (m'+(qs.size+1)+(ps.drop (i+1)).size=m+(ps.size+1)):=by
    have:=HM.out;rw [hd] at this;simp only [Fo.size] at this;show _=_;omega
   have adH:Hid (qg step (qg step (step s' k1 n1 qs) qs) (ps.drop (i+1))=qg step (step s k n ps) ps):=by
    show _=_
    rw [<-HFO.out,hd];rfl
   unfold fG at HC1;clear hd hg hs1 hd' f2 hs0;go_wp2_with fail;refine HC1.out.mono ?_;rintro e w2 ⟨rfl,hj2⟩;have HJ2:=hid hj2;clear hj2;go_wp2_with fail;go_roundw
   case rel=>exact ⟨i+1,m'+(qs.size+1),_,by go_num,by omega,Fe.out,adH.out,HJ2.out⟩
   case measure=>simp [intOf];omega
  ·have hlt':¬ (i:Int) < len:=by omega
   have HE:Hid (J (m+(ps.size+1)) (qg step (step s k n ps) ps) wr):=by
    have h1:=HM.out;have h2:=HFO.out;rw [Fo.drop_end ps i (by have:=HL.out;omega)] at h1 h2;simp only [Fo.size,Nat.add_zero,qg] at h1 h2
    show J _ _ _
    rw [<-h1,<-h2];exact HJJ.out
   go_wp2_with fail;go_end0;exact ⟨rfl,HE.out⟩
end
end
section
open Go.RowKit Go.Shelf
def fQ (w:World) (c:Nat) (v:Value) (t:TypeId):Prop:=w.heap[c]?=some (.cells #[v] t (0,0))
theorem fQ.alloc {w:World} {c:Nat} {v:Value} {t:TypeId} (h:fQ w c v t) (o:Obj):fQ (w.alloc o) c v t:=by
 unfold fQ at *;rw [Below.heap_alloc _ _ _ (lt_of_block h)];exact h
theorem fQ.new (w:World) (v:Value) (t:TypeId):fQ (w.alloc (.cells #[v] t)) w.heap.size v t:=heap_alloc_new w _
end
section
open Go.RowKit Go.Maps
def OW (n:Int):Prop:=(Lit.int .i64 n).wf=true
theorem GK {n:Int} (h0:-9223372036854775808<=n) (h1:n<=9223372036854775807):OW n:=WalkArith.wf_i64 (by omega)
theorem acC:Keyed Tryd.prog 3:=int_keyed Tryd.underlying3
theorem zeroE (w:World):(zeroValue 3).run Tryd.prog w=.ok (.int .i64 0) w:=by kernel_rfl
def wfF (f:Fo):Prop:=Jj OW f
def MapOf (w:World) (b n:Nat) (p:Int->Int):Prop :=
 ∃ D:DataW Unit,w.ownsMap Tryd.prog 3 (plainElem Tryd.prog 3) b n D/\IsMap D/\∀ v,OW v->D.atKey (.int .i64 v) (.lit (.int .i64 0))=.lit (.int .i64 (p v))
theorem MapOf.made (w:World):MapOf (w.alloc (.map #[] 0)) w.heap.size 0 (fun _=>0) :=
 ⟨.map [],World.ownsMap_made _ _ _ _,⟨_,rfl⟩,fun _ _=>rfl⟩
theorem MapOf.lt {w:World} {b n:Nat} {p:Int->Int} (h:MapOf w b n p):b < w.heap.size:=by
 obtain ⟨D,h,_⟩:=h;exact h.lt
theorem MapOf.fr {w w':World} {b n:Nat} {p:Int->Int} {S:Nat->Prop} (h:MapOf w b n p) (hf:Fr S w w') (hb:¬ S b):MapOf w' b n p:=by
 have hlt:=h.lt;obtain ⟨D,⟨es,clock,hh,F,hs,hD⟩,hm,ha⟩:=h;exact ⟨D,⟨es,clock,(hf.block b hlt hb).trans hh,F,hs,hD⟩,hm,ha⟩
theorem MapOf.stay {w w':World} {b n:Nat} {p:Int->Int} (h:MapOf w b n p) (hq:ah w w'):MapOf w' b n p:=h.fr hq (fun h=>h)
theorem MapOf.aaV {w:World} {b n:Nat} {p q:Int->Int} (h:MapOf w b n p) (he:∀ v,OW v->p v=q v):MapOf w b n q:=by
 obtain ⟨D,h1,h2,h3⟩:=h;exact ⟨D,h1,h2,fun v hv=>by rw [h3 v hv,he v hv]⟩
theorem MapOf.look {w:World} {b n:Nat} {p:Int->Int} (h:MapOf w b n p) {v:Int} (hv:OW v):(Instr.lookup 125 (.map (some b)) (.int .i64 v) false).run Tryd.prog w=.ok (.int .i64 (p v)) w:=by
 obtain ⟨D,h1,h2,h3⟩:=h;obtain ⟨c,hr,hc,_⟩:=h1.lookup_int acC Tryd.underlying125 Tryd.underlying3 (zeroE _) (keyOf_int_mk Tryd.underlying3 hv);rw [h3 v hv] at hc;injection hc with hc
 injection hc with _ hc
 rw [hc];exact hr
theorem GI (w : World) {ops : Array Oper} {rest : List Oper} {o : Oper} {a : Act} {Q : Exit -> Act -> World -> Prop}
    (hg:o.guard=none) (m x y:Operand) (hop:o.op=Op.mapUpdate 125 m x y) {b n:Nat} {p:Int->Int} (hm:a.eval m=.map (some b)) (hown:MapOf w b n p) (hn:n < maxLen) (v u:Int) (hv:OW v) (hu:OW u) (hx:a.eval x=.int .i64 v) (hy:a.eval y=.int .i64 u)
    (hK:∀ w',MapOf w' b (n+1) (fun k=>if k=v then u else p k)->Fr (fun k=>k=b) w w'->wpList Tryd.prog ops Q rest (a.put o.dst undef) w'):wpList Tryd.prog ops Q (o::rest) a w:=by
 obtain ⟨D,h1,h2,h3⟩:=hown;refine wpList_mapUpdate_own w hg m x y 125 hop 3 3 acC Tryd.underlying125 _ b n D hm h1 hn _ _ (.int .i64 v) hx hy (keyOf_int_mk Tryd.underlying3 hv) _ [] (plainElem_int Tryd.underlying3 hu) ?_;intro w' hown' hgr;refine hK w' ⟨_,hown',h2.put _ _,?_⟩ (Fr.grown hgr (fun k hk=>by cases hk;rfl));intro k hk
 by_cases he:k=v
 ·subst he;rw [atKey_put_same h2 (by trivial)];simp
 ·rw [atKey_put_other (by intro h;injection h with _ h;exact he h),h3 k hk];simp [he]
end
end Go.Proofs.YtcninopmelmajaaDoor
