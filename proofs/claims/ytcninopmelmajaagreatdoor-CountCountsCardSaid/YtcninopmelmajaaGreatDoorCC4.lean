/-
  Texts laid together (TyChange, TyArrow, TyAux, TeRef, ScStr, CnMem, Rf, TeAll, CnBack): laws and walks, with their conditions.
-/
import Derived.Handy
import Derived.Deep.QuietTactic
import Derived.RangeFuncOwn
import Derived.RangeFuncCalls
import Derived.Shelf.RegionOpen
import Derived.OwnWalkIn
import Derived.TacticsInMore
import Derived.LoopNIn
import Derived.LoopIn
import Derived.OneCell
import Derived.Sort.CutIn
import Derived.Laws.EntriesVeiled
import Derived.Test.YtcninopmelmajaaGreatDoorCC3
set_option maxHeartbeats 8000000
set_option maxRecDepth 1000000
namespace Go.Proofs.YtcninopmelmajaaGreatDoor
open Go.Lib (hid)
section
open Go.RowKit Go.Shelf
theorem elemTy:Elem Tryz.prog 22 24 (.agg #[.int .i64 0,.int .i64 0,.slice none 0 0]) 3 40 :=
 ⟨Tryz.underlying22,by kernel_rfl,by decide,by decide⟩
def DoK (g:Nat) (lb:Array Value) (w0:World) (G:Int->Prop) (p:Int->Int):Prop:=∀ (n:Int) (W:World),G n->ah w0 W ->
 Calls Tryz.prog g (#[.int .i64 n]++lb) W fun e W'=>e=.returned (.int .i64 (p n))/\ah W W'
def zq (p:Int->Int) (k n:Int):Int:=if k == 1 then p n else n
def NQ (g:Nat) (lb:Array Value) (w0:World) (G:Int->Prop) (p:Int->Int) (k n:Int) (ps:Fo):Prop :=
 ∀ (w:World) (o:Option Addr) (len cap:Nat),ah w0 w->qm w o len ps->ps.size<=1000000->G n->Ir G ps ->
  Calls Tryz.prog 90 #[kL k n o len cap,.func (.func g) #[] lb] w fun e w'=>∃ o' cap',e=.returned (kL k (zq p k n) o' len cap')/\aC (fun b=>w.heap.size<=b) w' o' len (ps.change p)/\ah w w'
theorem mG {w W:World} {a b c:Value} {t:TypeId} {B:Nat} (h:w.heap[B]?=some (.cells #[a,b,c] t (0,0))) (hq:ah w W):W.heap[B]?=some (.cells #[a,b,c] t (0,0)):=by
 rw [hq.block B (lt_of_block h) (fun h=>h)];exact h
theorem aF {w:World} {a b c:Value} {t:TypeId} {B:Nat} (h:w.heap[B]?=some (.cells #[a,b,c] t (0,0))):w.cell? ⟨B,0,none⟩=some a/\w.cell? ⟨B,1,none⟩=some b/\w.cell? ⟨B,2,none⟩=some c/\w.frozen? ⟨B,0,none⟩=false/\w.frozen? ⟨B,1,none⟩=false/\w.frozen? ⟨B,2,none⟩=false:=by
 refine ⟨?_,?_,?_,?_,?_,?_⟩
 ·rw [cell_of_row _ _ _ _ _ (0,0) h];rfl
 ·rw [cell_of_row _ _ _ _ _ (0,0) h];rfl
 ·rw [cell_of_row _ _ _ _ _ (0,0) h];rfl
 ·simp [World.frozen?,h]
 ·simp [World.frozen?,h]
 ·simp [World.frozen?,h]
theorem oJ {w:World} {a b c u:Value} {t:TypeId} {B:Nat} (h:w.heap[B]?=some (.cells #[a,b,c] t (0,0))):(w.setCell ⟨B,1,none⟩ u).heap[B]?=some (.cells #[a,u,c] t (0,0)):=by
 have hlt:=lt_of_block h
 have h':w.heap[B]=.cells #[a,b,c] t (0,0):=by simpa [Array.getElem?_eq_getElem hlt] using h
 show (w.heap.modify B _)[B]?=_
 rw [Array.getElem?_eq_getElem (by simpa using hlt),Array.getElem_modify_self,h']
 rfl
theorem qH {w:World} {a b c u:Value} {t:TypeId} {B:Nat} (h:w.heap[B]?=some (.cells #[a,b,c] t (0,0))):(w.setCell ⟨B,0,none⟩ u).heap[B]?=some (.cells #[u,b,c] t (0,0)):=by
 have hlt:=lt_of_block h
 have h':w.heap[B]=.cells #[a,b,c] t (0,0):=by simpa [Array.getElem?_eq_getElem hlt] using h
 show (w.heap.modify B _)[B]?=_
 rw [Array.getElem?_eq_getElem (by simpa using hlt),Array.getElem_modify_self,h']
 rfl
theorem qG {w:World} {a b c u:Value} {t:TypeId} {B:Nat} (h:w.heap[B]?=some (.cells #[a,b,c] t (0,0))):(w.setCell ⟨B,2,none⟩ u).heap[B]?=some (.cells #[a,b,u] t (0,0)):=by
 have hlt:=lt_of_block h
 have h':w.heap[B]=.cells #[a,b,c] t (0,0):=by simpa [Array.getElem?_eq_getElem hlt] using h
 show (w.heap.modify B _)[B]?=_
 rw [Array.getElem?_eq_getElem (by simpa using hlt),Array.getElem_modify_self,h']
 rfl
theorem LG {g:Nat} {lb:Array Value} {w0:World} {G:Int->Prop} {p:Int->Int} (eg:∀ args w,(callFunc g args).run Tryz.prog w=.ok (.enter g args) w) (hK:DoK g lb w0 G p) (k n:Int) (ps:Fo):NQ g lb w0 G p k n ps:=by
 refine Fo.qE (T:=NQ g lb w0 G p) ?_ k n ps
 intro k n ps ih w o len cap hw hs hsz hgn GY
 have HGN:=hid hgn
 have ZV:=hid GY
 clear hgn GY
 have HS:=hid hs
 have IH:=hid ih
 have HL:=hid hs.1
 have hmx:=hs.2.1
 have hll:=Fo.length_le ps
 rw [<-hs.1] at hll
 unfold maxLen at hmx
 have HK:=hid hK
 have HW:=hid hw
 have hb0:((w.alloc (.cells #[.int .i64 k,.int .i64 n,.slice o len cap] 24)).alloc (.cells #[.int .i64 0,.int .i64 0,.slice none 0 0] 24)).heap[w.heap.size]?=some (.cells #[.int .i64 k,.int .i64 n,.slice o len cap] 24 (0,0)):=by
  rw [Below.heap_alloc _ _ _ (by simp)];exact heap_alloc_new w _
 have hb1:((w.alloc (.cells #[.int .i64 k,.int .i64 n,.slice o len cap] 24)).alloc (.cells #[.int .i64 0,.int .i64 0,.slice none 0 0] 24)).heap[w.heap.size+1]?=some (.cells #[.int .i64 0,.int .i64 0,.slice none 0 0] 24 (0,0)):=by
  have:=heap_alloc_new (w.alloc (.cells #[.int .i64 k,.int .i64 n,.slice o len cap] 24)) (.cells #[.int .i64 0,.int .i64 0,.slice none 0 0] 24)
  simpa using this
 have HB0:=hid hb0
 have HB1:=hid hb1
 clear hs ih hK hw hb0 hb1
 unfold kL
 cases hk:(k == 1)
 ·go_enter Tryz.func90,Tryz.ntmps90
  go_wp2_with fail
  obtain ⟨W0,hW0⟩:∃ W0,W0=((w.alloc (.cells #[.int .i64 k,.int .i64 n,.slice o len cap] 24)).alloc (.cells #[.int .i64 0,.int .i64 0,.slice none 0 0] 24)):=⟨_,rfl⟩
  change Code.wp _ _ _ _ ((w.alloc (.cells #[.int .i64 k,.int .i64 n,.slice o len cap] 24)).alloc (.cells #[.int .i64 0,.int .i64 0,.slice none 0 0] 24))
  have aK:Hid (ah w W0):=by rw [hW0];exact (ah.alloc _ _).trans (ah.alloc _ _)
  have hz0:w.heap.size+2<=W0.heap.size:=by rw [hW0];simp
  have HN:Hid (zq p k n=n):=by show _=_;unfold zq;rw [hk];rfl
  rw [<-hW0] at HB0 HB1 ⊢
  clear hW0 hk
  generalize hnn:zq p k n=n' at *
  generalize hB:w.heap.size=B at *
  have bM:=hid hB
  clear hB
  go_loopw [5,19] (fun v t wr=>∃ (i:Nat) (f:Fo) (xs:List Value) (vo:Option Addr) (vc:Nat),t=.int .i64 i/\i<=len/\v=.slice vo i vc/\f.length=i/\f.app ((ps.drop i).change p)=ps.change p/\jC wr W0.heap.size (.slice vo i vc) f xs/\ah W0 wr) (fun _ t _=>len - (intOf t).toNat)
  case atStart=>exact ⟨0,.nil,[],none,0,rfl,Nat.zero_le _,rfl,rfl,by rw [Fo.drop_zero];rfl,jC.nil _ _,ah.refl _⟩
  case round =>
   obtain ⟨i,f,xs,vo,vc,rfl,hi,rfl,hfl,hap,hrow,hq⟩:=hrel
   have HF:=hid hfl
   have SK:=hid hap
   have HR:=hid hrow
   have HQ:=hid hq
   clear hfl hap hrow hq
   by_cases hlt:i < len
   ·have hlt':(i:Int) < len:=by omega
    obtain ⟨b,off,k1,n1,qs,o1,len1,cap1,rfl,hd,hg,e0,e1,e2,hs1⟩:=(HS.out.stay (aK.out.trans HQ.out)).nth hlt
    have QA:=Fo.bV ps i k1 n1 qs hg
    have HC:=hid (IH.out i k1 n1 qs hg (wr.alloc (.cells #[.int .i64 k1,.int .i64 n1,.slice o1 len1 cap1] 24)) o1 len1 cap1 (HW.out.trans ((aK.out.trans HQ.out).trans (ah.alloc _ _))) (hs1.stay (ah.alloc _ _)) (by omega) (mZ ps i k1 n1 qs ZV.out hg).1 (mZ ps i k1 n1 qs ZV.out hg).2)
    have HD:Hid ((f.app (.cons k1 (zq p k1 n1) (qs.change p) .nil)).app ((ps.drop (i+1)).change p)=ps.change p):=by
     show _=_
     rw [<-SK.out,hd,Fo.lY];rfl
    unfold kL at HC
    clear hd hg hs1 QA
    generalize zq p k1 n1=n2 at *
    go_wp2_with fail
    refine HC.out.mono ?_;rintro e w1 ⟨o2,cap2,rfl,hs2,hq1⟩
    have HS2:=hid hs2
    have bI:=hid ((ah.alloc _ _).trans hq1)
    have HR1:=hid (HR.out.stay bI.out)
    clear hs2 hq1
    go_wp2_with (at_builtin;go_must (refine aP w1 rfl (.tmp 23) (.tmp 27) 22 rfl 24 _ 3 40 elemTy (.slice vo i vc) i xs rfl (HF.out ▸ HR1.out.own) #[.int .i64 k1,.int .i64 n2,.slice o2 len1 cap2] rfl rfl ?c1 ?c2 ?c3 ?_))
    case c1=>simp [Value.oneCell']
    case c2=>unfold maxLen;omega
    case c3=>omega
    intro g2 c' w2 ho hf hg2
    have hlow:W0.heap.size<=w1.heap.size:=Nat.le_trans HQ.out.size bI.out.size
    have hown:∀ kk,(Value.slice vo i vc).ownBlock=some kk->kk < wr.heap.size:=fun kk h=>(HR.out.own.lt kk h).2
    have HR2:Hid (jC w2 W0.heap.size (.slice (some ⟨g2,0,none⟩) (i+1) c') (f.app (.cons k1 n2 (qs.change p) .nil)) (xs++[.int .i64 k1,.int .i64 n2,.slice o2 len1 cap2])):=by
     show jC _ _ _ _ _
     have hf':=HF.out
     subst hf'
     refine jC.snoc HR1.out (HS2.out.fr (Fr.refl (fun _=>False) _) ?_) ho hf hg2 hlow
     intro kk _ hkk
     have hkk':(wr.alloc (.cells #[.int .i64 k1,.int .i64 n1,.slice o1 len1 cap1] 24)).heap.size<=kk:=hkk
     simp at hkk'
     refine ⟨⟨by have:=HQ.out.size;omega,fun h=>?_⟩,fun h=>h⟩
     have:=hown kk h;omega
    have dO:Hid (ah W0 w2):=by
     show ah _ _
     exact Fr.trans' (HQ.out.trans bI.out) hf (fun kk hkk h=>absurd (HR.out.low kk h) (by omega))
    have HL2:Hid ((f.app (.cons k1 n2 (qs.change p) .nil)).length=i+1):=by
     show _=_
     rw [Fo.bP,HF.out];rfl
    clear ho hf hg2 hown
    go_wp2_with fail
    go_roundw
    case rel=>exact ⟨i+1,_,_,some ⟨g2,0,none⟩,c',by go_num,by omega,rfl,HL2.out,HD.out,HR2.out,dO.out⟩
    case measure=>simp [intOf];omega
   ·have hlt':¬ (i:Int) < len:=by omega
    have hb1:=mG HB1.out HQ.out
    have hb0:=mG HB0.out HQ.out
    obtain ⟨c0,c1,c2,z0,z1,z2⟩:=aF hb0
    obtain ⟨d0,d1,d2,y0,y1,y2⟩:=aF hb1
    have HB0:=hid hb0
    have HB1:=hid hb1
    clear hb0 hb1
    have hil:i=len:=by omega
    have bJ:Hid (∀ u v x y:Value,aC (fun b=>w.heap.size<=b) ((((wr.setCell ⟨B,2,none⟩ u).setCell ⟨B+1,0,none⟩ v).setCell ⟨B+1,1,none⟩ x).setCell ⟨B+1,2,none⟩ y) vo len (ps.change p)/\ah w ((((wr.setCell ⟨B,2,none⟩ u).setCell ⟨B+1,0,none⟩ v).setCell ⟨B+1,1,none⟩ x).setCell ⟨B+1,2,none⟩ y)):=by
     intro u v x y
     have hf:Fr (fun kk=>kk=B∨kk=B+1) wr ((((wr.setCell ⟨B,2,none⟩ u).setCell ⟨B+1,0,none⟩ v).setCell ⟨B+1,1,none⟩ x).setCell ⟨B+1,2,none⟩ y) :=
      (((Fr.setCell _ _ _ _ (.inl rfl)).trans (Fr.setCell _ _ _ _ (.inr rfl))).trans (Fr.setCell _ _ _ _ (.inr rfl))).trans (Fr.setCell _ _ _ _ (.inr rfl))
     have hap:=SK.out
     subst hil
     rw [Fo.drop_end ps i (by have:=HL.out;omega)] at hap
     simp only [Fo.change] at hap
     rw [Fo.qW] at hap
     refine ⟨?_,?_⟩
     ·rw [<-hap]
      refine (HR.out.slc HF.out.symm (by unfold maxLen;omega)).fr hf ?_
      intro kk _ hkk
      have hkk':W0.heap.size<=kk:=hkk
      have hz:=bM.out
      exact ⟨by omega,by omega⟩
     ·exact Fr.trans' (aK.out.trans HQ.out) hf (fun kk hkk h=>by have hz:=bM.out;omega)
    go_wp2_with fail
    have hbf:=qG (u:=.slice vo len vc) (oJ (u:=.int .i64 n') (qH (u:=.int .i64 k) (B:=B+1) (w:=wr.setCell ⟨B,2,none⟩ (.slice vo len vc)) (by rw [Below.heap_setCell _ _ _ _ (by show B+1≠B;omega)];exact HB1.out)))
    obtain ⟨f0,f1,f2,_,_,_⟩:=aF hbf
    have ZW:=bJ.out (.slice vo len vc) (.int .i64 k) (.int .i64 n') (.slice vo len vc)
    have hn':=HN.out
    clear hbf
    rw [hn'] at f0 f1 f2 ZW ⊢
    generalize ((((wr.setCell ⟨B,2,none⟩ (.slice vo len vc)).setCell ⟨B+1,0,none⟩ (.int .i64 k)).setCell ⟨B+1,1,none⟩ (.int .i64 n)).setCell ⟨B+1,2,none⟩ (.slice vo len vc))=wf at *
    refine bodyPost_ret (by simp [results,Tryz.results90,go_sem,f0,f1,f2];rfl) rfl ?_
    exact ⟨vo,⟨vc,rfl⟩,ZW⟩
 ·go_enter Tryz.func90,Tryz.ntmps90
  go_wp2_with fail
  refine (HK.out n _ HGN.out (HW.out.trans ((ah.alloc _ _).trans (ah.alloc _ _)))).mono ?_;rintro e w1 ⟨rfl,hq1⟩
  have hb1:=mG HB1.out hq1
  have hb0:=mG HB0.out hq1
  obtain ⟨c0,c1,c2,z0,z1,z2⟩:=aF hb0
  have HB0:=hid hb0
  have HB1:=hid hb1
  clear hb0 hb1
  go_wp2_with fail
  obtain ⟨W0,hW0⟩:∃ W0,W0=w1.setCell ⟨w.heap.size,1,none⟩ (.int .i64 (p n)):=⟨_,rfl⟩
  change Code.wp _ _ _ _ (w1.setCell ⟨w.heap.size,1,none⟩ (.int .i64 (p n)))
  have hsz1:w.heap.size+2<=w1.heap.size:=by have:=hq1.size;simp at this;omega
  have aK:Hid (ah w W0):=by
   rw [hW0]
   exact (((ah.alloc _ _).trans (ah.alloc _ _)).trans hq1).trans' (Fr.setCell (fun kk=>kk=w.heap.size) _ _ _ rfl) (fun i hi h=>by omega)
  have hz0:w.heap.size+2<=W0.heap.size:=by rw [hW0];simpa [World.setCell] using hsz1
  have HN:Hid (zq p k n=p n):=by show _=_;unfold zq;rw [hk];rfl
  replace HB0:Hid (W0.heap[w.heap.size]?=some (.cells #[.int .i64 k,.int .i64 (p n),.slice o len cap] 24 (0,0))):=by
   rw [hW0];exact oJ HB0.out
  replace HB1:Hid (W0.heap[w.heap.size+1]?=some (.cells #[.int .i64 0,.int .i64 0,.slice none 0 0] 24 (0,0))):=by
   show _=_
   rw [hW0,Below.heap_setCell _ _ _ _ (by show w.heap.size+1≠w.heap.size;omega)];exact HB1.out
  rw [<-hW0]
  clear hW0 hk hsz1 c0 c1 c2 z0 z1 z2 hq1
  generalize hnn:zq p k n=n' at *
  generalize hB:w.heap.size=B at *
  have bM:=hid hB
  clear hB
  go_loopw [5,19] (fun v t wr=>∃ (i:Nat) (f:Fo) (xs:List Value) (vo:Option Addr) (vc:Nat),t=.int .i64 i/\i<=len/\v=.slice vo i vc/\f.length=i/\f.app ((ps.drop i).change p)=ps.change p/\jC wr W0.heap.size (.slice vo i vc) f xs/\ah W0 wr) (fun _ t _=>len - (intOf t).toNat)
  case atStart=>exact ⟨0,.nil,[],none,0,rfl,Nat.zero_le _,rfl,rfl,by rw [Fo.drop_zero];rfl,jC.nil _ _,ah.refl _⟩
  case round =>
   obtain ⟨i,f,xs,vo,vc,rfl,hi,rfl,hfl,hap,hrow,hq⟩:=hrel
   have HF:=hid hfl
   have SK:=hid hap
   have HR:=hid hrow
   have HQ:=hid hq
   clear hfl hap hrow hq
   by_cases hlt:i < len
   ·have hlt':(i:Int) < len:=by omega
    obtain ⟨b,off,k1,n1,qs,o1,len1,cap1,rfl,hd,hg,e0,e1,e2,hs1⟩:=(HS.out.stay (aK.out.trans HQ.out)).nth hlt
    have QA:=Fo.bV ps i k1 n1 qs hg
    have HC:=hid (IH.out i k1 n1 qs hg (wr.alloc (.cells #[.int .i64 k1,.int .i64 n1,.slice o1 len1 cap1] 24)) o1 len1 cap1 (HW.out.trans ((aK.out.trans HQ.out).trans (ah.alloc _ _))) (hs1.stay (ah.alloc _ _)) (by omega) (mZ ps i k1 n1 qs ZV.out hg).1 (mZ ps i k1 n1 qs ZV.out hg).2)
    have HD:Hid ((f.app (.cons k1 (zq p k1 n1) (qs.change p) .nil)).app ((ps.drop (i+1)).change p)=ps.change p):=by
     show _=_
     rw [<-SK.out,hd,Fo.lY];rfl
    unfold kL at HC
    clear hd hg hs1 QA
    generalize zq p k1 n1=n2 at *
    go_wp2_with fail
    refine HC.out.mono ?_;rintro e w1 ⟨o2,cap2,rfl,hs2,hq1⟩
    have HS2:=hid hs2
    have bI:=hid ((ah.alloc _ _).trans hq1)
    have HR1:=hid (HR.out.stay bI.out)
    clear hs2 hq1
    go_wp2_with (at_builtin;go_must (refine aP w1 rfl (.tmp 23) (.tmp 27) 22 rfl 24 _ 3 40 elemTy (.slice vo i vc) i xs rfl (HF.out ▸ HR1.out.own) #[.int .i64 k1,.int .i64 n2,.slice o2 len1 cap2] rfl rfl ?c1 ?c2 ?c3 ?_))
    case c1=>simp [Value.oneCell']
    case c2=>unfold maxLen;omega
    case c3=>omega
    intro g2 c' w2 ho hf hg2
    have hlow:W0.heap.size<=w1.heap.size:=Nat.le_trans HQ.out.size bI.out.size
    have hown:∀ kk,(Value.slice vo i vc).ownBlock=some kk->kk < wr.heap.size:=fun kk h=>(HR.out.own.lt kk h).2
    have HR2:Hid (jC w2 W0.heap.size (.slice (some ⟨g2,0,none⟩) (i+1) c') (f.app (.cons k1 n2 (qs.change p) .nil)) (xs++[.int .i64 k1,.int .i64 n2,.slice o2 len1 cap2])):=by
     show jC _ _ _ _ _
     have hf':=HF.out
     subst hf'
     refine jC.snoc HR1.out (HS2.out.fr (Fr.refl (fun _=>False) _) ?_) ho hf hg2 hlow
     intro kk _ hkk
     have hkk':(wr.alloc (.cells #[.int .i64 k1,.int .i64 n1,.slice o1 len1 cap1] 24)).heap.size<=kk:=hkk
     simp at hkk'
     refine ⟨⟨by have:=HQ.out.size;omega,fun h=>?_⟩,fun h=>h⟩
     have:=hown kk h;omega
    have dO:Hid (ah W0 w2):=by
     show ah _ _
     exact Fr.trans' (HQ.out.trans bI.out) hf (fun kk hkk h=>absurd (HR.out.low kk h) (by omega))
    have HL2:Hid ((f.app (.cons k1 n2 (qs.change p) .nil)).length=i+1):=by
     show _=_
     rw [Fo.bP,HF.out];rfl
    clear ho hf hg2 hown
    go_wp2_with fail
    go_roundw
    case rel=>exact ⟨i+1,_,_,some ⟨g2,0,none⟩,c',by go_num,by omega,rfl,HL2.out,HD.out,HR2.out,dO.out⟩
    case measure=>simp [intOf];omega
   ·have hlt':¬ (i:Int) < len:=by omega
    have hb1:=mG HB1.out HQ.out
    have hb0:=mG HB0.out HQ.out
    obtain ⟨c0,c1,c2,z0,z1,z2⟩:=aF hb0
    obtain ⟨d0,d1,d2,y0,y1,y2⟩:=aF hb1
    have HB0:=hid hb0
    have HB1:=hid hb1
    clear hb0 hb1
    have hil:i=len:=by omega
    have bJ:Hid (∀ u v x y:Value,aC (fun b=>w.heap.size<=b) ((((wr.setCell ⟨B,2,none⟩ u).setCell ⟨B+1,0,none⟩ v).setCell ⟨B+1,1,none⟩ x).setCell ⟨B+1,2,none⟩ y) vo len (ps.change p)/\ah w ((((wr.setCell ⟨B,2,none⟩ u).setCell ⟨B+1,0,none⟩ v).setCell ⟨B+1,1,none⟩ x).setCell ⟨B+1,2,none⟩ y)):=by
     intro u v x y
     have hf:Fr (fun kk=>kk=B∨kk=B+1) wr ((((wr.setCell ⟨B,2,none⟩ u).setCell ⟨B+1,0,none⟩ v).setCell ⟨B+1,1,none⟩ x).setCell ⟨B+1,2,none⟩ y) :=
      (((Fr.setCell _ _ _ _ (.inl rfl)).trans (Fr.setCell _ _ _ _ (.inr rfl))).trans (Fr.setCell _ _ _ _ (.inr rfl))).trans (Fr.setCell _ _ _ _ (.inr rfl))
     have hap:=SK.out
     subst hil
     rw [Fo.drop_end ps i (by have:=HL.out;omega)] at hap
     simp only [Fo.change] at hap
     rw [Fo.qW] at hap
     refine ⟨?_,?_⟩
     ·rw [<-hap]
      refine (HR.out.slc HF.out.symm (by unfold maxLen;omega)).fr hf ?_
      intro kk _ hkk
      have hkk':W0.heap.size<=kk:=hkk
      have hz:=bM.out
      exact ⟨by omega,by omega⟩
     ·exact Fr.trans' (aK.out.trans HQ.out) hf (fun kk hkk h=>by have hz:=bM.out;omega)
    go_wp2_with fail
    have hbf:=qG (u:=.slice vo len vc) (oJ (u:=.int .i64 n') (qH (u:=.int .i64 k) (B:=B+1) (w:=wr.setCell ⟨B,2,none⟩ (.slice vo len vc)) (by rw [Below.heap_setCell _ _ _ _ (by show B+1≠B;omega)];exact HB1.out)))
    obtain ⟨f0,f1,f2,_,_,_⟩:=aF hbf
    have ZW:=bJ.out (.slice vo len vc) (.int .i64 k) (.int .i64 n') (.slice vo len vc)
    have hn':=HN.out
    clear hbf
    rw [hn'] at f0 f1 f2 ZW ⊢
    generalize ((((wr.setCell ⟨B,2,none⟩ (.slice vo len vc)).setCell ⟨B+1,0,none⟩ (.int .i64 k)).setCell ⟨B+1,1,none⟩ (.int .i64 (p n))).setCell ⟨B+1,2,none⟩ (.slice vo len vc))=wf at *
    refine bodyPost_ret (by simp [results,Tryz.results90,go_sem,f0,f1,f2];rfl) rfl ?_
    exact ⟨vo,⟨vc,rfl⟩,ZW⟩
end
section
open Go.RowKit Go.Shelf
def eF (w:World) (B:Nat) (a b c:Value):World:=((w.setCell ⟨B,0,none⟩ a).setCell ⟨B,1,none⟩ b).setCell ⟨B,2,none⟩ c
theorem gQ (w:World) (B:Nat) (a b c:Value):Fr (fun k=>k=B) w (eF w B a b c) :=
 ((Fr.setCell (fun k=>k=B) w ⟨B,0,none⟩ a rfl).trans (Fr.setCell (fun k=>k=B) _ ⟨B,1,none⟩ b rfl)).trans (Fr.setCell (fun k=>k=B) _ ⟨B,2,none⟩ c rfl)
theorem iw {w : World} {B : Nat} {a b c a' b' c' : Value} {t : TypeId} (h : w.heap[B]? = some (.cells #[a', b', c'] t (0, 0))) :
    (eF w B a b c).cell? ⟨B,0,none⟩=some a/\(eF w B a b c).cell? ⟨B,1,none⟩=some b/\(eF w B a b c).cell? ⟨B,2,none⟩=some c:=by
 have hbf:=qG (u:=c) (oJ (u:=b) (qH (u:=a) h))
 obtain ⟨f0,f1,f2,_,_,_⟩:=aF hbf
 exact ⟨f0,f1,f2⟩
theorem Qb (w0:World):DoK 91 #[] w0 (fun _=>True) (fun n=>n):=by
 intro n W _ _
 go_enter Tryz.func91,Tryz.ntmps91
 go_wp2_with fail
 go_ret
 exact ⟨rfl,ah.refl _⟩
theorem Xj:∀ args w,(callFunc 91 args).run Tryz.prog w=.ok (.enter 91 args) w:=enters_of Tryz.func91 (by kernel_rfl) rfl
theorem UG (k n : Int) (ps : Fo) (w : World) (o : Option Addr) (len cap : Nat) (hs : qm w o len ps) (hsz : ps.size <= 1000000) :
    Calls Tryz.prog 62 #[kL k n o len cap] w fun e w'=>∃ o' cap',e=.returned (kL k n o' len cap')/\aC (fun b=>w.heap.size<=b) w' o' len ps/\ah w w':=by
 have HC:=hid (LG Xj (Qb w) k n ps ((w.alloc (.cells #[.int .i64 k,.int .i64 n,.slice o len cap] 24)).alloc (.cells #[.int .i64 0,.int .i64 0,.slice none 0 0] 24)) o len cap ((ah.alloc _ _).trans (ah.alloc _ _)) (hs.stay ((ah.alloc _ _).trans (ah.alloc _ _))) hsz trivial (yO (fun _=>trivial) ps))
 rw [Fo.yM,show zq (fun n=>n) k n=n from by unfold zq;split<;>rfl] at HC
 have hb1:((w.alloc (.cells #[.int .i64 k,.int .i64 n,.slice o len cap] 24)).alloc (.cells #[.int .i64 0,.int .i64 0,.slice none 0 0] 24)).heap[w.heap.size+1]?=some (.cells #[.int .i64 0,.int .i64 0,.slice none 0 0] 24 (0,0)):=by
  have:=heap_alloc_new (w.alloc (.cells #[.int .i64 k,.int .i64 n,.slice o len cap] 24)) (.cells #[.int .i64 0,.int .i64 0,.slice none 0 0] 24)
  simpa using this
 have HB1:=hid hb1
 clear hs hb1
 unfold kL at *
 go_enter Tryz.func62,Tryz.ntmps62
 go_wp2_with fail
 refine HC.out.mono ?_;rintro e w1 ⟨o2,cap2,rfl,hs2,hq1⟩
 have hb1:=mG HB1.out hq1
 have HB2:=hid hb1
 obtain ⟨d0,d1,d2,y0,y1,y2⟩:=aF hb1
 have HS2:=hid hs2
 have bI:=hid hq1
 clear hs2 hq1 hb1
 go_wp2_with fail
 clear d0 d1 d2 y0 y1 y2
 have hf:=gQ w1 (w.heap.size+1) (.int .i64 k) (.int .i64 n) (.slice o2 len cap2)
 obtain ⟨f0,f1,f2⟩:=iw (a:=.int .i64 k) (b:=.int .i64 n) (c:=.slice o2 len cap2) HB2.out
 change bodyPost _ _ _ _ _ (eF w1 (w.heap.size+1) (.int .i64 k) (.int .i64 n) (.slice o2 len cap2))
 generalize eF w1 (w.heap.size+1) (.int .i64 k) (.int .i64 n) (.slice o2 len cap2)=wf at *
 refine bodyPost_ret (by simp [results,Tryz.results62,go_sem,f0,f1,f2];rfl) rfl ?_
 refine ⟨o2,cap2,rfl,HS2.out.fr hf ?_,(((ah.alloc _ _).trans (ah.alloc _ _)).trans bI.out).trans' hf (fun kk hkk h=>by omega)⟩
 intro kk _ hkk
 have hkk':((w.alloc (.cells #[.int .i64 k,.int .i64 n,.slice o len cap] 24)).alloc (.cells #[.int .i64 0,.int .i64 0,.slice none 0 0] 24)).heap.size<=kk:=hkk
 simp at hkk'
 exact ⟨by omega,by omega⟩
end
section
open Go.RowKit
theorem ac7 {W:World} {b:Nat} {k n:Int} {o:Option Addr} {len cap:Nat} {ps:Fo} (hb:W.heap[b]?=some (.cells #[.int .i64 k,.int .i64 n,.slice o len cap] 24 (0,0))) (h1:qm W o len ps):qm W (some ⟨b,0,none⟩) 1 (.cons k n ps .nil) :=
 ⟨rfl,by decide,fun _=>⟨_,0,rfl,by rw [cell_of_row _ _ _ _ _ (0,0) hb];rfl,by rw [cell_of_row _ _ _ _ _ (0,0) hb];rfl,⟨o,len,cap,by rw [cell_of_row _ _ _ _ _ (0,0) hb];rfl,h1.1,h1.2.1,h1.2.2⟩,trivial⟩⟩
theorem UH {w : World} {b : Nat} {a0 a1 a2 a3 a4 : Value} {t : TypeId} {G : Prop} (h : w.heap[b]? = some (.cells #[a0, a1, a2, a3, a4] t (0, 0)))
    (k:w.cell? ⟨b,0,none⟩=some a0->w.cell? ⟨b,1,none⟩=some a1->w.cell? ⟨b,2,none⟩=some a2->w.cell? ⟨b,3,none⟩=some a3->w.cell? ⟨b,4,none⟩=some a4 ->
     w.frozen? ⟨b,0,none⟩=false->w.frozen? ⟨b,1,none⟩=false->w.frozen? ⟨b,2,none⟩=false->w.frozen? ⟨b,3,none⟩=false->w.frozen? ⟨b,4,none⟩=false->w.heap[b]?=some (.cells #[a0,a1,a2,a3,a4] t (0,0))->G):G:=by
 refine k ?_ ?_ ?_ ?_ ?_ ?_ ?_ ?_ ?_ ?_ h
 all_goals first | (rw [cell_of_row _ _ _ _ _ (0,0) h];rfl) | simp [World.frozen?,h]
end
section
open Go.RowKit
theorem FQ (w:World) (h:Nd) (o1:Option Addr) (l1 c1:Nat) (o2:Option Addr) (l2 c2:Nat) (t:TypeId) (W:World) (hq:ah (w.alloc (.cells (cells9 h o1 l1 c1 o2 l2 c2) t)) W):bF W w.heap.size 0 h o1 l1 c1 o2 l2 c2 :=
 (ig w h o1 l1 c1 o2 l2 c2 t).fr hq (fun h=>h)
end
section
open Go.RowKit Go.Shelf
namespace Sc
def zF (w:World) (o:Option Addr) (l:List ByteArray):Prop:=∀ j s,l[j]?=some s->∃ b off,o=some ⟨b,off,none⟩/\w.cell? ⟨b,off+j,none⟩=some (.string s)
theorem zF.stay {w w':World} {o:Option Addr} {l:List ByteArray} (h:zF w o l) (hq:ah w w'):zF w' o l:=by
 intro j s hs
 obtain ⟨b,off,h0,h1⟩:=h j s hs
 exact ⟨b,off,h0,hq.at h1⟩
def strs (l:List ByteArray):List Value:=l.map .string
end Sc
end
section
open Go.RowKit Go.Shelf
namespace Cn
def cells2 (e:Env):List Value:=e.reverse.flatMap (fun x=>[.string x.1,.int .i64 x.2])
def iF (T:Nat->Prop) (w:World) (o:Option Addr) (n:Nat) (e:Env):Prop :=
 n=e.length/\n<=maxLen/\(0 < n->∃ b,o=some ⟨b,0,none⟩/\T b/\b < w.heap.size/\∀ j u,(cells2 e)[j]?=some u->w.cell? ⟨b,j,none⟩=some u)
theorem iF.nil (T:Nat->Prop) (w:World) (o:Option Addr):iF T w o 0 []:=⟨rfl,Nat.zero_le _,fun h=>absurd h (Nat.lt_irrefl _)⟩
theorem iF.fr {T T' S:Nat->Prop} {w w':World} {o:Option Addr} {n:Nat} {e:Env} (h:iF T w o n e) (hf:Fr S w w') (hT:∀ k,k < w.heap.size->T k->T' k/\¬ S k):iF T' w' o n e:=by
 refine ⟨h.1,h.2.1,fun hn=>?_⟩
 obtain ⟨b,he,ht,hl,hc⟩:=h.2.2 hn
 obtain ⟨h1,h2⟩:=hT b hl ht
 exact ⟨b,he,h1,Nat.lt_of_lt_of_le hl hf.size,fun j u hj=>(hf.bG hl h2).trans (hc j u hj)⟩
theorem iF.stay {T:Nat->Prop} {w w':World} {o:Option Addr} {n:Nat} {e:Env} (h:iF T w o n e) (hq:ah w w'):iF T w' o n e:=h.fr hq (fun _ _ hk=>⟨hk,fun h=>h⟩)
theorem iF.mono {T T':Nat->Prop} {w:World} {o:Option Addr} {n:Nat} {e:Env} (h:iF T w o n e) (hk:∀ k,k < w.heap.size->T k->T' k):iF T' w o n e:=h.fr (Fr.refl (fun _=>False) w) (fun k hl ht=>⟨hk k hl ht,fun h=>h⟩)
theorem iF.nothing {T:Nat->Prop} {w:World} {n:Nat} {e:Env} (h:iF T w none n e):n=0:=by
 rcases Nat.eq_zero_or_pos n with h0 | h0
 ·exact h0
 ·obtain ⟨b,he,_⟩:=h.2.2 h0;cases he
theorem wH:∀ l:Env,(l.flatMap (fun x=>[Value.string x.1,.int .i64 x.2])).length=l.length * 2
 | []=>rfl
 | x::l=>by simp only [List.flatMap_cons,List.length_append,List.length_cons,List.length_nil];rw [wH l];omega
theorem Dl:∀ (l:Env) (i:Nat) (x:ByteArray × Int),l[i]?=some x->(l.flatMap (fun x=>[Value.string x.1,.int .i64 x.2]))[i * 2]?=some (.string x.1)/\(l.flatMap (fun x=>[Value.string x.1,.int .i64 x.2]))[i * 2+1]?=some (.int .i64 x.2)
 | [],i,x,h=>by simp at h
 | y::l,0,x,h=>by simp at h;subst h;simp
 | y::l,i+1,x,h=>by
  have ih:=Dl l i x (by simpa using h)
  rw [show (i+1) * 2=i * 2+1+1 by omega]
  simpa [List.flatMap_cons] using ih
theorem iF.at {T:Nat->Prop} {w:World} {o:Option Addr} {n:Nat} {e:Env} (h:iF T w o n e) {i:Nat} {x:ByteArray × Int} (hi:e.reverse[i]?=some x):∃ b,o=some ⟨b,0,none⟩/\w.cell? ⟨b,i * 2,none⟩=some (.string x.1)/\w.cell? ⟨b,i * 2+1,none⟩=some (.int .i64 x.2):=by
 have hl:=(List.getElem?_eq_some_iff.1 hi).1
 simp at hl
 obtain ⟨b,he,_,_,hc⟩:=h.2.2 (by have:=h.1;omega)
 obtain ⟨c1,c2⟩:=Dl e.reverse i x hi
 exact ⟨b,he,hc _ _ c1,hc _ _ c2⟩
theorem GH:Elem Tryz.prog 60 65 (.agg #[.string ⟨#[]⟩,.int .i64 0]) 2 24 :=
 ⟨Tryz.underlying60,by kernel_rfl,by decide,by decide⟩
theorem UK {T:Nat->Prop} {w:World} {o:Option Addr} {n:Nat} {e:Env} (h:iF T w o n e):∀ b,o=some b->∀ j u,(cells2 e)[j]?=some u->w.cell? (b.add j)=some u:=by
 rintro b rfl j u hj
 have hl:=(List.getElem?_eq_some_iff.1 hj).1
 have hlen:(cells2 e).length=e.length * 2:=by unfold cells2;rw [wH];simp
 obtain ⟨b',he,_,_,hc⟩:=h.2.2 (by have:=h.1;omega)
 injection he with he
 subst he
 rw [Addr.add_lit,Nat.zero_add]
 exact hc j u hj
theorem iF.Gz {T:Nat->Prop} {w:World} {base g n c:Nat} {e:Env} {s:ByteArray} {v:Int} (ho:w.ownsRow base 65 2 (.slice (some ⟨g,0,none⟩) n c) n (cells2 e++[.string s,.int .i64 v])) (hn:n=e.length+1) (hm:n<=maxLen) (ht:T g):iF T w (some ⟨g,0,none⟩) n ((s,v)::e):=by
 refine ⟨by simpa using hn,hm,fun _=>⟨g,rfl,ht,(ho.lt g rfl).2,fun j u hj=>?_⟩⟩
 have hx:(cells2 e++[.string s,.int .i64 v])[j]?=some u:=by
  have:cells2 ((s,v)::e)=cells2 e++[.string s,.int .i64 v]:=by unfold cells2;simp
  rw [<-this];exact hj
 have:=ho.cells (g:=g) rfl j u hx
 simpa [Addr.add_lit] using this
theorem zu {ops : Array Oper} {rest : List Oper} {o : Oper} {a : Act} {Q : Exit -> Act -> World -> Prop} (W : World) (hgd : o.guard = none) (s x : Operand)
    (hop:o.op=Op.call { callee:=Callee.builtin Builtin.append,args:=#[s,x],argTypes:=#[60,60] }) {T:Nat->Prop} {ao:Option Addr} {n:Nat} {e:Env} (hN:iF T W ao n e) (str:ByteArray) (v:Int)
    (hs:a.eval s=.slice ao n n) (hx:a.eval x=.slice (some ⟨W.heap.size,0,none⟩) 1 1) (b1:n+1<=1000000)
    (hK:∀ g c w',iF (fun k=>W.heap.size<=k) w' (some ⟨g,0,none⟩) (n+1) ((str,v)::e)->n+1<=c->ah W w'->wpList Tryz.prog ops Q rest (a.put o.dst (.slice (some ⟨g,0,none⟩) (n+1) c)) w') :
    wpList Tryz.prog ops Q (o::rest) a (W.alloc (.cells #[.string str,.int .i64 v] 65)):=by
 obtain ⟨i0,hi,hz0,hz1,hz2⟩:=info_parts GH.info
 have hN2:=hN.stay (ah.alloc W (.cells #[.string str,.int .i64 v] 65))
 have hlen:(cells2 e).length=e.length * 2:=by unfold cells2;rw [wH];simp
 refine wpList_append_grows (W.alloc (.cells #[.string str,.int .i64 v] 65)) hgd s x 60 hop 65 i0 (.agg #[.string ⟨#[]⟩,.int .i64 0]) 2 24 GH.under hi hz0 hz1 hz2 GH.cells GH.pos ao n n (cells2 e) hs
  (fun h=>by subst h;exact ⟨hN.nothing,hN.nothing⟩) (by rw [hlen,hN.1]) (UK hN2) ⟨W.heap.size,0,none⟩ 1 1 [.string str,.int .i64 v] hx rfl ?_ (by simp [Value.oneCell']) (by omega) (by unfold maxLen;omega) (by omega) ?_
 ·intro j u hu
  rw [Addr.add_lit,cell_of_row (W.alloc (.cells #[.string str,.int .i64 v] 65)) W.heap.size (0+j) #[.string str,.int .i64 v] 65 (0,0) (heap_alloc_new W _)]
  simpa using hu
 ·intro v' w' hown hgr
  obtain ⟨g,c,rfl,hb,_⟩:=hown.form (by omega)
  have hcap:n+1<=c:=by
   rcases hown.2 with ⟨h1,h0⟩ | ⟨g',cap,cur,he,_,_,hc,_⟩
   ·cases h1
   ·injection he with _ _ h3;omega
  simp at hb
  exact hK g c w' (iF.Gz hown (by rw [hN.1]) (by unfold maxLen;omega) (by omega)) hcap ((ah.alloc _ _).trans (Fr.grown hgr (fun k hk=>by cases hk)))
theorem Qc (o:Option Addr) (n c:Nat) (w:World) (hc:n<=c) (_:o=none->n=0):Calls Tryz.prog 53 #[.slice o n c] w fun e w'=>e=.returned (.slice o n n)/\w=w':=by
 go_enter Tryz.func53,Tryz.ntmps53
 go_wp2_with fail
 go_ret
 exact ⟨rfl,rfl⟩
def ZX (W:World) (e:Env) (x:Ending) (w':World):Prop:=∃ o c,x=.returned (.slice o e.length c)/\iF (fun k=>W.heap.size<=k) w' o e.length e/\e.length<=c/\ah W w'
theorem Jj (T : Nat -> Prop) (e : Env) (s : ByteArray) (v : Int) (o : Option Addr) (n c : Nat) (w : World) (h : iF T w o n e) (hc : n <= c) (hn : n <= 900000) :
    Calls Tryz.prog 33 #[.slice o n c,.string s,.int .i64 v] w (ZX w ((s,v)::e)):=by
 have HN:=hid h
 have HCL:=hid (Qc o n c w hc (fun hx=>by subst hx;exact h.nothing))
 have HL:=hid h.1
 clear h
 go_enter Tryz.func33,Tryz.ntmps33
 go_wp2_with fail
 refine HCL.out.mono ?_;rintro x w1 ⟨rfl,rfl⟩
 go_wp2_with (at_builtin;go_must (refine zu w rfl (.tmp 8) (.tmp 12) rfl HN.out s v rfl rfl (by omega) ?_))
 intro g c' w2 hb hcap hq
 have HB:=hid hb
 have HQ:=hid hq
 clear hb hq
 go_wp2_with fail
 go_ret
 exact ⟨some ⟨g,0,none⟩,c',by rw [List.length_cons,<-HL.out];rfl,by rw [List.length_cons,<-HL.out];exact HB.out,by rw [List.length_cons,<-HL.out];exact hcap,HQ.out⟩
theorem add_any (l : List Int) (b n c : Nat) (w : World) (hn : n = l.length) (hz : n <= 1000) (hc : ∀ j x, l[j]? = some x -> w.cell? ⟨b, j, none⟩ = some (.int .i64 x)) (hl : ∀ x ∈ l, InT x) :
    Calls Tryz.prog 81 #[.slice (some ⟨b,0,none⟩) n c] w fun x w'=>x=.returned (.int .i64 (jg l))/\w=w':=by
 have HC:=hid hc
 have HI:=hid hl
 have HN:=hid hn
 clear hc hl hn
 go_enter Tryz.func81,Tryz.ntmps81
 go_wp2_with fail
 go_loopw [3,8] (fun v t wr=>∃ (i:Nat) (s:Int),t=.int .i64 i/\v=.int .i64 s/\i<=n/\(l.take i).foldl qX 0=s/\InT s/\w=wr) (fun _ t _=>n - (intOf t).toNat)
 case atStart=>exact ⟨0,0,rfl,rfl,Nat.zero_le _,rfl,⟨by decide,by decide⟩,rfl⟩
 case round =>
  obtain ⟨i,s,rfl,rfl,hi,hs,hst,rfl⟩:=hrel
  have HS:=hid hs
  have HST:=hid hst
  clear hs hst
  by_cases hlt:i < n
  ·have hlt':(i:Int) < n:=by omega
   obtain ⟨x,hx⟩:∃ x,l[i]?=some x:=⟨_,List.getElem?_eq_getElem (by have:=HN.out;omega)⟩
   have c0:=HC.out i x hx
   have hxt:=HI.out x (List.mem_of_getElem? hx)
   have hs2:=HST.out
   have hb1:-9223372036854775808<=s+x:=by unfold InT top at hxt hs2;omega
   have hb2:s+x<=9223372036854775807:=by unfold InT top at hxt hs2;omega
   have hw:IntKind.i64.wrap (s+x)=s+x:=IntWalk.i64_in _ (by omega)
   have HF:Hid ((l.take (i+1)).foldl qX 0=qX s x):=by show _=_;rw [List.take_add_one,hx,List.foldl_append,HS.out];rfl
   have HT2:Hid (InT (qX s x)):=MR hs2 hxt
   have HMN:Hid (min (1099511627776:Int) (s+x)=qX s x):=rfl
   clear hx hxt hs2 hb1 hb2
   go_wp2_with fail
   go_roundw
   case rel=>exact ⟨i+1,qX s x,by go_num,by first | rfl | (unfold qX top;split<;>(congr 1;omega)) | (show _=Value.int .i64 (qX s x);rw [<-HMN.out]),by omega,HF.out,HT2.out,trivial⟩
   case measure=>simp [intOf];omega
  ·have hlt':¬ (i:Int) < n:=by omega
   have HE:Hid (jg l=s):=by show _=_;have h:=HS.out;rw [List.take_of_length_le (by have:=HN.out;omega)] at h;exact h
   go_wp2_with fail
   go_ret
   exact ⟨by rw [HE.out];rfl,rfl⟩
end Cn
end
section
open Go.RowKit
theorem Fr.putObj (S:Nat->Prop) (w:World) (r:Nat) (o:Obj) (h:S r):Fr S w (w.putObj r o) :=
 ⟨rfl,rfl,rfl,by simp,fun k _ hk=>World.putObj_heap_other (fun e=>hk (by rw [e];exact h))⟩
theorem Ee (k:Nat):Fence.wide.room k:=fun d h=>by cases h
theorem Fj {m:Nat} (m':Nat) {P:Program} {l:Nat} {args:Array Value} {W:World} {R:Ending->World->Prop} (h:YieldAt Fence.wide m P l args W R):YieldAt Fence.wide m' P l args W R:=by
 obtain ⟨fn,tmps,assign,body,hy,hR⟩:=h
 exact ⟨fn,tmps,assign,body,hy,hR.1,fun c cs _=>hR.2 c cs (Ee _)⟩
def ZY {α:Type} (n:Nat) (P:Program) (g:Nat) (lb:Array Value) (Enc:Nat->α->Array Value->World->Prop) (R:Nat->Prop) (xs:List α) (w:World):Prop :=
 ∀ (l:Nat) (J:Nat->(Nat->Prop)->World->Prop) (Jx:World->Prop) (W:World) (D0:Nat->Prop),Fr (fun _=>False) w W ->
  (∀ i D A,J i D A->∀ k,D k->k < A.heap.size/\¬ R k) ->
  (∀ i D A B,J i D A->Fr (fun k=>W.heap.size<=k/\¬ D k) A B->J i D B) ->
  (∀ A B,Jx A->Fr (fun _=>False) A B->Jx B) ->
  (∀ i x va D W1,xs[i]?=some x->Enc i x va W1->J i D W1->YieldAt Fence.wide n P l va W1 fun e W' =>
   (e=.returned (.bool true)/\∃ D',J (i+1) D' W'/\Fr D W1 W'/\∀ k,D' k->D k∨W1.heap.size<=k)∨(e=.returned (.bool false)/\Jx W')) ->
  J 0 D0 W ->
  CallsIn Fence.wide n P g (#[.func (.yield l) #[] #[]]++lb) W fun e W'=>(∃ v,e=.returned v)/\((∃ D,J xs.length D W')∨Jx W')
def Z4 (I:Nat->(Nat->Prop)->World->Prop) (Ix:Code->World->Prop) (i:Nat) (D:Nat->Prop) (W:World):Exit->Act->World->Prop
 | .normal,_,W'=>∃ D',I (i+1) D' W'/\Fr D W W'/\∀ k,D' k->D k∨W.heap.size<=k
 | .ret,_,W'=>Ix .ret W'/\Fr D W W'
 | .exit id,_,W'=>Ix (.exit id) W'/\Fr D W W'
 | .goto t,_,W'=>Ix (.goto t) W'/\Fr D W W'
 | .panic _,_,_=>False
 | .outgrown,_,_=>False
theorem qO {α : Type} {n : Nat} {P : Program} {g : Operand} {ps : Array Tmp} {assign body : Code} {Q : Exit -> Act -> World -> Prop} {a : Act} {w : World}
    {gf:Nat} {lb:Array Value} (hg:a.eval g=.func (.func gf) #[] lb) (eg:∀ args w,(callFunc gf args).run P w=.ok (.enter gf args) w)
    {Enc:Nat->α->Array Value->World->Prop} {R:Nat->Prop} {xs:List α} {w0:World} (hseq:ZY (n - 1) P gf lb Enc R xs w0) (hR:∀ k,R k->k < w0.heap.size) (hb0:Fr (fun _=>False) w0 w) (hps:∀ i x va W,Enc i x va W->va.size=ps.size)
    (I:Nat->(Nat->Prop)->World->Prop) (Im:Nat->α->Act->(Nat->Prop)->World->Prop) (Ix:Code->World->Prop) (D0:Nat->Prop)
    (hown:∀ i D A,I i D A->∀ k,D k->k < A.heap.size/\¬ R k/\(k < w.heap.size∨w.heap.size+2<=k))
    (hI:∀ i D A B,I i D A->Fr (fun k=>w.heap.size<=k/\¬ D k) A B->I i D B)
    (hIm:∀ i x a' D A B,Im i x a' D A->Fr (fun k=>k=w.heap.size+1) A B->Im i x a' D B)
    (hIx:∀ c A B,Ix c A->Fr (fun k=>k=w.heap.size+1) A B->Ix c B)
    (h0:I 0 D0 w)
    (hassign:∀ (l i:Nat) (x:α) (va:Array Value) (D:Nat->Prop) (W:World) (K:Act->World->Prop),xs[i]?=some x->Enc i x va W->I i D W->w.heap.size+2<=W.heap.size->(∀ a' W',Im i x a' D W'->Fr (fun _=>False) W W'->K a' W') ->
     assign.wpIn (Fence.wide.inRound l) (n - 1) P (Exit.then K (fun _ _ _=>False)) { tmps:=(ps.zip va).foldl (fun t (p,v)=>t.setIfInBounds p v) a.tmps,defers:=[] } W)
    (hbody:∀ (l i:Nat) (x:α) (a':Act) (D:Nat->Prop) (W:World),xs[i]?=some x->Im i x a' D W->w.heap.size+2<=W.heap.size->body.wpIn (Fence.wide.inRound l) (n - 1) P (Z4 I Ix i D W) a' W)
    (hdone:∀ (D:Nat->Prop) (W:World),I xs.length D W->W.heap[w.heap.size]?=some (.deferred (some []))->Q .normal { a with defers:={ target:=.collected w.heap.size,args:=#[] }::a.defers } W)
    (hstop:∀ (c:Code) (W:World),Ix c W->W.heap[w.heap.size]?=some (.deferred (some []))->c.wpIn Fence.wide n P Q { a with defers:={ target:=.collected w.heap.size,args:=#[] }::a.defers } W) :
    (Code.rangeFunc g ps assign body).wpIn Fence.wide n P Q a w:=by
 refine wpIn_rangeFunc ?_
 intro fn hfn
 change ∃ l mark w₁ d w₁' f args w₂,(Instr.enterLoop fn a.tmps ps assign body none).run P w=_/\_
 obtain ⟨B,hB⟩:∃ B,B=w.heap.size:=⟨_,rfl⟩
 obtain ⟨rc,hrc⟩:∃ rc:LoopState->Option Code->Loop,rc=fun st pe=>{ state:=st,pending:=pe,fn,tmps:=a.tmps,params:=ps,assign,body,defers:=w.heap.size }:=⟨_,rfl⟩
 obtain ⟨W1,hW1⟩:∃ W1,W1=(w.alloc (.deferred (some []))).alloc (.loop (rc .ready none)):=⟨_,rfl⟩
 have hf1:Fr (fun _=>False) w W1:=by rw [hW1];exact (Fr.alloc _ _ _).trans (Fr.alloc _ _ _)
 have hs1:W1.heap.size=B+2:=by rw [hW1,hB];simp
 have hL1:W1.heap[B+1]?=some (.loop (rc .ready none)):=by
  have h:=World.alloc_heap_new (w.alloc (.deferred (some []))) (.loop (rc .ready none))
  rw [World.size_alloc] at h
  rw [hW1,hB];exact h
 have hK1:W1.heap[B]?=some (.deferred (some [])):=by
  rw [hW1,hB];exact ((Fr.alloc (fun _=>False) (w.alloc (.deferred (some []))) _).block w.heap.size (by simp) (fun h=>h)).trans (World.alloc_heap_new w _)
 refine ⟨B+1,[{ target:=.collected B,args:=#[] }],W1,{ target:=.fn (.func gf) lb,args:=#[.func (.yield (B+1)) #[] #[]] },W1,gf,#[.func (.yield (B+1)) #[] #[]]++lb,W1,?_,?_,fun _ _=>trivial,?_,fun h=>by simp [Fence.wide] at h,?_⟩
 ·rw [hW1,hrc,hB];exact run_enterLoop_outer _ _ _ _ _
 ·simp only [resolve,hg]
  simp [go_sem]
 ·simp [invoke,go_sem,eg]
 rw [<-hB] at hown hI hIm hIx hassign hbody hdone hstop
 refine (hseq (B+1)
  (fun i D W=>∃ D1,I i D1 W/\W.heap[B+1]?=some (.loop (rc .ready none))/\W.heap[B]?=some (.deferred (some []))/\∀ k,D k↔(D1 k∨k=B+1))
  (fun W=>∃ c,Ix c W/\W.heap[B+1]?=some (.loop (rc .done (some c)))/\W.heap[B]?=some (.deferred (some [])))
  W1 (fun k=>D0 k∨k=B+1) (hb0.trans hf1) ?own ?stay ?abW ?round ?start).mono ?fin
 case own =>
  rintro i D A ⟨D1,hi,hl,hk,hd⟩ k hDk
  rcases (hd k).1 hDk with h | h
  ·exact ⟨(hown i D1 A hi k h).1,(hown i D1 A hi k h).2.1⟩
  ·subst h
   exact ⟨(Array.getElem?_eq_some_iff.1 hl).1,fun h=>by have h1:=hR _ h;have h2:=hb0.size;rw [<-hB] at h2;omega⟩
 case stay =>
  rintro i D A C ⟨D1,hi,hl,hk,hd⟩ hf
  have hl':=(Array.getElem?_eq_some_iff.1 hl).1
  refine ⟨D1,hI i D1 A C hi (hf.mono (fun k _ h=>⟨by omega,fun h'=>h.2 ((hd k).2 (.inl h'))⟩)),(hf.block _ hl' (by omega)).trans hl,(hf.block _ (by omega) (by omega)).trans hk,hd⟩
 case abW =>
  rintro A C ⟨c,hc,hl,hk⟩ hf
  have hl':=(Array.getElem?_eq_some_iff.1 hl).1
  exact ⟨c,hIx c A C hc (hf.mono (fun k _ h=>h.elim)),(hf.block _ hl' (fun h=>h)).trans hl,(hf.block _ (by omega) (fun h=>h)).trans hk⟩
 case start =>
  exact ⟨D0,hI 0 D0 w W1 h0 (hf1.mono (fun k _ h=>h.elim)),hL1,hK1,fun k=>Iff.rfl⟩
 case fin =>
  rintro e W2 ⟨⟨v,rfl⟩,(⟨D,D1,hi,hl,hk,hd⟩ | ⟨c,hc,hl,hk⟩)⟩
  ·refine ⟨none,_,by have h:=run_endLoop (P:=P) hl (by rw [hrc];simp);rw [hrc] at h;exact h,hdone D1 _ (hI _ _ _ _ hi (Fr.putObj _ _ _ _ ⟨by omega,fun h=>by have:=hown _ _ _ hi _ h;omega⟩)) ((World.putObj_heap_other (by omega)).trans hk)⟩
  ·exact ⟨some c,_,by have h:=run_endLoop (P:=P) hl (by rw [hrc];simp);rw [hrc] at h;exact h,hstop c _ (hIx c _ _ hc (Fr.putObj _ _ _ _ rfl)) ((World.putObj_heap_other (by omega)).trans hk)⟩
 case round =>
  rintro i x va D W hx henc ⟨D1,hi,hl,hk,hd⟩
  have hlt:B+1 < W.heap.size:=(Array.getElem?_eq_some_iff.1 hl).1
  have hy:=run_yield (P:=P) (args:=va) hl (by rw [hrc];exact hps i x va W henc)
  rw [hrc] at hy
  refine ⟨fn,_,assign,body,hy,roundIn_of_wpIn hfn (hassign _ i x va D1 W _ hx henc hi (by omega) ?_)⟩
  intro a' W' him hfa
  have hl1:=(hfa.block _ hlt (fun h=>h)).trans hl
  have hlt1:B+1 < W'.heap.size:=(Array.getElem?_eq_some_iff.1 hl1).1
  have hk1:=(hfa.block B (by omega) (fun h=>h)).trans hk
  refine ⟨_,run_beginRound hl1 (by rw [hrc]),?_⟩
  obtain ⟨W2,hW2⟩:∃ W2,W2=W'.putObj (B+1) (.loop { rc .ready none with state:=.busy }):=⟨_,rfl⟩
  rw [<-hW2]
  have hl2:W2.heap[B+1]?=some (.loop { rc .ready none with state:=.busy }):=by rw [hW2];exact World.putObj_heap_same hlt1
  have hk2:W2.heap[B]?=some (.deferred (some [])):=by rw [hW2];exact (World.putObj_heap_other (by omega)).trans hk1
  have hfp:Fr (fun k=>k=B+1) W' W2:=by rw [hW2];exact Fr.putObj _ _ _ _ rfl
  have hnd:∀ k,k=B∨k=B+1->¬ D1 k:=fun k hk h=>by have:=hown _ _ _ hi _ h;omega
  have fin : ∀ (jump : Option Code) (W3 : World), Fr D1 W2 W3 ->
      (Instr.endRound (B+1) jump).run P W3=.ok (.bool jump.isNone) (W3.putObj (B+1) (.loop (rc (if jump.isNone then .ready else .done) jump))) /\
      (W3.putObj (B+1) (.loop (rc (if jump.isNone then .ready else .done) jump))).heap[B+1]?=some (.loop (rc (if jump.isNone then .ready else .done) jump)) /\
      (W3.putObj (B+1) (.loop (rc (if jump.isNone then .ready else .done) jump))).heap[B]?=some (.deferred (some [])):=fun jump W3 h3=>by
   have hl3:=(h3.block _ (Array.getElem?_eq_some_iff.1 hl2).1 (hnd _ (.inr rfl))).trans hl2
   have hk3:=(h3.block B (Array.getElem?_eq_some_iff.1 hk2).1 (hnd _ (.inl rfl))).trans hk2
   have h:=run_endRound (P:=P) jump hl3
   rw [hrc] at h ⊢
   exact ⟨h,World.putObj_heap_same (Array.getElem?_eq_some_iff.1 hl3).1,(World.putObj_heap_other (by omega)).trans hk3⟩
  refine wpIn_mono (hbody _ i x a' D1 W2 hx (hIm _ _ _ _ _ _ him hfp) (by have:=(Array.getElem?_eq_some_iff.1 hl2).1;omega)) ?_
  rintro e a3 W3 hp
  cases e with
  | normal =>
   obtain ⟨D2,hi3,h3,hd3⟩:=hp
   obtain ⟨hr,hl4,hk4⟩:=fin none W3 h3
   refine ⟨_,_,hr,.inl ⟨rfl,fun k=>D2 k∨k=B+1,⟨D2,hI _ _ _ _ hi3 (Fr.putObj _ _ _ _ ⟨by omega,fun h=>by have:=hown _ _ _ hi3 _ h;omega⟩),hl4,hk4,fun k=>Iff.rfl⟩,?_,?_⟩⟩
   ·refine (hfa.mono (fun k _ h=>h.elim)).trans ((hfp.mono (fun k _ h=>(hd k).2 (.inr h))).trans ((h3.mono (fun k _ h=>(hd k).2 (.inl h))).trans (Fr.putObj _ _ _ _ ((hd _).2 (.inr rfl)))))
   ·intro k h
    rcases h with h | h
    ·rcases hd3 k h with h | h
     ·exact .inl ((hd k).2 (.inl h))
     ·exact .inr (Nat.le_trans (Nat.le_trans hfa.size hfp.size) h)
    ·exact .inl ((hd k).2 (.inr h))
  | ret =>
   obtain ⟨hc,h3⟩:=hp
   obtain ⟨hr,hl4,hk4⟩:=fin (some .ret) W3 h3
   exact ⟨_,_,hr,.inr ⟨rfl,.ret,hIx _ _ _ hc (Fr.putObj _ _ _ _ rfl),hl4,hk4⟩⟩
  | exit id =>
   obtain ⟨hc,h3⟩:=hp
   obtain ⟨hr,hl4,hk4⟩:=fin (some (.exit id)) W3 h3
   exact ⟨_,_,hr,.inr ⟨rfl,.exit id,hIx _ _ _ hc (Fr.putObj _ _ _ _ rfl),hl4,hk4⟩⟩
  | goto t =>
   obtain ⟨hc,h3⟩:=hp
   obtain ⟨hr,hl4,hk4⟩:=fin (some (.goto t)) W3 h3
   exact ⟨_,_,hr,.inr ⟨rfl,.goto t,hIx _ _ _ hc (Fr.putObj _ _ _ _ rfl),hl4,hk4⟩⟩
  | panic ch=>exact hp.elim
  | outgrown=>exact hp.elim
end
section
open Go.RowKit Go.Shelf
attribute [local go_sem] Oper.semAt_some
def Z5 (R:Nat->Prop) (i:Nat) (x:Nd × To) (va:Array Value) (W:World):Prop :=
 ∃ o1 l1 c1 o2 l2 c2,va=#[.int .i64 (i:Int),bC x.1 o1 l1 c1 o2 l2 c2]/\aC R W o1 l1 x.1.tp/\aY R W o2 l2 x.2
structure xW (nb yb wb l:Nat) (W:World) (i:Nat):Prop where
 n:W.heap[nb]?=some (.cells #[.int .i64 (i:Int)] 3 (0,0))
 y:W.heap[yb]?=some (.cells #[.func (.yield l) #[] #[]] 134 (0,0))
 w:W.heap[wb]?=some (.cells #[.func (.func 84) #[] #[.pointer (some ⟨nb,0,none⟩),.pointer (some ⟨yb,0,none⟩),.pointer (some ⟨wb,0,none⟩)]] 30 (0,0))
theorem xW.fr {nb yb wb l:Nat} {S:Nat->Prop} {W W':World} {i:Nat} (h:xW nb yb wb l W i) (hf:Fr S W W') (h1:¬ S nb) (h2:¬ S yb) (h3:¬ S wb):xW nb yb wb l W' i :=
 ⟨(hf.block _ (lt_of_block h.n) h1).trans h.n,(hf.block _ (lt_of_block h.y) h2).trans h.y,(hf.block _ (lt_of_block h.w) h3).trans h.w⟩
theorem Jk:∀ (f:To) (m:Nat) (h:Nd) (qs:To),f.get m=some (h,qs)->(f.drop m).size=1+qs.size+(f.drop (m+1)).size/\(f.drop m).size<=f.size/\∀ j x,(To.cons h qs .nil).flat[j]?=some x->f.flat[f.size - (f.drop m).size+j]?=some x
 | .nil,m,h,qs,e=>by simp [To.get] at e
 | .cons h' ps r,0,h,qs,e=>by
  simp [To.get] at e
  obtain ⟨rfl,rfl⟩:=e
  refine ⟨by simp [To.drop,To.drop_zero,To.size];omega,by simp [To.drop],fun j x hj=>?_⟩
  have hlt:=(List.getElem?_eq_some_iff.1 hj).1
  simp only [To.drop,Nat.sub_self,Nat.zero_add]
  rw [show (To.cons h' ps r).flat=(To.cons h' ps .nil).flat++r.flat from by simp [To.flat],List.getElem?_append_left hlt]
  exact hj
 | .cons h' ps r,m+1,h,qs,e=>by
  obtain ⟨e1,e2,e3⟩:=Jk r m h qs e
  simp only [To.drop]
  refine ⟨e1,by simp only [To.size];omega,fun j x hj=>?_⟩
  have h3:=e3 j x hj
  rw [show (To.cons h' ps r).flat=((h',ps)::ps.flat)++r.flat from by simp [To.flat],List.getElem?_append_right (by simp [To.size,To.flat_length];omega)]
  rw [<-h3]
  congr 1
  simp [To.size,To.flat_length];omega
section
variable (R:Nat->Prop) (l nb yb wb L0:Nat) (xs:List (Nd × To)) (J:Nat->(Nat->Prop)->World->Prop) (Jx:World->Prop)
def Yd (h:Nd) (ps:To):Prop:=∀ (n i:Nat) (D:Nat->Prop) (W:World) (o1:Option Addr) (l1 c1:Nat) (o2:Option Addr) (l2 c2:Nat),J i D W->xW nb yb wb l W i->aC R W o1 l1 h.tp->aY R W o2 l2 ps ->
 (∀ k,D k->k≠nb/\k≠yb/\k≠wb)->(∀ j x,(To.cons h ps .nil).flat[j]?=some x->xs[i+j]?=some x)->i+ps.size+1<=1000000 ->
 CallsIn Fence.wide n Tryz.prog 84 #[bC h o1 l1 c1 o2 l2 c2,.pointer (some ⟨nb,0,none⟩),.pointer (some ⟨yb,0,none⟩),.pointer (some ⟨wb,0,none⟩)] W fun e W' =>
  (e=.returned (.bool true)/\∃ D',J (i+ps.size+1) D' W'/\xW nb yb wb l W' (i+ps.size+1)/\Fr (fun k=>D k∨k=nb) W W'/\∀ k,D' k->D k∨W.heap.size<=k)∨(e=.returned (.bool false)/\Jx W')
end
theorem walk_any (R : Nat -> Prop) (l nb yb wb L0 : Nat) (xs : List (Nd × To)) (J : Nat -> (Nat -> Prop) -> World -> Prop) (Jx : World -> Prop)
    (hRb:∀ k,R k->k < L0) (hnb:L0<=nb/\L0<=yb/\L0<=wb/\nb≠yb/\nb≠wb)
    (hown:∀ i D A,J i D A->∀ k,D k->k < A.heap.size/\¬ R k)
    (hst:∀ i D A B,J i D A->Fr (fun k=>L0<=k/\¬ D k) A B->J i D B)
    (hY:∀ m i x va D W1,xs[i]?=some x->Z5 R i x va W1->J i D W1->YieldAt Fence.wide m Tryz.prog l va W1 fun e W' =>
     (e=.returned (.bool true)/\∃ D',J (i+1) D' W'/\Fr D W1 W'/\∀ k,D' k->D k∨W1.heap.size<=k)∨(e=.returned (.bool false)/\Jx W'))
    (h:Nd) (ps:To):Yd R l nb yb wb xs J Jx h ps:=by
 refine To.qE (T:=Yd R l nb yb wb xs J Jx) ?_ h ps
 intro h ps ih n i D W o1 l1 c1 o2 l2 c2 hJ hB hs ht hD hx hz
 have IH:=hid ih
 have HD:=hid hD
 have HX:=hid hx
 have hmx:=ht.2.1
 have HL:=hid ht.1
 have hlen:=To.length_le ps
 unfold maxLen at hmx
 obtain ⟨W1,hW1⟩:∃ W1,W1=W.alloc (.cells (cells9 h o1 l1 c1 o2 l2 c2) 29):=⟨_,rfl⟩
 obtain ⟨tb,htb⟩:∃ tb,tb=W.heap.size:=⟨_,rfl⟩
 have hq1:Fr (fun _=>False) W W1:=by rw [hW1];exact Fr.alloc _ _ _
 have hb1:xW nb yb wb l W1 i:=hB.fr hq1 (fun h=>h) (fun h=>h) (fun h=>h)
 have ht1:W1.heap[tb]?=some (.cells (cells9 h o1 l1 c1 o2 l2 c2) 29 (0,0)):=by rw [hW1,htb];exact heap_alloc_new _ _
 have hnt:tb≠nb/\tb≠yb/\tb≠wb:=⟨fun e=>by have:=lt_of_block hB.n;omega,fun e=>by have:=lt_of_block hB.y;omega,fun e=>by have:=lt_of_block hB.w;omega⟩
 obtain ⟨W2,hW2⟩:∃ W2,W2=W1.setCell ⟨nb,0,none⟩ (.int .i64 ((i:Int)+1)):=⟨_,rfl⟩
 have hq2:Fr (fun k=>k=nb) W1 W2:=by rw [hW2];exact Fr.setCell _ _ _ _ rfl
 have hb2:xW nb yb wb l W2 (i+1):=⟨by rw [hW2];exact one_setCell hb1.n,(hq2.block _ (lt_of_block hb1.y) (fun e=>hnb.2.2.2.1 e.symm)).trans hb1.y,(hq2.block _ (lt_of_block hb1.w) (fun e=>hnb.2.2.2.2 e.symm)).trans hb1.w⟩
 have ht2:=(hq2.block _ (lt_of_block ht1) hnt.1).trans ht1
 have hJ2:J i D W2:=hst i D W W2 hJ ((hq1.mono (fun k _ h=>h.elim)).trans (hq2.mono (fun k _ e=>⟨by omega,fun hd=>(hD k hd).1 (by omega)⟩)))
 have hs2:aC R W2 o1 l1 h.tp:=(hs.fr hq1 (fun k _ hk=>⟨hk,fun h=>h⟩)).fr hq2 (fun k _ hk=>⟨hk,fun e=>by have:=hRb k hk;omega⟩)
 have ht3:aY R W2 o2 l2 ps:=(ht.fr hq1 (fun k _ hk=>⟨hk,fun h=>h⟩)).fr hq2 (fun k _ hk=>⟨hk,fun e=>by have:=hRb k hk;omega⟩)
 have hsz1:W1.heap.size=tb+1:=by rw [hW1,htb];simp
 have hsz2:W1.heap.size<=W2.heap.size:=hq2.size
 have hy:=fun m=>hY m i (h,ps) #[.int .i64 (i:Int),bC h o1 l1 c1 o2 l2 c2] D W2 (by have:=hx 0 (h,ps) rfl;simpa using this) ⟨o1,l1,c1,o2,l2,c2,rfl,hs2,ht3⟩ hJ2
 obtain ⟨fn,tmps,assign,body,hyr,hR⟩:=hy (n - 1)
 have HR:=hid hR
 have Xk:Hid (Fr (fun k=>D k∨k=nb) W W2):=(hq1.mono (fun k _ h=>h.elim)).trans (hq2.mono (fun k _ e=>.inr e))
 have cn1:=cell_of_one hb1.n
 have zn1:=free_of_one hb1.n
 have cy2:=cell_of_one hb2.y
 have cw2:=cell_of_one hb2.w
 have cn2:=cell_of_one hb2.n
 have HB2:=hid hb2
 have HT2:=hid ht2
 have HJ2:=hid hJ2
 obtain ⟨a0,a1,a2,a3,a4,a5,a6,a7,a8⟩:=aA ht2
 have rV:W2=(W.alloc (.cells (cells9 h o1 l1 c1 o2 l2 c2) 29)).setCell ⟨nb,0,none⟩ (.int .i64 ((i:Int)+1)):=by rw [hW2,hW1]
 rw [hW1] at cn1 zn1
 have HTS:=hid ht3
 have HTL:Hid (tb < W2.heap.size):=lt_of_block ht2
 have HDW:Hid (∀ k,D k->k < tb):=fun k hk=>by rw [htb];exact (hown _ _ _ hJ k hk).1
 have HST:=hid hst
 clear hs ht ih hD hx hJ hB hq1 hq2 hb1 ht1 hb2 ht2 hJ2 hs2 ht3 hy hR hY hst hsz1 hsz2
 unfold bC
 refine callsIn_of_wp Tryz.func84 rfl trivial ?_ rfl
 simp only [Tryz.ntmps84,List.size_toArray,List.length_cons,List.length_nil,Nat.reduceAdd,Nat.reduceSub,Array.replicate_succ,Array.replicate_zero,List.push_toArray,List.append_toArray,List.nil_append,List.cons_append]
 gi_upto_region 2 with fail
 change Code.wpIn _ _ _ _ _ _ ((W.alloc (.cells (cells9 h o1 l1 c1 o2 l2 c2) 29)).setCell ⟨nb,0,none⟩ (.int .i64 ((i:Int)+1)))
 rw [<-rV,<-htb]
 clear rV hW2 hW1 htb cn1 zn1
 unfold bC at hyr
 gi_wp2
 refine ⟨fun h=>(by cases h),HR.out.mono ?_⟩
 rintro e W3 (⟨rfl,D3,hJ3,hf3,hd3⟩ | ⟨rfl,hx3⟩)
 ·have hb3:=HB2.out.fr hf3 (fun hk=>(HD.out _ hk).1 rfl) (fun hk=>(HD.out _ hk).2.1 rfl) (fun hk=>(HD.out _ hk).2.2 rfl)
  have htD:¬ D tb:=fun hk=>by have:=(hown _ _ _ HJ2.out _ hk).1;have:=HTL.out;have:=HDW.out _ hk;omega
  have ht3:=(hf3.block _ (lt_of_block HT2.out) htD).trans HT2.out
  have HB3:=hid hb3
  have HJ3:=hid hJ3
  have HF3:=hid hf3
  have HD3:=hid hd3
  have HS3:Hid (aY R W3 o2 l2 ps):=HTS.out.fr hf3 (fun k _ hk=>⟨hk,fun hd=>(hown _ _ _ HJ2.out k hd).2 hk⟩)
  clear a0 a1 a2 a3 a4 a5 a6 a7 a8 cn2 cy2 cw2
  obtain ⟨a0,a1,a2,a3,a4,a5,a6,a7,a8⟩:=aA ht3
  clear hJ3 hf3 hd3 hb3 ht3
  gi_wp2
  gi_loopw [19] (fun t wr=>∃ (m:Nat) (D':Nat->Prop),t=.int .i64 m/\m<=l2/\J (i+1+(ps.size - (ps.drop m).size)) D' wr/\xW nb yb wb l wr (i+1+(ps.size - (ps.drop m).size))/\Fr (fun k=>D3 k∨k=nb∨W3.heap.size<=k) W3 wr/\∀ k,D' k->D3 k∨W3.heap.size<=k) (fun t wr=>l2 - (intOf t).toNat)
  case atStart=>exact ⟨0,D3,rfl,Nat.zero_le _,by rw [To.drop_zero,Nat.sub_self];exact HJ3.out,by rw [To.drop_zero,Nat.sub_self];exact HB3.out,Fr.refl _ _,fun k hk=>.inl hk⟩
  case round =>
   obtain ⟨m,D',rfl,hm,hj,hb,hf,hd⟩:=hrel
   by_cases hlt:m < l2
   ·have hlt':(m:Int) < l2:=by omega
    have hts:aY R wr o2 l2 ps:=HS3.out.fr hf (fun k hk hr=>⟨hr,fun hs=>by
     rcases hs with hs | hs | hs
     ·exact (hown _ _ _ HJ3.out k hs).2 hr
     ·have:=hRb k hr;omega
     ·omega⟩)
    obtain ⟨b,off,hd1,qs,p1,m1,d1,p2,m2,d2,rfl,hdr,hg,ac8,QM,hs1,ht1⟩:=hts.nth hlt
    obtain ⟨q1,q2,q3⟩:=Jk ps m hd1 qs hg
    obtain ⟨W4,Gg⟩:∃ W4,W4=wr.alloc (.cells (cells9 hd1 p1 m1 d1 p2 m2 d2) 29):=⟨_,rfl⟩
    have hq4:Fr (fun _=>False) wr W4:=by rw [Gg];exact Fr.alloc _ _ _
    have hc4:bF W4 wr.heap.size 0 hd1 p1 m1 d1 p2 m2 d2:=by rw [Gg];exact ig _ _ _ _ _ _ _ _ _
    have hnd:∀ k,D' k->k≠nb/\k≠yb/\k≠wb:=fun k hk=>by
     have e1:=lt_of_block HB3.out.n
     have e2:=lt_of_block HB3.out.y
     have e3:=lt_of_block HB3.out.w
     rcases hd k hk with h | h
     ·rcases HD3.out k h with h | h
      ·exact HD.out k h
      ·have f1:=lt_of_block HB2.out.n
       have f2:=lt_of_block HB2.out.y
       have f3:=lt_of_block HB2.out.w
       omega
     ·omega
    have HC:=hid (IH.out m hd1 qs hg (n - 1) (i+1+(ps.size - (ps.drop m).size)) D' W4 p1 m1 d1 p2 m2 d2 (HST.out _ _ _ _ hj (hq4.mono (fun k _ h=>h.elim))) (hb.fr hq4 (fun h=>h) (fun h=>h) (fun h=>h)) (hs1.fr hq4 (fun k _ hk=>⟨hk,fun h=>h⟩)) (ht1.fr hq4 (fun k _ hk=>⟨hk,fun h=>h⟩)) hnd
     (fun j x hj=>by
      have h1:=q3 j x hj
      have h2:=HX.out (1+(ps.size - (ps.drop m).size)+j) x (by
       rw [show 1+(ps.size - (ps.drop m).size)+j=(ps.size - (ps.drop m).size+j)+1 from by omega]
       simpa [To.flat] using h1)
      rw [<-h2];congr 1;omega) (by omega))
    have HEQ:Hid (i+1+(ps.size - (ps.drop m).size)+qs.size+1=i+1+(ps.size - (ps.drop (m+1)).size)):=by show _=_;have:=To.size_drop ps (m+1);omega
    have cw4:=cell_of_one (hb.fr hq4 (fun h=>h) (fun h=>h) (fun h=>h)).w
    obtain ⟨z0,z1,z2,z3,z4,z5,z6,z7,z8⟩:=QM
    obtain ⟨y0,y1,y2,y3,y4,y5,y6,y7,y8⟩:=hc4
    have HF:=hid hf
    have Ot:=hid hd
    have gY:=hid hq4
    unfold bC at HC
    clear hf hd hj hb hq4 q1 q2 q3 hts hdr hg hs1 ht1 hnd ac8 a0 a1 a2 a3 a4 a5 a6 a7 a8
    gi_upto_region 7 with fail
    change Code.wpIn _ _ _ _ _ _ (wr.alloc (.cells (cells9 hd1 p1 m1 d1 p2 m2 d2) 29))
    rw [<-Gg]
    generalize wr.heap.size=pb at *
    clear Gg z0 z1 z2 z3 z4 z5 z6 z7 z8
    gi_wp2
    refine ⟨trivial,fun h=>(by cases h),HC.out.mono ?_⟩
    rintro e W5 (⟨rfl,D5,hj5,hb5,hf5,hd5⟩ | ⟨rfl,hx5⟩)
    ·rw [HEQ.out] at hj5 hb5
     have ZW:Hid (Fr (fun k=>D3 k∨k=nb∨W3.heap.size<=k) W3 W5):=(HF.out.trans (gY.out.mono (fun k _ h=>h.elim))).trans (hf5.mono (fun k _ hk=>by
      rcases hk with h | h
      ·rcases Ot.out k h with h | h
       ·exact .inl h
       ·exact .inr (.inr h)
      ·exact .inr (.inl h)))
     have HDF:Hid (∀ k,D5 k->D3 k∨W3.heap.size<=k):=fun k hk=>by
      rcases hd5 k hk with h | h
      ·exact Ot.out k h
      ·have:=HF.out.size;have:=gY.out.size;exact .inr (by omega)
     have HJ5:=hid hj5
     have XM:=hid hb5
     clear hj5 hb5 hf5 hd5
     gi_wp2
     go_roundw
     case rel=>exact ⟨m+1,D5,by go_num,by omega,HJ5.out,XM.out,ZW.out,HDF.out⟩
     case measure=>simp [intOf];omega
    ·gi_wp2
     go_ret
     exact .inr ⟨rfl,hx5⟩
   ·have hlt':¬ (m:Int) < l2:=by omega
    have hme:ps.drop m=.nil:=To.drop_end ps m (by have:=HL.out;omega)
    rw [hme] at hj hb
    have HJE:=hid hj
    have bM:=hid hb
    have sN:=hid hf
    have HDE:=hid hd
    clear hj hb hf hd hme
    gi_wp2
    go_ret
    have h1:=HJE.out
    have h2:=bM.out
    rw [show i+1+(ps.size - To.nil.size)=i+ps.size+1 from by simp [To.size];omega] at h1 h2
    refine .inl ⟨rfl,D',h1,h2,?_,?_⟩
    ·have e1:=Xk.out.size
     have e2:=HF3.out.size
     refine (Xk.out.trans (HF3.out.mono (fun k _ h=>.inl h))).trans' sN.out (fun k hk h=>?_)
     rcases h with h | h | h
     ·rcases HD3.out k h with h | h
      ·exact .inl h
      ·omega
     ·exact .inr h
     ·omega
    ·intro k hk
     rcases HDE.out k hk with h | h
     ·rcases HD3.out k h with h | h
      ·exact .inl h
      ·have:=Xk.out.size;exact .inr (by omega)
     ·have:=Xk.out.size;have:=HF3.out.size;exact .inr (by omega)
 ·gi_wp2
  go_ret
  exact .inr ⟨rfl,hx3⟩
theorem VE (n : Nat) (R : Nat -> Prop) (h : Nd) (ps : To) (o1 : Option Addr) (l1 c1 : Nat) (o2 : Option Addr) (l2 c2 tb : Nat) (w : World) (hRw : ∀ k, R k -> k < w.heap.size)
    (hb:w.heap[tb]?=some (.cells (cells9 h o1 l1 c1 o2 l2 c2) 29 (0,0))) (_:R tb) (hs:aC R w o1 l1 h.tp) (ht:aY R w o2 l2 ps) (hz:ps.size<=100000) :
    ZY n Tryz.prog 83 #[.pointer (some ⟨tb,0,none⟩)] (Z5 R) R (To.cons h ps .nil).flat w:=by
 intro l J Jx W D0 hW hown hst abX hY hJ
 obtain ⟨W2,hW2⟩:∃ W2,W2=((W.alloc (.cells #[.func (.yield l) #[] #[]] 134)).alloc (.cells #[.int .i64 0] 3)).alloc (.cells #[.nilFunc] 30):=⟨_,rfl⟩
 obtain ⟨W3,hW3⟩:∃ W3,W3=W2.setCell ⟨W.heap.size+1+1,0,none⟩ (.func (.func 84) #[] #[.pointer (some ⟨W.heap.size+1,0,none⟩),.pointer (some ⟨W.heap.size,0,none⟩),.pointer (some ⟨W.heap.size+1+1,0,none⟩)]):=⟨_,rfl⟩
 have hf2:Fr (fun _=>False) W W2:=by rw [hW2];exact ((Fr.alloc _ _ _).trans (Fr.alloc _ _ _)).trans (Fr.alloc _ _ _)
 have Xl:Fr (fun k=>k=W.heap.size+1+1) W2 W3:=by rw [hW3];exact Fr.setCell _ _ _ _ rfl
 have hf3:Fr (fun _=>False) W W3:=hf2.trans' Xl (fun k hk e=>by omega)
 have hw2:W2.heap[W.heap.size+1+1]?=some (.cells #[.nilFunc] 30 (0,0)):=by
  rw [hW2]
  have:=heap_alloc_new ((W.alloc (.cells #[.func (.yield l) #[] #[]] 134)).alloc (.cells #[.int .i64 0] 3)) (.cells #[.nilFunc] 30)
  simpa using this
 have hB3:xW (W.heap.size+1) W.heap.size (W.heap.size+1+1) l W3 0:=by
  refine ⟨?_,?_,?_⟩
  ·rw [Xl.block _ (by rw [hW2];simp) (by omega),hW2,Below.heap_alloc _ _ _ (by simp)]
   have:=heap_alloc_new (W.alloc (.cells #[.func (.yield l) #[] #[]] 134)) (.cells #[.int .i64 0] 3)
   simpa using this
  ·rw [Xl.block _ (by rw [hW2];simp;omega) (by omega),hW2,Below.heap_alloc _ _ _ (by simp;omega),Below.heap_alloc _ _ _ (by simp)]
   exact heap_alloc_new W _
  ·rw [hW3]
   exact one_setCell hw2
 have hle:=hW.size
 have hwf:=hW.trans hf3
 have hb3:=(hwf.block _ (lt_of_block hb) (fun h=>h)).trans hb
 have cw2:=cell_of_one hw2
 have zw2:=free_of_one hw2
 have HC:=hid (walk_any R l (W.heap.size+1) W.heap.size (W.heap.size+1+1) W.heap.size (To.cons h ps .nil).flat J Jx (fun k hk=>by have:=hRw k hk;omega) (by omega) hown hst
  (fun m i x va D W1 hx he hj=>Fj m (hY i x va D W1 hx he hj)) h ps (n - 1) 0 D0 W3 o1 l1 c1 o2 l2 c2 (hst 0 D0 W W3 hJ (hf3.mono (fun k _ h=>h.elim))) hB3
  (hs.fr hwf (fun k _ hk=>⟨hk,fun h=>h⟩)) (ht.fr hwf (fun k _ hk=>⟨hk,fun h=>h⟩)) (fun k hk=>by have:=(hown 0 D0 W hJ k hk).1;omega) (fun j x hx=>by rw [Nat.zero_add];exact hx) (by omega))
 have Ae:Hid (0+ps.size+1=(To.cons h ps .nil).flat.length):=by show _=_;rw [To.flat_length];simp [To.size]
 have cw:=cell_of_one hB3.w
 obtain ⟨a0,a1,a2,a3,a4,a5,a6,a7,a8⟩:=aA hb3
 unfold bC at HC
 clear hb3 hB3 hs ht hY hJ hst abX hown hb hwf hf3 hf2 Xl hw2
 refine callsIn_of_wp Tryz.func83 rfl trivial ?_ rfl
 simp only [Tryz.ntmps83,List.size_toArray,List.length_cons,List.length_nil,Nat.reduceAdd,Nat.reduceSub,Array.replicate_succ,Array.replicate_zero,List.push_toArray,List.append_toArray,List.nil_append,List.cons_append]
 have HW3:=hid hW3
 clear hW3
 gi_upto_region 3 with fail
 rw [<-hW2]
 clear hW2
 gi_upto_region 4 with fail
 rw [<-HW3.out]
 clear HW3 cw2 zw2
 gi_wp2
 refine ⟨trivial,fun h=>(by cases h),HC.out.mono ?_⟩
 rintro e W5 (⟨rfl,D5,hj5,hb5,hf5,hd5⟩ | ⟨rfl,hx5⟩)
 ·rw [Ae.out] at hj5
  gi_wp2
  go_end0
  exact ⟨⟨_,rfl⟩,.inl ⟨D5,hj5⟩⟩
 ·gi_wp2
  go_end0
  exact ⟨⟨_,rfl⟩,.inr hx5⟩
theorem QU (h : Nd) (o1 : Option Addr) (l1 c1 : Nat) (o2 : Option Addr) (l2 c2 : Nat) (w : World) :
    Calls Tryz.prog 50 #[bC h o1 l1 c1 o2 l2 c2] w fun e w'=>e=.returned (.func (.func 83) #[] #[.pointer (some ⟨w.heap.size,0,none⟩)])/\w'=w.alloc (.cells (cells9 h o1 l1 c1 o2 l2 c2) 29):=by
 unfold bC
 go_enter Tryz.func50,Tryz.ntmps50
 go_wp2_with fail
 go_ret
 exact ⟨rfl,rfl⟩
end
section
open Go.RowKit Go.Shelf
attribute [local go_sem] Oper.semAt_some
namespace Cn
def UL (n:Nat) (i:Nat) (x:ByteArray × Int) (va:Array Value) (_:World):Prop:=va=#[.int .i64 ((n:Int) - 1 - i),.agg #[.string x.1,.int .i64 x.2]]
theorem Jl (n : Nat) (R : Nat -> Prop) (e : Env) (o : Option Addr) (m c sb : Nat) (w : World) (hRw : ∀ k, R k -> k < w.heap.size) (hb : w.heap[sb]? = some (.cells #[.slice o m c] 60 (0, 0))) (hRt : R sb) (he : iF R w o m e) (hz : m <= 1000000) :
    ZY n Tryz.prog 52 #[.pointer (some ⟨sb,0,none⟩)] (UL m) R e w:=by
 intro l J Jx W D0 hW hown hst abX hY hJ
 have hbW:=ay hW (fun h=>h) hb
 have hle:=hW.size
 have c0:=cell_of_one hbW
 have HE:Hid (iF R W o m e):=he.fr hW (fun k _ hk=>⟨hk,fun h=>h⟩)
 have HL:=hid he.1
 have HB:=hid hbW
 have HJ:=hid hJ
 clear he hb hJ hbW
 refine callsIn_of_wp Tryz.func52 rfl trivial ?_ rfl
 simp only [Tryz.ntmps52,List.size_toArray,List.length_cons,List.length_nil,Nat.reduceAdd,Nat.reduceSub,Array.replicate_succ,Array.replicate_zero,List.push_toArray,List.append_toArray,List.nil_append,List.cons_append]
 gi_wp2
 gi_loopw [3] (fun t wr=>∃ (i:Nat) (D':Nat->Prop),t=.int .i64 ((m:Int) - 1 - i)/\i<=m/\J i D' wr/\Fr (fun k=>D0 k∨W.heap.size<=k) W wr/\∀ k,D' k->D0 k∨W.heap.size<=k) (fun t wr=>(intOf t+1).toNat)
 case atStart=>exact ⟨0,D0,by simp,Nat.zero_le _,HJ.out,Fr.refl _ _,fun k hk=>.inl hk⟩
 case round =>
  obtain ⟨i,D',rfl,hi,hj,hf,hd⟩:=hrel
  have hRD:∀ k,R k->¬ (D0 k∨W.heap.size<=k):=fun k hk h=>by
   rcases h with h | h
   ·exact (hown _ _ _ HJ.out k h).2 hk
   ·have:=hRw k hk;omega
  by_cases hlt:i < m
  ·obtain ⟨x,hx⟩:∃ x,e[i]?=some x:=⟨_,List.getElem?_eq_getElem (by have:=HL.out;omega)⟩
   have hrev:e.reverse[m - 1 - i]?=some x:=by
    rw [List.getElem?_reverse (by have:=HL.out;omega),<-hx];congr 1;have:=HL.out;omega
   have hbn:=HE.out.fr hf (T':=R) (fun k _ hk=>⟨hk,hRD k hk⟩)
   obtain ⟨b,rfl,k0,k1⟩:=hbn.at hrev
   have c1:=cell_of_one (ay hf (hRD _ hRt) HB.out)
   have hidx:((m:Int) - 1 - i).toNat=m - 1 - i:=by omega
   have hp0:(0:Int)<=(m:Int) - 1 - i:=by omega
   have hp1:(m:Int) - 1 - i≥0:=by omega
   have hp2:(m:Int) - 1 - i < m:=by omega
   obtain ⟨fn,tmps,assign,body,hyr,hR⟩:=Fj (n - 1) (hY i x #[.int .i64 ((m:Int) - 1 - i),.agg #[.string x.1,.int .i64 x.2]] D' wr hx rfl hj)
   have HR:=hid hR
   have HF:=hid hf
   have HD:=hid hd
   clear hR hf hd hj hx hrev hbn
   gi_wp2
   refine ⟨fun h=>(by cases h),HR.out.mono ?_⟩
   rintro e W3 (⟨rfl,D3,hJ3,hf3,hd3⟩ | ⟨rfl,hx3⟩)
   ·have HJ3:=hid hJ3
    have HF3:Hid (Fr (fun k=>D0 k∨W.heap.size<=k) W W3):=HF.out.trans (hf3.mono (fun k _ h=>HD.out k h))
    have HD3:Hid (∀ k,D3 k->D0 k∨W.heap.size<=k):=fun k hk=>by
     rcases hd3 k hk with h | h
     ·exact HD.out k h
     ·have:=HF.out.size;exact .inr (by omega)
    clear hJ3 hf3 hd3
    gi_wp2
    go_roundw
    case rel=>exact ⟨i+1,D3,by congr 1;omega,by omega,HJ3.out,HF3.out,HD3.out⟩
    case measure=>simp [intOf]<;>omega
   ·gi_wp2
    refine bodyPost_ret (by first | (simp [results,Tryz.results52,go_sem];done) | (simp [results,Tryz.results52,go_sem];rfl)) rfl ?_
    exact ⟨⟨_,rfl⟩,.inr hx3⟩
  ·have hp1:¬ ((m:Int) - 1 - i≥0):=by omega
   have hp2:¬ ((0:Int)<=(m:Int) - 1 - i):=by omega
   have HE2:Hid (J e.length D' wr):=by show J _ _ _;rw [<-HL.out,show m=i by omega];exact hj
   clear hj hf hd
   gi_wp2
   go_end0
   exact ⟨⟨_,rfl⟩,.inl ⟨D',HE2.out⟩⟩
theorem Fp (o:Option Addr) (m c:Nat) (w:World):Calls Tryz.prog 32 #[.slice o m c] w fun e w'=>e=.returned (.func (.func 52) #[] #[.pointer (some ⟨w.heap.size,0,none⟩)])/\w'=w.alloc (.cells #[.slice o m c] 60):=by
 go_enter Tryz.func32,Tryz.ntmps32
 go_wp2_with fail
 go_ret
 exact ⟨rfl,rfl⟩
theorem Fq {n i:Nat} {x:ByteArray × Int} {va:Array Value} {W:World} (h:UL n i x va W):va.size=2:=by unfold UL at h;rw [h];rfl
end Cn
end
end Go.Proofs.YtcninopmelmajaaGreatDoor
