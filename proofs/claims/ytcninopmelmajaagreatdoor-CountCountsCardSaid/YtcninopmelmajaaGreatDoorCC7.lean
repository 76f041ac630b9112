/-
  Texts laid together (ScCall, ScRFree, TeOwn, ScWalk0, ScWalk, St1): laws and walks, with their conditions.
-/
import Derived.Test.YtcninopmelmajaaGreatDoorCC6
set_option maxHeartbeats 8000000
set_option maxRecDepth 1000000
namespace Go.Proofs.YtcninopmelmajaaGreatDoor
open Go.Lib (hid)
section
namespace Sc
section
variable (ok:ByteArray->Bool)
end
def ql:Int->ByteArray->Nat->List ByteArray->To->List Nd
 | _,_,_,_,.nil=>[]
 | bk,nm,i,e,.cons h ps r=>(if h.k=1 then (if ix (dn bk nm i e) h.nm < 0 then [h] else []) else ql h.k h.nm 0 (dn bk nm i e) ps)++ql bk nm (i+1) e r
def eG (e:List ByteArray) (h:Nd) (ps:To):List Nd:=if h.k=1 then (if ix e h.nm < 0 then [h] else []) else ql h.k h.nm 0 e ps
theorem rH (bk:Int) (nm:ByteArray) (i:Nat) (e:List ByteArray) (h:Nd) (ps r:To):ql bk nm i e (.cons h ps r)=eG (dn bk nm i e) h ps++ql bk nm (i+1) e r:=rfl
def Qi (s:List Nd) (x:Nd) (e:List ByteArray):List Nd:=if ix e x.nm < 0 then s++[x] else s
theorem GU (out:Nd->List ByteArray->Nd):∀ (f:To) (bk:Int) (nm:ByteArray) (i:Nat) (s:List Nd) (e:List ByteArray),(wk Qi out bk nm i s e f).1=s++ql bk nm i e f
 | .nil,_,_,_,s,_=>by simp [wk,ql]
 | .cons h ps r,bk,nm,i,s,e=>by
  rw [MX,rH]
  simp only
  rw [GU out r]
  unfold zQ eG
  by_cases h1:h.k=1
  ·simp only [if_pos h1]
   unfold Qi
   split<;>simp
  ·simp only [if_neg h1]
   rw [GU out ps];simp
theorem U1 (out:Nd->List ByteArray->Nd) (s:List Nd) (e:List ByteArray) (h:Nd) (ps:To):(zQ Qi out s e h ps).1=s++eG e h ps:=by
 unfold zQ eG
 by_cases h1:h.k=1
 ·simp only [if_pos h1];unfold Qi;split<;>simp
 ·simp only [if_neg h1];rw [GU out ps]
end Sc
end
section
open Go.RowKit Go.Shelf
namespace Sc
def vg (h:Nd) (ps:To):Prop:=h.k=1->ps=.nil
def AP:To->Prop
 | .nil=>True
 | .cons h ps r=>vg h ps/\AP ps/\AP r
theorem Dw:∀ (f:To) (i:Nat) (h:Nd) (ps:To),AP f->f.get i=some (h,ps)->vg h ps/\AP ps
 | .nil,i,h,ps,_,e=>by simp [To.get] at e
 | .cons h ps r,0,h',ps',hw,e=>by
  simp [To.get] at e
  obtain ⟨rfl,rfl⟩:=e
  exact ⟨hw.1,hw.2.1⟩
 | .cons h ps r,i+1,h',ps',hw,e=>Dw r i h' ps' hw.2.2 e
theorem wJ:∀ f:To,okF f->AP f
 | .nil,_=>trivial
 | .cons _ ps r,hw=>⟨hw.1,wJ ps hw.2.2.1,wJ r hw.2.2.2⟩
theorem Qj {e:List ByteArray} {h:Nd} {ps:To} (hk:h.k=1):eG e h ps=if ix e h.nm < 0 then [h] else []:=by unfold eG;rw [if_pos hk]
theorem U2 {e:List ByteArray} {h:Nd} {ps:To} (hk:¬ h.k=1):eG e h ps=ql h.k h.nm 0 e ps:=by unfold eG;rw [if_neg hk]
theorem yc:∀ (f:To) (bk:Int) (nm:ByteArray) (i:Nat) (e:List ByteArray),(ql bk nm i e f).length<=f.size
 | .nil,_,_,_,_=>Nat.zero_le _
 | .cons h ps r,bk,nm,i,e=>by
  have h1:=yc ps h.k h.nm 0 (dn bk nm i e)
  have h2:=yc r bk nm (i+1) e
  rw [rH,List.length_append]
  simp only [To.size]
  unfold eG
  split
  ·split
   ·simp;omega
   ·simp;omega
  ·omega
theorem Ep (e:List ByteArray) (h:Nd) (ps:To):(eG e h ps).length<=ps.size+1:=by
 have:=yc (.cons h ps .nil) 0 ByteArray.empty 0 e
 rw [rH] at this
 simp only [To.size,List.length_append] at this
 have he:dn 0 ByteArray.empty 0 e=e:=by unfold dn iq;simp
 rw [he] at this
 simp [ql] at this
 omega
def U3 (h:Nd) (ps:To):Prop:=∀ (w:World) (R T:Nat->Prop) (o1:Option Addr) (l1 c1:Nat) (o2:Option Addr) (l2 c2:Nat) (no:Option Addr) (nn nc:Nat) (e:List ByteArray),aY R w o2 l2 ps->iE T w no nn e->nn+ps.size<=200000->vg h ps->AP ps ->
 Calls Tryz.prog 16 #[bC h o1 l1 c1 o2 l2 c2,.slice no nn nc] w (Eo w (eG e h ps))
theorem I5 (h:Nd) (ps:To):U3 h ps:=by
 refine To.qE (T:=U3) ?_ h ps
 intro h ps ih w R T o1 l1 c1 o2 l2 c2 no nn nc e hs hN hsz hv hav
 have HS:=hid hs
 have IH:=hid ih
 have HN:=hid hN
 have HAV:=hid hav
 have hl:=hs.1
 have hll:=To.length_le ps
 rw [<-hl] at hll
 have HL:=hid hl
 obtain ⟨W0,hW0⟩:∃ W0,W0=w.alloc (.cells (cells9 h o1 l1 c1 o2 l2 c2) 29):=⟨_,rfl⟩
 have HB:Hid (∀ W,ah W0 W->bF W w.heap.size 0 h o1 l1 c1 o2 l2 c2):=by
  intro W hq;rw [hW0] at hq;exact FQ w h o1 l1 c1 o2 l2 c2 _ W hq
 have aK:Hid (ah w W0):=by rw [hW0];exact ah.alloc _ _
 have HZ:Hid (W0.heap.size=w.heap.size+1):=by show _=_;rw [hW0];simp
 have HI:=hid (wP T e h.nm no nn nc W0 (hN.stay aK.out) (by omega))
 have Il:=hid hN.1
 clear hs ih hl hN hav
 unfold bC
 by_cases hk:h.k=1
 ·have hk':(h.k == 1)=true:=by simp [hk]
  have hps:ps=.nil:=hv hk
  rw [Qj hk]
  have HL0:Hid (l2=0):=by have:=HL.out;rw [hps] at this;exact this
  clear hk hps hv
  generalize ix e h.nm=r at *
  by_cases hx:r < 0
  ·rw [if_pos hx]
   go_enter Tryz.func16,Tryz.ntmps16
   go_upto_region 1 with fail
   rw [<-hW0]
   clear hW0
   obtain ⟨a0,a1,a2,a3,a4,a5,a6,a7,a8⟩:=HB.out W0 (ah.refl _)
   have hz0:=HZ.out
   obtain ⟨W1,hW1⟩:∃ W1,W1=W0.alloc (.cells (cells9 h o1 l1 c1 o2 l2 c2) 29):=⟨_,rfl⟩
   have hnew:=heap_alloc_new W0 (.cells (cells9 h o1 l1 c1 o2 l2 c2) 29)
   rw [<-hW1] at hnew
   have bI:Hid (ah W0 W1):=by rw [hW1];exact ah.alloc _ _
   have lS:Hid (jh w.heap.size W1 (some ⟨W0.heap.size,0,none⟩) 1 [h] (cells9 h o1 l1 c1 o2 l2 c2).toList):=by
    refine ⟨⟨rfl,.inr ⟨W0.heap.size,1,cells9 h o1 l1 c1 o2 l2 c2,rfl,Nat.zero_le _,hnew,Nat.le_refl _,by decide,rfl,rfl⟩⟩,?_,?_⟩
    ·exact ⟨o1,l1,c1,o2,l2,c2,[],by simp,rfl⟩
    ·intro k hk
     simp [Value.ownBlock] at hk
     omega
   clear hnew hz0
   go_wp2_with fail
   refine HI.out.mono ?_;rintro x w2 ⟨rfl,rfl⟩
   go_wp2_with fail
   go_ret
   change Eo _ _ _ (W0.alloc (.cells (cells9 h o1 l1 c1 o2 l2 c2) 29))
   rw [<-hW1]
   exact ⟨_,1,_,rfl,lS.out,aK.out.trans bI.out⟩
  ·rw [if_neg hx]
   go_enter Tryz.func16,Tryz.ntmps16
   go_upto_region 1 with fail
   rw [<-hW0]
   clear hW0
   obtain ⟨a0,a1,a2,a3,a4,a5,a6,a7,a8⟩:=HB.out W0 (ah.refl _)
   go_wp2_with fail
   refine HI.out.mono ?_;rintro x w2 ⟨rfl,rfl⟩
   go_wp2_with fail
   go_loopw [5,6] (fun s t wr=>s=.slice none 0 0/\t=.int .i64 0/\wr=W0) (fun _ t _=>0)
   case atStart=>exact ⟨rfl,rfl,rfl⟩
   case round =>
    obtain ⟨rfl,rfl,rfl⟩:=hrel
    have h0:=HL0.out
    subst h0
    go_wp2_with fail
    go_ret
    exact ⟨none,0,[],rfl,Dq _ _,aK.out⟩
 ·have hk':(h.k == 1)=false:=by simp [hk]
  rw [U2 hk]
  obtain ⟨RES,hres⟩:∃ RES,RES=ql h.k h.nm 0 e ps:=⟨_,rfl⟩
  have aW:=hid hres
  rw [<-hres]
  have hlen:=yc ps h.k h.nm 0 e
  rw [<-hres] at hlen
  clear hres hv
  go_enter Tryz.func16,Tryz.ntmps16
  go_upto_region 1 with fail
  rw [<-hW0]
  clear hW0
  generalize hnb:w.heap.size=nb at *
  have MZ:=hid hnb
  clear hnb
  obtain ⟨a0,a1,a2,a3,a4,a5,a6,a7,a8⟩:=HB.out W0 (ah.refl _)
  go_wp2_with fail
  clear a0 a1 a2 a3 a4 a5 a6 a7 a8
  go_loopw [5,6] (fun s t wr=>∃ (i n c:Nat) (o:Option Addr) (l:List Nd) (xs:List Value),t=.int .i64 i/\s=.slice o n c/\i<=l2/\l.length=n/\l++ql h.k h.nm i e (ps.drop i)=RES/\jh (nb+1) wr o c l xs/\ah W0 wr) (fun _ t _=>l2 - (intOf t).toNat)
  case atStart=>exact ⟨0,0,0,none,[],[],rfl,rfl,Nat.zero_le _,rfl,by rw [To.drop_zero,aW.out];rfl,Dq _ _,ah.refl _⟩
  case round =>
   obtain ⟨i,n,c,o,l,xs,rfl,rfl,hi,hln,hn,hrow,hq⟩:=hrel
   have hnz:n<=200000:=by
    have:=congrArg List.length hn
    simp only [List.length_append] at this
    omega
   have Ae:=hid hln
   have ED:=hid hn
   have HR:=hid hrow
   have HQ:=hid hq
   obtain ⟨a0,a1,a2,a3,a4,a5,a6,a7,a8⟩:=HB.out wr hq
   clear hn hrow hq hln
   by_cases hlt:i < l2
   ·have hlt':(i:Int) < l2:=by omega
    obtain ⟨b,off,hd,qs,p1,m1,d1,p2,m2,d2,rfl,hd1,hg,hRb,QM,hs1,ht1⟩:=(HS.out).nth hlt
    have hblt:=QM.lt
    have Z8:=aK.out.trans HQ.out
    have QA:=To.bV ps i hd qs hg
    have hvq:=Dw ps i hd qs HAV.out hg
    have PZ:Hid (∀ W,ah wr W->(W.cell? ⟨nb,0,none⟩=some (.int .i64 h.k)/\W.cell? ⟨nb,1,none⟩=some (.string h.nm)/\W.cell? ⟨nb,2,none⟩=some (.int .i64 h.n)/\W.cell? ⟨nb,3,none⟩=some (.int .i64 h.tk)/\W.cell? ⟨nb,4,none⟩=some (.int .i64 h.tn)/\W.cell? ⟨nb,5,none⟩=some (.slice o1 l1 c1)/\W.cell? ⟨nb,6,none⟩=some (.slice (some ⟨b,off,none⟩) l2 c2)/\W.cell? ⟨nb,7,none⟩=some (.int .i64 h.fr)/\W.cell? ⟨nb,8,none⟩=some (.int .i64 h.en))/\(W.cell? ⟨b,off+i * 9,none⟩=some (.int .i64 hd.k)/\W.cell? ⟨b,off+i * 9+1,none⟩=some (.string hd.nm)/\W.cell? ⟨b,off+i * 9+2,none⟩=some (.int .i64 hd.n)/\W.cell? ⟨b,off+i * 9+3,none⟩=some (.int .i64 hd.tk)/\W.cell? ⟨b,off+i * 9+4,none⟩=some (.int .i64 hd.tn)/\W.cell? ⟨b,off+i * 9+5,none⟩=some (.slice p1 m1 d1)/\W.cell? ⟨b,off+i * 9+6,none⟩=some (.slice p2 m2 d2)/\W.cell? ⟨b,off+i * 9+7,none⟩=some (.int .i64 hd.fr)/\W.cell? ⟨b,off+i * 9+8,none⟩=some (.int .i64 hd.en))):=fun W hq=>⟨HB.out W (HQ.out.trans hq),QM.fr (Z8.trans hq) (fun h=>h)⟩
    have HKF:Hid (∀ W,Fr (fun k=>(Value.slice o n c).ownBlock=some k) wr W->(W.cell? ⟨nb,0,none⟩=some (.int .i64 h.k)/\W.cell? ⟨nb,1,none⟩=some (.string h.nm)/\W.cell? ⟨nb,2,none⟩=some (.int .i64 h.n)/\W.cell? ⟨nb,3,none⟩=some (.int .i64 h.tk)/\W.cell? ⟨nb,4,none⟩=some (.int .i64 h.tn)/\W.cell? ⟨nb,5,none⟩=some (.slice o1 l1 c1)/\W.cell? ⟨nb,6,none⟩=some (.slice (some ⟨b,off,none⟩) l2 c2)/\W.cell? ⟨nb,7,none⟩=some (.int .i64 h.fr)/\W.cell? ⟨nb,8,none⟩=some (.int .i64 h.en))/\(W.cell? ⟨b,off+i * 9,none⟩=some (.int .i64 hd.k)/\W.cell? ⟨b,off+i * 9+1,none⟩=some (.string hd.nm)/\W.cell? ⟨b,off+i * 9+2,none⟩=some (.int .i64 hd.n)/\W.cell? ⟨b,off+i * 9+3,none⟩=some (.int .i64 hd.tk)/\W.cell? ⟨b,off+i * 9+4,none⟩=some (.int .i64 hd.tn)/\W.cell? ⟨b,off+i * 9+5,none⟩=some (.slice p1 m1 d1)/\W.cell? ⟨b,off+i * 9+6,none⟩=some (.slice p2 m2 d2)/\W.cell? ⟨b,off+i * 9+7,none⟩=some (.int .i64 hd.fr)/\W.cell? ⟨b,off+i * 9+8,none⟩=some (.int .i64 hd.en))):=fun W hf=>⟨(HB.out wr HQ.out).fr hf (fun hk=>by have:=HR.out.2.2 _ (by rw [Ae.out];exact hk);omega),(QM.fr Z8 (fun h=>h)).fr hf (fun hk=>by have:=HR.out.2.2 _ (by rw [Ae.out];exact hk);have:=MZ.out;omega)⟩
    have SE:Hid (∀ W,ah wr W->Calls Tryz.prog 36 #[bC h o1 l1 c1 (some ⟨b,off,none⟩) l2 c2,.int .i64 (i:Nat),.slice no nn nc] W (LK T W (dn h.k h.nm i e))):=fun W hq=>LM h o1 l1 c1 _ l2 c2 i T e no nn nc W (HN.out.stay (aK.out.trans (HQ.out.trans hq))) (by omega)
    have henv:(dn h.k h.nm i e).length<=nn+1:=by have:=Il.out;unfold dn;split<;>simp<;>omega
    have Vz:Hid (∀ (W:World) (T:Nat->Prop) (no:Option Addr) (nc:Nat),iE T W no (dn h.k h.nm i e).length (dn h.k h.nm i e)->ah wr W->Calls Tryz.prog 16 #[bC hd p1 m1 d1 p2 m2 d2,.slice no (dn h.k h.nm i e).length nc] W (Eo W (eG (dn h.k h.nm i e) hd qs))):=fun W T no nc hN hq=>IH.out i hd qs hg W R T p1 m1 d1 p2 m2 d2 no _ nc _ (ht1.stay (Z8.trans hq)) hN (by omega) hvq.1 hvq.2
    have HD:Hid ((l++eG (dn h.k h.nm i e) hd qs)++ql h.k h.nm (i+1) e (ps.drop (i+1))=RES):=by
     have:=ED.out;rw [hd1,rH] at this;show _=_;rw [<-this,List.append_assoc]
    have hql:=Ep (dn h.k h.nm i e) hd qs
    have HZ2:Hid (nb+1<=wr.heap.size):=by have:=HQ.out.size;have:=HZ.out;show _<=_;omega
    unfold bC at SE Vz
    generalize dn h.k h.nm i e=E at *
    generalize eG E hd qs=l' at *
    have hbd:n+l'.length<=1000000:=by omega
    clear hd1 hg hs1 ht1 QA hRb hvq QM henv hql
    go_upto_region 7 with fail
    clear a0 a1 a2 a3 a4 a5 a6 a7 a8
    have hqc:=ah.refl wr
    go_region_held3 (fun W=>(W.cell? ⟨nb,0,none⟩=some (.int .i64 h.k)/\W.cell? ⟨nb,1,none⟩=some (.string h.nm)/\W.cell? ⟨nb,2,none⟩=some (.int .i64 h.n)/\W.cell? ⟨nb,3,none⟩=some (.int .i64 h.tk)/\W.cell? ⟨nb,4,none⟩=some (.int .i64 h.tn)/\W.cell? ⟨nb,5,none⟩=some (.slice o1 l1 c1)/\W.cell? ⟨nb,6,none⟩=some (.slice (some ⟨b,off,none⟩) l2 c2)/\W.cell? ⟨nb,7,none⟩=some (.int .i64 h.fr)/\W.cell? ⟨nb,8,none⟩=some (.int .i64 h.en))/\(W.cell? ⟨b,off+i * 9,none⟩=some (.int .i64 hd.k)/\W.cell? ⟨b,off+i * 9+1,none⟩=some (.string hd.nm)/\W.cell? ⟨b,off+i * 9+2,none⟩=some (.int .i64 hd.n)/\W.cell? ⟨b,off+i * 9+3,none⟩=some (.int .i64 hd.tk)/\W.cell? ⟨b,off+i * 9+4,none⟩=some (.int .i64 hd.tn)/\W.cell? ⟨b,off+i * 9+5,none⟩=some (.slice p1 m1 d1)/\W.cell? ⟨b,off+i * 9+6,none⟩=some (.slice p2 m2 d2)/\W.cell? ⟨b,off+i * 9+7,none⟩=some (.int .i64 hd.fr)/\W.cell? ⟨b,off+i * 9+8,none⟩=some (.int .i64 hd.en)))
     (first | ((refine HKF.out _ ?_);exact dN) | ((refine PZ.out _ ?_);(repeat with_reducible first | exact hqc | exact ah.refl _ | refine jq ?_ | refine jr ?_)))
     (first
      | (go_at_call 36;(with_reducible refine Calls.mono (SE.out _ ?hq) ?_);(case hq=>(repeat with_reducible first | exact hqc | exact ah.refl _ | refine jq ?_ | refine jr ?_));rintro e wx ⟨no2,nc2,rfl,hn1,jQ⟩;(refine jd (w0:=wr) ?hq2 jQ ?_);(case hq2=>(repeat with_reducible first | exact hqc | exact ah.refl _ | refine jq ?_ | refine jr ?_));intro hqc)
      | ((go_at_call 16;(with_reducible refine Calls.mono (Vz.out _ _ _ _ (hn1.stay ?hq3) ?hq) ?_));(case hq3=>(repeat with_reducible first | exact ah.refl _ | refine jq ?_ | refine jr ?_));(case hq=>(repeat with_reducible first | exact hqc | exact ah.refl _ | refine jq ?_ | refine jr ?_));rintro e wx ⟨fo,fc,ys,rfl,hrow,jQ⟩;(refine jd (w0:=wr) ?hq2 jQ ?_);(case hq2=>(repeat with_reducible first | exact hqc | exact ah.refl _ | refine jq ?_ | refine jr ?_));intro hqc)
      | ((refine Qd _ rfl (.tmp 26) (.tmp 36) rfl o n c l xs rfl Ae.out ?hown fo l'.length fc l' ys rfl rfl ?hrow2 (Wb:=wr) ?hch HZ2.out hbd ?_);(case hown=>((refine jh.stay HR.out ?_);(repeat with_reducible first | exact hqc | exact ah.refl _ | refine jq ?_ | refine jr ?_)));(case hrow2=>((refine jh.stay (Dt hrow (Nat.zero_le _)) ?_);(repeat with_reducible first | exact ah.refl _ | refine jq ?_ | refine jr ?_)));(case hch=>(repeat with_reducible first | exact hqc | exact ah.refl _ | refine jq ?_ | refine jr ?_));intro o3 c3 w3 hr3 hf3;(refine UN (w0:=wr) ?ade hf3 ?_);(case ade=>(repeat with_reducible first | exact hqc | exact ah.refl _ | refine jq ?_ | refine jr ?_));intro dN)
      | fail)
    all_goals
     have HR3:=hid hr3
     have dG:Hid (ah W0 w3):=Fr.trans' HQ.out dN (fun k hk hs=>by have:=HR.out.2.2 k (by rw [Ae.out];exact hs);have:=HZ.out;omega)
     have HL3:Hid ((l++l').length=n+l'.length):=by show _=_;rw [List.length_append,Ae.out]
     clear hr3 hf3 dN hqc jQ
     go_wp2_with fail
     go_roundw
     case rel=>exact ⟨i+1,n+l'.length,c3,o3,_,xs++ys,by go_num,rfl,by omega,HL3.out,HD.out,HR3.out,dG.out⟩
     case measure=>simp [intOf];omega
   ·have hlt':¬ (i:Int) < l2:=by omega
    have HE:Hid (l=RES):=by
     have:=ED.out
     rw [To.drop_end ps i (by have:=HL.out;omega)] at this
     show _=_
     simpa [ql] using this
    go_wp2_with fail
    go_ret
    rw [<-HE.out]
    refine ⟨o,c,xs,by rw [Ae.out];rfl,?_,aK.out.trans HQ.out⟩
    rw [MZ.out]
    exact Dt HR.out (by omega)
end Sc
end
section
open Go.RowKit
abbrev Jv (w:World) (b:Nat):Prop:=∃ cur,w.heap[b]?=some (.cells cur 29 (0,0))
def Jw (R:Nat->Prop) (w:World):(Nat->Nat->Prop)->Nat->Nat->To->Prop
 | _,_,_,.nil=>True
 | D, b, off, .cons h ps r => (∃ o1 l1 c1 o2 l2 c2, bF w b off h o1 l1 c1 o2 l2 c2 /\ aC R w o1 l1 h.tp /\ l2 = ps.length /\ l2 <= maxLen /\
     (0 < l2->∃ b' E,o2=some ⟨b',0,none⟩/\D 0 b'/\Jv w b'/\(∀ j k,E j k->D 0 k/\k≠b')/\(∀ i j k,E i k->E j k->i=j)/\Jw R w E b' 0 ps))/\Jw R w (fun j=>D (j+1)) b (off+9) r
def TO (R:Nat->Prop) (w:World) (D:Nat->Prop) (o:Option Addr) (len:Nat) (f:To):Prop:=len=f.length/\len<=maxLen /\
 (0 < len->∃ b E,o=some ⟨b,0,none⟩/\D b/\Jv w b/\(∀ j k,E j k->D k/\k≠b)/\(∀ i j k,E i k->E j k->i=j)/\Jw R w E b 0 f)
theorem TO.nil (R:Nat->Prop) (w:World) (D:Nat->Prop) (o:Option Addr):TO R w D o 0 .nil:=⟨rfl,Nat.zero_le _,fun h=>absurd h (Nat.lt_irrefl _)⟩
theorem U4 {R : Nat -> Prop} {w : World} {D : Nat -> Nat -> Prop} {b off : Nat} {h : Nd} {ps r : To} : Jw R w D b off (.cons h ps r) ↔
    (∃ o1 l1 c1 o2 l2 c2,bF w b off h o1 l1 c1 o2 l2 c2/\aC R w o1 l1 h.tp/\TO R w (D 0) o2 l2 ps)/\Jw R w (fun j=>D (j+1)) b (off+9) r:=Iff.rfl
theorem Jv.fr {S:Nat->Prop} {w w':World} {b:Nat} (h:Jv w b) (hf:Fr S w w') (hs:¬ S b):Jv w' b:=by
 obtain ⟨cur,hc⟩:=h
 exact ⟨cur,(hf.block _ (lt_of_block hc) hs).trans hc⟩
theorem Jw.keep {R T S:Nat->Prop} {w w':World} (hf:Fr S w w') (hR:∀ k,k < w.heap.size->R k->T k/\¬ S k):∀ (f:To) (D:Nat->Nat->Prop) (b off:Nat),Jw R w D b off f->(∀ c,off<=c->c < off+9 * f.length->w'.cell? ⟨b,c,none⟩=w.cell? ⟨b,c,none⟩)->(∀ j k,D j k->¬ S k)->Jw T w' D b off f
 | .nil,_,_,_,_,_,_=>trivial
 | .cons h ps r,D,b,off,ht,hc,hD=>by
  obtain ⟨⟨o1,l1,c1,o2,l2,c2,⟨a0,a1,a2,a3,a4,a5,a6,a7,a8⟩,hs,h4,h4',h5⟩,h6⟩:=ht
  have hl:9<=9 * (To.cons h ps r).length:=by simp [To.length];omega
  refine ⟨⟨o1,l1,c1,o2,l2,c2,⟨?_,?_,?_,?_,?_,?_,?_,?_,?_⟩,hs.fr hf hR,h4,h4',fun hl=>?_⟩,Jw.keep hf hR r _ b (off+9) h6 (fun c k1 k2=>hc c (by omega) (by simp only [To.length];omega)) (fun j k hk=>hD _ k hk)⟩
  ·rw [hc off (by omega) (by omega)];exact a0
  ·rw [hc _ (by omega) (by omega)];exact a1
  ·rw [hc _ (by omega) (by omega)];exact a2
  ·rw [hc _ (by omega) (by omega)];exact a3
  ·rw [hc _ (by omega) (by omega)];exact a4
  ·rw [hc _ (by omega) (by omega)];exact a5
  ·rw [hc _ (by omega) (by omega)];exact a6
  ·rw [hc _ (by omega) (by omega)];exact a7
  ·rw [hc _ (by omega) (by omega)];exact a8
  ·obtain ⟨b',E,ho,hd,hb,hE,hdj,ha⟩:=h5 hl
   have hnb:=hD 0 b' hd
   refine ⟨b',E,ho,hd,hb.fr hf hnb,hE,hdj,Jw.keep hf hR ps E b' 0 ha (fun c _ _=>?_) (fun j k hk=>hD 0 k (hE j k hk).1)⟩
   obtain ⟨cur,hcur⟩:=hb
   simp only [World.cell?,hf.block _ (lt_of_block hcur) hnb]
theorem TO.fr {R T S:Nat->Prop} {w w':World} {D:Nat->Prop} {o:Option Addr} {len:Nat} {f:To} (h:TO R w D o len f) (hf:Fr S w w') (hR:∀ k,k < w.heap.size->R k->T k/\¬ S k) (hD:∀ k,D k->¬ S k):TO T w' D o len f:=by
 refine ⟨h.1,h.2.1,fun h0=>?_⟩
 obtain ⟨b,E,ho,hd,hb,hE,hdj,ha⟩:=h.2.2 h0
 refine ⟨b,E,ho,hd,hb.fr hf (hD b hd),hE,hdj,Jw.keep hf hR f E b 0 ha (fun c _ _=>?_) (fun j k hk=>hD k (hE j k hk).1)⟩
 obtain ⟨cur,hcur⟩:=hb
 simp only [World.cell?,hf.block _ (lt_of_block hcur) (hD b hd)]
theorem TO.weak {R:Nat->Prop} {w:World} {D D':Nat->Prop} {o:Option Addr} {len:Nat} {f:To} (h:TO R w D o len f) (hD:∀ k,D k->D' k):TO R w D' o len f:=by
 refine ⟨h.1,h.2.1,fun h0=>?_⟩
 obtain ⟨b,E,ho,hd,hb,hE,hdj,ha⟩:=h.2.2 h0
 exact ⟨b,E,ho,hD _ hd,hb,fun j k hk=>⟨hD _ (hE j k hk).1,(hE j k hk).2⟩,hdj,ha⟩
theorem Jw.tin {R:Nat->Prop} {w:World} {T:Nat->Prop} (hR:∀ k,k < w.heap.size->R k->T k):∀ (f:To) (D:Nat->Nat->Prop) (b off:Nat),T b->(∀ j k,D j k->T k)->Jw R w D b off f->JB T w b off f
 | .nil,_,_,_,_,_,_=>trivial
 | .cons h ps r,D,b,off,hb,hD,ht=>by
  obtain ⟨⟨o1,l1,c1,o2,l2,c2,hc,hs,h4,h4',h5⟩,h6⟩:=ht
  refine ⟨hb,⟨o1,l1,c1,o2,l2,c2,hc,hs.mono hR,h4,h4',fun hl=>?_⟩,Jw.tin hR r _ b (off+9) hb (fun j k hk=>hD _ k hk) h6⟩
  obtain ⟨b',E,ho,hd,_,hE,_,ha⟩:=h5 hl
  exact ⟨b',0,ho,Jw.tin hR ps E b' 0 (hD 0 _ hd) (fun j k hk=>hD 0 k (hE j k hk).1) ha⟩
theorem TO.acp {R:Nat->Prop} {w:World} {D T:Nat->Prop} {o:Option Addr} {len:Nat} {f:To} (h:TO R w D o len f) (hR:∀ k,k < w.heap.size->R k->T k) (hD:∀ k,D k->T k):aY T w o len f:=by
 refine ⟨h.1,h.2.1,fun h0=>?_⟩
 obtain ⟨b,E,ho,hd,_,hE,_,ha⟩:=h.2.2 h0
 exact ⟨b,0,ho,Jw.tin hR f E b 0 (hD b hd) (fun j k hk=>hD k (hE j k hk).1) ha⟩
def rJ (R:Nat->Prop) (w:World):(Nat->Nat->Prop)->List Value->To->Prop
 | _,xs,.nil=>xs=[]
 | E,xs,.cons h ps r=>∃ o1 l1 c1 o2 l2 c2 ys,xs=(cells9 h o1 l1 c1 o2 l2 c2).toList++ys/\aC R w o1 l1 h.tp/\TO R w (E 0) o2 l2 ps/\rJ R w (fun j=>E (j+1)) ys r
theorem rJ.fr {R T S:Nat->Prop} {w w':World} (hf:Fr S w w') (hR:∀ k,k < w.heap.size->R k->T k/\¬ S k):∀ (f:To) (E:Nat->Nat->Prop) (xs:List Value),rJ R w E xs f->(∀ j k,E j k->¬ S k)->rJ T w' E xs f
 | .nil,_,_,h,_=>h
 | .cons h ps r,E,xs,ht,hE=>by
  obtain ⟨o1,l1,c1,o2,l2,c2,ys,rfl,hs,ht,hr⟩:=ht
  exact ⟨o1,l1,c1,o2,l2,c2,ys,rfl,hs.fr hf hR,ht.fr hf hR (fun k hk=>hE 0 k hk),rJ.fr hf hR r _ ys hr (fun j k hk=>hE _ k hk)⟩
theorem rJ.snoc {R : Nat -> Prop} {w : World} {h : Nd} {ps : To} {o1 : Option Addr} {l1 c1 : Nat} {o2 : Option Addr} {l2 c2 : Nat} {Dn : Nat -> Prop} (hs : aC R w o1 l1 h.tp) (ht : TO R w Dn o2 l2 ps) : ∀ (f : To) (E : Nat -> Nat -> Prop) (xs : List Value), rJ R w E xs f ->
    rJ R w (fun j k=>(j < f.length/\E j k)∨(j=f.length/\Dn k)) (xs++(cells9 h o1 l1 c1 o2 l2 c2).toList) (f.app (.cons h ps .nil))
 | .nil,E,xs,e=>by
  cases e
  exact ⟨o1,l1,c1,o2,l2,c2,[],by simp,hs,ht.weak (fun k hk=>.inr ⟨rfl,hk⟩),rfl⟩
 | .cons h' ps' r,E,xs,e=>by
  obtain ⟨p1,m1,d1,p2,m2,d2,ys,rfl,hs',ht',hr⟩:=e
  have ih:=rJ.snoc (h:=h) (c1:=c1) (c2:=c2) hs ht r _ ys hr
  refine ⟨p1,m1,d1,p2,m2,d2,_,by rw [List.append_assoc],hs',ht'.weak (fun k hk=>.inl ⟨by simp [To.length],hk⟩),?_⟩
  have he:(fun j k=>((j+1 < (To.cons h' ps' r).length/\E (j+1) k)∨(j+1=(To.cons h' ps' r).length/\Dn k)))=(fun j k=>(j < r.length/\E (j+1) k)∨(j=r.length/\Dn k)):=by
   funext j k;simp [To.length]
  show rJ R w (fun j k=>((j+1 < (To.cons h' ps' r).length/\E (j+1) k)∨(j+1=(To.cons h' ps' r).length/\Dn k))) _ _
  rw [he];exact ih
theorem rJ.at {R:Nat->Prop} {w:World} {g:Nat}:∀ (f:To) (E:Nat->Nat->Prop) (xs:List Value) (off:Nat),rJ R w E xs f->(∀ j u,xs[j]?=some u->w.cell? ⟨g,off+j,none⟩=some u)->Jw R w E g off f
 | .nil,_,_,_,_,_=>trivial
 | .cons h ps r,E,xs,off,e,hc=>by
  obtain ⟨o1,l1,c1,o2,l2,c2,ys,rfl,hs,ht,hr⟩:=e
  refine U4.2 ⟨⟨o1,l1,c1,o2,l2,c2,⟨hc 0 _ rfl,hc 1 _ rfl,hc 2 _ rfl,hc 3 _ rfl,hc 4 _ rfl,hc 5 _ rfl,hc 6 _ rfl,hc 7 _ rfl,hc 8 _ rfl⟩,hs,ht⟩,rJ.at r _ ys (off+9) hr ?_⟩
  intro j u hj
  have:=hc (j+9) u (by simpa using hj)
  rw [<-this];congr 2;omega
structure kK (T:Nat->Prop) (w:World) (B:Nat) (v:Value) (f:To) (xs:List Value) (E:Nat->Nat->Prop):Prop where
 own:w.ownsRow 0 29 9 v f.length xs
 low:∀ k,v.ownBlock=some k->B<=k/\¬ T k
 cells:rJ T w E xs f
 sep:∀ j k,E j k->B<=k/\k < w.heap.size/\v.ownBlock≠some k/\¬ T k
 one:∀ i j k,E i k->E j k->i=j
 old:∀ k,T k->k < w.heap.size
theorem kK.nil {T:Nat->Prop} (w:World) (B:Nat) (hT:∀ k,T k->k < w.heap.size):kK T w B (.slice none 0 0) .nil [] (fun _ _=>False) :=
 ⟨World.ownsRow_nil _ _ _ _,fun k hk=>(by cases hk),rfl,fun _ _ h=>h.elim,fun _ _ _ h=>h.elim,hT⟩
theorem kK.fr {T S:Nat->Prop} {w w':World} {B:Nat} {v:Value} {f:To} {xs:List Value} {E:Nat->Nat->Prop} (h:kK T w B v f xs E) (hf:Fr S w w') (hS:∀ k,S k->¬ T k/\(∀ j,¬ E j k)/\v.ownBlock≠some k):kK T w' B v f xs E:=by
 have hz:=hf.size
 refine ⟨aZ h.own hf (fun k hk hs=>(hS k hs).2.2 hk),h.low,rJ.fr hf (fun k _ hk=>⟨hk,fun hs=>(hS k hs).1 hk⟩) f E xs h.cells (fun j k hk hs=>(hS k hs).2.1 j hk),fun j k hk=>?_,h.one,fun k hk=>?_⟩
 ·have:=h.sep j k hk;exact ⟨this.1,by omega,this.2.2⟩
 ·have:=h.old k hk;omega
theorem kK.stay {T:Nat->Prop} {w w':World} {B:Nat} {v:Value} {f:To} {xs:List Value} {E:Nat->Nat->Prop} (h:kK T w B v f xs E) (hf:ah w w'):kK T w' B v f xs E:=h.fr hf (fun _ hk=>hk.elim)
end
section
open Go.RowKit Go.Shelf
namespace Sc
theorem uH {w:World} {base:Nat} {e:TypeId} {size:Nat} {o:Option Addr} {n c:Nat} {xs:List Value} (h:w.ownsRow base e size (.slice o n c) n xs):n<=c:=by
 rcases h.2 with ⟨h1,h0⟩ | ⟨g,cap,cur,he,_,_,hc,_⟩
 ·omega
 ·injection he with _ _ h3;omega
theorem FC {ops : Array Oper} {op : Oper} {a : Act} {K : Act -> World -> Prop} {Q : Exit -> Act -> World -> Prop} {E : Prop} (W : World) (hg : op.guard = none) (s x : Operand)
    (hop:op.op=Op.call { callee:=Callee.builtin Builtin.append,args:=#[s,x],argTypes:=#[49,49] }) {T:Nat->Prop} {ao:Option Addr} {n:Nat} {e:List ByteArray} (hN:iE T W ao n e) (str:ByteArray) (H:Nat)
    (hs:a.eval s=.slice ao n n) (hx:a.eval x=.slice (some ⟨H,0,none⟩) 1 1) (hH:W.heap[H]?=some (.cells #[.string str] 9 (0,0))) (b1:n+1<=1000000) {Wb:World} (pR:ah Wb W)
    (hK:∀ g c w',iE (fun k=>Wb.heap.size<=k) w' (some ⟨g,0,none⟩) (n+1) (str::e)->n+1<=c->ah W w'->K (a.put op.dst (.slice (some ⟨g,0,none⟩) (n+1) c)) w') :
    if Region.wanted op (yielded ops a.tmps)=true then Oper.wp Tryz.prog op a W K Q else E:=by
 obtain ⟨i0,hi,hz0,hz1,hz2⟩:=info_parts mM.info
 refine step_append_grows hg s x 49 hop 9 i0 (.string ⟨#[]⟩) 1 16 mM.under hi hz0 hz1 hz2 mM.cells mM.pos ao n n (e.reverse.map Value.string) hs
  (fun h=>by subst h;exact ⟨hN.none,hN.none⟩) (by simp [hN.1]) (Ji hN) ⟨H,0,none⟩ 1 1 [.string str] hx rfl ?_ (by simp [Value.oneCell']) (by omega) (by unfold maxLen;omega) (by omega) ?_
 ·intro j u hu
  rw [Addr.add_lit,cell_of_row W H (0+j) #[.string str] 9 (0,0) hH]
  simpa using hu
 ·intro v' w' hown hgr
  obtain ⟨g,c,rfl,hb,_⟩:=hown.form (by omega)
  exact hK g c w' (iE.Gz hown (by rw [hN.1]) (by unfold maxLen;omega) (Nat.le_trans pR.size hb)) (uH hown) (Fr.grown hgr (fun k hk=>by cases hk))
theorem Qk {T Dn S : Nat -> Prop} {W W1 w1 : World} {B : Nat} {v : Value} {f : To} {xs : List Value} {E : Nat -> Nat -> Prop} {h : Nd} {ps : To} {o1 : Option Addr} {l1 c1 : Nat} {o2 : Option Addr} {l2 c2 g c : Nat} (hr : kK T W B v f xs E) (hB : B <= W.heap.size)
    (hf0:Fr S W W1) (hS:∀ k,S k->¬ T k/\(∀ j,¬ E j k)/\v.ownBlock≠some k) (hs:aC T W1 o1 l1 h.tp) (ht:TO T W1 Dn o2 l2 ps) (hDn:∀ k,Dn k->W.heap.size<=k/\k < W1.heap.size)
    (ho:w1.ownsRow 0 29 9 (.slice (some ⟨g,0,none⟩) (f.length+1) c) (f.length+1) (xs++(cells9 h o1 l1 c1 o2 l2 c2).toList)) (hf:Fr (fun k=>v.ownBlock=some k) W1 w1) (hg:v.ownBlock=some g∨W1.heap.size<=g) :
    kK T w1 B (.slice (some ⟨g,0,none⟩) (f.length+1) c) (f.app (.cons h ps .nil)) (xs++(cells9 h o1 l1 c1 o2 l2 c2).toList) (fun j k=>(j < f.length/\E j k)∨(j=f.length/\Dn k)):=by
 have hz:=hf0.size
 have hz1:=hf.size
 have hvl:∀ k,v.ownBlock=some k->k < W.heap.size:=fun k hk=>(hr.own.lt k hk).2
 have hv:∀ k,v.ownBlock=some k->¬ T k:=fun k hk hh=>(hr.low k hk).2 hh
 have hTn:∀ k,T k->¬ Dn k:=fun k hk hd=>by have:=hr.old k hk;have:=hDn k hd;omega
 refine ⟨by rw [To.bP];exact ho,?_,?_,?_,?_,?_⟩
 ·intro k hk
  simp [Value.ownBlock] at hk
  subst hk
  rcases hg with h | h
  ·exact ⟨(hr.low g h).1,hv g h⟩
  ·exact ⟨by omega,fun hh=>by have:=hr.old g hh;omega⟩
 ·refine rJ.fr hf (fun k _ hk=>⟨hk,fun h=>hv k h hk⟩) _ _ _ (rJ.snoc hs ht f E xs (rJ.fr hf0 (fun k _ hk=>⟨hk,fun h=>(hS k h).1 hk⟩) f E xs hr.cells (fun j k hk h=>(hS k h).2.1 j hk))) ?_
  rintro j k (⟨_,hk⟩ | ⟨_,hk⟩) h
  ·exact (hr.sep j k hk).2.2.1 h
  ·have:=hvl k h;have:=hDn k hk;omega
 ·rintro j k (⟨_,hk⟩ | ⟨_,hk⟩)
  ·have h1:=hr.sep j k hk
   refine ⟨h1.1,by omega,fun h=>?_,h1.2.2.2⟩
   simp [Value.ownBlock] at h
   subst h
   rcases hg with h | h
   ·exact h1.2.2.1 h
   ·omega
  ·have h1:=hDn k hk
   refine ⟨by omega,by omega,fun h=>?_,fun hh=>hTn k hh hk⟩
   simp [Value.ownBlock] at h
   subst h
   rcases hg with h | h
   ·have:=hvl _ h;omega
   ·omega
 ·rintro i j k (⟨hi,h1⟩ | ⟨hi,h1⟩) (⟨hj,h2⟩ | ⟨hj,h2⟩)
  ·exact hr.one i j k h1 h2
  ·have:=hr.sep i k h1;have:=hDn k h2;omega
  ·have:=hr.sep j k h2;have:=hDn k h1;omega
  ·omega
 ·intro k hk
  have:=hr.old k hk;omega
theorem Xu {T:Nat->Prop} {w:World} {B:Nat} {o:Option Addr} {len cap:Nat} {f:To} {xs:List Value} {E:Nat->Nat->Prop} (h:kK T w B (.slice o len cap) f xs E) (hl:len=f.length) (hm:len<=maxLen):TO T w (fun k=>(Value.slice o len cap).ownBlock=some k∨∃ j,E j k) o len f:=by
 refine ⟨hl,hm,fun h0=>?_⟩
 rcases h.own.2 with ⟨_,h2⟩ | ⟨g,cap',cur,he,_,hg,_⟩
 ·omega
 ·injection he with h1 h2 h3
  subst h1
  refine ⟨g,E,rfl,.inl rfl,⟨cur,hg⟩,fun j k hk=>⟨.inr ⟨j,hk⟩,fun e=>(h.sep j k hk).2.2.1 (by rw [e];rfl)⟩,h.one,rJ.at f E xs 0 h.cells ?_⟩
  intro j u hj
  have:=h.own.cells (g:=g) rfl j u hj
  simpa [Addr.add_lit] using this
section
variable {σ:Type}
def DoQ (l7:σ->Nd->List ByteArray->σ) (out:Nd->List ByteArray->Nd) (J:Nat->σ->(Nat->Prop)->World->Prop) (b:Nat) (s:σ) (D:Nat->Prop) (e:List ByteArray) (h:Nd) (o1:Option Addr) (l1 c1:Nat) (o2:Option Addr) (l2 c2:Nat) (A:World) (x:Ending) (W':World):Prop :=
 x=.returned (bC (out h e) o1 l1 c1 o2 l2 c2)/\∃ D',J b (l7 s h e) D' W'/\Fr D A W'/\∀ k,D' k->D k∨A.heap.size<=k
structure DoW (F:Nat) (lb:Array Value) (R:Nat->Prop) (L0:Nat) (l7:σ->Nd->List ByteArray->σ) (out:Nd->List ByteArray->Nd) (J:Nat->σ->(Nat->Prop)->World->Prop):Prop where
 own:∀ b s D A,J b s D A->∀ k,D k->k < A.heap.size/\¬ R k
 big:∀ b s D A,J b s D A->L0<=A.heap.size
 weak:∀ b b' s D A,J b s D A->b'<=b->J b' s D A
 stay:∀ b s D A B,J b s D A->Fr (fun k=>L0<=k/\¬ D k) A B->J b s D B
 call:∀ (b:Nat) (s:σ) (D:Nat->Prop) (A:World) (T:Nat->Prop) (e:List ByteArray) (h:Nd) (o1:Option Addr) (l1 c1:Nat) (o2:Option Addr) (l2 c2:Nat) (no:Option Addr) (n c:Nat),J (b+1) s D A->iE T A no n e->n<=300000->aC R A o1 l1 h.tp->h.k=1 ->
  Calls Tryz.prog F (#[bC h o1 l1 c1 o2 l2 c2,.slice no n c]++lb) A (DoQ l7 out J b s D e h o1 l1 c1 o2 l2 c2 A)
def WkQ (R:Nat->Prop) (l7:σ->Nd->List ByteArray->σ) (out:Nd->List ByteArray->Nd) (J:Nat->σ->(Nat->Prop)->World->Prop) (b:Nat) (s:σ) (D:Nat->Prop) (e:List ByteArray) (h:Nd) (ps:To) (o1:Option Addr) (l1 c1 l2:Nat) (W:World) (x:Ending) (W':World):Prop :=
 ∃ (o2:Option Addr) (c2:Nat) (D' E:Nat->Prop),x=.returned (bC (zQ l7 out s e h ps).2.1 o1 l1 c1 o2 l2 c2)/\J b (zQ l7 out s e h ps).1 D' W'/\TO R W' E o2 l2 (zQ l7 out s e h ps).2.2/\(∀ k,E k->W.heap.size<=k/\k < W'.heap.size/\¬ D' k)/\Fr D W W'/\∀ k,D' k->D k∨W.heap.size<=k
def TWk (F:Nat) (lb:Array Value) (R:Nat->Prop) (l7:σ->Nd->List ByteArray->σ) (out:Nd->List ByteArray->Nd) (J:Nat->σ->(Nat->Prop)->World->Prop) (h:Nd) (ps:To):Prop :=
 ∀ (b:Nat) (s:σ) (D:Nat->Prop) (W:World) (T:Nat->Prop) (e:List ByteArray) (o1:Option Addr) (l1 c1:Nat) (o2:Option Addr) (l2 c2:Nat) (no:Option Addr) (n c:Nat),J (b+(ps.size+1)) s D W->iE T W no n e->n<=c->(∀ k,T k->¬ D k)->n+ps.size<=200000->aC R W o1 l1 h.tp->aY R W o2 l2 ps->vg h ps->AP ps ->
  Calls Tryz.prog 92 #[bC h o1 l1 c1 o2 l2 c2,.slice no n c,.func (.func F) #[] lb] W (WkQ R l7 out J b s D e h ps o1 l1 c1 l2 W)
theorem Xv (l7:σ->Nd->List ByteArray->σ) (out:Nd->List ByteArray->Nd) (s:σ) (e:List ByteArray) (h:Nd) (ps:To) (hk:h.k=1):zQ l7 out s e h ps=(l7 s h e,out h e,ps):=by unfold zQ;rw [if_pos hk]
theorem Z9 (l7:σ->Nd->List ByteArray->σ) (out:Nd->List ByteArray->Nd) (s:σ) (e:List ByteArray) (h:Nd) (ps:To) (hk:¬ h.k=1):zQ l7 out s e h ps=((wk l7 out h.k h.nm 0 s e ps).1,h,(wk l7 out h.k h.nm 0 s e ps).2):=by unfold zQ;rw [if_neg hk]
theorem QW (l7:σ->Nd->List ByteArray->σ) (out:Nd->List ByteArray->Nd) (hout:∀ h e,(out h e).tp=h.tp) (s:σ) (e:List ByteArray) (h:Nd) (ps:To):(zQ l7 out s e h ps).2.1.tp=h.tp:=by
 unfold zQ;split
 ·exact hout _ _
 ·rfl
theorem Eh (f:To) (h:Nd) (ps r:To):f.app (.cons h ps r)=(f.app (.cons h ps .nil)).app r:=by rw [To.lY];rfl
end
end Sc
end
section
open Go.RowKit Go.Shelf
namespace Sc
section
variable {σ:Type} {F:Nat} {lb:Array Value} {R:Nat->Prop} {L0:Nat} {l7:σ->Nd->List ByteArray->σ} {out:Nd->List ByteArray->Nd} {J:Nat->σ->(Nat->Prop)->World->Prop}
def WkI (R:Nat->Prop) (l7:σ->Nd->List ByteArray->σ) (out:Nd->List ByteArray->Nd) (J:Nat->σ->(Nat->Prop)->World->Prop) (b:Nat) (D:Nat->Prop) (e:List ByteArray) (bk:Int) (nm:ByteArray) (ps:To) (FS:σ) (FP:To) (W0:World) (l2:Nat) (v t:Value) (wr:World):Prop :=
 ∃ (i:Nat) (f:To) (xs:List Value) (vo:Option Addr) (vc:Nat) (E:Nat->Nat->Prop) (s:σ) (D':Nat->Prop),t=.int .i64 i/\i<=l2/\v=.slice vo i vc/\f.length=i/\(wk l7 out bk nm i s e (ps.drop i)).1=FS/\f.app (wk l7 out bk nm i s e (ps.drop i)).2=FP /\
  kK R wr W0.heap.size (.slice vo i vc) f xs E/\J (b+(ps.drop i).size) s D' wr/\Fr D W0 wr/\(∀ k,D' k->D k∨W0.heap.size<=k)/\(∀ k,D' k->(Value.slice vo i vc).ownBlock≠some k/\∀ j,¬ E j k)
theorem Ej (eg:∀ args w,(callFunc F args).run Tryz.prog w=.ok (.enter F args) w) (hK:DoW F lb R L0 l7 out J) (hR:∀ k,R k->k < L0) (hout:∀ h e,(out h e).tp=h.tp) (h:Nd) (ps:To):TWk F lb R l7 out J h ps:=by
 refine To.qE (T:=TWk F lb R l7 out J) ?_ h ps
 intro h ps ih b s D W T e o1 l1 c1 o2 l2 c2 no n c hJ hN hnc hT hz hs1 hs hv hav
 have HK:=hid hK
 have HS:=hid hs
 have nH:=hid hs1
 have IH:=hid ih
 have HN:=hid hN
 have HAV:=hid hav
 have HTD:=hid hT
 have HNC:=hid hnc
 have hll:=To.length_le ps
 rw [<-hs.1] at hll
 have HL:=hid hs.1
 have hbig:=hK.big _ _ _ _ hJ
 have U5:=hid hbig
 have hown:=hK.own _ _ _ _ hJ
 have HOWN:=hid hown
 obtain ⟨W0,hW0⟩:∃ W0,W0=(W.alloc (.cells (cells9 h o1 l1 c1 o2 l2 c2) 29)).alloc (.cells zero9 29):=⟨_,rfl⟩
 have aK:Hid (ah W W0):=by rw [hW0];exact (ah.alloc _ _).trans (ah.alloc _ _)
 have hz0:W.heap.size+2=W0.heap.size:=by rw [hW0];simp
 have HZ0:=hid hz0
 have HB0:Hid (W0.heap[W.heap.size]?=some (.cells (cells9 h o1 l1 c1 o2 l2 c2) 29 (0,0))):=by
  show _=_;rw [hW0,Below.heap_alloc _ _ _ (by simp)];exact heap_alloc_new W _
 have HB1:Hid (W0.heap[W.heap.size+1]?=some (.cells zero9 29 (0,0))):=by
  show _=_;rw [hW0]
  have:=heap_alloc_new (W.alloc (.cells (cells9 h o1 l1 c1 o2 l2 c2) 29)) (.cells zero9 29)
  simpa using this
 have HJ0:Hid (J (b+(ps.size+1)) s D W0):=hK.stay _ _ _ _ _ hJ (aK.out.mono (fun _ _ h=>h.elim))
 clear hs hs1 ih hN hav hJ hT hK hnc hown hbig hz0
 by_cases hk:h.k=1
 ·have hk':(h.k == 1)=true:=by simp [hk]
  have HWK:=hid (Xv l7 out s e h ps hk)
  have hps:ps=.nil:=hv hk
  have HL0:Hid (l2=0):=by have:=HL.out;rw [hps] at this;exact this
  have HPS:=hid hps
  have HC:=hid (HK.out.call (b+ps.size) s D W0 T e h o1 l1 c1 o2 l2 c2 no n c HJ0.out (HN.out.stay aK.out) (by omega) (nH.out.stay aK.out) hk)
  have Xw:Hid (bF W0 W.heap.size 0 h o1 l1 c1 o2 l2 c2):=aA HB0.out
  clear hk hps hv
  unfold bC at HC ⊢
  go_enter Tryz.func92,Tryz.ntmps92
  go_upto_region 1 with fail
  rw [<-hW0]
  clear hW0
  generalize hB:W.heap.size=B at *
  have bM:=hid hB
  clear hB
  obtain ⟨a0,a1,a2,a3,a4,a5,a6,a7,a8⟩:=Xw.out
  go_wp2_with fail
  refine HC.out.mono ?_;rintro x w1 ⟨rfl,D1,hj1,hf1,hd1⟩
  unfold bC
  have hz0:=HZ0.out
  have hb1:=ay hf1 (fun h=>by have:=(HOWN.out _ h).1;have:=bM.out;omega) HB1.out
  obtain ⟨⟨z0,z1,z2,z3,z4,z5,z6,z7,z8⟩,t0,t1,t2,t3,t4,t5,t6,t7,t8⟩:=aT hb1
  have HB2:=hid hb1
  have HJ1:=hid hj1
  have xU:=hid hf1
  have HD1:=hid hd1
  clear hb1 hj1 hf1 hd1 a0 a1 a2 a3 a4 a5 a6 a7 a8
  have HH:Hid ((zQ l7 out s e h ps).2.1=out h e/\(zQ l7 out s e h ps).1=l7 s h e/\(zQ l7 out s e h ps).2.2=ps):=by show _/\_/\_;rw [HWK.out];exact ⟨rfl,rfl,rfl⟩
  generalize hho:out h e=ho at *
  have HHO:=hid hho
  clear hho
  go_wp2_with fail
  have nP:=iW w1 (B+1) (.int .i64 ho.k) (.string ho.nm) (.int .i64 ho.n) (.int .i64 ho.tk) (.int .i64 ho.tn) (.slice o1 l1 c1) (.slice o2 l2 c2) (.int .i64 ho.fr) (.int .i64 ho.en)
  have hbf:=dH (a0:=.int .i64 ho.k) (a1:=.string ho.nm) (a2:=.int .i64 ho.n) (a3:=.int .i64 ho.tk) (a4:=.int .i64 ho.tn) (a5:=.slice o1 l1 c1) (a6:=.slice o2 l2 c2) (a7:=.int .i64 ho.fr) (a8:=.int .i64 ho.en) HB2.out
  change bodyPost _ _ _ _ _ (gq w1 (B+1) (.int .i64 ho.k) (.string ho.nm) (.int .i64 ho.n) (.int .i64 ho.tk) (.int .i64 ho.tn) (.slice o1 l1 c1) (.slice o2 l2 c2) (.int .i64 ho.fr) (.int .i64 ho.en))
  clear z0 z1 z2 z3 z4 z5 z6 z7 z8 t0 t1 t2 t3 t4 t5 t6 t7 t8
  generalize gq w1 (B+1) (.int .i64 ho.k) (.string ho.nm) (.int .i64 ho.n) (.int .i64 ho.tk) (.int .i64 ho.tn) (.slice o1 l1 c1) (.slice o2 l2 c2) (.int .i64 ho.fr) (.int .i64 ho.en)=wf at *
  obtain ⟨⟨x0,x1,x2,x3,x4,x5,x6,x7,x8⟩,_⟩:=aT hbf
  have bJ:Hid (WkQ R l7 out J b s D e h ps o1 l1 c1 l2 W (.returned (bC ho o1 l1 c1 o2 l2 c2)) wf):=by
   have hzz:=xU.out.size
   have hB:=bM.out
   have hD1:∀ k,D1 k->k≠B+1:=fun k hk=>by
    rcases HD1.out k hk with h | h
    ·have:=(HOWN.out k h).1;omega
    ·omega
   refine ⟨o2,c2,D1,fun _=>False,by rw [HH.out.1,<-HHO.out],?_,?_,fun _ h=>h.elim,?_,?_⟩
   ·rw [HH.out.2.1]
    refine HK.out.stay _ _ _ _ _ (HK.out.weak _ b _ _ _ HJ1.out (by omega)) (nP.mono (fun k _ h=>⟨by have:=U5.out;omega,fun hd=>hD1 k hd h⟩))
   ·rw [HH.out.2.2,HPS.out,HL0.out];exact TO.nil _ _ _ _
   ·exact ((aK.out.fr).trans xU.out).trans' nP (fun k hk h=>by omega)
   ·intro k hk
    rcases HD1.out k hk with h | h
    ·exact .inl h
    ·exact .inr (by omega)
  clear nP hbf
  refine bodyPost_ret (by simp [results,Tryz.results92,go_sem,x0,x1,x2,x3,x4,x5,x6,x7,x8];rfl) rfl ?_
  exact bJ.out
 ·have hk':(h.k == 1)=false:=by simp [hk]
  have HWK:=hid (Z9 l7 out s e h ps hk)
  obtain ⟨FS,hFS⟩:∃ FS,(wk l7 out h.k h.nm 0 s e ps).1=FS:=⟨_,rfl⟩
  obtain ⟨FP,hFP⟩:∃ FP,(wk l7 out h.k h.nm 0 s e ps).2=FP:=⟨_,rfl⟩
  have HFS:=hid hFS
  have HFP:=hid hFP
  have Xw:Hid (bF W0 W.heap.size 0 h o1 l1 c1 o2 l2 c2):=aA HB0.out
  have HJS:Hid (J (b+ps.size) s D W0):=HK.out.weak _ _ _ _ _ HJ0.out (by omega)
  clear hk hv hFS hFP
  unfold bC
  go_enter Tryz.func92,Tryz.ntmps92
  go_upto_region 1 with fail
  rw [<-hW0]
  clear hW0
  generalize hB:W.heap.size=B at *
  have bM:=hid hB
  clear hB
  obtain ⟨a0,a1,a2,a3,a4,a5,a6,a7,a8⟩:=Xw.out
  go_wp2_with fail
  clear a0 a1 a2 a3 a4 a5 a6 a7 a8
  go_loopw [7,21] (fun v t wr=>WkI R l7 out J b D e h.k h.nm ps FS FP W0 l2 v t wr) (fun _ t _=>l2 - (intOf t).toNat)
  case atStart=>exact ⟨0,.nil,[],none,0,fun _ _=>False,s,D,rfl,Nat.zero_le _,rfl,rfl,by rw [To.drop_zero];exact HFS.out,by rw [To.drop_zero];exact HFP.out,kK.nil _ _ (fun k hk=>by have:=hR k hk;have:=U5.out;have:=HZ0.out;have:=bM.out;omega),by rw [To.drop_zero];exact HJS.out,Fr.refl _ _,fun k hk=>.inl hk,fun k _=>⟨by simp [Value.ownBlock],fun _ h=>h⟩⟩
  case round =>
   obtain ⟨i,f,xs,vo,vc,E,s',D',rfl,hi,rfl,hfl,hws,hwp,hrow,hj,hf,hd,hsep⟩:=hrel
   have HFL:=hid hfl
   have HWS:=hid hws
   have HWP:=hid hwp
   have lS:=hid hrow
   have HJ:=hid hj
   have HF:=hid hf
   have HD:=hid hd
   have Ql:=hid hsep
   have hwz:=hf.size
   clear hfl hws hwp hrow hj hf hd hsep
   have AV:Hid (bF wr B 0 h o1 l1 c1 o2 l2 c2):=Xw.out.fr HF.out (fun h=>by have:=(HOWN.out _ h).1;have:=bM.out;omega)
   by_cases hlt:i < l2
   ·have hlt':(i:Int) < l2:=by omega
    obtain ⟨b9,off,hd,qs,p1,m1,d1,p2,m2,d2,rfl,hdr,hg,hRb,QM,hsl,hts⟩:=HS.out.nth hlt
    have Yk:∀ k,R k->¬ D k:=fun k hk hd=>(HOWN.out k hd).2 hk
    have hfw:Fr D W wr:=aK.out.fr.trans HF.out
    have aac:=QM.fr hfw (Yk _ hRb)
    have ab6:=hsl.fr hfw (T:=R) (fun k _ hk=>⟨hk,Yk k hk⟩)
    have U6:=hts.fr hfw (T:=R) (fun k _ hk=>⟨hk,Yk k hk⟩)
    have QA:=To.bV ps i hd qs hg
    have hvq:=Dw ps i hd qs HAV.out hg
    have hds:=To.size_drop ps i
    have hdz:(ps.drop i).size=qs.size+1+(ps.drop (i+1)).size:=by rw [hdr];simp only [To.size]<;>omega
    obtain ⟨W1,hW1⟩:∃ W1,W1=wr.alloc (.cells (cells9 hd p1 m1 d1 p2 m2 d2) 29):=⟨_,rfl⟩
    have hq1:ah wr W1:=by rw [hW1];exact ah.alloc _ _
    have Xh:Hid (bF W1 wr.heap.size 0 hd p1 m1 d1 p2 m2 d2):=by show bF _ _ _ _ _ _ _ _ _ _;rw [hW1];exact ig _ _ _ _ _ _ _ _ _
    have bI:=hid hq1
    have ab7:Hid (bF W1 B 0 h o1 l1 c1 (some ⟨b9,off,none⟩) l2 c2):=AV.out.fr hq1 (fun h=>h)
    have Xm:=hid (ab6.stay hq1)
    have Xx:=hid (U6.stay hq1)
    have YC:=hid hdr
    have HDZ:=hid hdz
    have HIH:=hid (IH.out i hd qs hg)
    have adD:qs.size+1<=ps.size:=by omega
    have HVQ:=hid hvq
    have JF:Hid ((dn h.k h.nm i e).length<=n+1):=by
     show _<=_
     have:=HN.out.1
     unfold dn;split<;>simp<;>omega
    obtain ⟨a0,a1,a2,a3,a4,a5,a6,a7,a8⟩:=AV.out
    obtain ⟨q0,q1,q2,q3,q4,q5,q6,q7,q8⟩:=aac
    have Yq:=hid hfw
    clear hdr hg hsl hts QA hvq hds hdz QM ab6 U6 hq1 Yk hRb hfw
    go_upto_region 7 with fail
    change Code.wp _ _ _ _ (wr.alloc (.cells (cells9 hd p1 m1 d1 p2 m2 d2) 29))
    rw [<-hW1]
    clear hW1
    generalize hpb:wr.heap.size=pb at *
    have XJ:=hid hpb
    clear hpb a0 a1 a2 a3 a4 a5 a6 a7 a8 q0 q1 q2 q3 q4 q5 q6 q7 q8
    obtain ⟨a0,a1,a2,a3,a4,a5,a6,a7,a8⟩:=ab7.out
    have JH:=hid (P6 h.k i W1)
    go_wp2_with fail
    refine JH.out.mono ?_;rintro x w2 ⟨rfl,rfl⟩
    go_upto_if 30 with fail
    go_cut [10] (fun v wx=>∃ (no':Option Addr) (nc':Nat),v=.slice no' (dn h.k h.nm i e).length nc'/\iE (fun k=>(T k/\k < B)∨pb<=k) wx no' (dn h.k h.nm i e).length (dn h.k h.nm i e)/\(dn h.k h.nm i e).length<=nc'/\ah W1 wx)
    case first =>
     have HNW:Hid (iE (fun k=>(T k/\k < B)∨pb<=k) W1 no n e):=(HN.out.fr (T':=fun k=>(T k/\k < B)∨pb<=k) Yq.out (fun k hk ht=>⟨.inl ⟨ht,by have:=bM.out;omega⟩,HTD.out k ht⟩)).stay bI.out
     cases hb:iq h.k i
     case false =>
      have HE:Hid (dn h.k h.nm i e=e):=by show _=_;unfold dn;rw [hb];rfl
      have Il:=hid HN.out.1
      go_wp2_with fail
      go_meet
      rw [HE.out]
      exact ⟨no,c,by rw [<-Il.out],Il.out ▸ HNW.out,by rw [<-Il.out];exact HNC.out,ah.refl _⟩
     case true =>
      have HE:Hid (dn h.k h.nm i e=h.nm::e):=by show _=_;unfold dn;rw [hb];rfl
      have Il:=hid HN.out.1
      have hnone:no=none->n=0:=fun hx=>by have:=HN.out;rw [hx] at this;exact this.none
      have HCL:Hid (∀ W,Calls Tryz.prog 115 #[.slice no n c] W fun e w'=>e=.returned (.slice no n n)/\ah W w'):=fun W=>(UA no n c W HNC.out hnone).mono (fun e w' h=>⟨h.1,by rw [h.2];exact ah.refl _⟩)
      have adf:Hid (∀ W,ah W1 W->W.cell? ⟨B,1,none⟩=some (.string h.nm)):=fun W hq=>(ab7.out.fr hq (fun h=>h)).2.1
      clear a0 a1 a2 a3 a4 a5 a6 a7 a8 hb hnone
      go_upto_region 9 with fail
      have hqc:=ah.refl W1
      go_region_held3 (fun w'=>w'.cell? ⟨B,1,none⟩=some (.string h.nm))
       (((refine adf.out _ ?_);(repeat with_reducible first | exact hqc | exact ah.refl _ | refine jq ?_ | refine jr ?_)))
       (first
        | (go_at_call 115;(with_reducible refine Calls.mono (HCL.out _) ?_);rintro e wx ⟨rfl,jQ⟩;(refine jd (w0:=W1) ?hq2 jQ ?_);(case hq2=>(repeat with_reducible first | exact hqc | exact ah.refl _ | refine jq ?_ | refine jr ?_));intro hqc)
        | ((refine FC _ rfl (.tmp 32) (.tmp 35) rfl (iE.stay HNW.out ?hq3) h.nm W1.heap.size rfl rfl ?hH (by omega) (Wb:=W1) ?pR ?_);(case pR=>(repeat with_reducible first | exact hqc | exact ah.refl _ | refine jq ?_ | refine jr ?_));(case hq3=>(repeat with_reducible first | exact hqc | exact ah.refl _ | refine jq ?_ | refine jr ?_));(case hH=>(repeat (first | ((with_reducible refine dM _ _ _ _ ?hbe);(case hbe=>(simp;done))) | with_reducible refine ak (ah.alloc _ _) ?_ | with_reducible refine bT ?_ | with_reducible refine ak jQ ?_ | fail)));intro g3 c3 w3 hN3 hc3 hq3;(refine jd (w0:=W1) ?hq2 hq3 ?_);(case hq2=>(repeat with_reducible first | exact hqc | exact ah.refl _ | refine jq ?_ | refine jr ?_));intro hqc)
        | ((refine FC _ rfl (.tmp 32) (.tmp 35) rfl (iE.stay HNW.out ?hq3) h.nm wx.heap.size rfl rfl ?hH (by omega) (Wb:=W1) ?pR ?_);(case pR=>(repeat with_reducible first | exact hqc | exact ah.refl _ | refine jq ?_ | refine jr ?_));(case hq3=>(repeat with_reducible first | exact hqc | exact ah.refl _ | refine jq ?_ | refine jr ?_));(case hH=>(repeat (first | ((with_reducible refine dM _ _ _ _ ?hbe);(case hbe=>(simp;done))) | with_reducible refine ak (ah.alloc _ _) ?_ | with_reducible refine bT ?_ | with_reducible refine ak jQ ?_ | fail)));intro g3 c3 w3 hN3 hc3 hq3;(refine jd (w0:=W1) ?hq2 hq3 ?_);(case hq2=>(repeat with_reducible first | exact hqc | exact ah.refl _ | refine jq ?_ | refine jr ?_));intro hqc)
        | fail)
      all_goals
       go_wp2_with fail
       go_meet
       rw [HE.out,<-hN3.1]
       exact ⟨some ⟨g3,0,none⟩,c3,rfl,hN3.fr (Fr.refl (fun _=>False) _) (fun k _ hk=>⟨.inr (by have:=bI.out.size;have:=XJ.out;have hk':W1.heap.size<=k:=hk;omega),fun h=>h⟩),hc3,hqc⟩
    case rest =>
     rename World=>wx
     obtain ⟨no2,nc2,rfl,hn2,ab8,jQ⟩:=hcut
     have qP:=hid jQ
     have xR:=hid (bI.out.trans jQ)
     obtain ⟨q0,q1,q2,q3,q4,q5,q6,q7,q8⟩:=Xh.out.fr jQ (fun h=>h)
     have hxz:=xR.out.size
     have hjx:=HK.out.stay _ _ _ _ _ HJ.out (xR.out.mono (fun _ _ h=>h.elim))
     rw [HDZ.out,show b+(qs.size+1+(ps.drop (i+1)).size)=(b+(ps.drop (i+1)).size)+(qs.size+1) from by omega] at hjx
     have HC:=hid (HIH.out (b+(ps.drop (i+1)).size) s' D' wx (fun k=>(T k/\k < B)∨(pb<=k/\¬ D' k)) (dn h.k h.nm i e) p1 m1 d1 p2 m2 d2 no2 _ nc2 hjx
      (hn2.fr (Fr.refl (fun _=>False) _) (fun k hkl hk=>by
       rcases hk with hk | hk
       ·exact ⟨.inl hk,fun h=>h⟩
       ·exact ⟨.inr ⟨hk,fun hd=>by have:=(HK.out.own _ _ _ _ HJ.out k hd).1;have:=XJ.out;omega⟩,fun h=>h⟩)) ab8
      (fun k hk hd=>by
       rcases hk with ⟨h1,h2⟩ | ⟨h1,h2⟩
       ·rcases HD.out k hd with h | h
        ·exact HTD.out k h1 h
        ·have:=HZ0.out;omega
       ·exact h2 hd)
      (by have:=JF.out;omega) (Xm.out.stay jQ) (Xx.out.stay jQ) HVQ.out.1 HVQ.out.2)
     unfold bC at HC
     clear jQ hn2 ab8 hjx a0 a1 a2 a3 a4 a5 a6 a7 a8 JH
     go_wp2_with fail
     refine HC.out.mono ?_;rintro x w1 ⟨r2,e2,D2,E2,rfl,hj2,ht2,hE2,hf2,ab9⟩
     unfold bC
     have hws:=HWS.out
     have hwp:=HWP.out
     rw [YC.out,MX] at hws hwp
     have htp:=QW l7 out hout s' (dn h.k h.nm i e) hd qs
     obtain ⟨qq,hqq⟩:∃ qq,zQ l7 out s' (dn h.k h.nm i e) hd qs=qq:=⟨_,rfl⟩
     rw [hqq] at hws hwp hj2 ht2 htp ⊢
     obtain ⟨s2,hd2,rX⟩:=qq
     have Xy:(wk l7 out h.k h.nm (i+1) s2 e (ps.drop (i+1))).1=FS:=hws
     have hwp':(f.app (.cons hd2 rX .nil)).app (wk l7 out h.k h.nm (i+1) s2 e (ps.drop (i+1))).2=FP:=(Eh f hd2 rX _).symm.trans hwp
     have acd:hd2.tp=hd.tp:=htp
     have adg:=hid Xy
     have adh:=hid hwp'
     have HTP:=hid acd
     have HJ2:Hid (J (b+(ps.drop (i+1)).size) s2 D2 w1):=hj2
     have HT2:Hid (TO R w1 E2 r2 m2 rX):=ht2
     have HE2:=hid hE2
     have HF2:=hid hf2
     have HD2:=hid ab9
     have hDR:∀ k,D' k->¬ R k/\(∀ j,¬ E j k)/\(Value.slice vo i vc).ownBlock≠some k:=fun k hk=>⟨(HK.out.own _ _ _ _ HJ.out k hk).2,(Ql.out k hk).2,(Ql.out k hk).1⟩
     have HDR:=hid hDR
     have HRX:=hid (lS.out.stay xR.out)
     have HR1:=hid (HRX.out.fr HF2.out HDR.out)
     clear hws hwp Xy hwp' htp acd hqq hj2 ht2 hE2 hf2 ab9 hDR q0 q1 q2 q3 q4 q5 q6 q7 q8
     have adE:=To.size_drop ps i
     have ado:i<=200000:=by omega
     go_wp2_with (at_builtin;go_must (refine aP w1 rfl (.tmp 37) (.tmp 42) 25 rfl 29 _ 9 112 vU (.slice vo i vc) i xs rfl (HFL.out ▸ HR1.out.own) (cells9 hd2 p1 m1 d1 r2 m2 e2) rfl rfl ?c1 ?c2 ?c3 ?_))
     case c1=>simp [Value.oneCell']
     case c2=>unfold maxLen;omega
     case c3=>omega
     intro g2 c' w4 ho hf4 hg2
     have hWx:W0.heap.size<=wx.heap.size:=Nat.le_trans HF.out.size hxz
     have hz1:=HF2.out.size
     have hown1:∀ k,(Value.slice vo i vc).ownBlock=some k->W0.heap.size<=k/\k < wr.heap.size:=fun k hk=>⟨(lS.out.low k hk).1,(lS.out.own.lt k hk).2⟩
     have LW:∀ k,D2 k->(Value.slice vo i vc).ownBlock≠some k:=fun k hk he=>by
      rcases HD2.out k hk with h | h
      ·exact (Ql.out k h).1 he
      ·have:=(hown1 k he).2;omega
     have HR2:Hid (kK R w4 W0.heap.size (.slice (some ⟨g2,0,none⟩) (i+1) c') (f.app (.cons hd2 rX .nil)) (xs++(cells9 hd2 p1 m1 d1 r2 m2 e2).toList) (fun j k=>(j < f.length/\E j k)∨(j=f.length/\E2 k))):=by
      show kK _ _ _ _ _ _ _
      have hf':=HFL.out
      subst hf'
      exact Qk HRX.out hWx HF2.out HDR.out (by rw [HTP.out];exact (Xm.out.stay qP.out).fr HF2.out (fun k _ hk=>⟨hk,fun hd=>(HDR.out k hd).1 hk⟩)) HT2.out (fun k hk=>⟨(HE2.out k hk).1,(HE2.out k hk).2.1⟩) ho hf4 hg2
     have Ik:Hid (J (b+(ps.drop (i+1)).size) s2 D2 w4):=HK.out.stay _ _ _ _ _ HJ2.out (hf4.mono (fun k _ h=>⟨by have:=(hown1 k h).1;have:=U5.out;have:=HZ0.out;have:=bM.out;omega,fun hd=>LW k hd h⟩))
     have QK:Hid (Fr D W0 w4):=(((HF.out.trans xR.out.fr).trans' HF2.out (fun k hk hd=>by
      rcases HD.out k hd with h | h
      ·exact h
      ·omega)).trans' hf4 (fun k hk h=>by have:=(hown1 k h).1;omega))
     have HD4:Hid (∀ k,D2 k->D k∨W0.heap.size<=k):=fun k hk=>by
      rcases HD2.out k hk with h | h
      ·exact HD.out k h
      ·exact .inr (by omega)
     have ace:Hid (∀ k,D2 k->(Value.slice (some ⟨g2,0,none⟩) (i+1) c').ownBlock≠some k/\∀ j,¬ ((j < f.length/\E j k)∨(j=f.length/\E2 k))):=fun k hk=>by
      refine ⟨fun he=>?_,?_⟩
      ·simp [Value.ownBlock] at he
       subst he
       rcases hg2 with h | h
       ·exact LW _ hk h
       ·have:=(HK.out.own _ _ _ _ HJ2.out _ hk).1;omega
      ·rintro j (⟨_,h⟩ | ⟨_,h⟩)
       ·rcases HD2.out k hk with h' | h'
        ·exact (Ql.out k h').2 j h
        ·have:=(lS.out.sep j k h).2.1;omega
       ·exact (HE2.out k h).2.2 hk
     have HL4:Hid ((f.app (.cons hd2 rX .nil)).length=i+1):=by show _=_;rw [To.bP,HFL.out];rfl
     clear ho hf4 hg2 hown1 LW
     go_wp2_with fail
     go_roundw
     case rel=>exact ⟨i+1,_,_,some ⟨g2,0,none⟩,c',_,s2,D2,by go_num,by omega,rfl,HL4.out,adg.out,adh.out,HR2.out,Ik.out,QK.out,HD4.out,ace.out⟩
     case measure=>simp [intOf];omega
   ·have hlt':¬ (i:Int) < l2:=by omega
    have hil:i=l2:=by omega
    subst hil
    have hb0:=ay HF.out (fun h=>by have:=(HOWN.out _ h).1;have:=bM.out;omega) HB0.out
    have hb1:=ay HF.out (fun h=>by have:=(HOWN.out _ h).1;have:=bM.out;omega) HB1.out
    obtain ⟨⟨x0,x1,x2,x3,x4,x5,x6,x7,x8⟩,y0,y1,y2,y3,y4,y5,y6,y7,y8⟩:=aT hb0
    obtain ⟨⟨z0,z1,z2,z3,z4,z5,z6,z7,z8⟩,t0,t1,t2,t3,t4,t5,t6,t7,t8⟩:=aT hb1
    have adi:=hid hb1
    clear hb0 hb1
    go_wp2_with fail
    have hb1':(wr.setCell ⟨B,6,none⟩ (.slice vo i vc)).heap[B+1]?=some (.cells zero9 29 (0,0)):=by
     rw [Below.heap_setCell _ _ _ _ (by show B+1≠B;omega)];exact adi.out
    have nP:Fr (fun k=>k=B∨k=B+1) wr (gq (wr.setCell ⟨B,6,none⟩ (.slice vo i vc)) (B+1) (.int .i64 h.k) (.string h.nm) (.int .i64 h.n) (.int .i64 h.tk) (.int .i64 h.tn) (.slice o1 l1 c1) (.slice vo i vc) (.int .i64 h.fr) (.int .i64 h.en)) :=
     (Fr.setCell _ _ _ _ (.inl rfl)).trans ((iW _ _ _ _ _ _ _ _ _ _ _).mono (fun k _ hk=>.inr hk))
    have hbf:=dH (a0:=.int .i64 h.k) (a1:=.string h.nm) (a2:=.int .i64 h.n) (a3:=.int .i64 h.tk) (a4:=.int .i64 h.tn) (a5:=.slice o1 l1 c1) (a6:=.slice vo i vc) (a7:=.int .i64 h.fr) (a8:=.int .i64 h.en) hb1'
    change bodyPost _ _ _ _ _ (gq (wr.setCell ⟨B,6,none⟩ (.slice vo i vc)) (B+1) (.int .i64 h.k) (.string h.nm) (.int .i64 h.n) (.int .i64 h.tk) (.int .i64 h.tn) (.slice o1 l1 c1) (.slice vo i vc) (.int .i64 h.fr) (.int .i64 h.en))
    clear x0 x1 x2 x3 x4 x5 x6 x7 x8 y0 y1 y2 y3 y4 y5 y6 y7 y8 z0 z1 z2 z3 z4 z5 z6 z7 z8 t0 t1 t2 t3 t4 t5 t6 t7 t8 hb1'
    generalize (gq (wr.setCell ⟨B,6,none⟩ (.slice vo i vc)) (B+1) (.int .i64 h.k) (.string h.nm) (.int .i64 h.n) (.int .i64 h.tk) (.int .i64 h.tn) (.slice o1 l1 c1) (.slice vo i vc) (.int .i64 h.fr) (.int .i64 h.en))=wf at *
    obtain ⟨⟨x0,x1,x2,x3,x4,x5,x6,x7,x8⟩,_⟩:=aT hbf
    have bJ:Hid (WkQ R l7 out J b s D e h ps o1 l1 c1 i W (.returned (bC h o1 l1 c1 vo i vc)) wf):=by
     have hB:=bM.out
     have hz0:=HZ0.out
     have hfz:=nP.size
     have hde:=To.drop_end ps i (by have:=HL.out;omega)
     have hws:=HWS.out
     have hwp:=HWP.out
     rw [hde] at hws hwp
     have Xy:s'=FS:=hws
     have hwp':f=FP:=by rw [<-hwp];show f=f.app .nil;rw [To.qW]
     have hD1:∀ k,D' k->¬ (k=B∨k=B+1):=fun k hk=>by
      rcases HD.out k hk with h | h
      ·have:=(HOWN.out k h).1;omega
      ·omega
     have hto:=Xu lS.out HFL.out.symm (by unfold maxLen;omega)
     have hE:∀ k,((Value.slice vo i vc).ownBlock=some k∨∃ j,E j k)->W0.heap.size<=k/\k < wr.heap.size/\¬ D' k:=fun k hk=>by
      rcases hk with h | ⟨j,h⟩
      ·exact ⟨(lS.out.low k h).1,(lS.out.own.lt k h).2,fun hd=>(Ql.out k hd).1 h⟩
      ·have:=lS.out.sep j k h;exact ⟨this.1,this.2.1,fun hd=>(Ql.out k hd).2 j h⟩
     refine ⟨vo,vc,D',fun k=>(Value.slice vo i vc).ownBlock=some k∨∃ j,E j k,by rw [HWK.out],?_,?_,?_,?_,?_⟩
     ·rw [HWK.out];show J b (wk l7 out h.k h.nm 0 s e ps).1 D' wf
      rw [HFS.out,<-Xy]
      exact HK.out.stay _ _ _ _ _ (HK.out.weak _ b _ _ _ HJ.out (by omega)) (nP.mono (fun k _ h=>⟨by have:=U5.out;omega,fun hd=>hD1 k hd h⟩))
     ·rw [HWK.out];show TO R wf _ vo i (wk l7 out h.k h.nm 0 s e ps).2
      rw [HFP.out,<-hwp']
      exact hto.fr nP (fun k _ hk=>⟨hk,fun h=>by have:=hR k hk;have:=U5.out;omega⟩) (fun k hk h=>by have:=(hE k hk).1;omega)
     ·intro k hk;have:=hE k hk;exact ⟨by omega,by omega,this.2.2⟩
     ·exact ((aK.out.fr).trans HF.out).trans' nP (fun k hk h=>by omega)
     ·intro k hk
      rcases HD.out k hk with h | h
      ·exact .inl h
      ·exact .inr (by omega)
    clear nP hbf
    refine bodyPost_ret (by simp [results,Tryz.results92,go_sem,x0,x1,x2,x3,x4,x5,x6,x7,x8];rfl) rfl ?_
    exact bJ.out
end
end Sc
end
section
namespace St
open Go.RowKit
theorem Aj {P : Program} (W : World) {ops : Array Oper} {o : Oper} {a : Act} {K : Act -> World -> Prop} {Q : Exit -> Act -> World -> Prop} {E : Prop}
    (hg:o.guard=none) (s x:Operand) (t:TypeId) (hop:o.op=Op.call { callee:=Callee.builtin Builtin.append,args:=#[s,x],argTypes:=#[t,t] })
    (e:TypeId) (z:Value) (size bytes:Nat) (he:Elem P t e z size bytes)
    (v:Value) (n:Nat) (xs:List Value) (hs:a.eval s=v) (hown:W.ownsRow 0 e size v n xs)
    (news:Array Value) (hx:a.eval x=.slice (some ⟨W.heap.size,0,none⟩) 1 1) (hn:news.size=size) (h1c:∀ u∈news.toList,u.oneCell'=true)
    (b1:n+1<=maxLen) (b2:(n+1) * bytes<=140737488355328)
    (hK:∀ g c w',w'.ownsRow 0 e size (.slice (some ⟨g,0,none⟩) (n+1) c) (n+1) (xs++news.toList)->Fr (fun k=>v.ownBlock=some k) W w'->(v.ownBlock=some g∨W.heap.size<=g)->K (a.put o.dst (.slice (some ⟨g,0,none⟩) (n+1) c)) w') :
    if Region.wanted o (yielded ops a.tmps)=true then Oper.wp P o a (W.alloc (.cells news e)) K Q else E:=by
 obtain ⟨i0,hi,hz0,hz1,hz2⟩:=info_parts he.info
 refine step_append_lies (w:=W.alloc (.cells news e)) hg s x t hop 0 e i0 z size bytes he.under hi hz0 hz1 hz2 he.cells he.pos v n xs hs (hown.alloc _) ⟨W.heap.size,0,none⟩ 1 1 news.toList hx (by simpa using hn) ?_ h1c (by omega) b1 b2 (Nat.zero_le _) _ rfl ?_
 ·intro j u hu
  rw [Addr.add_lit,cell_of_row (W.alloc (.cells news e)) W.heap.size (0+j) news e (0,0) (heap_alloc_new W _)]
  simpa using hu
 ·intro g cap w' ho hgr hg' _
  refine hK g cap w' ho ((Fr.alloc _ W _).trans (Fr.grown hgr (fun k hk=>hk))) ?_
  rcases hg' with h | h
  ·exact .inl h
  ·exact .inr (by simp at h;omega)
end St
end
end Go.Proofs.YtcninopmelmajaaGreatDoor
