/-
  Texts laid together (TeList): laws and walks, with their conditions.
-/
import Derived.Test.YtcninopmelmajaaGreatDoorOF19
set_option maxHeartbeats 8000000
set_option maxRecDepth 1000000
namespace Go.Proofs.YtcninopmelmajaaGreatDoor
open Go.Lib (hid)
section
open Go.RowKit
def qC (B:Nat) (W:World) (o:Option Addr) (n c:Nat) (xs:List Value):Prop :=
 W.ownsRow 0 29 9 (.slice o n c) n xs/\(∀ u∈xs,u.oneCell'=true)/\∀ k,(Value.slice o n c).ownBlock=some k->B<=k
theorem qC.stay {B:Nat} {W W':World} {o:Option Addr} {n c:Nat} {xs:List Value} (h:qC B W o n c xs) (hq:ah W W'):qC B W' o n c xs :=
 ⟨aV h.1 hq (fun _ _ h=>h),h.2⟩
def Tj (h:Nd) (ps:To):Prop:=∀ (w:World) (R:Nat->Prop) (o1:Option Addr) (l1 c1:Nat) (o2:Option Addr) (l2 c2:Nat),bD R w o2 l2 ps->ps.size<=100000 ->
 Calls Tryz.prog 25 #[bI h o1 l1 c1 o2 l2 c2] w fun e w'=>∃ o c xs,e=.returned (.slice o (ps.size+1) c)/\qC w.heap.size w' o (ps.size+1) c xs/\ah w w'
theorem GI (h:Nd) (ps:To):Tj h ps:=by
 refine To.sG (T:=Tj) ?_ h ps;intro h ps ih w R o1 l1 c1 o2 l2 c2 hs hsz;have HS:=hid hs;have IH:=hid ih;have hl:=hs.1;have hll:=To.length_le ps;rw [<-hl] at hll;have HL:=hid hl;clear hs ih hl;unfold bI;go_enter Tryz.func25,Tryz.ntmps25;go_wp2_with fail;obtain ⟨W0,hW0⟩:∃ W0,W0=w.alloc (.cells (cells9 h o1 l1 c1 o2 l2 c2) 29):=⟨_,rfl⟩;have HB:Hid (∀ W,ah W0 W->W.cell? ⟨w.heap.size,6,none⟩=some (.slice o2 l2 c2)):=by
  intro W hq;rw [hW0] at hq;exact (IQ w h o1 l1 c1 o2 l2 c2 _ W hq).2.2.2.2.2.2.1
 have aP:Hid (ah w W0):=by rw [hW0];exact ah.alloc _ _
 have hz0:W0.heap.size=w.heap.size+1:=by rw [hW0];simp
 obtain ⟨W1,hW1⟩:∃ W1,W1=W0.alloc (.cells (cells9 h o1 l1 c1 o2 l2 c2) 29):=⟨_,rfl⟩;have hnew:=heap_alloc_new W0 (.cells (cells9 h o1 l1 c1 o2 l2 c2) 29);rw [<-hW1,hz0] at hnew;have bU:Hid (ah W0 W1):=by rw [hW1];exact ah.alloc _ _
 have l9:Hid (qC (w.heap.size+1) W1 (some ⟨w.heap.size+1,0,none⟩) 1 1 (cells9 h o1 l1 c1 o2 l2 c2).toList):=by
  refine ⟨⟨rfl,.inr ⟨w.heap.size+1,1,cells9 h o1 l1 c1 o2 l2 c2,rfl,Nat.zero_le _,hnew,Nat.le_refl _,by decide,rfl,rfl⟩⟩,?_,?_⟩
  ·simp [Value.oneCell']
  ·intro k hk;simp [Value.ownBlock] at hk;omega
 change Code.wp _ _ _ _ ((w.alloc (.cells (cells9 h o1 l1 c1 o2 l2 c2) 29)).alloc (.cells (cells9 h o1 l1 c1 o2 l2 c2) 29));rw [<-hW0,<-hW1];clear hW0 hW1 hnew;have HZ:=hid hz0;clear hz0;generalize hnb:w.heap.size=nb at *;have zX:=hid hnb;clear hnb;go_loopw [3,4] (fun s t wr=>∃ (i n c:Nat) (o:Option Addr) (xs:List Value),t=.int .i64 i/\s=.slice o n c/\i<=l2/\n+(ps.drop i).size=ps.size+1/\qC (nb+1) wr o n c xs/\ah W0 wr) (fun _ t _=>l2-(intOf t).toNat)
 case atStart=>exact ⟨0,1,1,_,_,rfl,rfl,Nat.zero_le _,by rw [To.drop_zero];omega,l9.out,bU.out⟩
 case round =>
  obtain ⟨i,n,c,o,xs,rfl,rfl,hi,hn,hrow,hq⟩:=hrel;have HN:=hid hn;have HR:=hid hrow;have HQ:=hid hq;have cc:=HB.out wr hq;have hnb:n<=100001:=by omega
  clear hn hrow hq
  by_cases hlt:i < l2
  ·have hlt':(i:Int) < l2:=by omega
   obtain ⟨b,off,hd,qs,p1,m1,d1,p2,m2,d2,rfl,hd1,hg,hRb,⟨e0,e1,e2,e3,e4,e5,e6,e7,e8⟩,hs1,ht1⟩:=(HS.out.stay (aP.out.trans HQ.out)).nth hlt;have KZ:=To.dK ps i hd qs hg;have HC:=hid (IH.out i hd qs hg wr R p1 m1 d1 p2 m2 d2 ht1 (by omega));have HD:Hid (n+(qs.size+1)+(ps.drop (i+1)).size=ps.size+1):=by
    have:=HN.out;rw [hd1] at this;simp only [To.size] at this;show _=_;omega
   have hqz:qs.size+1<=100001:=by omega
   unfold bI at HC;clear hd1 hg hs1 ht1 KZ hRb;go_wp2_with fail;refine HC.out.mono ?_;rintro e w1 ⟨q,d,ys,rfl,hrow1,hq1⟩;have aa5:=hid (HQ.out.trans hq1);have HR1:=hid (HR.out.stay hq1);have HR2:=hid hrow1;have HBZ:Hid (nb+1<=w1.heap.size):=by have:=aa5.out.size;have:=HZ.out;show _<=_;omega
   have HNW:Hid (∀ j u,ys[j]?=some u->∃ a,q=some a/\w1.cell? (a.add j)=some u):=by
    intro j u hu;rcases hrow1.1.2 with ⟨_,h2⟩ | ⟨g,cap',cur,he,_⟩
    ·omega
    ·injection he with h1 h2 h3
     subst h1;exact ⟨_,rfl,hrow1.1.cells rfl j u hu⟩
   clear hq1 hrow1 cc;go_wp2_with (at_builtin;(refine qE w1 rfl (.tmp 14) (.tmp 20) 25 rfl 29 _ 9 112 wC (.slice o n c) n xs rfl HR1.out.1 q (qs.size+1) d ys rfl HR2.out.1.1 HNW.out HR2.out.2.1 (by unfold maxLen;omega) (by omega) ?_);intro o3 c3 w3 ho hf hob hnil);have HR3:Hid (qC (nb+1) w3 o3 (n+(qs.size+1)) c3 (xs++ys)):=by
    refine ⟨ho,?_,?_⟩
    ·intro u hu;rcases List.mem_append.1 hu with h | h
     ·exact HR1.out.2.1 u h
     ·exact HR2.out.2.1 u h
    ·intro k hk;rcases hob with h | h
     ·exact HR1.out.2.2 k (by rw [<-h];exact hk)
     ·rw [h] at hk;cases hk;exact HBZ.out
   have dU:Hid (ah W0 w3):=Fr.trans' aa5.out hf (fun k hk hs=>by have:=HR1.out.2.2 k hs;have:=HZ.out;omega);clear ho hf hob hnil;go_wp2_with fail;go_roundw
   case rel=>exact ⟨i+1,n+(qs.size+1),c3,o3,xs++ys,by go_num,rfl,by omega,HD.out,HR3.out,dU.out⟩
   case measure=>simp [intOf];omega
  ·have hlt':¬ (i:Int) < l2:=by omega
   have HE:Hid (n=ps.size+1):=by
    have:=HN.out;rw [To.drop_end ps i (by have:=HL.out;omega)] at this
    show _=_
    simpa [To.size] using this
   go_wp2_with fail;go_ret;rw [zX.out,<-HE.out];exact ⟨o,c,rfl,⟨xs,HR.out.1,HR.out.2.1,fun k hk=>by have:=HR.out.2.2 k hk;omega⟩,aP.out.trans HQ.out⟩
end
end Go.Proofs.YtcninopmelmajaaGreatDoor
