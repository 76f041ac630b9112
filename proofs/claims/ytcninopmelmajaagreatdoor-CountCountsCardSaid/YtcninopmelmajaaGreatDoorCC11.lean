/-
  Texts laid together (TeRSound10, TeRSoundlo, TeRSoundhi, TeRRight, ScRes, ScRsv, CnEqs, CnUsesF, ScTmRow): laws and walks, with their conditions.
-/
import Derived.Test.YtcninopmelmajaaGreatDoorCC10
set_option maxHeartbeats 8000000
set_option maxRecDepth 1000000
namespace Go.Proofs.YtcninopmelmajaaGreatDoor
open Go.Lib (hid)
section
open Go.RowKit Go.Shelf
theorem Hg (nm : ByteArray) (n tk tn : Int) (tp : Fo) (fr en : Int) (w : World) (o1 : Option Addr) (l1 c1 : Nat) (o2 : Option Addr) (l2 c2 : Nat) (hw : sF n)
    (SC:yu ⟨10,nm,n,tk,tn,tp,fr,en⟩ (w.alloc (.cells (cells9 ⟨10,nm,n,tk,tn,tp,fr,en⟩ o1 l1 c1 o2 l2 c2) 29)) o1 l1 c1 o2 l2 c2 w.heap.size) :
    Calls Tryz.prog 34 #[bC ⟨10,nm,n,tk,tn,tp,fr,en⟩ o1 l1 c1 o2 l2 c2] w fun e w'=>e=.returned (.bool (aI ⟨10,nm,n,tk,tn,tp,fr,en⟩ l2))/\ah w w':=by
 have fV:=hid SC
 have HW:=hid hw
 have HN:Hid (∀ W,Calls Tryz.prog 54 #[.int .i64 10] W fun e w'=>e=.returned (.bool false)/\ah W w'):=SC.named
 obtain ⟨W0,hW0⟩:∃ W0,W0=w.alloc (.cells (cells9 ⟨10,nm,n,tk,tn,tp,fr,en⟩ o1 l1 c1 o2 l2 c2) 29):=⟨_,rfl⟩
 have aK:Hid (ah w W0):=by rw [hW0];exact ah.alloc _ _
 clear SC hw
 rw [<-hW0] at fV
 unfold bC
 go_enter Tryz.func34,Tryz.ntmps34
 go_upto_region 1 with fail
 change Code.wp _ _ _ _ (w.alloc (.cells (cells9 ⟨10,nm,n,tk,tn,tp,fr,en⟩ o1 l1 c1 o2 l2 c2) 29))
 rw [<-hW0]
 clear hW0
 generalize w.heap.size=B at *
 obtain ⟨x0,x1,x2,x3,x4,x5,x6,x7,x8⟩:=fV.out.box W0 (ah.refl _)
 dsimp only at x0 x1 x2 x3 x4 x5 x6 x7 x8
 go_quiet (fail)
 go_wp2_with fail
 refine (HN.out _).mono ?_;rintro e w1 ⟨rfl,hq1⟩
 have bI:Hid (ah W0 w1):=ah.trans (Fr.drewN _ _ _) hq1
 clear x0 x1 x2 x3 x4 x5 x6 x7 x8 hq1
 obtain ⟨x0,x1,x2,x3,x4,x5,x6,x7,x8⟩:=fV.out.box w1 bI.out
 dsimp only at x0 x1 x2 x3 x4 x5 x6 x7 x8
 go_wp2_with fail
 refine (HN.out _).mono ?_;rintro e w3 ⟨rfl,hq3⟩
 have dG:=hid (bI.out.trans hq3)
 clear x0 x1 x2 x3 x4 x5 x6 x7 x8 hq3
 obtain ⟨x0,x1,x2,x3,x4,x5,x6,x7,x8⟩:=fV.out.box w3 dG.out
 dsimp only at x0 x1 x2 x3 x4 x5 x6 x7 x8
 cases hA:nm.toList.isEmpty
 ·have e3:nm.toList.isEmpty=false:=hA
  go_wp2_with fail
  go_ret
  exact ⟨by simp [aI,fF,fC,hA],aK.out.trans dG.out⟩
 ·have e3:nm.toList.isEmpty=true:=hA
  have FU:=hid hA
  clear hA
  have HRI:=hid fV.out.right
  have HVA:=hid fV.out.vars
  cases hT:iH tk tn tp
  ·rw [hT] at HRI
   go_wp2_with fail
   refine (HRI.out _ dG.out).mono ?_;rintro e w4 ⟨rfl,hq4⟩
   go_wp2_with fail
   go_ret
   exact ⟨by simp [aI,dW,uw,hT],aK.out.trans (dG.out.trans hq4)⟩
  ·rw [hT] at HRI
   have yh:=hid hT
   clear hT
   obtain ⟨L,hL⟩:∃ L,Fo.vars [] (.cons tk tn tp .nil)=L:=⟨_,rfl⟩
   dsimp only at HVA
   rw [hL] at HVA
   go_wp2_with fail
   refine (HRI.out _ dG.out).mono ?_;rintro e w4 ⟨rfl,hq4⟩
   have gY:=hid (dG.out.trans hq4)
   clear x0 x1 x2 x3 x4 x5 x6 x7 x8 hq4
   obtain ⟨x0,x1,x2,x3,x4,x5,x6,x7,x8⟩:=fV.out.box w4 gY.out
   dsimp only at x0 x1 x2 x3 x4 x5 x6 x7 x8
   by_cases hl:L.length=0
   ·have hl':¬ (0:Int) < (L.length:Int):=by omega
    have FV:Hid ((iH tk tn tp && (Fo.vars [] (.cons tk tn tp .nil)).isEmpty)=true):=by
     show _=_
     rw [yh.out,hL,List.eq_nil_of_length_eq_zero hl];rfl
    clear hL
    go_wp2_with fail
    refine (HVA.out _ gY.out).mono ?_;rintro e w5 ⟨va,vc,rfl,hq5⟩
    have qM:=hid (gY.out.trans hq5)
    clear x0 x1 x2 x3 x4 x5 x6 x7 x8 hq5
    obtain ⟨x0,x1,x2,x3,x4,x5,x6,x7,x8⟩:=fV.out.box w5 qM.out
    dsimp only at x0 x1 x2 x3 x4 x5 x6 x7 x8
    by_cases hn:n < 0
    ·go_wp2_with fail
     go_ret
     exact ⟨by simp [aI];omega,aK.out.trans qM.out⟩
    ·by_cases ht:0 < n
     ·go_wp2_with fail
      go_ret
      exact ⟨by simp [aI,oz];omega,aK.out.trans qM.out⟩
     ·have hwn:n<=9223372036854775807:=by have:=HW.out;unfold sF at this;simp only [Lit.wf,IntKind.min,IntKind.max,IntKind.signed,IntKind.bits,Bool.and_eq_true,decide_eq_true_eq,if_true] at this;omega
      go_wp2_with fail
      all_goals
       go_ret
       refine ⟨?_,aK.out.trans qM.out⟩
       have h1:=FU.out
       have h2:=FV.out
       refine congrArg (fun b=>Ending.returned (Value.bool b)) ?_
       rw [Bool.eq_iff_iff]
       simp [aI,fF,dW,uw,fC,oz,iI,mQ,h1,h2]
       omega
   ·have hl':(0:Int) < (L.length:Int):=by omega
    have hLE:L.isEmpty=false:=by cases L<;>simp at hl ⊢
    have HLL:=hid hL
    clear hL
    go_wp2_with fail
    refine (HVA.out _ gY.out).mono ?_;rintro e w5 ⟨va,vc,rfl,hq5⟩
    go_wp2_with fail
    go_ret
    have hL:=HLL.out
    exact ⟨by simp [aI,dW,uw,hL,hLE],aK.out.trans (gY.out.trans hq5)⟩
end
section
open Go.RowKit Go.Shelf
theorem Hl (k : Int) (hk : k < 1) (nm : ByteArray) (n tk tn : Int) (tp : Fo) (fr en : Int) (w : World) (o1 : Option Addr) (l1 c1 : Nat) (o2 : Option Addr) (l2 c2 : Nat)
    (SC:yu ⟨k,nm,n,tk,tn,tp,fr,en⟩ (w.alloc (.cells (cells9 ⟨k,nm,n,tk,tn,tp,fr,en⟩ o1 l1 c1 o2 l2 c2) 29)) o1 l1 c1 o2 l2 c2 w.heap.size) :
    Calls Tryz.prog 34 #[bC ⟨k,nm,n,tk,tn,tp,fr,en⟩ o1 l1 c1 o2 l2 c2] w fun e w'=>e=.returned (.bool (aI ⟨k,nm,n,tk,tn,tp,fr,en⟩ l2))/\ah w w':=by
 have fV:=hid SC
 have e:aI ⟨k,nm,n,tk,tn,tp,fr,en⟩ l2=false:=by
  unfold aI
  simp
  omega
 rw [e]
 clear e
 have b1:(k == 1)=false:=by simp;omega
 have b2:(k == 2)=false:=by simp;omega
 have b3:(k == 3)=false:=by simp;omega
 have b4:(k == 4)=false:=by simp;omega
 have b5:(k == 5)=false:=by simp;omega
 have b6:(k == 6)=false:=by simp;omega
 have b7:(k == 7)=false:=by simp;omega
 have b8:(k == 8)=false:=by simp;omega
 have b9:(k == 9)=false:=by simp;omega
 have b10:(k == 10)=false:=by simp;omega
 have b3':¬ (3:Int) < k:=by omega
 have HN:Hid (∀ W,Calls Tryz.prog 54 #[.int .i64 k] W fun e w'=>e=.returned (.bool false)/\ah W w'):=by
  have h:=SC.named
  have e:fC k=false:=by unfold fC;rw [b1,b4,b6,b7];rfl
  dsimp only at h
  rw [e] at h
  exact h
 obtain ⟨W0,hW0⟩:∃ W0,W0=w.alloc (.cells (cells9 ⟨k,nm,n,tk,tn,tp,fr,en⟩ o1 l1 c1 o2 l2 c2) 29):=⟨_,rfl⟩
 have aK:Hid (ah w W0):=by rw [hW0];exact ah.alloc _ _
 clear SC
 rw [<-hW0] at fV
 unfold bC
 go_enter Tryz.func34,Tryz.ntmps34
 go_upto_region 1 with fail
 change Code.wp _ _ _ _ (w.alloc (.cells (cells9 ⟨k,nm,n,tk,tn,tp,fr,en⟩ o1 l1 c1 o2 l2 c2) 29))
 rw [<-hW0]
 clear hW0
 generalize w.heap.size=B at *
 obtain ⟨x0,x1,x2,x3,x4,x5,x6,x7,x8⟩:=fV.out.box W0 (ah.refl _)
 dsimp only at x0 x1 x2 x3 x4 x5 x6 x7 x8
 go_quiet (fail)
 go_wp2_with fail
 refine (HN.out _).mono ?_;rintro e w1 ⟨rfl,hq1⟩
 have bI:Hid (ah W0 w1):=ah.trans (Fr.drewN _ _ _) hq1
 clear x0 x1 x2 x3 x4 x5 x6 x7 x8 hq1
 obtain ⟨x0,x1,x2,x3,x4,x5,x6,x7,x8⟩:=fV.out.box w1 bI.out
 dsimp only at x0 x1 x2 x3 x4 x5 x6 x7 x8
 go_wp2_with fail
 refine (HN.out _).mono ?_;rintro e w3 ⟨rfl,hq3⟩
 have dG:=hid (bI.out.trans hq3)
 clear x0 x1 x2 x3 x4 x5 x6 x7 x8 hq3
 obtain ⟨x0,x1,x2,x3,x4,x5,x6,x7,x8⟩:=fV.out.box w3 dG.out
 dsimp only at x0 x1 x2 x3 x4 x5 x6 x7 x8
 cases hA:nm.toList.isEmpty
 ·have e3:nm.toList.isEmpty=false:=hA
  go_wp2_with fail
  go_ret
  exact ⟨rfl,aK.out.trans dG.out⟩
 ·have e3:nm.toList.isEmpty=true:=hA
  clear hA
  have je:=hid fV.out.same
  cases hT:gJ tk tn tp 0 0 .nil
  ·rw [hT] at je
   go_wp2_with fail
   refine (je.out _ dG.out).mono ?_;rintro e w4 ⟨rfl,hq4⟩
   go_wp2_with fail
   go_ret
   exact ⟨rfl,aK.out.trans (dG.out.trans hq4)⟩
  ·rw [hT] at je
   clear hT
   go_wp2_with fail
   refine (je.out _ dG.out).mono ?_;rintro e w4 ⟨rfl,hq4⟩
   have gY:=hid (dG.out.trans hq4)
   clear x0 x1 x2 x3 x4 x5 x6 x7 x8 hq4
   obtain ⟨x0,x1,x2,x3,x4,x5,x6,x7,x8⟩:=fV.out.box w4 gY.out
   dsimp only at x0 x1 x2 x3 x4 x5 x6 x7 x8
   by_cases hn:n < 0
   ·go_wp2_with fail
    go_ret
    exact ⟨rfl,aK.out.trans gY.out⟩
   ·by_cases ht:0 < n
    ·go_wp2_with fail
     go_ret
     exact ⟨rfl,aK.out.trans gY.out⟩
    ·go_wp2_with fail
     go_ret
     exact ⟨rfl,aK.out.trans gY.out⟩
end
section
open Go.RowKit Go.Shelf
theorem Ho (k : Int) (hk : 10 < k) (nm : ByteArray) (n tk tn : Int) (tp : Fo) (fr en : Int) (w : World) (o1 : Option Addr) (l1 c1 : Nat) (o2 : Option Addr) (l2 c2 : Nat)
    (SC:yu ⟨k,nm,n,tk,tn,tp,fr,en⟩ (w.alloc (.cells (cells9 ⟨k,nm,n,tk,tn,tp,fr,en⟩ o1 l1 c1 o2 l2 c2) 29)) o1 l1 c1 o2 l2 c2 w.heap.size) :
    Calls Tryz.prog 34 #[bC ⟨k,nm,n,tk,tn,tp,fr,en⟩ o1 l1 c1 o2 l2 c2] w fun e w'=>e=.returned (.bool (aI ⟨k,nm,n,tk,tn,tp,fr,en⟩ l2))/\ah w w':=by
 have fV:=hid SC
 have e:aI ⟨k,nm,n,tk,tn,tp,fr,en⟩ l2=false:=by
  unfold aI
  simp
  omega
 rw [e]
 clear e
 have b1:(k == 1)=false:=by simp;omega
 have b2:(k == 2)=false:=by simp;omega
 have b3:(k == 3)=false:=by simp;omega
 have b4:(k == 4)=false:=by simp;omega
 have b5:(k == 5)=false:=by simp;omega
 have b6:(k == 6)=false:=by simp;omega
 have b7:(k == 7)=false:=by simp;omega
 have b8:(k == 8)=false:=by simp;omega
 have b9:(k == 9)=false:=by simp;omega
 have b10:(k == 10)=false:=by simp;omega
 have b3':(3:Int) < k:=by omega
 have HN:Hid (∀ W,Calls Tryz.prog 54 #[.int .i64 k] W fun e w'=>e=.returned (.bool false)/\ah W w'):=by
  have h:=SC.named
  have e:fC k=false:=by unfold fC;rw [b1,b4,b6,b7];rfl
  dsimp only at h
  rw [e] at h
  exact h
 obtain ⟨W0,hW0⟩:∃ W0,W0=w.alloc (.cells (cells9 ⟨k,nm,n,tk,tn,tp,fr,en⟩ o1 l1 c1 o2 l2 c2) 29):=⟨_,rfl⟩
 have aK:Hid (ah w W0):=by rw [hW0];exact ah.alloc _ _
 clear SC
 rw [<-hW0] at fV
 unfold bC
 go_enter Tryz.func34,Tryz.ntmps34
 go_upto_region 1 with fail
 change Code.wp _ _ _ _ (w.alloc (.cells (cells9 ⟨k,nm,n,tk,tn,tp,fr,en⟩ o1 l1 c1 o2 l2 c2) 29))
 rw [<-hW0]
 clear hW0
 generalize w.heap.size=B at *
 obtain ⟨x0,x1,x2,x3,x4,x5,x6,x7,x8⟩:=fV.out.box W0 (ah.refl _)
 dsimp only at x0 x1 x2 x3 x4 x5 x6 x7 x8
 go_quiet (fail)
 go_wp2_with fail
 refine (HN.out _).mono ?_;rintro e w1 ⟨rfl,hq1⟩
 have bI:Hid (ah W0 w1):=ah.trans (Fr.drewN _ _ _) hq1
 clear x0 x1 x2 x3 x4 x5 x6 x7 x8 hq1
 obtain ⟨x0,x1,x2,x3,x4,x5,x6,x7,x8⟩:=fV.out.box w1 bI.out
 dsimp only at x0 x1 x2 x3 x4 x5 x6 x7 x8
 go_wp2_with fail
 refine (HN.out _).mono ?_;rintro e w3 ⟨rfl,hq3⟩
 have dG:=hid (bI.out.trans hq3)
 clear x0 x1 x2 x3 x4 x5 x6 x7 x8 hq3
 obtain ⟨x0,x1,x2,x3,x4,x5,x6,x7,x8⟩:=fV.out.box w3 dG.out
 dsimp only at x0 x1 x2 x3 x4 x5 x6 x7 x8
 cases hA:nm.toList.isEmpty
 ·have e3:nm.toList.isEmpty=false:=hA
  go_wp2_with fail
  go_ret
  exact ⟨rfl,aK.out.trans dG.out⟩
 ·have e3:nm.toList.isEmpty=true:=hA
  clear hA
  have je:=hid fV.out.same
  cases hT:gJ tk tn tp 0 0 .nil
  ·rw [hT] at je
   go_wp2_with fail
   refine (je.out _ dG.out).mono ?_;rintro e w4 ⟨rfl,hq4⟩
   go_wp2_with fail
   go_ret
   exact ⟨rfl,aK.out.trans (dG.out.trans hq4)⟩
  ·rw [hT] at je
   clear hT
   go_wp2_with fail
   refine (je.out _ dG.out).mono ?_;rintro e w4 ⟨rfl,hq4⟩
   have gY:=hid (dG.out.trans hq4)
   clear x0 x1 x2 x3 x4 x5 x6 x7 x8 hq4
   obtain ⟨x0,x1,x2,x3,x4,x5,x6,x7,x8⟩:=fV.out.box w4 gY.out
   dsimp only at x0 x1 x2 x3 x4 x5 x6 x7 x8
   by_cases hn:n < 0
   ·go_wp2_with fail
    go_ret
    exact ⟨rfl,aK.out.trans gY.out⟩
   ·by_cases ht:0 < n
    ·go_wp2_with fail
     go_ret
     exact ⟨rfl,aK.out.trans gY.out⟩
    ·go_wp2_with fail
     go_ret
     exact ⟨rfl,aK.out.trans gY.out⟩
end
section
open Go.RowKit Go.Shelf
def Hq (h:Nd):Prop:=h.nm.size<=100000/\h.tp.size<=100000/\sF h.n
theorem DL (h : Nd) (w : World) (R : Nat -> Prop) (o1 : Option Addr) (l1 c1 : Nat) (o2 : Option Addr) (l2 c2 : Nat) (hs : aC R w o1 l1 h.tp) (hg : Hq h) :
    Calls Tryz.prog 34 #[bC h o1 l1 c1 o2 l2 c2] w fun e w'=>e=.returned (.bool (aI h l2))/\ah w w':=by
 have SC:=VG h w R o1 l1 c1 o2 l2 c2 hs hg.1 hg.2.1
 have hw:=hg.2.2
 obtain ⟨k,nm,n,tk,tn,tp,fr,en⟩:=h
 by_cases h1:k < 1
 ·exact Hl k h1 nm n tk tn tp fr en w o1 l1 c1 o2 l2 c2 SC
 ·by_cases h2:10 < k
  ·exact Ho k h2 nm n tk tn tp fr en w o1 l1 c1 o2 l2 c2 SC
  ·have hk:k=1∨k=2∨k=3∨k=4∨k=5∨k=6∨k=7∨k=8∨k=9∨k=10:=by omega
   rcases hk with rfl | rfl | rfl | rfl | rfl | rfl | rfl | rfl | rfl | rfl
   ·exact JO nm n tk tn tp fr en w o1 l1 c1 o2 l2 c2 hw SC
   ·exact JQ nm n tk tn tp fr en w o1 l1 c1 o2 l2 c2 hw SC
   ·exact JR nm n tk tn tp fr en w o1 l1 c1 o2 l2 c2 hw SC
   ·exact JU nm n tk tn tp fr en w o1 l1 c1 o2 l2 c2 hw SC
   ·exact JV nm n tk tn tp fr en w o1 l1 c1 o2 l2 c2 hw SC
   ·exact JW nm n tk tn tp fr en w o1 l1 c1 o2 l2 c2 hw SC
   ·exact JX nm n tk tn tp fr en w o1 l1 c1 o2 l2 c2 hw SC
   ·exact JY nm n tk tn tp fr en w o1 l1 c1 o2 l2 c2 hw SC
   ·exact JZ nm n tk tn tp fr en w o1 l1 c1 o2 l2 c2 hw SC
   ·exact Hg nm n tk tn tp fr en w o1 l1 c1 o2 l2 c2 hw SC
abbrev pK (f:To):Bool:=f.flat.all JK
theorem lV (h:Nd) (ps r:To):pK (.cons h ps r)=((aI h ps.length && pK ps) && pK r):=by
 simp [pK,To.flat,List.all_append,Bool.and_assoc,JK]
theorem Hr (h:Nd) (ps:To):pK (.cons h ps .nil)=(aI h ps.length && pK ps):=by
 rw [lV];simp [pK,To.flat]
def Mc (h:Nd) (ps:To):Prop:=∀ (w:World) (R:Nat->Prop) (o1:Option Addr) (l1 c1:Nat) (o2:Option Addr) (l2 c2:Nat),aC R w o1 l1 h.tp->aY R w o2 l2 ps->Hq h->allT Hq ps ->
 Calls Tryz.prog 13 #[bC h o1 l1 c1 o2 l2 c2] w fun e w'=>e=.returned (.bool (pK (.cons h ps .nil)))/\ah w w'
theorem DN (h:Nd) (ps:To):Mc h ps:=by
 refine To.qE (T:=Mc) ?_ h ps
 intro h ps ih w R o1 l1 c1 o2 l2 c2 hs1 hs hgh GY
 have HS:=hid hs
 have IH:=hid ih
 have HL:=hid hs.1
 have HG:=hid GY
 have hmx:=hs.2.1
 unfold maxLen at hmx
 obtain ⟨W0,hW0⟩:∃ W0,W0=w.alloc (.cells (cells9 h o1 l1 c1 o2 l2 c2) 29):=⟨_,rfl⟩
 have HB:Hid (∀ W,ah W0 W->W.cell? ⟨w.heap.size,6,none⟩=some (.slice o2 l2 c2)):=by
  intro W hq;rw [hW0] at hq;exact (FQ w h o1 l1 c1 o2 l2 c2 _ W hq).2.2.2.2.2.2.1
 have hq0:ah w W0:=by rw [hW0];exact ah.alloc _ _
 have aK:=hid hq0
 have HSO:=hid (DL h W0 R o1 l1 c1 o2 l2 c2 (hs1.stay hq0) hgh)
 obtain ⟨res,hres⟩:∃ res,res=pK (.cons h ps .nil):=⟨_,rfl⟩
 have aW:Hid (res=(aI h l2 && pK ps)):=by show _=_;rw [hres,Hr,HL.out]
 rw [<-hres]
 clear hs1 hs ih hgh GY hres hq0
 unfold bC at HSO ⊢
 go_enter Tryz.func13,Tryz.ntmps13
 go_wp2_with fail
 change Calls _ _ _ (w.alloc (.cells (cells9 h o1 l1 c1 o2 l2 c2) 29)) _
 rw [<-hW0]
 clear hW0
 generalize w.heap.size=nb at *
 cases hb:aI h l2
 ·have HR0:Hid (res=false):=by show _=_;rw [aW.out,hb];rfl
  rw [hb] at HSO
  clear hb
  refine HSO.out.mono ?_;rintro e w1 ⟨rfl,hq1⟩
  go_wp2_with fail
  go_ret
  exact ⟨by rw [HR0.out];rfl,aK.out.trans hq1⟩
 ·have HR0:Hid (res=pK ps):=by show _=_;rw [aW.out,hb];rfl
  rw [hb] at HSO
  clear hb
  refine HSO.out.mono ?_;rintro e w1 ⟨rfl,hq1⟩
  have bI:=hid hq1
  clear hq1
  go_wp2_with fail
  go_loopw [3] (fun t wr=>∃ (i:Nat),t=.int .i64 i/\i<=l2/\res=pK (ps.drop i)/\ah W0 wr) (fun t _=>l2 - (intOf t).toNat)
  case atStart=>exact ⟨0,rfl,Nat.zero_le _,by rw [To.drop_zero];exact HR0.out,bI.out⟩
  case round =>
   obtain ⟨i,rfl,hi,hr,hq⟩:=hrel
   have HR:=hid hr
   have HQ:=hid hq
   have cc:=HB.out wr hq
   clear hr hq
   by_cases hlt:i < l2
   ·have hlt':(i:Int) < l2:=by omega
    obtain ⟨b,off,hd,qs,p1,m1,d1,p2,m2,d2,rfl,hd1,hg,hRb,⟨e0,e1,e2,e3,e4,e5,e6,e7,e8⟩,hs1,ht1⟩:=(HS.out.stay (aK.out.trans HQ.out)).nth hlt
    have hgg:=wI ps i hd qs HG.out hg
    have HC:=hid (IH.out i hd qs hg wr R p1 m1 d1 p2 m2 d2 hs1 ht1 hgg.1 hgg.2)
    have HN:Hid (res=(pK (.cons hd qs .nil) && pK (ps.drop (i+1)))):=by
     show _=_
     rw [HR.out,hd1,lV,Hr]
    unfold bC at HC
    clear hd1 hg hs1 ht1 hRb hgg
    cases hb:pK (.cons hd qs .nil)
    ·have HF:Hid (res=false):=by show _=_;rw [HN.out,hb];rfl
     rw [hb] at HC
     clear hb
     go_wp2_with fail
     refine HC.out.mono ?_;rintro e w2 ⟨rfl,hq2⟩
     go_wp2_with fail
     go_ret
     exact ⟨by rw [HF.out];rfl,aK.out.trans (HQ.out.trans hq2)⟩
    ·have HF:Hid (res=pK (ps.drop (i+1))):=by show _=_;rw [HN.out,hb];rfl
     rw [hb] at HC
     clear hb
     go_wp2_with fail
     refine HC.out.mono ?_;rintro e w2 ⟨rfl,hq2⟩
     have dO:=hid (HQ.out.trans hq2)
     clear hq2
     go_wp2_with fail
     go_roundw
     case rel=>exact ⟨i+1,by go_num,by omega,HF.out,dO.out⟩
     case measure=>simp [intOf];omega
   ·have hlt':¬ (i:Int) < l2:=by omega
    have HY:Hid (res=true):=by
     show _=_
     rw [HR.out,To.drop_end ps i (by have:=HL.out;omega)];rfl
    go_wp2_with fail
    go_ret
    exact ⟨by rw [HY.out];rfl,aK.out.trans HQ.out⟩
end
section
open Go.RowKit Go.Shelf
namespace Sc
def AO (h:Nd) (ps:To):Nd:=(zQ (fun (s:Unit) _ _=>s) Oc () [] h ps).2.1
def FW (h:Nd) (ps:To):To:=(zQ (fun (s:Unit) _ _=>s) Oc () [] h ps).2.2
theorem VI (h:Nd) (ps:To):(AO h ps).tp=h.tp:=QW _ _ QX _ _ _ _
def TmQ (w:World) (g:Nd) (gs:To) (x:Ending) (w':World):Prop:=∃ o1 l1 c1 o2 l2 c2,x=.returned (bC g o1 l1 c1 o2 l2 c2)/\aC (fun b=>w.heap.size<=b) w' o1 l1 g.tp/\aY (fun b=>w.heap.size<=b) w' o2 l2 gs/\ah w w'
theorem FX (h : Nd) (ps : To) (w : World) (R : Nat -> Prop) (o1 : Option Addr) (l1 c1 : Nat) (o2 : Option Addr) (l2 c2 : Nat) (hs1 : aC R w o1 l1 h.tp) (hs : aY R w o2 l2 ps) (hz : ps.size <= 100000) (hv : vg h ps) (hav : AP ps) (ht : h.tp.size <= 1000000) (hat : allT (fun h => h.tp.size <= 1000000) ps) :
    Calls Tryz.prog 64 #[bC h o1 l1 c1 o2 l2 c2] w (TmQ w (AO h ps) (FW h ps)):=by
 obtain ⟨W0,hW0⟩:∃ W0,W0=(w.alloc (.cells (cells9 h o1 l1 c1 o2 l2 c2) 29)).alloc (.cells zero9 29):=⟨_,rfl⟩
 have aK:Hid (ah w W0):=by rw [hW0];exact (ah.alloc _ _).trans (ah.alloc _ _)
 have hb0:W0.heap[w.heap.size]?=some (.cells (cells9 h o1 l1 c1 o2 l2 c2) 29 (0,0)):=by
  rw [hW0,Below.heap_alloc _ _ _ (by simp)];exact heap_alloc_new w _
 have hb1:W0.heap[w.heap.size+1]?=some (.cells zero9 29 (0,0)):=by
  rw [hW0]
  have:=heap_alloc_new (w.alloc (.cells (cells9 h o1 l1 c1 o2 l2 c2) 29)) (.cells zero9 29)
  simpa using this
 have hz0:W0.heap.size=w.heap.size+2:=by rw [hW0];simp
 have HB1:=hid hb1
 have HC:=hid (Oe h ps W0 R o1 l1 c1 o2 l2 c2 (hs1.stay aK.out) (hs.stay aK.out) ht hat (by omega))
 have HW:Hid (∀ (w1:World) (q1:Option Addr) (e1:Nat) (q2:Option Addr) (e2:Nat),aC (fun b=>W0.heap.size<=b) w1 q1 l1 h.tp->aY (fun b=>W0.heap.size<=b) w1 q2 l2 ps->Calls Tryz.prog 92 #[bC h q1 l1 e1 q2 l2 e2,.slice none 0 0,.func (.func 96) #[] #[]] w1 (WkQ (fun k=>W0.heap.size<=k/\k < w1.heap.size) (fun (s:Unit) _ _=>s) Oc (UJ w1.heap.size) 0 () (fun _=>False) [] h ps q1 l1 e1 l2 w1)):=fun w1 q1 e1 q2 e2 g1 g2 =>
  Ej (F:=96) (lb:=#[]) (R:=fun k=>W0.heap.size<=k/\k < w1.heap.size) (L0:=w1.heap.size) Yo (Og _ _) (fun k hk=>hk.2) QX h ps 0 () (fun _=>False) w1 (fun _=>False) [] q1 l1 e1 q2 l2 e2 none 0 0 ⟨Nat.le_refl _,fun _ h=>h⟩ (iE.nil _ _ _) (Nat.le_refl _) (fun _ h=>h.elim) (by omega) (g1.mono (fun k hk h=>⟨h,hk⟩)) (g2.mono (fun k hk h=>⟨h,hk⟩)) hv hav
 have HZ0:=hid hz0
 obtain ⟨⟨a0,a1,a2,a3,a4,a5,a6,a7,a8⟩,_⟩:=aT hb0
 clear hb0 hb1 hs1 hs hv hav ht hat hz0
 unfold bC at HC HW ⊢
 go_enter Tryz.func64,Tryz.ntmps64
 go_upto_region 1 with fail
 change Code.wp _ _ _ _ ((w.alloc (.cells (cells9 h o1 l1 c1 o2 l2 c2) 29)).alloc (.cells zero9 29))
 rw [<-hW0]
 clear hW0
 generalize hB:w.heap.size=B at *
 have bM:=hid hB
 clear hB
 go_wp2_with fail
 refine HC.out.mono ?_;rintro x w1 ⟨q1,e1,q2,e2,rfl,hk1,hk2,hq1⟩
 have HWC:=hid (HW.out w1 q1 e1 q2 e2 hk1 hk2)
 have Oh:=hid hk1
 have bI:=hid hq1
 clear hk1 hk2 hq1 a0 a1 a2 a3 a4 a5 a6 a7 a8
 go_wp2_with fail
 refine HWC.out.mono ?_;rintro x w2 ⟨r2,f2,D2,E2,rfl,hj,hto,hE,hf,_⟩
 have hq2:ah w1 w2:=hf
 have hb2:=ay (bI.out.trans hq2) (fun h=>h) HB1.out
 have HB2:=hid hb2
 obtain ⟨⟨z0,z1,z2,z3,z4,z5,z6,z7,z8⟩,t0,t1,t2,t3,t4,t5,t6,t7,t8⟩:=aT hb2
 have Qv:Hid (aC (fun b=>W0.heap.size<=b) w2 q1 l1 (AO h ps).tp):=by show aC _ _ _ _ _;rw [VI];exact Oh.out.stay hq2
 have HG2:Hid (aY (fun b=>W0.heap.size<=b) w2 r2 l2 (FW h ps)):=hto.acp (fun k _ hk=>hk.1) (fun k hk=>by have:=(hE k hk).1;have:=bI.out.size;omega)
 have dO:=hid (aK.out.trans (bI.out.trans hq2))
 have hgh:(zQ (fun (s:Unit) _ _=>s) Oc () [] h ps).2.1=AO h ps:=rfl
 rw [hgh]
 clear hj hto hE hf hq2 hb2 hgh
 generalize AO h ps=g at *
 unfold bC
 go_wp2_with fail
 have nP:=iW w2 (B+1) (.int .i64 g.k) (.string g.nm) (.int .i64 g.n) (.int .i64 g.tk) (.int .i64 g.tn) (.slice q1 l1 e1) (.slice r2 l2 f2) (.int .i64 g.fr) (.int .i64 g.en)
 have hbf:=dH (a0:=.int .i64 g.k) (a1:=.string g.nm) (a2:=.int .i64 g.n) (a3:=.int .i64 g.tk) (a4:=.int .i64 g.tn) (a5:=.slice q1 l1 e1) (a6:=.slice r2 l2 f2) (a7:=.int .i64 g.fr) (a8:=.int .i64 g.en) HB2.out
 change bodyPost _ _ _ _ _ (gq w2 (B+1) (.int .i64 g.k) (.string g.nm) (.int .i64 g.n) (.int .i64 g.tk) (.int .i64 g.tn) (.slice q1 l1 e1) (.slice r2 l2 f2) (.int .i64 g.fr) (.int .i64 g.en))
 clear z0 z1 z2 z3 z4 z5 z6 z7 z8 t0 t1 t2 t3 t4 t5 t6 t7 t8
 generalize gq w2 (B+1) (.int .i64 g.k) (.string g.nm) (.int .i64 g.n) (.int .i64 g.tk) (.int .i64 g.tn) (.slice q1 l1 e1) (.slice r2 l2 f2) (.int .i64 g.fr) (.int .i64 g.en)=wf at *
 obtain ⟨⟨x0,x1,x2,x3,x4,x5,x6,x7,x8⟩,_⟩:=aT hbf
 have bJ:Hid (TmQ w g (FW h ps) (.returned (.agg #[.int .i64 g.k,.string g.nm,.int .i64 g.n,.int .i64 g.tk,.int .i64 g.tn,.slice q1 l1 e1,.slice r2 l2 f2,.int .i64 g.fr,.int .i64 g.en])) wf):=by
  have hB:=bM.out
  have hz0:=HZ0.out
  have key:∀ k,W0.heap.size<=k->w.heap.size<=k/\¬ k=B+1:=fun k hk=>by omega
  exact ⟨q1,l1,e1,r2,l2,f2,rfl,Qv.out.fr nP (fun k _ hk=>key k hk),HG2.out.fr nP (fun k _ hk=>key k hk),dO.out.trans' nP (fun k hk h=>by omega)⟩
 clear nP hbf
 refine bodyPost_ret (by simp [results,Tryz.results64,go_sem,x0,x1,x2,x3,x4,x5,x6,x7,x8];rfl) rfl ?_
 exact bJ.out
end Sc
end
section
open Go.RowKit Go.Shelf
namespace Sc
def AQ:Nd:=⟨0,⟨#[]⟩,0,0,0,.nil,0,0⟩
theorem Oi {h:Nd} {ps:To} (hs:aI h ps.length=true):vg h ps:=by
 intro hk
 unfold aI at hs
 simp only [Bool.and_eq_true,decide_eq_true_eq] at hs
 have h1:=hs.2
 rw [hk] at h1
 have:ps.length=0:=by have h2:mQ 1=0:=rfl;rw [h2] at h1;omega
 cases ps with
 | nil=>rfl
 | cons _ _ _=>simp [To.length] at this
theorem yx:∀ f:To,pK f=true->okF f
 | .nil,_=>trivial
 | .cons h ps r,e=>by
  rw [lV,Bool.and_eq_true,Bool.and_eq_true] at e
  refine ⟨Oi e.1.1,?_,yx ps e.1.2,yx r e.2⟩
  intro hk
  have hs:=e.1.1
  unfold aI at hs
  simp only [Bool.and_eq_true,decide_eq_true_eq] at hs
  have hn:fF h=true:=hs.1.1.1.1.1.2
  unfold fF at hn
  have hkn:fC h.k=false:=by unfold J3 oC at hk;unfold fC;simpa [Bool.or_assoc] using hk
  rw [hkn] at hn
  simp only [Bool.false_eq_true,if_false,List.isEmpty_iff] at hn
  rw [ByteArray.toList_eq] at hn
  apply ByteArray.ext
  apply Array.toList_inj.1
  simpa using hn
def RT (h:Nd) (ps:To):Bool:=pK (.cons h ps .nil)
theorem XF {h:Nd} {ps:To} (hr:RT h ps=true):vg h ps/\okF ps/\(J3 h.k=false->h.nm=ByteArray.empty):=by
 have:=yx _ hr
 exact ⟨this.1,this.2.2.1,this.2.1⟩
def ni (h:Nd) (ps:To):(Nd × To) × (Int × Int) × Int :=
 if RT h ps then (match eG [] h ps with
  | []=>((AO h ps,FW h ps),(0,0),0)
  | x::_=>((AQ,.nil),(x.fr,x.en),5)) else ((AQ,.nil),(0,0),1)
def VJ (w:World) (h:Nd) (ps:To) (x:Ending) (w':World):Prop:=∃ (g:Nd) (gs:To) (o1:Option Addr) (l1 c1:Nat) (o2:Option Addr) (l2 c2:Nat) (p:Int × Int) (er:Int),x=.returned (.tuple #[bC g o1 l1 c1 o2 l2 c2,.agg #[.int .i64 p.1,.int .i64 p.2],.int .i64 er])/\ni h ps=((g,gs),p,er) /\
 aC (fun b=>w.heap.size<=b) w' o1 l1 g.tp/\aY (fun b=>w.heap.size<=b) w' o2 l2 gs/\ah w w'
def zS (w:World) (B:Nat) (u v:Value):World:=(w.setCell ⟨B,0,none⟩ u).setCell ⟨B,1,none⟩ v
theorem FY (w:World) (B:Nat) (u v:Value):Fr (fun k=>k=B) w (zS w B u v):=(Fr.setCell (fun k=>k=B) w ⟨B,0,none⟩ u rfl).trans (Fr.setCell (fun k=>k=B) _ ⟨B,1,none⟩ v rfl)
theorem vJ {w:World} {B:Nat} {u v a b:Value} {t:TypeId} (h:w.heap[B]?=some (.cells #[a,b] t (0,0))):(zS w B u v).heap[B]?=some (.cells #[u,v] t (0,0)):=aB (i:=1) (u:=v) (aB (i:=0) (u:=u) h)
theorem vK {w:World} {B:Nat} {a b:Value} {t:TypeId} (h:w.heap[B]?=some (.cells #[a,b] t (0,0))):w.cell? ⟨B,0,none⟩=some a/\w.cell? ⟨B,1,none⟩=some b/\w.frozen? ⟨B,0,none⟩=false/\w.frozen? ⟨B,1,none⟩=false:=by
 refine ⟨?_,?_,?_,?_⟩
 ·rw [cell_of_row _ _ _ _ _ (0,0) h];rfl
 ·rw [cell_of_row _ _ _ _ _ (0,0) h];rfl
 ·simp [World.frozen?,h]
 ·simp [World.frozen?,h]
theorem Ht (h : Nd) (ps : To) (w : World) (R : Nat -> Prop) (o1 : Option Addr) (l1 c1 : Nat) (o2 : Option Addr) (l2 c2 : Nat) (hs1 : aC R w o1 l1 h.tp) (hs : aY R w o2 l2 ps) (hz : ps.size <= 100000) (hg : allT sJ (.cons h ps .nil)) (ht : Lx.jO w) :
    Calls Tryz.prog 41 #[bC h o1 l1 c1 o2 l2 c2] w (VJ w h ps):=by
 obtain ⟨W0,hW0⟩:∃ W0,W0=((w.alloc (.cells (cells9 h o1 l1 c1 o2 l2 c2) 29)).alloc (.cells zero9 29)).alloc (.cells #[.int .i64 0,.int .i64 0] 27):=⟨_,rfl⟩
 have aK:Hid (ah w W0):=by rw [hW0];exact ((ah.alloc _ _).trans (ah.alloc _ _)).trans (ah.alloc _ _)
 have HB0:Hid (W0.heap[w.heap.size]?=some (.cells (cells9 h o1 l1 c1 o2 l2 c2) 29 (0,0))):=by
  show _=_;rw [hW0,Below.heap_alloc _ _ _ (by simp;omega),Below.heap_alloc _ _ _ (by simp)];exact heap_alloc_new w _
 have HB1:Hid (W0.heap[w.heap.size+1]?=some (.cells zero9 29 (0,0))):=by
  show _=_;rw [hW0,Below.heap_alloc _ _ _ (by simp)]
  have:=heap_alloc_new (w.alloc (.cells (cells9 h o1 l1 c1 o2 l2 c2) 29)) (.cells zero9 29)
  simpa using this
 have HB2:Hid (W0.heap[w.heap.size+2]?=some (.cells #[.int .i64 0,.int .i64 0] 27 (0,0))):=by
  show _=_;rw [hW0]
  have:=heap_alloc_new ((w.alloc (.cells (cells9 h o1 l1 c1 o2 l2 c2) 29)).alloc (.cells zero9 29)) (.cells #[.int .i64 0,.int .i64 0] 27)
  simpa using this
 have HR:=hid (zB h ps W0 R o1 l1 c1 o2 l2 c2 (hs1.stay aK.out) (hs.stay aK.out) hz hg (ht.stay aK.out))
 have HC:Hid (∀ W,ah W0 W->bF W w.heap.size 0 h o1 l1 c1 o2 l2 c2):=fun W hq=>(aA HB0.out).fr hq (fun h=>h)
 have HP:Hid (∀ W,ah W0 W->W.heap[w.heap.size+1]?=some (.cells zero9 29 (0,0))/\W.heap[w.heap.size+2]?=some (.cells #[.int .i64 0,.int .i64 0] 27 (0,0))):=fun W hq=>⟨ak hq HB1.out,ak hq HB2.out⟩
 have HFC:Hid (∀ W,ah W0 W->vg h ps->AP ps->Calls Tryz.prog 63 #[bC h o1 l1 c1 o2 l2 c2] W (Eo W (eG [] h ps))):=fun W hq h1 h2=>QY h ps W R o1 l1 c1 o2 l2 c2 (hs1.stay (aK.out.trans hq)) (hs.stay (aK.out.trans hq)) hz h1 h2
 have J4:Hid (∀ W,ah W0 W->vg h ps->AP ps->Calls Tryz.prog 64 #[bC h o1 l1 c1 o2 l2 c2] W (TmQ W (AO h ps) (FW h ps))):=fun W hq h1 h2=>FX h ps W R o1 l1 c1 o2 l2 c2 (hs1.stay (aK.out.trans hq)) (hs.stay (aK.out.trans hq)) hz h1 h2 (by have:=hg.1.2.1;omega) (lW (fun h hh=>by have:=hh.2.1;omega) _ hg.2.1)
 change Hid (Calls _ _ _ _ (fun e w'=>e=.returned (.bool (RT h ps))/\_)) at HR
 clear hs1 hs hg ht
 unfold bC at HR HFC J4 ⊢
 cases hr:RT h ps
 case false =>
  rw [hr] at HR
  have HE:Hid (ni h ps=((AQ,.nil),(0,0),1)):=by show _=_;unfold ni;rw [hr];rfl
  go_enter Tryz.func41,Tryz.ntmps41
  go_upto_region 1 with fail
  rw [<-hW0]
  clear hW0
  generalize hB:w.heap.size=B at *
  have bM:=hid hB
  clear hB
  obtain ⟨a0,a1,a2,a3,a4,a5,a6,a7,a8⟩:=HC.out W0 (ah.refl _)
  go_wp2_with fail
  refine HR.out.mono ?_;rintro x w1 ⟨rfl,hq1⟩
  obtain ⟨hb1,hb2⟩:=HP.out w1 hq1
  have Oh:=hid hb1
  have Yp:=hid hb2
  have bI:=hid (aK.out.trans hq1)
  obtain ⟨⟨z0,z1,z2,z3,z4,z5,z6,z7,z8⟩,t0,t1,t2,t3,t4,t5,t6,t7,t8⟩:=aT hb1
  obtain ⟨p0,p1,p2,p3⟩:=vK hb2
  clear hb1 hb2 hq1 a0 a1 a2 a3 a4 a5 a6 a7 a8
  go_wp2_with fail
  clear z0 z1 z2 z3 z4 z5 z6 z7 z8 t0 t1 t2 t3 t4 t5 t6 t7 t8 p0 p1 p2 p3
  have hbf:=dH (a0:=.int .i64 0) (a1:=.string ⟨#[]⟩) (a2:=.int .i64 0) (a3:=.int .i64 0) (a4:=.int .i64 0) (a5:=.slice none 0 0) (a6:=.slice none 0 0) (a7:=.int .i64 0) (a8:=.int .i64 0) Oh.out
  have QZ:=iW w1 (B+1) (.int .i64 0) (.string ⟨#[]⟩) (.int .i64 0) (.int .i64 0) (.int .i64 0) (.slice none 0 0) (.slice none 0 0) (.int .i64 0) (.int .i64 0)
  have Hu:=ay QZ (by omega) Yp.out
  have hf2:=FY (gq w1 (B+1) (.int .i64 0) (.string ⟨#[]⟩) (.int .i64 0) (.int .i64 0) (.int .i64 0) (.slice none 0 0) (.slice none 0 0) (.int .i64 0) (.int .i64 0)) (B+2) (.int .i64 0) (.int .i64 0)
  have hbg:=ay hf2 (by omega) hbf
  have Oj:=vJ (u:=.int .i64 0) (v:=.int .i64 0) Hu
  have nP:Fr (fun k=>k=B+1∨k=B+2) w1 (zS (gq w1 (B+1) (.int .i64 0) (.string ⟨#[]⟩) (.int .i64 0) (.int .i64 0) (.int .i64 0) (.slice none 0 0) (.slice none 0 0) (.int .i64 0) (.int .i64 0)) (B+2) (.int .i64 0) (.int .i64 0)):=(QZ.mono (fun _ _ h=>.inl h)).trans (hf2.mono (fun _ _ h=>.inr h))
  change bodyPost _ _ _ _ _ (zS (gq w1 (B+1) (.int .i64 0) (.string ⟨#[]⟩) (.int .i64 0) (.int .i64 0) (.int .i64 0) (.slice none 0 0) (.slice none 0 0) (.int .i64 0) (.int .i64 0)) (B+2) (.int .i64 0) (.int .i64 0))
  clear hbf QZ Hu hf2
  generalize (zS (gq w1 (B+1) (.int .i64 0) (.string ⟨#[]⟩) (.int .i64 0) (.int .i64 0) (.int .i64 0) (.slice none 0 0) (.slice none 0 0) (.int .i64 0) (.int .i64 0)) (B+2) (.int .i64 0) (.int .i64 0))=wf at *
  obtain ⟨⟨x0,x1,x2,x3,x4,x5,x6,x7,x8⟩,_⟩:=aT hbg
  have s0:=(cell_of_row _ (B+2) 0 _ _ (0,0) Oj).trans (show _=some (Value.int .i64 0) from rfl)
  have s1:=(cell_of_row _ (B+2) 1 _ _ (0,0) Oj).trans (show _=some (Value.int .i64 0) from rfl)
  have bJ:Hid (VJ w h ps (.returned (.tuple #[.agg #[.int .i64 0,.string ⟨#[]⟩,.int .i64 0,.int .i64 0,.int .i64 0,.slice none 0 0,.slice none 0 0,.int .i64 0,.int .i64 0],.agg #[.int .i64 0,.int .i64 0],.int .i64 1])) wf):=by
   have hB:=bM.out
   exact ⟨AQ,.nil,none,0,0,none,0,0,(0,0),1,rfl,HE.out,aC.nil _ _ _,aY.nil _ _ _,bI.out.trans' nP (fun k hk h=>by omega)⟩
  clear nP hbg Oj
  refine bodyPost_ret (by simp [results,Tryz.results41,go_sem,x0,x1,x2,x3,x4,x5,x6,x7,x8,s0,s1];rfl) rfl ?_
  exact bJ.out
 case true =>
  rw [hr] at HR
  obtain ⟨hv,hok,_⟩:=XF hr
  have hav:=wJ ps hok
  have Yq:Hid (∀ W,ah W0 W->Calls Tryz.prog 63 #[.agg #[.int .i64 h.k,.string h.nm,.int .i64 h.n,.int .i64 h.tk,.int .i64 h.tn,.slice o1 l1 c1,.slice o2 l2 c2,.int .i64 h.fr,.int .i64 h.en]] W (Eo W (eG [] h ps))):=fun W hq=>HFC.out W hq hv hav
  have HRW:Hid (∀ W,ah W0 W->Calls Tryz.prog 64 #[.agg #[.int .i64 h.k,.string h.nm,.int .i64 h.n,.int .i64 h.tk,.int .i64 h.tn,.slice o1 l1 c1,.slice o2 l2 c2,.int .i64 h.fr,.int .i64 h.en]] W (TmQ W (AO h ps) (FW h ps))):=fun W hq=>J4.out W hq hv hav
  have hE0:ni h ps=(match eG [] h ps with
   | []=>((AO h ps,FW h ps),(0,0),0)
   | x::_=>((AQ,.nil),(x.fr,x.en),5)):=by unfold ni;rw [hr];rfl
  have HLZ:Hid ((eG [] h ps).length<=100001):=by have:=Ep [] h ps;show _<=_;omega
  clear HFC J4 hv hok hav
  generalize eG [] h ps=L at *
  cases L with
  | nil =>
   have HE:Hid (ni h ps=((AO h ps,FW h ps),(0,0),0)):=hE0
   clear hE0
   generalize AO h ps=g at *
   generalize FW h ps=gs at *
   go_enter Tryz.func41,Tryz.ntmps41
   go_upto_region 1 with fail
   rw [<-hW0]
   clear hW0
   generalize hB:w.heap.size=B at *
   have bM:=hid hB
   clear hB
   obtain ⟨a0,a1,a2,a3,a4,a5,a6,a7,a8⟩:=HC.out W0 (ah.refl _)
   go_wp2_with fail
   refine HR.out.mono ?_;rintro x w1 ⟨rfl,hq1⟩
   clear a0 a1 a2 a3 a4 a5 a6 a7 a8
   obtain ⟨a0,a1,a2,a3,a4,a5,a6,a7,a8⟩:=HC.out w1 hq1
   have bI:=hid hq1
   clear hq1
   go_wp2_with fail
   refine (Yq.out w1 bI.out).mono ?_;rintro x w2 ⟨o,c,xs,rfl,hl,hq2⟩
   have dO:=hid (bI.out.trans hq2)
   clear hl hq2 a0 a1 a2 a3 a4 a5 a6 a7 a8
   obtain ⟨a0,a1,a2,a3,a4,a5,a6,a7,a8⟩:=HC.out w2 dO.out
   go_wp2_with fail
   refine (HRW.out w2 dO.out).mono ?_;rintro x w3 ⟨q1,m1,d1,q2,m2,d2,rfl,hg1,hg2,hq3⟩
   have dG:=hid (dO.out.trans hq3)
   have Qv:=hid hg1
   have HG2:=hid hg2
   have hz2:=dO.out.size
   have HZ0:Hid (B+3<=W0.heap.size):=by show _<=_;have:=lt_of_block HB2.out;omega
   clear hq3 hg1 hg2 a0 a1 a2 a3 a4 a5 a6 a7 a8
   unfold bC
   obtain ⟨hb1,hb2⟩:=HP.out w3 dG.out
   have Oh:=hid hb1
   have Yp:=hid hb2
   obtain ⟨⟨z0,z1,z2,z3,z4,z5,z6,z7,z8⟩,t0,t1,t2,t3,t4,t5,t6,t7,t8⟩:=aT hb1
   obtain ⟨p0,p1,p2,p3⟩:=vK hb2
   clear hb1 hb2
   go_wp2_with fail
   clear z0 z1 z2 z3 z4 z5 z6 z7 z8 t0 t1 t2 t3 t4 t5 t6 t7 t8 p0 p1 p2 p3
   have hbf:=dH (a0:=.int .i64 g.k) (a1:=.string g.nm) (a2:=.int .i64 g.n) (a3:=.int .i64 g.tk) (a4:=.int .i64 g.tn) (a5:=.slice q1 m1 d1) (a6:=.slice q2 m2 d2) (a7:=.int .i64 g.fr) (a8:=.int .i64 g.en) Oh.out
   have QZ:=iW w3 (B+1) (.int .i64 g.k) (.string g.nm) (.int .i64 g.n) (.int .i64 g.tk) (.int .i64 g.tn) (.slice q1 m1 d1) (.slice q2 m2 d2) (.int .i64 g.fr) (.int .i64 g.en)
   have Hu:=ay QZ (by omega) Yp.out
   have hf2:=FY (gq w3 (B+1) (.int .i64 g.k) (.string g.nm) (.int .i64 g.n) (.int .i64 g.tk) (.int .i64 g.tn) (.slice q1 m1 d1) (.slice q2 m2 d2) (.int .i64 g.fr) (.int .i64 g.en)) (B+2) (.int .i64 0) (.int .i64 0)
   have hbg:=ay hf2 (by omega) hbf
   have Oj:=vJ (u:=.int .i64 0) (v:=.int .i64 0) Hu
   have nP:Fr (fun k=>k=B+1∨k=B+2) w3 (zS (gq w3 (B+1) (.int .i64 g.k) (.string g.nm) (.int .i64 g.n) (.int .i64 g.tk) (.int .i64 g.tn) (.slice q1 m1 d1) (.slice q2 m2 d2) (.int .i64 g.fr) (.int .i64 g.en)) (B+2) (.int .i64 0) (.int .i64 0)):=(QZ.mono (fun _ _ h=>.inl h)).trans (hf2.mono (fun _ _ h=>.inr h))
   change bodyPost _ _ _ _ _ (zS (gq w3 (B+1) (.int .i64 g.k) (.string g.nm) (.int .i64 g.n) (.int .i64 g.tk) (.int .i64 g.tn) (.slice q1 m1 d1) (.slice q2 m2 d2) (.int .i64 g.fr) (.int .i64 g.en)) (B+2) (.int .i64 0) (.int .i64 0))
   clear hbf QZ Hu hf2
   generalize (zS (gq w3 (B+1) (.int .i64 g.k) (.string g.nm) (.int .i64 g.n) (.int .i64 g.tk) (.int .i64 g.tn) (.slice q1 m1 d1) (.slice q2 m2 d2) (.int .i64 g.fr) (.int .i64 g.en)) (B+2) (.int .i64 0) (.int .i64 0))=wf at *
   obtain ⟨⟨x0,x1,x2,x3,x4,x5,x6,x7,x8⟩,_⟩:=aT hbg
   have s0:=(cell_of_row _ (B+2) 0 _ _ (0,0) Oj).trans (show _=some (Value.int .i64 0) from rfl)
   have s1:=(cell_of_row _ (B+2) 1 _ _ (0,0) Oj).trans (show _=some (Value.int .i64 0) from rfl)
   have bJ:Hid (VJ w h ps (.returned (.tuple #[.agg #[.int .i64 g.k,.string g.nm,.int .i64 g.n,.int .i64 g.tk,.int .i64 g.tn,.slice q1 m1 d1,.slice q2 m2 d2,.int .i64 g.fr,.int .i64 g.en],.agg #[.int .i64 0,.int .i64 0],.int .i64 0])) wf):=by
    have hB:=bM.out
    have hz0:=HZ0.out
    have key:∀ k,w2.heap.size<=k->w.heap.size<=k/\¬ (k=B+1∨k=B+2):=fun k hk=>by omega
    exact ⟨g,gs,q1,m1,d1,q2,m2,d2,(0,0),0,rfl,HE.out,Qv.out.fr nP (fun k _ hk=>key k hk),HG2.out.fr nP (fun k _ hk=>key k hk),(aK.out.trans dG.out).trans' nP (fun k hk h=>by omega)⟩
   clear nP hbg Oj
   refine bodyPost_ret (by simp [results,Tryz.results41,go_sem,x0,x1,x2,x3,x4,x5,x6,x7,x8,s0,s1];rfl) rfl ?_
   exact bJ.out
  | cons y L' =>
   have HE:Hid (ni h ps=((AQ,.nil),(y.fr,y.en),5)):=hE0
   clear hE0 HRW
   have hpos:((y::L').length:Int) > 0:=by simp<;>omega
   have hpos':(0:Int) < ((y::L').length:Int):=hpos
   generalize hn:(y::L').length=n at *
   have HN:=hid hn
   clear hn
   go_enter Tryz.func41,Tryz.ntmps41
   go_upto_region 1 with fail
   rw [<-hW0]
   clear hW0
   generalize hB:w.heap.size=B at *
   have bM:=hid hB
   clear hB
   obtain ⟨a0,a1,a2,a3,a4,a5,a6,a7,a8⟩:=HC.out W0 (ah.refl _)
   go_wp2_with fail
   refine HR.out.mono ?_;rintro x w1 ⟨rfl,hq1⟩
   clear a0 a1 a2 a3 a4 a5 a6 a7 a8
   obtain ⟨a0,a1,a2,a3,a4,a5,a6,a7,a8⟩:=HC.out w1 hq1
   have bI:=hid hq1
   clear hq1
   go_wp2_with fail
   refine (Yq.out w1 bI.out).mono ?_;rintro x w2 ⟨o,c,xs,rfl,hl,hq2⟩
   have dO:=hid (aK.out.trans (bI.out.trans hq2))
   obtain ⟨g9,off,u1,v1,e1,u2,v2,e2,rfl,⟨f0,f1,f2,f3,f4,f5,f6,f7,f8⟩⟩:=hl.heads 0 y rfl
   have hg9:=hl.2.2 g9 rfl
   have hz0:=lt_of_block HB2.out
   have hz1:=bI.out.size
   have hn1:B+1≠g9:=by omega
   have hn2:B+2≠g9:=by omega
   have hn3:g9≠B+1:=by omega
   have hn4:g9≠B+2:=by omega
   obtain ⟨hb1,hb2⟩:=HP.out w2 (bI.out.trans hq2)
   have Oh:=hid hb1
   have Yp:=hid hb2
   rw [HN.out]
   obtain ⟨⟨z0,z1,z2,z3,z4,z5,z6,z7,z8⟩,t0,t1,t2,t3,t4,t5,t6,t7,t8⟩:=aT hb1
   obtain ⟨p0,p1,p2,p3⟩:=vK hb2
   clear hb1 hb2 hl hq2 a0 a1 a2 a3 a4 a5 a6 a7 a8
   rw [Nat.zero_mul,Nat.add_zero] at f0 f1 f2 f3 f4 f5 f6 f7 f8
   go_upto_region 5 with fail
   go_region
   go_wp2_with fail
   clear z0 z1 z2 z3 z4 z5 z6 z7 z8 t0 t1 t2 t3 t4 t5 t6 t7 t8 p0 p1 p2 p3
   have hbf:=dH (a0:=.int .i64 0) (a1:=.string ⟨#[]⟩) (a2:=.int .i64 0) (a3:=.int .i64 0) (a4:=.int .i64 0) (a5:=.slice none 0 0) (a6:=.slice none 0 0) (a7:=.int .i64 0) (a8:=.int .i64 0) Oh.out
   have QZ:=iW w2 (B+1) (.int .i64 0) (.string ⟨#[]⟩) (.int .i64 0) (.int .i64 0) (.int .i64 0) (.slice none 0 0) (.slice none 0 0) (.int .i64 0) (.int .i64 0)
   have Hu:=ay QZ (by omega) Yp.out
   have hf2:=FY (gq w2 (B+1) (.int .i64 0) (.string ⟨#[]⟩) (.int .i64 0) (.int .i64 0) (.int .i64 0) (.slice none 0 0) (.slice none 0 0) (.int .i64 0) (.int .i64 0)) (B+2) (.int .i64 y.fr) (.int .i64 y.en)
   have hbg:=ay hf2 (by omega) hbf
   have Oj:=vJ (u:=.int .i64 y.fr) (v:=.int .i64 y.en) Hu
   have nP:Fr (fun k=>k=B+1∨k=B+2) w2 (zS (gq w2 (B+1) (.int .i64 0) (.string ⟨#[]⟩) (.int .i64 0) (.int .i64 0) (.int .i64 0) (.slice none 0 0) (.slice none 0 0) (.int .i64 0) (.int .i64 0)) (B+2) (.int .i64 y.fr) (.int .i64 y.en)):=(QZ.mono (fun _ _ h=>.inl h)).trans (hf2.mono (fun _ _ h=>.inr h))
   replace hbg:=bT hbg
   replace Oj:=bT Oj
   replace nP:=nP.trans (Fr.drew (fun k=>k=B+1∨k=B+2) (zS (gq w2 (B+1) (.int .i64 0) (.string ⟨#[]⟩) (.int .i64 0) (.int .i64 0) (.int .i64 0) (.slice none 0 0) (.slice none 0 0) (.int .i64 0) (.int .i64 0)) (B+2) (.int .i64 y.fr) (.int .i64 y.en)))
   change bodyPost _ _ _ _ _ ((zS (gq w2 (B+1) (.int .i64 0) (.string ⟨#[]⟩) (.int .i64 0) (.int .i64 0) (.int .i64 0) (.slice none 0 0) (.slice none 0 0) (.int .i64 0) (.int .i64 0)) (B+2) (.int .i64 y.fr) (.int .i64 y.en))).drew
   clear hbf QZ Hu hf2
   generalize ((zS (gq w2 (B+1) (.int .i64 0) (.string ⟨#[]⟩) (.int .i64 0) (.int .i64 0) (.int .i64 0) (.slice none 0 0) (.slice none 0 0) (.int .i64 0) (.int .i64 0)) (B+2) (.int .i64 y.fr) (.int .i64 y.en))).drew=wf at *
   obtain ⟨⟨x0,x1,x2,x3,x4,x5,x6,x7,x8⟩,_⟩:=aT hbg
   have s0:=(cell_of_row _ (B+2) 0 _ _ (0,0) Oj).trans (show _=some (Value.int .i64 y.fr) from rfl)
   have s1:=(cell_of_row _ (B+2) 1 _ _ (0,0) Oj).trans (show _=some (Value.int .i64 y.en) from rfl)
   have bJ:Hid (VJ w h ps (.returned (.tuple #[.agg #[.int .i64 0,.string ⟨#[]⟩,.int .i64 0,.int .i64 0,.int .i64 0,.slice none 0 0,.slice none 0 0,.int .i64 0,.int .i64 0],.agg #[.int .i64 y.fr,.int .i64 y.en],.int .i64 5])) wf):=by
    have hB:=bM.out
    exact ⟨AQ,.nil,none,0,0,none,0,0,(y.fr,y.en),5,rfl,HE.out,aC.nil _ _ _,aY.nil _ _ _,dO.out.trans' nP (fun k hk h=>by omega)⟩
   clear nP hbg Oj
   refine bodyPost_ret (by simp [results,Tryz.results41,go_sem,x0,x1,x2,x3,x4,x5,x6,x7,x8,s0,s1];rfl) rfl ?_
   exact bJ.out
end Sc
end
section
open Go.RowKit Go.Shelf
namespace Cn
theorem Q5:FZ 27 wK:=by
 intro w h o1 l1 c1 o2 l2 c2
 have HB:=ig w h o1 l1 c1 o2 l2 c2 29
 have HQ:=hid (ah.alloc w (.cells (cells9 h o1 l1 c1 o2 l2 c2) 29))
 obtain ⟨W,hW⟩:∃ W,W=w.alloc (.cells (cells9 h o1 l1 c1 o2 l2 c2) 29):=⟨_,rfl⟩
 rw [<-hW] at HB HQ
 obtain ⟨a0,_⟩:=HB
 unfold bC
 by_cases h8:h.k=8
 ·have k8:(h.k == 8)=true:=by simp [h8]
  have HV:Hid (wK h.k=3):=by show _=_;unfold wK;rw [if_pos h8]
  rw [HV.out]
  clear h8
  go_enter Tryz.func27,Tryz.ntmps27
  go_upto_region 1 with fail
  rw [<-hW]
  clear hW
  go_wp2_with fail
  go_ret
  exact ⟨rfl,HQ.out⟩
 ·have k8:(h.k == 8)=false:=by simp [h8]
  by_cases h10:h.k=10
  ·have k10:(h.k == 10)=true:=by simp [h10]
   have HV:Hid (wK h.k=2):=by show _=_;unfold wK;rw [if_neg h8,if_pos h10]
   rw [HV.out]
   clear h8 h10
   go_enter Tryz.func27,Tryz.ntmps27
   go_upto_region 1 with fail
   rw [<-hW]
   clear hW
   go_wp2_with fail
   go_ret
   exact ⟨rfl,HQ.out⟩
  ·have k10:(h.k == 10)=false:=by simp [h10]
   have HV:Hid (wK h.k=1):=by show _=_;unfold wK;rw [if_neg h8,if_neg h10]
   rw [HV.out]
   clear h8 h10
   go_enter Tryz.func27,Tryz.ntmps27
   go_upto_region 1 with fail
   rw [<-hW]
   clear hW
   go_wp2_with fail
   go_ret
   exact ⟨rfl,HQ.out⟩
theorem Q7:FZ 29 zT:=by
 intro w h o1 l1 c1 o2 l2 c2
 have HB:=ig w h o1 l1 c1 o2 l2 c2 29
 have HQ:=hid (ah.alloc w (.cells (cells9 h o1 l1 c1 o2 l2 c2) 29))
 obtain ⟨W,hW⟩:∃ W,W=w.alloc (.cells (cells9 h o1 l1 c1 o2 l2 c2) 29):=⟨_,rfl⟩
 rw [<-hW] at HB HQ
 obtain ⟨a0,_⟩:=HB
 unfold bC
 by_cases h8:h.k=4
 ·have k8:(h.k == 4)=true:=by simp [h8]
  have HV:Hid (zT h.k=2):=by show _=_;unfold zT;rw [if_pos h8]
  rw [HV.out]
  clear h8
  go_enter Tryz.func29,Tryz.ntmps29
  go_upto_region 1 with fail
  rw [<-hW]
  clear hW
  go_wp2_with fail
  go_ret
  exact ⟨rfl,HQ.out⟩
 ·have k8:(h.k == 4)=false:=by simp [h8]
  have HV:Hid (zT h.k=1):=by show _=_;unfold zT;rw [if_neg h8]
  rw [HV.out]
  clear h8
  go_enter Tryz.func29,Tryz.ntmps29
  go_upto_region 1 with fail
  rw [<-hW]
  clear hW
  go_wp2_with fail
  go_ret
  exact ⟨rfl,HQ.out⟩
theorem J5:∀ f:To,pK f=true->okL f
 | .nil,_=>trivial
 | .cons h ps r,e=>by
  rw [lV,Bool.and_eq_true,Bool.and_eq_true] at e
  refine ⟨?_,J5 ps e.1.2,J5 r e.2⟩
  have hs:=e.1.1
  unfold aI at hs
  simp only [Bool.and_eq_true,decide_eq_true_eq] at hs
  have hl:=hs.1.2
  refine ⟨fun h4=>?_,fun h6=>?_,fun h7=>?_⟩
  ·rw [h4] at hl;have:iI 4=1:=rfl;omega
  ·rw [h6] at hl;have:iI 6=2:=rfl;omega
  ·rw [h7] at hl;have:iI 7=2:=rfl;omega
def wL (own:Int->Int) (rc:Int) (h:Nd) (ps:To):Int × Int :=
 if (Sc.ni h ps).2.2=0 then (cnt own rc h ps [],0) else (0,(Sc.ni h ps).2.2)
theorem AU (F : Nat) (own : Int -> Int) (rc : Int) (eg : ∀ args w, (callFunc F args).run Tryz.prog w = .ok (.enter F args) w) (ho : FZ F own) (hin : ∀ k, InT (own k)) (hrc : InT rc) (h : Nd) (ps : To) (w : World) (R : Nat -> Prop) (o1 : Option Addr) (l1 c1 : Nat) (o2 : Option Addr) (l2 c2 : Nat)
    (hs1:aC R w o1 l1 h.tp) (hs:aY R w o2 l2 ps) (hz:ps.size<=100000) (hg:allT sJ (.cons h ps .nil)) (ht:Lx.jO w) :
    Calls Tryz.prog 28 #[ctr F rc,bC h o1 l1 c1 o2 l2 c2] w fun e w'=>e=.returned (.tuple #[.int .i64 (wL own rc h ps).1,.int .i64 (wL own rc h ps).2])/\ah w w':=by
 obtain ⟨W0,hW0⟩:∃ W0,W0=(w.alloc (.cells #[.func (.func F) #[] #[],.int .i64 rc] 58)).alloc (.cells (cells9 h o1 l1 c1 o2 l2 c2) 29):=⟨_,rfl⟩
 have aK:Hid (ah w W0):=by rw [hW0];exact (ah.alloc _ _).trans (ah.alloc _ _)
 have HB0:Hid (W0.heap[w.heap.size]?=some (.cells #[.func (.func F) #[] #[],.int .i64 rc] 58 (0,0))):=by
  show _=_;rw [hW0,Below.heap_alloc _ _ _ (by simp)];exact heap_alloc_new w _
 have HB1:Hid (W0.heap[w.heap.size+1]?=some (.cells (cells9 h o1 l1 c1 o2 l2 c2) 29 (0,0))):=by
  show _=_;rw [hW0]
  have:=heap_alloc_new (w.alloc (.cells #[.func (.func F) #[] #[],.int .i64 rc] 58)) (.cells (cells9 h o1 l1 c1 o2 l2 c2) 29)
  simpa using this
 have AV:Hid (∀ W,ah W0 W->W.cell? ⟨w.heap.size,0,none⟩=some (.func (.func F) #[] #[])/\W.cell? ⟨w.heap.size,1,none⟩=some (.int .i64 rc)/\bF W (w.heap.size+1) 0 h o1 l1 c1 o2 l2 c2):=fun W hq=>by
  have hb:=ak hq HB0.out
  exact ⟨by rw [cell_of_row _ _ _ _ _ (0,0) hb];rfl,by rw [cell_of_row _ _ _ _ _ (0,0) hb];rfl,aA (ak hq HB1.out)⟩
 have HRS:=hid (Sc.Ht h ps W0 R o1 l1 c1 o2 l2 c2 (hs1.stay aK.out) (hs.stay aK.out) hz hg (ht.stay aK.out))
 have HCN:Hid (Sc.RT h ps=true->∀ W,ah W0 W->Calls Tryz.prog 49 #[ctr F rc,bC h o1 l1 c1 o2 l2 c2,.slice none 0 0] W fun x w'=>x=.returned (.int .i64 (cnt own rc h ps []))/\ah W w'):=fun hr W hq=>by
  have hk:=J5 (.cons h ps .nil) hr
  exact count_any F own rc eg ho hin hrc h ps W R (fun _=>True) o1 l1 c1 o2 l2 c2 none 0 0 [] (hs.stay (aK.out.trans hq)) (iF.nil _ _ _) (Nat.le_refl _) (by omega) (fun x hx=>by cases hx) hk.1 hk.2.1
 have yh:Hid ((Sc.ni h ps).2.2=0->Sc.RT h ps=true):=fun hh=>by
  unfold Sc.ni at hh
  split at hh
  ·next hr=>exact hr
  ·exact absurd hh (by decide)
 obtain ⟨res,hres⟩:∃ res,wL own rc h ps=res:=⟨_,rfl⟩
 have aW:=hid hres
 rw [hres]
 clear hs1 hs hg ht ho hin hrc hres
 unfold bC at HCN ⊢
 unfold bC at HRS
 go_enter Tryz.func28,Tryz.ntmps28
 go_upto_region 1 with fail
 rw [<-hW0]
 clear hW0
 generalize eX:w.heap.size=B at *
 clear eX
 obtain ⟨b0,b1,a0,a1,a2,a3,a4,a5,a6,a7,a8⟩:=AV.out W0 (ah.refl _)
 go_wp2_with fail
 refine HRS.out.mono ?_;rintro x w1 ⟨g,gs,q1,m1,d1,q2,m2,d2,p,er,rfl,hrv,hg1,hg2,hq1⟩
 unfold bC
 have HER:Hid ((Sc.ni h ps).2.2=er):=by show _=_;rw [hrv]
 have dO:Hid (ah W0 ((w1.alloc (.cells (cells9 g q1 m1 d1 q2 m2 d2) 29)).alloc (.cells #[.int .i64 p.1,.int .i64 p.2] 27))):=hq1.trans ((ah.alloc _ _).trans (ah.alloc _ _))
 clear hrv hg1 hg2 hq1 b0 b1 a0 a1 a2 a3 a4 a5 a6 a7 a8
 go_upto_region 2 with fail
 change Code.wp _ _ _ _ ((w1.alloc (.cells (cells9 g q1 m1 d1 q2 m2 d2) 29)).alloc (.cells #[.int .i64 p.1,.int .i64 p.2] 27))
 generalize (w1.alloc (.cells (cells9 g q1 m1 d1 q2 m2 d2) 29)).alloc (.cells #[.int .i64 p.1,.int .i64 p.2] 27)=W2 at *
 by_cases he:er=0
 ·have he2:(er != 0)=false:=by simp [he]
  have sN:Hid (res=(cnt own rc h ps [],0)):=by show _=_;rw [<-aW.out];unfold wL;rw [if_pos (by rw [HER.out];exact he)]
  have HC:=hid (HCN.out (yh.out (by rw [HER.out];exact he)) W2 dO.out)
  obtain ⟨b0,b1,a0,a1,a2,a3,a4,a5,a6,a7,a8⟩:=AV.out W2 dO.out
  clear he
  generalize cnt own rc h ps []=cv at *
  go_wp2_with fail
  refine HC.out.mono ?_;rintro x w3 ⟨rfl,hq3⟩
  have dG:=hid hq3
  clear hq3
  go_wp2_with fail
  refine bodyPost_ret (by first | (simp [results,Tryz.results28,go_sem];done) | (simp [results,Tryz.results28,go_sem];rfl)) rfl ?_
  exact ⟨by rw [sN.out],aK.out.trans (dO.out.trans dG.out)⟩
 ·have he2:(er != 0)=true:=by simp [he]
  have sN:Hid (res=(0,er)):=by show _=_;rw [<-aW.out];unfold wL;rw [if_neg (by rw [HER.out];exact he),HER.out]
  clear he
  go_wp2_with fail
  refine bodyPost_ret (by first | (simp [results,Tryz.results28,go_sem];done) | (simp [results,Tryz.results28,go_sem];rfl)) rfl ?_
  exact ⟨by rw [sN.out],aK.out.trans dO.out⟩
def mV (h:Nd) (ps:To):Int × Int:=wL wK 1 h ps
def jy (h:Nd) (ps:To):Int × Int:=wL zT 1 h ps
theorem in1:InT 1:=⟨by decide,by decide⟩
theorem Md (h : Nd) (ps : To) (w : World) (R : Nat -> Prop) (o1 : Option Addr) (l1 c1 : Nat) (o2 : Option Addr) (l2 c2 : Nat) (hs1 : aC R w o1 l1 h.tp) (hs : aY R w o2 l2 ps) (hz : ps.size <= 100000) (hg : allT sJ (.cons h ps .nil)) (ht : Lx.jO w) :
    Calls Tryz.prog 10 #[bC h o1 l1 c1 o2 l2 c2] w fun e w'=>e=.returned (.tuple #[.int .i64 (mV h ps).1,.int .i64 (mV h ps).2])/\ah w w':=by
 have HB:=ig w h o1 l1 c1 o2 l2 c2 29
 have hq:=ah.alloc w (.cells (cells9 h o1 l1 c1 o2 l2 c2) 29)
 obtain ⟨W,hW⟩:∃ W,W=w.alloc (.cells (cells9 h o1 l1 c1 o2 l2 c2) 29):=⟨_,rfl⟩
 rw [<-hW] at HB hq
 have HQ:=hid hq
 have HC:=hid (AU 27 wK 1 (enters_of Tryz.func27 (by kernel_rfl) rfl) Q5 VK in1 h ps W R o1 l1 c1 o2 l2 c2 (hs1.stay hq) (hs.stay hq) hz hg (ht.stay hq))
 obtain ⟨a0,a1,a2,a3,a4,a5,a6,a7,a8⟩:=HB
 change Hid (Calls _ _ _ _ fun e w'=>e=.returned (.tuple #[.int .i64 (mV h ps).1,.int .i64 (mV h ps).2])/\ah W w') at HC
 generalize mV h ps=res at *
 clear hs1 hs hg ht hq
 unfold bC at HC ⊢
 go_enter Tryz.func10,Tryz.ntmps10
 go_upto_region 1 with fail
 rw [<-hW]
 clear hW
 go_wp2_with fail
 refine HC.out.mono ?_;rintro x w3 ⟨rfl,hq3⟩
 have dG:=hid hq3
 clear hq3
 go_wp2_with fail
 refine bodyPost_ret (by first | (simp [results,Tryz.results10,go_sem];done) | (simp [results,Tryz.results10,go_sem];rfl)) rfl ?_
 exact ⟨rfl,HQ.out.trans dG.out⟩
theorem AX (h : Nd) (ps : To) (w : World) (R : Nat -> Prop) (o1 : Option Addr) (l1 c1 : Nat) (o2 : Option Addr) (l2 c2 : Nat) (hs1 : aC R w o1 l1 h.tp) (hs : aY R w o2 l2 ps) (hz : ps.size <= 100000) (hg : allT sJ (.cons h ps .nil)) (ht : Lx.jO w) :
    Calls Tryz.prog 11 #[bC h o1 l1 c1 o2 l2 c2] w fun e w'=>e=.returned (.tuple #[.int .i64 (jy h ps).1,.int .i64 (jy h ps).2])/\ah w w':=by
 have HB:=ig w h o1 l1 c1 o2 l2 c2 29
 have hq:=ah.alloc w (.cells (cells9 h o1 l1 c1 o2 l2 c2) 29)
 obtain ⟨W,hW⟩:∃ W,W=w.alloc (.cells (cells9 h o1 l1 c1 o2 l2 c2) 29):=⟨_,rfl⟩
 rw [<-hW] at HB hq
 have HQ:=hid hq
 have HC:=hid (AU 29 zT 1 (enters_of Tryz.func29 (by kernel_rfl) rfl) Q7 VN in1 h ps W R o1 l1 c1 o2 l2 c2 (hs1.stay hq) (hs.stay hq) hz hg (ht.stay hq))
 obtain ⟨a0,a1,a2,a3,a4,a5,a6,a7,a8⟩:=HB
 change Hid (Calls _ _ _ _ fun e w'=>e=.returned (.tuple #[.int .i64 (jy h ps).1,.int .i64 (jy h ps).2])/\ah W w') at HC
 generalize jy h ps=res at *
 clear hs1 hs hg ht hq
 unfold bC at HC ⊢
 go_enter Tryz.func11,Tryz.ntmps11
 go_upto_region 1 with fail
 rw [<-hW]
 clear hW
 go_wp2_with fail
 refine HC.out.mono ?_;rintro x w3 ⟨rfl,hq3⟩
 have dG:=hid hq3
 clear hq3
 go_wp2_with fail
 refine bodyPost_ret (by first | (simp [results,Tryz.results11,go_sem];done) | (simp [results,Tryz.results11,go_sem];rfl)) rfl ?_
 exact ⟨rfl,HQ.out.trans dG.out⟩
end Cn
end
section
open Go.RowKit Go.Shelf
namespace Cn
def jA (h:Nd) (ps:To):List Int:=if Sc.RT h ps then iC h ps [] [] else []
def UsP (w:World) (L:List Int) (x:Ending) (w':World):Prop:=∃ oo oc,x=.returned (.slice oo L.length oc)/\w'.ownsRow w.heap.size 3 1 (.slice oo L.length oc) L.length (fK L)/\ah w w'
theorem Ol (h : Nd) (ps : To) (w : World) (R : Nat -> Prop) (o1 : Option Addr) (l1 c1 : Nat) (o2 : Option Addr) (l2 c2 : Nat)
    (hs1:aC R w o1 l1 h.tp) (hs:aY R w o2 l2 ps) (hz:ps.size<=100000) (hg:allT sJ (.cons h ps .nil)) (ht:Lx.jO w) :
    Calls Tryz.prog 12 #[bC h o1 l1 c1 o2 l2 c2] w (UsP w (jA h ps)):=by
 obtain ⟨W0,hW0⟩:∃ W0,W0=w.alloc (.cells (cells9 h o1 l1 c1 o2 l2 c2) 29):=⟨_,rfl⟩
 have hq0:ah w W0:=by rw [hW0];exact ah.alloc _ _
 have aK:=hid hq0
 have HB0:Hid (W0.heap[w.heap.size]?=some (.cells (cells9 h o1 l1 c1 o2 l2 c2) 29 (0,0))):=by show _=_;rw [hW0];exact heap_alloc_new w _
 have AV:Hid (∀ W,ah W0 W->(W.cell? ⟨w.heap.size,0,none⟩=some (.int .i64 h.k)/\W.cell? ⟨w.heap.size,1,none⟩=some (.string h.nm)/\W.cell? ⟨w.heap.size,2,none⟩=some (.int .i64 h.n)/\W.cell? ⟨w.heap.size,3,none⟩=some (.int .i64 h.tk)/\W.cell? ⟨w.heap.size,4,none⟩=some (.int .i64 h.tn)/\W.cell? ⟨w.heap.size,5,none⟩=some (.slice o1 l1 c1)/\W.cell? ⟨w.heap.size,6,none⟩=some (.slice o2 l2 c2)/\W.cell? ⟨w.heap.size,7,none⟩=some (.int .i64 h.fr)/\W.cell? ⟨w.heap.size,8,none⟩=some (.int .i64 h.en))):=fun W hq=>aA (ak hq HB0.out)
 have HR:Hid (Calls Tryz.prog 30 #[bC h o1 l1 c1 o2 l2 c2] W0 fun e w'=>e=.returned (.bool (Sc.RT h ps))/\ah W0 w'):=hid (zB h ps W0 R o1 l1 c1 o2 l2 c2 (hs1.stay hq0) (hs.stay hq0) hz hg (ht.stay hq0))
 have HS:=hid hs
 have HZ:=hid hz
 clear hq0 hs1 hs hz hg ht
 unfold bC at HR ⊢
 go_enter Tryz.func12,Tryz.ntmps12
 go_upto_region 1 with fail
 rw [<-hW0]
 clear hW0
 obtain ⟨a0,a1,a2,a3,a4,a5,a6,a7,a8⟩:=AV.out W0 (ah.refl _)
 go_wp2_with fail
 refine HR.out.mono ?_;rintro x w1 ⟨rfl,hq1⟩
 have bI:=hid hq1
 clear hq1 a0 a1 a2 a3 a4 a5 a6 a7 a8
 cases hr:Sc.RT h ps
 case false =>
  have HE:Hid (jA h ps=[]):=by show _=_;unfold jA;rw [hr];rfl
  clear hr
  go_wp2_with fail
  go_ret
  refine ⟨none,0,by rw [HE.out];rfl,by rw [HE.out];exact World.ownsRow_nil _ _ _ _,aK.out.trans bI.out⟩
 case true =>
  have HE:Hid (jA h ps=iC h ps [] []):=by show _=_;unfold jA;rw [hr];rfl
  clear hr
  go_upto_region 6 with fail
  obtain ⟨W2,hW2⟩:∃ W2,W2=(w1.alloc (.cells #[.slice none 0 0] 35)).alloc (.cells #[.func (.func 31) #[] #[.pointer (some ⟨w1.heap.size,0,none⟩),.pointer (some ⟨w1.heap.size+1,0,none⟩)]] 59):=⟨_,rfl⟩
  have hq2:ah w1 W2:=by rw [hW2];exact (ah.alloc _ _).trans (ah.alloc _ _)
  have hb1:W2.heap[w1.heap.size]?=some (.cells #[.slice none 0 0] 35 (0,0)):=by
   rw [hW2,Below.heap_alloc _ _ _ (by simp)];exact heap_alloc_new w1 _
  have hb2:W2.heap[w1.heap.size+1]?=some (.cells #[.func (.func 31) #[] #[.pointer (some ⟨w1.heap.size,0,none⟩),.pointer (some ⟨w1.heap.size+1,0,none⟩)]] 59 (0,0)):=by
   rw [hW2]
   have:=heap_alloc_new (w1.alloc (.cells #[.slice none 0 0] 35)) (.cells #[.func (.func 31) #[] #[.pointer (some ⟨w1.heap.size,0,none⟩),.pointer (some ⟨w1.heap.size+1,0,none⟩)]] 59)
   simpa using this
  have hz1:=aK.out.size
  have hz2:=bI.out.size
  have hz3:W2.heap.size=w1.heap.size+2:=by rw [hW2];simp
  have Yr:ah w W2:=aK.out.trans (bI.out.trans hq2)
  have HU:Hid (F5 w1.heap.size (w1.heap.size+1) [] none 0 W2):=⟨hb1,hb2,World.ownsRow_nil _ _ _ _,(fun h=>by cases h),(fun h=>by cases h),by omega⟩
  have HC:=hid (Q8 h ps W2 (fun k=>R k/\k < w.heap.size) (fun _=>False) w1.heap.size (w1.heap.size+1) none 0 o1 l1 c1 o2 l2 c2 none 0 0 [] [] 0
   ((HS.out.fr (Fr.refl (fun _=>False) w) (T:=fun k=>R k/\k < w.heap.size) (fun k hk hr=>⟨⟨hr,hk⟩,fun h=>h⟩)).stay Yr) (iF.nil _ _ _) (Nat.le_refl _) (by have:=HZ.out;omega) (fun x hx=>by cases hx) (fun x hx=>by cases hx) (by have:=HZ.out;omega) (by have:=HZ.out;show 0+ps.size+1<=_;omega) HU.out
   (fun k hk=>⟨by omega,by omega,fun h=>by cases h⟩) (fun k hk=>hk.elim))
  unfold bC at HC
  have acr:=hid Yr
  have HZ3:=hid hz3
  change Code.wp _ _ _ _ ((w1.alloc (.cells #[.slice none 0 0] 35)).alloc (.cells #[.func (.func 31) #[] #[.pointer (some ⟨w1.heap.size,0,none⟩),.pointer (some ⟨w1.heap.size+1,0,none⟩)]] 59))
  rw [<-hW2]
  have co:=cell_of_one hb2
  obtain ⟨a0,a1,a2,a3,a4,a5,a6,a7,a8⟩:=AV.out W2 (bI.out.trans hq2)
  clear hW2 hq2 hb1 hb2 Yr hz3
  generalize w1.heap.size=ob at *
  go_wp2_with fail
  refine HC.out.mono ?_;rintro x w3 ⟨⟨v,rfl⟩,oo,oc,hu,hf,hn⟩
  have co2:=cell_of_one hu.o
  have bJ:Hid (UsP w (jA h ps) (.returned (.slice oo (iC h ps [] []).length oc)) w3):=by
   refine ⟨oo,oc,by rw [HE.out],?_,?_⟩
   ·rw [HE.out]
    refine ownsRow_base hu.row (fun k hk=>?_)
    rcases hn k hk with h | h
    ·cases h
    ·have:=HZ3.out;omega
   ·exact acr.out.trans' hf (fun k hk h => by
      rcases h with h | h
      ·omega
      ·cases h)
  clear hu hf hn co a0 a1 a2 a3 a4 a5 a6 a7 a8
  go_wp2_with fail
  go_ret
  exact bJ.out
end Cn
end
section
open Go.RowKit
namespace Sc
structure cZ (w:World) (T:Nat->Prop) (v:Value) (f:To) (xs:List Value):Prop where
 own:w.ownsRow 0 29 9 v f.length xs
 low:∀ k,v.ownBlock=some k->T k
 cells:ku (fun k=>T k/\v.ownBlock≠some k) w xs f
theorem cZ.nil (w:World) (T:Nat->Prop):cZ w T (.slice none 0 0) .nil []:=⟨World.ownsRow_nil _ _ _ _,fun k hk=>(by cases hk),rfl⟩
theorem cZ.fr {w w':World} {T:Nat->Prop} {v:Value} {f:To} {xs:List Value} {S:Nat->Prop} (h:cZ w T v f xs) (hf:Fr S w w') (hS:∀ k,T k->¬ S k):cZ w' T v f xs :=
 ⟨aZ h.own hf (fun k hk hs=>hS k (h.low k hk) hs),h.low,ku.fr hf (fun k _ hk=>⟨hk,hS k hk.1⟩) f xs h.cells⟩
theorem cZ.stay {w w':World} {T:Nat->Prop} {v:Value} {f:To} {xs:List Value} (h:cZ w T v f xs) (hf:ah w w'):cZ w' T v f xs:=h.fr hf (fun _ _ h=>h)
theorem cZ.snoc {W w1 : World} {T : Nat -> Prop} {v : Value} {f : To} {xs : List Value} {h : Nd} {ps : To} {o1 : Option Addr} {l1 c1 : Nat} {o2 : Option Addr} {l2 c2 g c : Nat} (hr : cZ W T v f xs)
    (hs:aC (fun k=>T k/\v.ownBlock≠some k) W o1 l1 h.tp) (ht:aY (fun k=>T k/\v.ownBlock≠some k) W o2 l2 ps)
    (ho:w1.ownsRow 0 29 9 (.slice (some ⟨g,0,none⟩) (f.length+1) c) (f.length+1) (xs++(cells9 h o1 l1 c1 o2 l2 c2).toList)) (hf:Fr (fun k=>v.ownBlock=some k) W w1) (hg:v.ownBlock=some g∨W.heap.size<=g) (hT:∀ k,W.heap.size<=k->T k) :
    cZ w1 T (.slice (some ⟨g,0,none⟩) (f.length+1) c) (f.app (.cons h ps .nil)) (xs++(cells9 h o1 l1 c1 o2 l2 c2).toList):=by
 refine ⟨by rw [To.bP];exact ho,?_,?_⟩
 ·intro k hk
  simp [Value.ownBlock] at hk
  subst hk
  rcases hg with h | h
  ·exact hr.low g h
  ·exact hT _ h
 ·have hk : ∀ k, k < W.heap.size -> (T k /\ v.ownBlock ≠ some k) -> ((T k /\ (Value.slice (some ⟨g, 0, none⟩) (f.length + 1) c).ownBlock ≠ some k) /\ ¬ v.ownBlock = some k) := by
    rintro k hk ⟨h1,h2⟩
    refine ⟨⟨h1,fun h=>?_⟩,h2⟩
    simp [Value.ownBlock] at h
    subst h
    rcases hg with h | h
    ·exact h2 h
    ·omega
  exact ku.snoc (hs.fr hf hk) (ht.fr hf hk) f xs (ku.fr hf hk f xs hr.cells)
theorem cZ.slc {w:World} {T:Nat->Prop} {o:Option Addr} {len cap:Nat} {f:To} {xs:List Value} (h:cZ w T (.slice o len cap) f xs) (hl:len=f.length) (hm:len<=maxLen):aY T w o len f:=by
 refine ⟨hl,hm,fun h0=>?_⟩
 rcases h.own.2 with ⟨_,h2⟩ | ⟨g,cap',cur,he,_⟩
 ·omega
 ·injection he with h1 h2 h3
  subst h1
  refine ⟨g,0,rfl,ku.at (h.low g rfl) f xs 0 (ku.fr (Fr.refl (fun _=>False) w) (fun k _ hk=>⟨hk.1,fun h=>h⟩) f xs h.cells) ?_⟩
  intro j u hj
  have:=h.own.cells (g:=g) rfl j u hj
  simpa [Addr.add_lit] using this
end Sc
end
end Go.Proofs.YtcninopmelmajaaGreatDoor
