/-
  Texts laid together (TeRSound5, TeRSound6, TeRSound7, TeRSound8, TeRSound9, TeRSound10, TeRSoundlo, TeRSoundhi, TeRRight, TeRoom): laws and walks, with their conditions.
-/
import Derived.Test.YtcninopmelmajaaGreatDoorOF20
set_option maxHeartbeats 8000000
set_option maxRecDepth 1000000
namespace Go.Proofs.YtcninopmelmajaaGreatDoor
open Go.Lib (hid)
section
open Go.RowKit Go.Shelf
theorem Lm (nm : ByteArray) (n tk tn : Int) (tp : Fo) (fr en : Int) (w : World) (o1 : Option Addr) (l1 c1 : Nat) (o2 : Option Addr) (l2 c2 : Nat) (hw : sQ n)
    (SC:zf ⟨5,nm,n,tk,tn,tp,fr,en⟩ (w.alloc (.cells (cells9 ⟨5,nm,n,tk,tn,tp,fr,en⟩ o1 l1 c1 o2 l2 c2) 29)) o1 l1 c1 o2 l2 c2 w.heap.size) :
    Calls Tryz.prog 34 #[bI ⟨5,nm,n,tk,tn,tp,fr,en⟩ o1 l1 c1 o2 l2 c2] w fun e w'=>e=.returned (.bool (aI ⟨5,nm,n,tk,tn,tp,fr,en⟩ l2))/\ah w w':=by
 have gU:=hid SC;have HW:=hid hw;have HN:Hid (∀ W,Calls Tryz.prog 54 #[.int .i64 5] W fun e w'=>e=.returned (.bool false)/\ah W w'):=SC.named;obtain ⟨W0,hW0⟩:∃ W0,W0=w.alloc (.cells (cells9 ⟨5,nm,n,tk,tn,tp,fr,en⟩ o1 l1 c1 o2 l2 c2) 29):=⟨_,rfl⟩;have aP:Hid (ah w W0):=by rw [hW0];exact ah.alloc _ _
 clear SC hw;rw [<-hW0] at gU;unfold bI;go_enter Tryz.func34,Tryz.ntmps34;go_upto_region 1 with fail
 change Code.wp _ _ _ _ (w.alloc (.cells (cells9 ⟨5,nm,n,tk,tn,tp,fr,en⟩ o1 l1 c1 o2 l2 c2) 29));rw [<-hW0];clear hW0;generalize w.heap.size=B at *;obtain ⟨x0,x1,x2,x3,x4,x5,x6,x7,x8⟩:=gU.out.box W0 (ah.refl _);dsimp only at x0 x1 x2 x3 x4 x5 x6 x7 x8;go_quiet (fail);go_wp2_with fail;refine (HN.out _).mono ?_;rintro e w1 ⟨rfl,hq1⟩;have bU:Hid (ah W0 w1):=ah.trans (Fr.drewN _ _ _) hq1;clear x0 x1 x2 x3 x4 x5 x6 x7 x8 hq1;obtain ⟨x0,x1,x2,x3,x4,x5,x6,x7,x8⟩:=gU.out.box w1 bU.out;dsimp only at x0 x1 x2 x3 x4 x5 x6 x7 x8;go_wp2_with fail;refine (HN.out _).mono ?_;rintro e w3 ⟨rfl,hq3⟩;have dU:=hid (bU.out.trans hq3);clear x0 x1 x2 x3 x4 x5 x6 x7 x8 hq3;obtain ⟨x0,x1,x2,x3,x4,x5,x6,x7,x8⟩:=gU.out.box w3 dU.out;dsimp only at x0 x1 x2 x3 x4 x5 x6 x7 x8;cases hA:nm.toList.isEmpty
 ·have e3:nm.toList.isEmpty=false:=hA;go_wp2_with fail;go_ret;exact ⟨by simp [aI,fZ,fQ,hA],aP.out.trans dU.out⟩
 ·have e3:nm.toList.isEmpty=true:=hA;have Gz:=hid hA;clear hA;have iK:=hid gU.out.same;cases hT:gG tk tn tp 0 0 .nil
  ·rw [hT] at iK;go_wp2_with fail;refine (iK.out _ dU.out).mono ?_;rintro e w4 ⟨rfl,hq4⟩;go_wp2_with fail;go_ret;exact ⟨by simp [aI,eY,hT],aP.out.trans (dU.out.trans hq4)⟩
  ·rw [hT] at iK;have GH:=hid hT;clear hT;go_wp2_with fail;refine (iK.out _ dU.out).mono ?_;rintro e w4 ⟨rfl,hq4⟩;have fV:=hid (dU.out.trans hq4);clear x0 x1 x2 x3 x4 x5 x6 x7 x8 hq4;obtain ⟨x0,x1,x2,x3,x4,x5,x6,x7,x8⟩:=gU.out.box w4 fV.out;dsimp only at x0 x1 x2 x3 x4 x5 x6 x7 x8
   by_cases hn:n < 0
   ·go_wp2_with fail;go_ret;exact ⟨by simp [aI];omega,aP.out.trans fV.out⟩
   ·by_cases ht:0 < n
    ·go_wp2_with fail;go_ret;exact ⟨by simp [aI,pz];omega,aP.out.trans fV.out⟩
    ·have hwn:n<=9223372036854775807:=by have:=HW.out;unfold sQ at this;simp only [Lit.wf,IntKind.min,IntKind.max,IntKind.signed,IntKind.bits,Bool.and_eq_true,decide_eq_true_eq,if_true] at this;omega
     go_wp2_with fail
     all_goals
      go_ret;refine ⟨?_,aP.out.trans fV.out⟩;have h1:=Gz.out;have h2:=GH.out;refine congrArg (fun b=>Ending.returned (Value.bool b)) ?_;rw [Bool.eq_iff_iff];simp [aI,fZ,eY,fQ,pz,jD,nK,h1,h2];omega
end
section
open Go.RowKit Go.Shelf
theorem Lp (nm : ByteArray) (n tk tn : Int) (tp : Fo) (fr en : Int) (w : World) (o1 : Option Addr) (l1 c1 : Nat) (o2 : Option Addr) (l2 c2 : Nat) (hw : sQ n)
    (SC:zf ⟨6,nm,n,tk,tn,tp,fr,en⟩ (w.alloc (.cells (cells9 ⟨6,nm,n,tk,tn,tp,fr,en⟩ o1 l1 c1 o2 l2 c2) 29)) o1 l1 c1 o2 l2 c2 w.heap.size) :
    Calls Tryz.prog 34 #[bI ⟨6,nm,n,tk,tn,tp,fr,en⟩ o1 l1 c1 o2 l2 c2] w fun e w'=>e=.returned (.bool (aI ⟨6,nm,n,tk,tn,tp,fr,en⟩ l2))/\ah w w':=by
 have gU:=hid SC;have HW:=hid hw;have HN:Hid (∀ W,Calls Tryz.prog 54 #[.int .i64 6] W fun e w'=>e=.returned (.bool true)/\ah W w'):=SC.named;obtain ⟨W0,hW0⟩:∃ W0,W0=w.alloc (.cells (cells9 ⟨6,nm,n,tk,tn,tp,fr,en⟩ o1 l1 c1 o2 l2 c2) 29):=⟨_,rfl⟩;have aP:Hid (ah w W0):=by rw [hW0];exact ah.alloc _ _
 clear SC hw;rw [<-hW0] at gU;unfold bI;go_enter Tryz.func34,Tryz.ntmps34;go_upto_region 1 with fail
 change Code.wp _ _ _ _ (w.alloc (.cells (cells9 ⟨6,nm,n,tk,tn,tp,fr,en⟩ o1 l1 c1 o2 l2 c2) 29));rw [<-hW0];clear hW0;generalize w.heap.size=B at *;obtain ⟨x0,x1,x2,x3,x4,x5,x6,x7,x8⟩:=gU.out.box W0 (ah.refl _);dsimp only at x0 x1 x2 x3 x4 x5 x6 x7 x8;go_quiet (fail);go_wp2_with fail;refine (HN.out _).mono ?_;rintro e w1 ⟨rfl,hq1⟩;have bU:Hid (ah W0 w1):=ah.trans (Fr.drewN _ _ _) hq1;clear x0 x1 x2 x3 x4 x5 x6 x7 x8 hq1;obtain ⟨x0,x1,x2,x3,x4,x5,x6,x7,x8⟩:=gU.out.box w1 bU.out;dsimp only at x0 x1 x2 x3 x4 x5 x6 x7 x8;cases hA:Lx.nameB nm.data.toList
 ·have xA:=hid gU.out.name;rw [hA] at xA;go_wp2_with fail;refine (xA.out _).mono ?_;rintro e w2 ⟨rfl,hq2⟩;go_wp2_with fail;go_ret;exact ⟨by simp [aI,fZ,fQ,hA],aP.out.trans (bU.out.trans hq2)⟩
 ·have xA:=hid gU.out.name;rw [hA] at xA;have Gz:=hid hA;clear hA;go_wp2_with fail;refine (xA.out _).mono ?_;rintro e w2 ⟨rfl,hq2⟩;have eF:=hid (bU.out.trans hq2);clear x0 x1 x2 x3 x4 x5 x6 x7 x8 hq2;go_wp2_with fail;refine (HN.out _).mono ?_;rintro e w3 ⟨rfl,hq3⟩;have dU:=hid (eF.out.trans hq3);clear hq3;obtain ⟨x0,x1,x2,x3,x4,x5,x6,x7,x8⟩:=gU.out.box w3 dU.out;dsimp only at x0 x1 x2 x3 x4 x5 x6 x7 x8;have iK:=hid gU.out.same;cases hT:gG tk tn tp 0 0 .nil
  ·rw [hT] at iK;go_wp2_with fail;refine (iK.out _ dU.out).mono ?_;rintro e w4 ⟨rfl,hq4⟩;go_wp2_with fail;go_ret;exact ⟨by simp [aI,eY,hT],aP.out.trans (dU.out.trans hq4)⟩
  ·rw [hT] at iK;have GH:=hid hT;clear hT;go_wp2_with fail;refine (iK.out _ dU.out).mono ?_;rintro e w4 ⟨rfl,hq4⟩;have fV:=hid (dU.out.trans hq4);clear x0 x1 x2 x3 x4 x5 x6 x7 x8 hq4;obtain ⟨x0,x1,x2,x3,x4,x5,x6,x7,x8⟩:=gU.out.box w4 fV.out;dsimp only at x0 x1 x2 x3 x4 x5 x6 x7 x8
   by_cases hn:n < 0
   ·go_wp2_with fail;go_ret;exact ⟨by simp [aI];omega,aP.out.trans fV.out⟩
   ·by_cases ht:0 < n
    ·go_wp2_with fail;go_ret;exact ⟨by simp [aI,pz];omega,aP.out.trans fV.out⟩
    ·have hwn:n<=9223372036854775807:=by have:=HW.out;unfold sQ at this;simp only [Lit.wf,IntKind.min,IntKind.max,IntKind.signed,IntKind.bits,Bool.and_eq_true,decide_eq_true_eq,if_true] at this;omega
     go_wp2_with fail
     all_goals
      go_ret;refine ⟨?_,aP.out.trans fV.out⟩;have h1:=Gz.out;have h2:=GH.out;refine congrArg (fun b=>Ending.returned (Value.bool b)) ?_;rw [Bool.eq_iff_iff];simp [aI,fZ,eY,fQ,pz,jD,nK,h1,h2];omega
end
section
open Go.RowKit Go.Shelf
theorem Lr (nm : ByteArray) (n tk tn : Int) (tp : Fo) (fr en : Int) (w : World) (o1 : Option Addr) (l1 c1 : Nat) (o2 : Option Addr) (l2 c2 : Nat) (hw : sQ n)
    (SC:zf ⟨7,nm,n,tk,tn,tp,fr,en⟩ (w.alloc (.cells (cells9 ⟨7,nm,n,tk,tn,tp,fr,en⟩ o1 l1 c1 o2 l2 c2) 29)) o1 l1 c1 o2 l2 c2 w.heap.size) :
    Calls Tryz.prog 34 #[bI ⟨7,nm,n,tk,tn,tp,fr,en⟩ o1 l1 c1 o2 l2 c2] w fun e w'=>e=.returned (.bool (aI ⟨7,nm,n,tk,tn,tp,fr,en⟩ l2))/\ah w w':=by
 have gU:=hid SC;have HW:=hid hw;have HN:Hid (∀ W,Calls Tryz.prog 54 #[.int .i64 7] W fun e w'=>e=.returned (.bool true)/\ah W w'):=SC.named;obtain ⟨W0,hW0⟩:∃ W0,W0=w.alloc (.cells (cells9 ⟨7,nm,n,tk,tn,tp,fr,en⟩ o1 l1 c1 o2 l2 c2) 29):=⟨_,rfl⟩;have aP:Hid (ah w W0):=by rw [hW0];exact ah.alloc _ _
 clear SC hw;rw [<-hW0] at gU;unfold bI;go_enter Tryz.func34,Tryz.ntmps34;go_upto_region 1 with fail
 change Code.wp _ _ _ _ (w.alloc (.cells (cells9 ⟨7,nm,n,tk,tn,tp,fr,en⟩ o1 l1 c1 o2 l2 c2) 29));rw [<-hW0];clear hW0;generalize w.heap.size=B at *;obtain ⟨x0,x1,x2,x3,x4,x5,x6,x7,x8⟩:=gU.out.box W0 (ah.refl _);dsimp only at x0 x1 x2 x3 x4 x5 x6 x7 x8;go_quiet (fail);go_wp2_with fail;refine (HN.out _).mono ?_;rintro e w1 ⟨rfl,hq1⟩;have bU:Hid (ah W0 w1):=ah.trans (Fr.drewN _ _ _) hq1;clear x0 x1 x2 x3 x4 x5 x6 x7 x8 hq1;obtain ⟨x0,x1,x2,x3,x4,x5,x6,x7,x8⟩:=gU.out.box w1 bU.out;dsimp only at x0 x1 x2 x3 x4 x5 x6 x7 x8;cases hA:Lx.nameB nm.data.toList
 ·have xA:=hid gU.out.name;rw [hA] at xA;go_wp2_with fail;refine (xA.out _).mono ?_;rintro e w2 ⟨rfl,hq2⟩;go_wp2_with fail;go_ret;exact ⟨by simp [aI,fZ,fQ,hA],aP.out.trans (bU.out.trans hq2)⟩
 ·have xA:=hid gU.out.name;rw [hA] at xA;have Gz:=hid hA;clear hA;go_wp2_with fail;refine (xA.out _).mono ?_;rintro e w2 ⟨rfl,hq2⟩;have eF:=hid (bU.out.trans hq2);clear x0 x1 x2 x3 x4 x5 x6 x7 x8 hq2;go_wp2_with fail;refine (HN.out _).mono ?_;rintro e w3 ⟨rfl,hq3⟩;have dU:=hid (eF.out.trans hq3);clear hq3;obtain ⟨x0,x1,x2,x3,x4,x5,x6,x7,x8⟩:=gU.out.box w3 dU.out;dsimp only at x0 x1 x2 x3 x4 x5 x6 x7 x8;have iK:=hid gU.out.same;cases hT:gG tk tn tp 0 0 .nil
  ·rw [hT] at iK;go_wp2_with fail;refine (iK.out _ dU.out).mono ?_;rintro e w4 ⟨rfl,hq4⟩;go_wp2_with fail;go_ret;exact ⟨by simp [aI,eY,hT],aP.out.trans (dU.out.trans hq4)⟩
  ·rw [hT] at iK;have GH:=hid hT;clear hT;go_wp2_with fail;refine (iK.out _ dU.out).mono ?_;rintro e w4 ⟨rfl,hq4⟩;have fV:=hid (dU.out.trans hq4);clear x0 x1 x2 x3 x4 x5 x6 x7 x8 hq4;obtain ⟨x0,x1,x2,x3,x4,x5,x6,x7,x8⟩:=gU.out.box w4 fV.out;dsimp only at x0 x1 x2 x3 x4 x5 x6 x7 x8
   by_cases hn:n < 0
   ·go_wp2_with fail;go_ret;exact ⟨by simp [aI];omega,aP.out.trans fV.out⟩
   ·by_cases ht:0 < n
    ·go_wp2_with fail;go_ret;exact ⟨by simp [aI,pz];omega,aP.out.trans fV.out⟩
    ·have hwn:n<=9223372036854775807:=by have:=HW.out;unfold sQ at this;simp only [Lit.wf,IntKind.min,IntKind.max,IntKind.signed,IntKind.bits,Bool.and_eq_true,decide_eq_true_eq,if_true] at this;omega
     go_wp2_with fail
     all_goals
      go_ret;refine ⟨?_,aP.out.trans fV.out⟩;have h1:=Gz.out;have h2:=GH.out;refine congrArg (fun b=>Ending.returned (Value.bool b)) ?_;rw [Bool.eq_iff_iff];simp [aI,fZ,eY,fQ,pz,jD,nK,h1,h2];omega
end
section
open Go.RowKit Go.Shelf
theorem Ls (nm : ByteArray) (n tk tn : Int) (tp : Fo) (fr en : Int) (w : World) (o1 : Option Addr) (l1 c1 : Nat) (o2 : Option Addr) (l2 c2 : Nat) (hw : sQ n)
    (SC:zf ⟨8,nm,n,tk,tn,tp,fr,en⟩ (w.alloc (.cells (cells9 ⟨8,nm,n,tk,tn,tp,fr,en⟩ o1 l1 c1 o2 l2 c2) 29)) o1 l1 c1 o2 l2 c2 w.heap.size) :
    Calls Tryz.prog 34 #[bI ⟨8,nm,n,tk,tn,tp,fr,en⟩ o1 l1 c1 o2 l2 c2] w fun e w'=>e=.returned (.bool (aI ⟨8,nm,n,tk,tn,tp,fr,en⟩ l2))/\ah w w':=by
 have gU:=hid SC;have HW:=hid hw;have HN:Hid (∀ W,Calls Tryz.prog 54 #[.int .i64 8] W fun e w'=>e=.returned (.bool false)/\ah W w'):=SC.named;obtain ⟨W0,hW0⟩:∃ W0,W0=w.alloc (.cells (cells9 ⟨8,nm,n,tk,tn,tp,fr,en⟩ o1 l1 c1 o2 l2 c2) 29):=⟨_,rfl⟩;have aP:Hid (ah w W0):=by rw [hW0];exact ah.alloc _ _
 clear SC hw;rw [<-hW0] at gU;unfold bI;go_enter Tryz.func34,Tryz.ntmps34;go_upto_region 1 with fail
 change Code.wp _ _ _ _ (w.alloc (.cells (cells9 ⟨8,nm,n,tk,tn,tp,fr,en⟩ o1 l1 c1 o2 l2 c2) 29));rw [<-hW0];clear hW0;generalize w.heap.size=B at *;obtain ⟨x0,x1,x2,x3,x4,x5,x6,x7,x8⟩:=gU.out.box W0 (ah.refl _);dsimp only at x0 x1 x2 x3 x4 x5 x6 x7 x8;go_quiet (fail);go_wp2_with fail;refine (HN.out _).mono ?_;rintro e w1 ⟨rfl,hq1⟩;have bU:Hid (ah W0 w1):=ah.trans (Fr.drewN _ _ _) hq1;clear x0 x1 x2 x3 x4 x5 x6 x7 x8 hq1;obtain ⟨x0,x1,x2,x3,x4,x5,x6,x7,x8⟩:=gU.out.box w1 bU.out;dsimp only at x0 x1 x2 x3 x4 x5 x6 x7 x8;go_wp2_with fail;refine (HN.out _).mono ?_;rintro e w3 ⟨rfl,hq3⟩;have dU:=hid (bU.out.trans hq3);clear x0 x1 x2 x3 x4 x5 x6 x7 x8 hq3;obtain ⟨x0,x1,x2,x3,x4,x5,x6,x7,x8⟩:=gU.out.box w3 dU.out;dsimp only at x0 x1 x2 x3 x4 x5 x6 x7 x8;cases hA:nm.toList.isEmpty
 ·have e3:nm.toList.isEmpty=false:=hA;go_wp2_with fail;go_ret;exact ⟨by simp [aI,fZ,fQ,hA],aP.out.trans dU.out⟩
 ·have e3:nm.toList.isEmpty=true:=hA;have Gz:=hid hA;clear hA;have iK:=hid gU.out.same;cases hT:gG tk tn tp 0 0 .nil
  ·rw [hT] at iK;go_wp2_with fail;refine (iK.out _ dU.out).mono ?_;rintro e w4 ⟨rfl,hq4⟩;go_wp2_with fail;go_ret;exact ⟨by simp [aI,eY,hT],aP.out.trans (dU.out.trans hq4)⟩
  ·rw [hT] at iK;have GH:=hid hT;clear hT;go_wp2_with fail;refine (iK.out _ dU.out).mono ?_;rintro e w4 ⟨rfl,hq4⟩;have fV:=hid (dU.out.trans hq4);clear x0 x1 x2 x3 x4 x5 x6 x7 x8 hq4;obtain ⟨x0,x1,x2,x3,x4,x5,x6,x7,x8⟩:=gU.out.box w4 fV.out;dsimp only at x0 x1 x2 x3 x4 x5 x6 x7 x8
   by_cases hn:n < 0
   ·go_wp2_with fail;go_ret;exact ⟨by simp [aI];omega,aP.out.trans fV.out⟩
   ·by_cases ht:0 < n
    ·go_wp2_with fail;go_ret;exact ⟨by simp [aI,pz];omega,aP.out.trans fV.out⟩
    ·have hwn:n<=9223372036854775807:=by have:=HW.out;unfold sQ at this;simp only [Lit.wf,IntKind.min,IntKind.max,IntKind.signed,IntKind.bits,Bool.and_eq_true,decide_eq_true_eq,if_true] at this;omega
     go_wp2_with fail
     all_goals
      go_ret;refine ⟨?_,aP.out.trans fV.out⟩;have h1:=Gz.out;have h2:=GH.out;refine congrArg (fun b=>Ending.returned (Value.bool b)) ?_;rw [Bool.eq_iff_iff];simp [aI,fZ,eY,fQ,pz,jD,nK,h1,h2];omega
end
section
open Go.RowKit Go.Shelf
theorem Lu (nm : ByteArray) (n tk tn : Int) (tp : Fo) (fr en : Int) (w : World) (o1 : Option Addr) (l1 c1 : Nat) (o2 : Option Addr) (l2 c2 : Nat) (hw : sQ n)
    (SC:zf ⟨9,nm,n,tk,tn,tp,fr,en⟩ (w.alloc (.cells (cells9 ⟨9,nm,n,tk,tn,tp,fr,en⟩ o1 l1 c1 o2 l2 c2) 29)) o1 l1 c1 o2 l2 c2 w.heap.size) :
    Calls Tryz.prog 34 #[bI ⟨9,nm,n,tk,tn,tp,fr,en⟩ o1 l1 c1 o2 l2 c2] w fun e w'=>e=.returned (.bool (aI ⟨9,nm,n,tk,tn,tp,fr,en⟩ l2))/\ah w w':=by
 have gU:=hid SC;have HW:=hid hw;have HN:Hid (∀ W,Calls Tryz.prog 54 #[.int .i64 9] W fun e w'=>e=.returned (.bool false)/\ah W w'):=SC.named;obtain ⟨W0,hW0⟩:∃ W0,W0=w.alloc (.cells (cells9 ⟨9,nm,n,tk,tn,tp,fr,en⟩ o1 l1 c1 o2 l2 c2) 29):=⟨_,rfl⟩;have aP:Hid (ah w W0):=by rw [hW0];exact ah.alloc _ _
 clear SC hw;rw [<-hW0] at gU;unfold bI;go_enter Tryz.func34,Tryz.ntmps34;go_upto_region 1 with fail
 change Code.wp _ _ _ _ (w.alloc (.cells (cells9 ⟨9,nm,n,tk,tn,tp,fr,en⟩ o1 l1 c1 o2 l2 c2) 29));rw [<-hW0];clear hW0;generalize w.heap.size=B at *;obtain ⟨x0,x1,x2,x3,x4,x5,x6,x7,x8⟩:=gU.out.box W0 (ah.refl _);dsimp only at x0 x1 x2 x3 x4 x5 x6 x7 x8;go_quiet (fail);go_wp2_with fail;refine (HN.out _).mono ?_;rintro e w1 ⟨rfl,hq1⟩;have bU:Hid (ah W0 w1):=ah.trans (Fr.drewN _ _ _) hq1;clear x0 x1 x2 x3 x4 x5 x6 x7 x8 hq1;obtain ⟨x0,x1,x2,x3,x4,x5,x6,x7,x8⟩:=gU.out.box w1 bU.out;dsimp only at x0 x1 x2 x3 x4 x5 x6 x7 x8;go_wp2_with fail;refine (HN.out _).mono ?_;rintro e w3 ⟨rfl,hq3⟩;have dU:=hid (bU.out.trans hq3);clear x0 x1 x2 x3 x4 x5 x6 x7 x8 hq3;obtain ⟨x0,x1,x2,x3,x4,x5,x6,x7,x8⟩:=gU.out.box w3 dU.out;dsimp only at x0 x1 x2 x3 x4 x5 x6 x7 x8;cases hA:nm.toList.isEmpty
 ·have e3:nm.toList.isEmpty=false:=hA;go_wp2_with fail;go_ret;exact ⟨by simp [aI,fZ,fQ,hA],aP.out.trans dU.out⟩
 ·have e3:nm.toList.isEmpty=true:=hA;have Gz:=hid hA;clear hA;have iK:=hid gU.out.same;cases hT:gG tk tn tp 0 0 .nil
  ·rw [hT] at iK;go_wp2_with fail;refine (iK.out _ dU.out).mono ?_;rintro e w4 ⟨rfl,hq4⟩;go_wp2_with fail;go_ret;exact ⟨by simp [aI,eY,hT],aP.out.trans (dU.out.trans hq4)⟩
  ·rw [hT] at iK;have GH:=hid hT;clear hT;go_wp2_with fail;refine (iK.out _ dU.out).mono ?_;rintro e w4 ⟨rfl,hq4⟩;have fV:=hid (dU.out.trans hq4);clear x0 x1 x2 x3 x4 x5 x6 x7 x8 hq4;obtain ⟨x0,x1,x2,x3,x4,x5,x6,x7,x8⟩:=gU.out.box w4 fV.out;dsimp only at x0 x1 x2 x3 x4 x5 x6 x7 x8
   by_cases hn:n < 0
   ·go_wp2_with fail;go_ret;exact ⟨by simp [aI];omega,aP.out.trans fV.out⟩
   ·by_cases ht:0 < n
    ·go_wp2_with fail;go_ret;exact ⟨by simp [aI,pz];omega,aP.out.trans fV.out⟩
    ·have hwn:n<=9223372036854775807:=by have:=HW.out;unfold sQ at this;simp only [Lit.wf,IntKind.min,IntKind.max,IntKind.signed,IntKind.bits,Bool.and_eq_true,decide_eq_true_eq,if_true] at this;omega
     go_wp2_with fail
     all_goals
      go_ret;refine ⟨?_,aP.out.trans fV.out⟩;have h1:=Gz.out;have h2:=GH.out;refine congrArg (fun b=>Ending.returned (Value.bool b)) ?_;rw [Bool.eq_iff_iff];simp [aI,fZ,eY,fQ,pz,jD,nK,h1,h2];omega
end
section
open Go.RowKit Go.Shelf
theorem IY (nm : ByteArray) (n tk tn : Int) (tp : Fo) (fr en : Int) (w : World) (o1 : Option Addr) (l1 c1 : Nat) (o2 : Option Addr) (l2 c2 : Nat) (hw : sQ n)
    (SC:zf ⟨10,nm,n,tk,tn,tp,fr,en⟩ (w.alloc (.cells (cells9 ⟨10,nm,n,tk,tn,tp,fr,en⟩ o1 l1 c1 o2 l2 c2) 29)) o1 l1 c1 o2 l2 c2 w.heap.size) :
    Calls Tryz.prog 34 #[bI ⟨10,nm,n,tk,tn,tp,fr,en⟩ o1 l1 c1 o2 l2 c2] w fun e w'=>e=.returned (.bool (aI ⟨10,nm,n,tk,tn,tp,fr,en⟩ l2))/\ah w w':=by
 have gU:=hid SC;have HW:=hid hw;have HN:Hid (∀ W,Calls Tryz.prog 54 #[.int .i64 10] W fun e w'=>e=.returned (.bool false)/\ah W w'):=SC.named;obtain ⟨W0,hW0⟩:∃ W0,W0=w.alloc (.cells (cells9 ⟨10,nm,n,tk,tn,tp,fr,en⟩ o1 l1 c1 o2 l2 c2) 29):=⟨_,rfl⟩;have aP:Hid (ah w W0):=by rw [hW0];exact ah.alloc _ _
 clear SC hw;rw [<-hW0] at gU;unfold bI;go_enter Tryz.func34,Tryz.ntmps34;go_upto_region 1 with fail
 change Code.wp _ _ _ _ (w.alloc (.cells (cells9 ⟨10,nm,n,tk,tn,tp,fr,en⟩ o1 l1 c1 o2 l2 c2) 29));rw [<-hW0];clear hW0;generalize w.heap.size=B at *;obtain ⟨x0,x1,x2,x3,x4,x5,x6,x7,x8⟩:=gU.out.box W0 (ah.refl _);dsimp only at x0 x1 x2 x3 x4 x5 x6 x7 x8;go_quiet (fail);go_wp2_with fail;refine (HN.out _).mono ?_;rintro e w1 ⟨rfl,hq1⟩;have bU:Hid (ah W0 w1):=ah.trans (Fr.drewN _ _ _) hq1;clear x0 x1 x2 x3 x4 x5 x6 x7 x8 hq1;obtain ⟨x0,x1,x2,x3,x4,x5,x6,x7,x8⟩:=gU.out.box w1 bU.out;dsimp only at x0 x1 x2 x3 x4 x5 x6 x7 x8;go_wp2_with fail;refine (HN.out _).mono ?_;rintro e w3 ⟨rfl,hq3⟩;have dU:=hid (bU.out.trans hq3);clear x0 x1 x2 x3 x4 x5 x6 x7 x8 hq3;obtain ⟨x0,x1,x2,x3,x4,x5,x6,x7,x8⟩:=gU.out.box w3 dU.out;dsimp only at x0 x1 x2 x3 x4 x5 x6 x7 x8;cases hA:nm.toList.isEmpty
 ·have e3:nm.toList.isEmpty=false:=hA;go_wp2_with fail;go_ret;exact ⟨by simp [aI,fZ,fQ,hA],aP.out.trans dU.out⟩
 ·have e3:nm.toList.isEmpty=true:=hA;have Gz:=hid hA;clear hA;have HRI:=hid gU.out.right;have HVA:=hid gU.out.vars;cases hT:iI tk tn tp
  ·rw [hT] at HRI;go_wp2_with fail;refine (HRI.out _ dU.out).mono ?_;rintro e w4 ⟨rfl,hq4⟩;go_wp2_with fail;go_ret;exact ⟨by simp [aI,eY,uN,hT],aP.out.trans (dU.out.trans hq4)⟩
  ·rw [hT] at HRI;have xB:=hid hT;clear hT;obtain ⟨L,hL⟩:∃ L,Fo.vars [] (.cons tk tn tp .nil)=L:=⟨_,rfl⟩;dsimp only at HVA;rw [hL] at HVA;go_wp2_with fail;refine (HRI.out _ dU.out).mono ?_;rintro e w4 ⟨rfl,hq4⟩;have fV:=hid (dU.out.trans hq4);clear x0 x1 x2 x3 x4 x5 x6 x7 x8 hq4;obtain ⟨x0,x1,x2,x3,x4,x5,x6,x7,x8⟩:=gU.out.box w4 fV.out;dsimp only at x0 x1 x2 x3 x4 x5 x6 x7 x8
   by_cases hl:L.length=0
   ·have hl':¬ (0:Int) < (L.length:Int):=by omega
    have GH:Hid ((iI tk tn tp && (Fo.vars [] (.cons tk tn tp .nil)).isEmpty)=true):=by
     show _=_
     rw [xB.out,hL,List.eq_nil_of_length_eq_zero hl];rfl
    clear hL;go_wp2_with fail;refine (HVA.out _ fV.out).mono ?_;rintro e w5 ⟨va,vc,rfl,hq5⟩;have nD:=hid (fV.out.trans hq5);clear x0 x1 x2 x3 x4 x5 x6 x7 x8 hq5;obtain ⟨x0,x1,x2,x3,x4,x5,x6,x7,x8⟩:=gU.out.box w5 nD.out;dsimp only at x0 x1 x2 x3 x4 x5 x6 x7 x8
    by_cases hn:n < 0
    ·go_wp2_with fail;go_ret;exact ⟨by simp [aI];omega,aP.out.trans nD.out⟩
    ·by_cases ht:0 < n
     ·go_wp2_with fail;go_ret;exact ⟨by simp [aI,pz];omega,aP.out.trans nD.out⟩
     ·have hwn:n<=9223372036854775807:=by have:=HW.out;unfold sQ at this;simp only [Lit.wf,IntKind.min,IntKind.max,IntKind.signed,IntKind.bits,Bool.and_eq_true,decide_eq_true_eq,if_true] at this;omega
      go_wp2_with fail
      all_goals
       go_ret;refine ⟨?_,aP.out.trans nD.out⟩;have h1:=Gz.out;have h2:=GH.out;refine congrArg (fun b=>Ending.returned (Value.bool b)) ?_;rw [Bool.eq_iff_iff];simp [aI,fZ,eY,uN,fQ,pz,jD,nK,h1,h2];omega
   ·have hl':(0:Int) < (L.length:Int):=by omega
    have hLE:L.isEmpty=false:=by cases L<;>simp at hl ⊢
    have HLL:=hid hL;clear hL;go_wp2_with fail;refine (HVA.out _ fV.out).mono ?_;rintro e w5 ⟨va,vc,rfl,hq5⟩;go_wp2_with fail;go_ret;have hL:=HLL.out;exact ⟨by simp [aI,eY,uN,hL,hLE],aP.out.trans (fV.out.trans hq5)⟩
end
section
open Go.RowKit Go.Shelf
theorem IZ (k : Int) (hk : k < 1) (nm : ByteArray) (n tk tn : Int) (tp : Fo) (fr en : Int) (w : World) (o1 : Option Addr) (l1 c1 : Nat) (o2 : Option Addr) (l2 c2 : Nat)
    (SC:zf ⟨k,nm,n,tk,tn,tp,fr,en⟩ (w.alloc (.cells (cells9 ⟨k,nm,n,tk,tn,tp,fr,en⟩ o1 l1 c1 o2 l2 c2) 29)) o1 l1 c1 o2 l2 c2 w.heap.size) :
    Calls Tryz.prog 34 #[bI ⟨k,nm,n,tk,tn,tp,fr,en⟩ o1 l1 c1 o2 l2 c2] w fun e w'=>e=.returned (.bool (aI ⟨k,nm,n,tk,tn,tp,fr,en⟩ l2))/\ah w w':=by
 have gU:=hid SC;have e:aI ⟨k,nm,n,tk,tn,tp,fr,en⟩ l2=false:=by
  unfold aI;simp;omega
 rw [e];clear e;have b1:(k == 1)=false:=by simp;omega
 have b2:(k == 2)=false:=by simp;omega
 have b3:(k == 3)=false:=by simp;omega
 have b4:(k == 4)=false:=by simp;omega
 have b5:(k == 5)=false:=by simp;omega
 have b6:(k == 6)=false:=by simp;omega
 have b7:(k == 7)=false:=by simp;omega
 have b8:(k == 8)=false:=by simp;omega
 have b9:(k == 9)=false:=by simp;omega
 have b10:(k == 10)=false:=by simp;omega
 have b3':¬ (3:Int) < k:=by omega
 have HN:Hid (∀ W,Calls Tryz.prog 54 #[.int .i64 k] W fun e w'=>e=.returned (.bool false)/\ah W w'):=by
  have h:=SC.named;have e:fQ k=false:=by unfold fQ;rw [b1,b4,b6,b7];rfl
  dsimp only at h;rw [e] at h;exact h
 obtain ⟨W0,hW0⟩:∃ W0,W0=w.alloc (.cells (cells9 ⟨k,nm,n,tk,tn,tp,fr,en⟩ o1 l1 c1 o2 l2 c2) 29):=⟨_,rfl⟩;have aP:Hid (ah w W0):=by rw [hW0];exact ah.alloc _ _
 clear SC;rw [<-hW0] at gU;unfold bI;go_enter Tryz.func34,Tryz.ntmps34;go_upto_region 1 with fail
 change Code.wp _ _ _ _ (w.alloc (.cells (cells9 ⟨k,nm,n,tk,tn,tp,fr,en⟩ o1 l1 c1 o2 l2 c2) 29));rw [<-hW0];clear hW0;generalize w.heap.size=B at *;obtain ⟨x0,x1,x2,x3,x4,x5,x6,x7,x8⟩:=gU.out.box W0 (ah.refl _);dsimp only at x0 x1 x2 x3 x4 x5 x6 x7 x8;go_quiet (fail);go_wp2_with fail;refine (HN.out _).mono ?_;rintro e w1 ⟨rfl,hq1⟩;have bU:Hid (ah W0 w1):=ah.trans (Fr.drewN _ _ _) hq1;clear x0 x1 x2 x3 x4 x5 x6 x7 x8 hq1;obtain ⟨x0,x1,x2,x3,x4,x5,x6,x7,x8⟩:=gU.out.box w1 bU.out;dsimp only at x0 x1 x2 x3 x4 x5 x6 x7 x8;go_wp2_with fail;refine (HN.out _).mono ?_;rintro e w3 ⟨rfl,hq3⟩;have dU:=hid (bU.out.trans hq3);clear x0 x1 x2 x3 x4 x5 x6 x7 x8 hq3;obtain ⟨x0,x1,x2,x3,x4,x5,x6,x7,x8⟩:=gU.out.box w3 dU.out;dsimp only at x0 x1 x2 x3 x4 x5 x6 x7 x8;cases hA:nm.toList.isEmpty
 ·have e3:nm.toList.isEmpty=false:=hA;go_wp2_with fail;go_ret;exact ⟨rfl,aP.out.trans dU.out⟩
 ·have e3:nm.toList.isEmpty=true:=hA;clear hA;have iK:=hid gU.out.same;cases hT:gG tk tn tp 0 0 .nil
  ·rw [hT] at iK;go_wp2_with fail;refine (iK.out _ dU.out).mono ?_;rintro e w4 ⟨rfl,hq4⟩;go_wp2_with fail;go_ret;exact ⟨rfl,aP.out.trans (dU.out.trans hq4)⟩
  ·rw [hT] at iK;clear hT;go_wp2_with fail;refine (iK.out _ dU.out).mono ?_;rintro e w4 ⟨rfl,hq4⟩;have fV:=hid (dU.out.trans hq4);clear x0 x1 x2 x3 x4 x5 x6 x7 x8 hq4;obtain ⟨x0,x1,x2,x3,x4,x5,x6,x7,x8⟩:=gU.out.box w4 fV.out;dsimp only at x0 x1 x2 x3 x4 x5 x6 x7 x8
   by_cases hn:n < 0
   ·go_wp2_with fail;go_ret;exact ⟨rfl,aP.out.trans fV.out⟩
   ·by_cases ht:0 < n
    ·go_wp2_with fail;go_ret;exact ⟨rfl,aP.out.trans fV.out⟩
    ·go_wp2_with fail;go_ret;exact ⟨rfl,aP.out.trans fV.out⟩
end
section
open Go.RowKit Go.Shelf
theorem I4 (k : Int) (hk : 10 < k) (nm : ByteArray) (n tk tn : Int) (tp : Fo) (fr en : Int) (w : World) (o1 : Option Addr) (l1 c1 : Nat) (o2 : Option Addr) (l2 c2 : Nat)
    (SC:zf ⟨k,nm,n,tk,tn,tp,fr,en⟩ (w.alloc (.cells (cells9 ⟨k,nm,n,tk,tn,tp,fr,en⟩ o1 l1 c1 o2 l2 c2) 29)) o1 l1 c1 o2 l2 c2 w.heap.size) :
    Calls Tryz.prog 34 #[bI ⟨k,nm,n,tk,tn,tp,fr,en⟩ o1 l1 c1 o2 l2 c2] w fun e w'=>e=.returned (.bool (aI ⟨k,nm,n,tk,tn,tp,fr,en⟩ l2))/\ah w w':=by
 have gU:=hid SC;have e:aI ⟨k,nm,n,tk,tn,tp,fr,en⟩ l2=false:=by
  unfold aI;simp;omega
 rw [e];clear e;have b1:(k == 1)=false:=by simp;omega
 have b2:(k == 2)=false:=by simp;omega
 have b3:(k == 3)=false:=by simp;omega
 have b4:(k == 4)=false:=by simp;omega
 have b5:(k == 5)=false:=by simp;omega
 have b6:(k == 6)=false:=by simp;omega
 have b7:(k == 7)=false:=by simp;omega
 have b8:(k == 8)=false:=by simp;omega
 have b9:(k == 9)=false:=by simp;omega
 have b10:(k == 10)=false:=by simp;omega
 have b3':(3:Int) < k:=by omega
 have HN:Hid (∀ W,Calls Tryz.prog 54 #[.int .i64 k] W fun e w'=>e=.returned (.bool false)/\ah W w'):=by
  have h:=SC.named;have e:fQ k=false:=by unfold fQ;rw [b1,b4,b6,b7];rfl
  dsimp only at h;rw [e] at h;exact h
 obtain ⟨W0,hW0⟩:∃ W0,W0=w.alloc (.cells (cells9 ⟨k,nm,n,tk,tn,tp,fr,en⟩ o1 l1 c1 o2 l2 c2) 29):=⟨_,rfl⟩;have aP:Hid (ah w W0):=by rw [hW0];exact ah.alloc _ _
 clear SC;rw [<-hW0] at gU;unfold bI;go_enter Tryz.func34,Tryz.ntmps34;go_upto_region 1 with fail
 change Code.wp _ _ _ _ (w.alloc (.cells (cells9 ⟨k,nm,n,tk,tn,tp,fr,en⟩ o1 l1 c1 o2 l2 c2) 29));rw [<-hW0];clear hW0;generalize w.heap.size=B at *;obtain ⟨x0,x1,x2,x3,x4,x5,x6,x7,x8⟩:=gU.out.box W0 (ah.refl _);dsimp only at x0 x1 x2 x3 x4 x5 x6 x7 x8;go_quiet (fail);go_wp2_with fail;refine (HN.out _).mono ?_;rintro e w1 ⟨rfl,hq1⟩;have bU:Hid (ah W0 w1):=ah.trans (Fr.drewN _ _ _) hq1;clear x0 x1 x2 x3 x4 x5 x6 x7 x8 hq1;obtain ⟨x0,x1,x2,x3,x4,x5,x6,x7,x8⟩:=gU.out.box w1 bU.out;dsimp only at x0 x1 x2 x3 x4 x5 x6 x7 x8;go_wp2_with fail;refine (HN.out _).mono ?_;rintro e w3 ⟨rfl,hq3⟩;have dU:=hid (bU.out.trans hq3);clear x0 x1 x2 x3 x4 x5 x6 x7 x8 hq3;obtain ⟨x0,x1,x2,x3,x4,x5,x6,x7,x8⟩:=gU.out.box w3 dU.out;dsimp only at x0 x1 x2 x3 x4 x5 x6 x7 x8;cases hA:nm.toList.isEmpty
 ·have e3:nm.toList.isEmpty=false:=hA;go_wp2_with fail;go_ret;exact ⟨rfl,aP.out.trans dU.out⟩
 ·have e3:nm.toList.isEmpty=true:=hA;clear hA;have iK:=hid gU.out.same;cases hT:gG tk tn tp 0 0 .nil
  ·rw [hT] at iK;go_wp2_with fail;refine (iK.out _ dU.out).mono ?_;rintro e w4 ⟨rfl,hq4⟩;go_wp2_with fail;go_ret;exact ⟨rfl,aP.out.trans (dU.out.trans hq4)⟩
  ·rw [hT] at iK;clear hT;go_wp2_with fail;refine (iK.out _ dU.out).mono ?_;rintro e w4 ⟨rfl,hq4⟩;have fV:=hid (dU.out.trans hq4);clear x0 x1 x2 x3 x4 x5 x6 x7 x8 hq4;obtain ⟨x0,x1,x2,x3,x4,x5,x6,x7,x8⟩:=gU.out.box w4 fV.out;dsimp only at x0 x1 x2 x3 x4 x5 x6 x7 x8
   by_cases hn:n < 0
   ·go_wp2_with fail;go_ret;exact ⟨rfl,aP.out.trans fV.out⟩
   ·by_cases ht:0 < n
    ·go_wp2_with fail;go_ret;exact ⟨rfl,aP.out.trans fV.out⟩
    ·go_wp2_with fail;go_ret;exact ⟨rfl,aP.out.trans fV.out⟩
end
section
open Go.RowKit Go.Shelf
def I5 (h:Nd):Prop:=h.nm.size<=100000/\h.tp.size<=100000/\sQ h.n
theorem Et (h : Nd) (w : World) (R : Nat -> Prop) (o1 : Option Addr) (l1 c1 : Nat) (o2 : Option Addr) (l2 c2 : Nat) (hs : aB R w o1 l1 h.tp) (hg : I5 h) :
    Calls Tryz.prog 34 #[bI h o1 l1 c1 o2 l2 c2] w fun e w'=>e=.returned (.bool (aI h l2))/\ah w w':=by
 have SC:=Xd h w R o1 l1 c1 o2 l2 c2 hs hg.1 hg.2.1;have hw:=hg.2.2;obtain ⟨k,nm,n,tk,tn,tp,fr,en⟩:=h
 by_cases h1:k < 1
 ·exact IZ k h1 nm n tk tn tp fr en w o1 l1 c1 o2 l2 c2 SC
 ·by_cases h2:10 < k
  ·exact I4 k h2 nm n tk tn tp fr en w o1 l1 c1 o2 l2 c2 SC
  ·have hk:k=1∨k=2∨k=3∨k=4∨k=5∨k=6∨k=7∨k=8∨k=9∨k=10:=by omega
   rcases hk with rfl | rfl | rfl | rfl | rfl | rfl | rfl | rfl | rfl | rfl
   ·exact Le nm n tk tn tp fr en w o1 l1 c1 o2 l2 c2 hw SC
   ·exact Lh nm n tk tn tp fr en w o1 l1 c1 o2 l2 c2 hw SC
   ·exact Lj nm n tk tn tp fr en w o1 l1 c1 o2 l2 c2 hw SC
   ·exact Ll nm n tk tn tp fr en w o1 l1 c1 o2 l2 c2 hw SC
   ·exact Lm nm n tk tn tp fr en w o1 l1 c1 o2 l2 c2 hw SC
   ·exact Lp nm n tk tn tp fr en w o1 l1 c1 o2 l2 c2 hw SC
   ·exact Lr nm n tk tn tp fr en w o1 l1 c1 o2 l2 c2 hw SC
   ·exact Ls nm n tk tn tp fr en w o1 l1 c1 o2 l2 c2 hw SC
   ·exact Lu nm n tk tn tp fr en w o1 l1 c1 o2 l2 c2 hw SC
   ·exact IY nm n tk tn tp fr en w o1 l1 c1 o2 l2 c2 hw SC
abbrev qH (f:To):Bool:=f.flat.all Lc
theorem oO (h:Nd) (ps r:To):qH (.cons h ps r)=((aI h ps.length && qH ps) && qH r):=by
 simp [qH,To.flat,List.all_append,Bool.and_assoc,Lc]
theorem I7 (h:Nd) (ps:To):qH (.cons h ps .nil)=(aI h ps.length && qH ps):=by
 rw [oO];simp [qH,To.flat]
def NH (h:Nd) (ps:To):Prop:=∀ (w:World) (R:Nat->Prop) (o1:Option Addr) (l1 c1:Nat) (o2:Option Addr) (l2 c2:Nat),aB R w o1 l1 h.tp->bD R w o2 l2 ps->I5 h->allT I5 ps ->
 Calls Tryz.prog 13 #[bI h o1 l1 c1 o2 l2 c2] w fun e w'=>e=.returned (.bool (qH (.cons h ps .nil)))/\ah w w'
theorem Eu (h:Nd) (ps:To):NH h ps:=by
 refine To.sG (T:=NH) ?_ h ps;intro h ps ih w R o1 l1 c1 o2 l2 c2 hs1 hs hgh DX;have HS:=hid hs;have IH:=hid ih;have HL:=hid hs.1;have HG:=hid DX;have hmx:=hs.2.1;unfold maxLen at hmx;obtain ⟨W0,hW0⟩:∃ W0,W0=w.alloc (.cells (cells9 h o1 l1 c1 o2 l2 c2) 29):=⟨_,rfl⟩;have HB:Hid (∀ W,ah W0 W->W.cell? ⟨w.heap.size,6,none⟩=some (.slice o2 l2 c2)):=by
  intro W hq;rw [hW0] at hq;exact (IQ w h o1 l1 c1 o2 l2 c2 _ W hq).2.2.2.2.2.2.1
 have hq0:ah w W0:=by rw [hW0];exact ah.alloc _ _
 have aP:=hid hq0;have HSO:=hid (Et h W0 R o1 l1 c1 o2 l2 c2 (hs1.stay hq0) hgh);obtain ⟨res,hres⟩:∃ res,res=qH (.cons h ps .nil):=⟨_,rfl⟩;have aQ:Hid (res=(aI h l2 && qH ps)):=by show _=_;rw [hres,I7,HL.out]
 rw [<-hres];clear hs1 hs ih hgh DX hres hq0;unfold bI at HSO ⊢;go_enter Tryz.func13,Tryz.ntmps13;go_wp2_with fail;change Calls _ _ _ (w.alloc (.cells (cells9 h o1 l1 c1 o2 l2 c2) 29)) _;rw [<-hW0];clear hW0;generalize w.heap.size=nb at *;cases hb:aI h l2
 ·have HR0:Hid (res=false):=by show _=_;rw [aQ.out,hb];rfl
  rw [hb] at HSO;clear hb;refine HSO.out.mono ?_;rintro e w1 ⟨rfl,hq1⟩;go_wp2_with fail;go_ret;exact ⟨by rw [HR0.out];rfl,aP.out.trans hq1⟩
 ·have HR0:Hid (res=qH ps):=by show _=_;rw [aQ.out,hb];rfl
  rw [hb] at HSO;clear hb;refine HSO.out.mono ?_;rintro e w1 ⟨rfl,hq1⟩;have bU:=hid hq1;clear hq1;go_wp2_with fail;go_loopw [3] (fun t wr=>∃ (i:Nat),t=.int .i64 i/\i<=l2/\res=qH (ps.drop i)/\ah W0 wr) (fun t _=>l2-(intOf t).toNat)
  case atStart=>exact ⟨0,rfl,Nat.zero_le _,by rw [To.drop_zero];exact HR0.out,bU.out⟩
  case round =>
   obtain ⟨i,rfl,hi,hr,hq⟩:=hrel;have HR:=hid hr;have HQ:=hid hq;have cc:=HB.out wr hq;clear hr hq
   by_cases hlt:i < l2
   ·have hlt':(i:Int) < l2:=by omega
    obtain ⟨b,off,hd,qs,p1,m1,d1,p2,m2,d2,rfl,hd1,hg,hRb,⟨e0,e1,e2,e3,e4,e5,e6,e7,e8⟩,hs1,ht1⟩:=(HS.out.stay (aP.out.trans HQ.out)).nth hlt;have hgg:=xX ps i hd qs HG.out hg;have HC:=hid (IH.out i hd qs hg wr R p1 m1 d1 p2 m2 d2 hs1 ht1 hgg.1 hgg.2);have HN:Hid (res=(qH (.cons hd qs .nil) && qH (ps.drop (i+1)))):=by
     show _=_
     rw [HR.out,hd1,oO,I7]
    unfold bI at HC;clear hd1 hg hs1 ht1 hRb hgg;cases hb:qH (.cons hd qs .nil)
    ·have HF:Hid (res=false):=by show _=_;rw [HN.out,hb];rfl
     rw [hb] at HC;clear hb;go_wp2_with fail;refine HC.out.mono ?_;rintro e w2 ⟨rfl,hq2⟩;go_wp2_with fail;go_ret;exact ⟨by rw [HF.out];rfl,aP.out.trans (HQ.out.trans hq2)⟩
    ·have HF:Hid (res=qH (ps.drop (i+1))):=by show _=_;rw [HN.out,hb];rfl
     rw [hb] at HC;clear hb;go_wp2_with fail;refine HC.out.mono ?_;rintro e w2 ⟨rfl,hq2⟩;have eF:=hid (HQ.out.trans hq2);clear hq2;go_wp2_with fail;go_roundw
     case rel=>exact ⟨i+1,by go_num,by omega,HF.out,eF.out⟩
     case measure=>simp [intOf];omega
   ·have hlt':¬ (i:Int) < l2:=by omega
    have HY:Hid (res=true):=by
     show _=_
     rw [HR.out,To.drop_end ps i (by have:=HL.out;omega)];rfl
    go_wp2_with fail;go_ret;exact ⟨by rw [HY.out];rfl,aP.out.trans HQ.out⟩
end
section
open Go.RowKit
def zh (h:Nd):Bool:=decide (60 < h.nm.size) || zi h.tp
namespace To
def room:Nat->Int->To->Int
 | _,m,nil=>m
 | d, m, cons h ps r => if m < 0 then m else
     match d with
     | 0=>room 0 (-1) r
     | d+1=>room (d+1) (if zh h then -1 else room d (m-1) ps) r
theorem fU:∀ (f:To) (d:Nat) (m:Int),m < 0->room d m f=m
 | nil,_,_,_=>by unfold room;rfl
 | cons h ps r,d,m,e=>by unfold room;rw [if_pos e]
theorem room_le:∀ (f:To) (d:Nat) (m:Int),0<=m->room d m f<=m/\-1<=room d m f
 | nil,_,_,_=>by unfold room;omega
 | cons h ps r,d,m,e=>by
  unfold room;rw [if_neg (by omega)];cases d with
  | zero=>simp only;rw [fU r 0 (-1) (by omega)];omega
  | succ d =>
   simp only;cases hb:zh h
   ·simp only [Bool.false_eq_true,if_false]
    by_cases hm:0<=m-1
    ·have h1:=room_le ps d (m-1) hm
     by_cases h0:0<=room d (m-1) ps
     ·have h2:=room_le r (d+1) _ h0;omega
     ·rw [fU r _ _ (by omega)];omega
    ·rw [fU ps _ _ (by omega),fU r _ _ (by omega)];omega
   ·simp only [if_true];rw [fU r _ _ (by omega)];omega
theorem BN:∀ (f:To) (d:Nat) (m:Int),0<=room d m f->room d m f=m-f.size/\0<=m/\f.depth<=d/\allT (fun h=>zh h=false) f
 | nil,_,m,h=>by unfold room at h ⊢;simp [size,depth,allT];exact h
 | cons h ps r,d,m,e=>by
  unfold room at e ⊢
  by_cases hm:m < 0
  ·rw [if_pos hm] at e;omega
  ·rw [if_neg hm] at e ⊢;cases d with
   | zero=>simp only at e;rw [fU r 0 (-1) (by omega)] at e;omega
   | succ d =>
    simp only at e ⊢;obtain ⟨h1,h2,h3,h4⟩:=BN r (d+1) _ e;cases hb:zh h
    ·rw [hb] at h1 h2 e;simp only [Bool.false_eq_true,if_false] at h1 h2 e ⊢;obtain ⟨g1,g2,g3,g4⟩:=BN ps d (m-1) h2;rw [h1,g1];refine ⟨by simp only [size];omega,by omega,by simp only [depth];omega,hb,g4,h4⟩
    ·rw [hb] at h2;simp at h2
end To
def gK (d:Nat) (m:Int) (h:Nd) (ps:To):Int:=if d=0 then -1 else if zh h then -1 else To.room (d-1) (m-1) ps
theorem Pq (d:Nat) (m:Int) (h:Nd) (ps r:To) (hm:0<=m):To.room d m (.cons h ps r)=To.room d (gK d m h ps) r:=by
 conv=>lhs;unfold To.room
 rw [if_neg (by omega)];unfold gK;cases d with
 | zero=>rfl
 | succ d=>rfl
theorem LC (d:Nat) (m:Int) (h:Nd) (ps:To) (hm:0<=m):-1<=gK d m h ps/\gK d m h ps<=m:=by
 unfold gK
 split
 ·omega
 ·split
  ·omega
  ·by_cases h1:0<=m-1
   ·have:=To.room_le ps (d-1) (m-1) h1;omega
   ·rw [To.fU _ _ _ (by omega)];omega
def Tf (h:Nd) (ps:To):Prop:=∀ (w:World) (R:Nat->Prop) (o1:Option Addr) (l1 c1:Nat) (o2:Option Addr) (l2 c2:Nat) (d:Nat) (m:Int) (di:Int),di=d->aB R w o1 l1 h.tp->bD R w o2 l2 ps->h.nm.size<=9223372036854775807->allT (fun h=>h.nm.size<=9223372036854775807) ps->0<=m->m<=100000->d<=100000 ->
 Calls Tryz.prog 46 #[bI h o1 l1 c1 o2 l2 c2,.int .i64 m,.int .i64 di] w fun e w'=>e=.returned (.int .i64 (gK d m h ps))/\ah w w'
theorem Pv (h:Nd) (ps:To):Tf h ps:=by
 refine To.sG (T:=Tf) ?_ h ps;intro h ps ih w R o1 l1 c1 o2 l2 c2 d m di ed hs1 hs hnm Ti hm0 hm1 hd1;subst ed;have HG:=hid (fun (W:World) (hq:ah w W)=>Px h.tk h.tn h.tp W o1 l1 c1 (hs1.slc.stay hq));have HS:=hid hs;have IH:=hid ih;have HL:=hid hs.1;have xA:=hid Ti;have hmx:=hs.2.1;unfold maxLen at hmx;unfold dZ at HG;clear hs ih Ti
 by_cases hd0:d=0
 ·subst hd0;unfold bI gK;go_enter Tryz.func46,Tryz.ntmps46;go_wp2_with fail;go_ret;exact ⟨rfl,ah.alloc _ _⟩
 ·obtain ⟨D,hD⟩:∃ D,D=d-1:=⟨_,rfl⟩;have acL:((d:Int) == 0)=false:=by simp;omega
  have hdD:d=D+1:=by omega
  by_cases h60:60 < h.nm.size
  ·have acM:(60:Int) < (h.nm.size:Int):=by omega
   have HF:Hid (gK d m h ps=-1):=by show _=_;unfold gK zh;rw [if_neg hd0];simp [h60]
   rw [HF.out];clear hd0 hD;unfold bI;go_enter Tryz.func46,Tryz.ntmps46;go_wp2_with fail;go_ret;exact ⟨rfl,ah.alloc _ _⟩
  ·have acM:¬ (60:Int) < (h.nm.size:Int):=by omega
   cases hg:zi h.tp
   ·obtain ⟨res,hres⟩:∃ res,res=To.room D (m-1) ps:=⟨_,rfl⟩;have aQ:=hid hres;have HF:Hid (gK d m h ps=res):=by show _=_;unfold gK zh;rw [if_neg hd0,hres,hg,<-hD];simp [h60]
    rw [HF.out];rw [hg] at HG;have OG:=hid hdD;have hD1:D<=100000:=by omega
    have acN:1<=d:=by omega
    clear hres hd0 hD hdD hg h60;obtain ⟨W0,hW0⟩:∃ W0,W0=w.alloc (.cells (cells9 h o1 l1 c1 o2 l2 c2) 29):=⟨_,rfl⟩;have HB:Hid (∀ W,ah W0 W->W.cell? ⟨w.heap.size,6,none⟩=some (.slice o2 l2 c2)):=by
     intro W hq;rw [hW0] at hq;exact (IQ w h o1 l1 c1 o2 l2 c2 _ W hq).2.2.2.2.2.2.1
    have aP:Hid (ah w W0):=by rw [hW0];exact ah.alloc _ _
    unfold bI;go_enter Tryz.func46,Tryz.ntmps46;go_wp2_with fail;change Calls _ _ _ (w.alloc (.cells (cells9 h o1 l1 c1 o2 l2 c2) 29)) _;rw [<-hW0];refine (HG.out _ aP.out).mono ?_;rintro e w1 ⟨rfl,hq1⟩;have bU:=hid hq1;clear hW0 hq1;go_wp2_with fail;generalize w.heap.size=nb at *;go_loopw [1,7] (fun s t wr=>∃ (i:Nat) (x:Int),t=.int .i64 i/\s=.int .i64 x/\i<=l2/\-1<=x/\x<=100000/\res=To.room D x (ps.drop i)/\ah W0 wr) (fun _ t _=>l2-(intOf t).toNat)
    case atStart=>exact ⟨0,m-1,rfl,rfl,Nat.zero_le _,by omega,by omega,by rw [To.drop_zero];exact aQ.out,bU.out⟩
    case round =>
     obtain ⟨i,x,rfl,rfl,hi,hx0,hx1,hr,hq⟩:=hrel;have HR:=hid hr;have HQ:=hid hq;have g2:=HB.out wr hq;clear hr hq
     by_cases hlt:i < l2
     ·have hlt':(i:Int) < l2:=by omega
      by_cases hx:0<=x
      ·obtain ⟨b,off,hd,qs,p1,m1,d1,p2,m2,d2,rfl,hdr,hg,hRb,⟨e0,e1,e2,e3,e4,e5,e6,e7,e8⟩,hsl,ht1⟩:=(HS.out.stay (aP.out.trans HQ.out)).nth hlt;have hna:=xX ps i hd qs xA.out hg;have HC:=hid (IH.out i hd qs hg wr R p1 m1 d1 p2 m2 d2 D x ((d:Int)-1) (by have:=OG.out;omega) hsl ht1 hna.1 hna.2 hx hx1 hD1);obtain ⟨y,hy⟩:∃ y,y=gK D x hd qs:=⟨_,rfl⟩;have hyb:-1<=y/\y<=100000:=by have:=LC D x hd qs hx;omega
       have HY:Hid (res=To.room D y (ps.drop (i+1))):=by
        show _=_
        rw [HR.out,hdr,hy,Pq _ _ _ _ _ hx]
       rw [<-hy] at HC;unfold bI at HC;clear hdr hg hsl ht1 hy hRb hna;go_wp2_with fail;refine HC.out.mono ?_;rintro e w1 ⟨rfl,hq1⟩;have bU:=hid (HQ.out.trans hq1);clear hq1;go_wp2_with fail;go_roundw
       case rel=>exact ⟨i+1,y,by go_num,rfl,by omega,hyb.1,hyb.2,HY.out,bU.out⟩
       case measure=>simp [intOf];omega
      ·have hx':x < 0:=by omega
       have HY:Hid (res=x):=by show _=_;rw [HR.out];exact To.fU _ _ _ hx'
       go_wp2_with fail;go_ret;exact ⟨by rw [HY.out];rfl,aP.out.trans HQ.out⟩
     ·have hlt':¬ (i:Int) < l2:=by omega
      have HY:Hid (res=x):=by
       show _=_
       rw [HR.out,To.drop_end ps i (by have:=HL.out;omega)];unfold To.room;rfl
      go_wp2_with fail;go_ret;exact ⟨by rw [HY.out];rfl,aP.out.trans HQ.out⟩
   ·have HF:Hid (gK d m h ps=-1):=by show _=_;unfold gK zh;rw [if_neg hd0,hg];simp
    rw [HF.out];rw [hg] at HG;clear hd0 hD hg h60;unfold bI;go_enter Tryz.func46,Tryz.ntmps46;go_wp2_with fail;refine (HG.out _ (ah.alloc _ _)).mono ?_;rintro e w1 ⟨rfl,hq1⟩;go_wp2_with fail;go_ret;exact ⟨rfl,(ah.alloc _ _).trans hq1⟩
def kF (h:Nd) (ps:To):Bool:=decide (gK 60 200 h ps < 0)
theorem LD {h:Nd} {ps:To} (e:kF h ps=false):zh h=false/\allT (fun h=>zh h=false) ps/\ps.size+1<=200/\ps.depth+1<=60:=by
 unfold kF at e;have h0:0<=gK 60 200 h ps:=by simpa using e
 unfold gK at h0;rw [if_neg (by omega)] at h0;cases hb:zh h
 ·rw [hb] at h0;simp only [Bool.false_eq_true,if_false] at h0;obtain ⟨h1,h2,h3,h4⟩:=To.BN ps _ _ h0;exact ⟨rfl,h4,by omega,by omega⟩
 ·rw [hb] at h0;simp at h0
theorem NI {h:Nd} (e:zh h=false):h.nm.size<=60/\h.tp.size+1<=300:=by
 unfold zh at e;rw [Bool.or_eq_false_iff] at e;exact ⟨by simpa using e.1,LG e.2⟩
theorem I8 (h : Nd) (ps : To) (w : World) (R : Nat -> Prop) (o1 : Option Addr) (l1 c1 : Nat) (o2 : Option Addr) (l2 c2 : Nat) (hs1 : aB R w o1 l1 h.tp) (hs : bD R w o2 l2 ps) (hnm : h.nm.size <= 9223372036854775807) (Ti : allT (fun h => h.nm.size <= 9223372036854775807) ps) :
    Calls Tryz.prog 24 #[bI h o1 l1 c1 o2 l2 c2] w fun e w'=>e=.returned (.bool (kF h ps))/\ah w w':=by
 have HC:=hid (fun (W:World) (hq:ah w W)=>Pv h ps W R o1 l1 c1 o2 l2 c2 60 200 60 rfl (hs1.stay hq) (hs.stay hq) hnm Ti (by omega) (by omega) (by omega));unfold kF;generalize gK 60 200 h ps=r at *;clear hs1 hs hnm Ti;unfold bI at *;go_enter Tryz.func24,Tryz.ntmps24;go_wp2_with fail;refine (HC.out _ (ah.alloc _ _)).mono ?_;rintro e w1 ⟨rfl,hq⟩;go_wp2_with fail;go_ret;exact ⟨rfl,(ah.alloc _ _).trans hq⟩
end
end Go.Proofs.YtcninopmelmajaaGreatDoor
