/-
  Texts laid together (TyRight2, TyChange, TyArrow): laws and walks, with their conditions.
-/
import Derived.Shelf.Abstract
import Derived.Handy
import Derived.Test.YtcninopmelmajaaGreatDoorOF8
set_option maxHeartbeats 8000000
set_option maxRecDepth 1000000
namespace Go.Proofs.YtcninopmelmajaaGreatDoor
open Go.Lib (hid)
section
open Go.RowKit Go.Shelf
theorem VY:∀ args w,(callFunc 113 args).run Tryz.prog w=.ok (.enter 113 args) w:=enters_of Tryz.func113 (by kernel_rfl) rfl
def Nh (k n:Int) (ps:Fo):Prop:=∀ (w:World) (o:Option Addr) (len cap:Nat),kT w o len ps ->
 Calls Tryz.prog 88 #[dZ k n o len cap] w fun e w'=>e=.returned (.bool (iI k n ps))/\ah w w'
theorem QT (k n : Int) (ps : Fo) (h : Nh k n ps) (w : World) (o : Option Addr) (len cap : Nat) (hs : kT w o len ps) :
    Calls Tryz.prog 113 #[dZ k n o len cap] w fun e w'=>e=.returned (.bool (!iI k n ps))/\ah w w':=by
 have HC:=hid (fun (W:World) (hq:ah w W)=>h W o len cap (hs.stay hq));clear h hs;generalize iI k n ps=r at *;unfold dZ at *;go_enter Tryz.func113,Tryz.ntmps113;go_wp2_with fail;refine (HC.out _ (ah.alloc _ _)).mono ?_;rintro e w1 ⟨rfl,hq⟩;go_wp2_with fail;go_ret;exact ⟨rfl,(ah.alloc _ _).trans hq⟩
theorem Pj (k n:Int) (ps:Fo):Nh k n ps:=by
 refine Fo.sG (T:=Nh) ?_ k n ps;intro k n ps ih w o len cap hs;have hl:=hs.1;have HP:=hid (QS k n len o cap);have HC:Hid (∀ W,ah w W->Calls Tryz.prog 112 #[.slice o len cap,.func (.func 113) #[] #[]] W fun e w'=>e=.returned (.bool (!ps.right))/\ah W w'):=by
  intro W hq;have:=zO 113 #[] (fun k n ps=>!iI k n ps) VY ps o len cap W (hs.stay hq) (fun i k1 n1 qs hg W1 o1 len1 cap1 _ hs1=>QT k1 n1 qs (ih i k1 n1 qs hg) W1 o1 len1 cap1 hs1);rw [wz] at this;exact this
 have HR:Hid (iI k n ps=(Fo.plain k n len && ps.right)):=by show _=_;unfold iI;rw [hl]
 rw [HR.out];clear hs ih hl HR;cases hp:Fo.plain k n len
 ·have HPV:=hid hp;rw [hp] at HP;clear hp;unfold dZ at *;go_enter Tryz.func88,Tryz.ntmps88;go_wp2_with fail;refine (HP.out _).mono ?_;rintro e w1 ⟨rfl,hq⟩;go_wp2_with fail;go_ret;exact ⟨rfl,(ah.alloc _ _).trans hq⟩
 ·have HPV:=hid hp;rw [hp] at HP;clear hp;generalize ps.right=r at *;unfold dZ at *;go_enter Tryz.func88,Tryz.ntmps88;go_wp2_with fail;refine (HP.out _).mono ?_;rintro e w1 ⟨rfl,hq⟩;have HQ:=hid ((ah.alloc w (.cells #[.int .i64 k,.int .i64 n,.slice o len cap] 24)).trans hq);have c2:=(fF w k n o len cap 24 w1 hq).2.2;clear hq;go_wp2_with fail;refine (HC.out _ HQ.out).mono ?_;rintro e w2 ⟨rfl,hq2⟩;go_wp2_with fail;go_ret;exact ⟨by simp,HQ.out.trans hq2⟩
def VZ (k n:Int) (ps:Fo):Prop:=∀ (w:World) (o:Option Addr) (len cap:Nat),kT w o len ps ->
 Calls Tryz.prog 56 #[dZ k n o len cap] w fun e w'=>e=.returned (.bool (iI k n ps))/\ah w w'
theorem QU {k n:Int} {m:Nat} (h:Fo.plain k n m=false):(k=1/\(n < 0∨1073741824<=n∨0 < m))∨(k≠1/\n≠0)∨(n=0/\(k=2∨k=3)/\0 < m)∨(n=0/\k=4/\m≠2)∨(n=0/\k=5/\(m < 2∨8 < m))∨(n=0/\(k < 1∨5 < k)):=by
 unfold Fo.plain at h
 by_cases k1:k=1
 ·subst k1;simp at h;omega
 by_cases hn:n=0
 ·subst hn
  by_cases k2:k=2
  ·subst k2;simp at h;omega
  by_cases k3:k=3
  ·subst k3;simp at h;omega
  by_cases k4:k=4
  ·subst k4;simp at h;omega
  by_cases k5:k=5
  ·subst k5;simp at h;omega
  omega
 ·omega
theorem V3 {k n:Int} {m:Nat} (h:Fo.plain k n m=true):(k=1/\0<=n/\n < 1073741824/\m=0)∨(n=0/\k=2/\m=0)∨(n=0/\k=3/\m=0)∨(n=0/\k=4/\m=2)∨(n=0/\k=5/\2<=m/\m<=8):=by
 unfold Fo.plain at h
 by_cases k1:k=1
 ·subst k1;simp at h;omega
 by_cases k2:k=2
 ·subst k2;simp at h;omega
 by_cases k3:k=3
 ·subst k3;simp at h;omega
 by_cases k4:k=4
 ·subst k4;simp at h;omega
 by_cases k5:k=5
 ·subst k5;simp at h;omega
 ·simp [k1,k2,k3,k4,k5] at h
theorem Gy (k n:Int) (ps:Fo):VZ k n ps:=by
 refine Fo.sG (T:=VZ) ?_ k n ps;intro k n ps ih w o len cap hs;have HS:=hid hs;have IH:=hid ih;have HL:=hid hs.1;have hmx:=hs.2.1;unfold maxLen at hmx;have HR:Hid (iI k n ps=(Fo.plain k n len && ps.right)):=by show _=_;unfold iI;rw [hs.1]
 rw [HR.out];clear hs ih HR;cases hp:Fo.plain k n len
 ·simp only [Bool.false_and];have hw:=QU hp;clear hp HS IH HL;unfold dZ;rcases hw with ⟨rfl,h | h | h⟩ | ⟨h1,h2⟩ | ⟨rfl,rfl | rfl,h⟩ | ⟨rfl,rfl,h⟩ | ⟨rfl,rfl,h | h⟩ | ⟨rfl,h | h⟩
  ·go_enter Tryz.func56,Tryz.ntmps56;go_wp2_with fail
   all_goals
    go_ret;exact ⟨rfl,ah.alloc _ _⟩
  ·go_enter Tryz.func56,Tryz.ntmps56;go_wp2_with fail
   all_goals
    go_ret;exact ⟨rfl,ah.alloc _ _⟩
  ·have h':(0:Int) < (len:Int):=by omega
   go_enter Tryz.func56,Tryz.ntmps56;go_wp2_with fail
   all_goals
    go_ret;exact ⟨rfl,ah.alloc _ _⟩
  ·have b1:(k == 1)=false:=by simpa using h1
   have b2:(k != 1)=true:=by simpa using h1
   have b3:(n != 0)=true:=by simpa using h2
   clear h1 h2;go_enter Tryz.func56,Tryz.ntmps56;go_wp2_with fail
   all_goals
    go_ret;exact ⟨rfl,ah.alloc _ _⟩
  ·have h':(0:Int) < (len:Int):=by omega
   go_enter Tryz.func56,Tryz.ntmps56;go_wp2_with fail
   all_goals
    go_ret;exact ⟨rfl,ah.alloc _ _⟩
  ·have h':(0:Int) < (len:Int):=by omega
   go_enter Tryz.func56,Tryz.ntmps56;go_wp2_with fail
   all_goals
    go_ret;exact ⟨rfl,ah.alloc _ _⟩
  ·have h':((len:Int) != 2)=true:=by simp;omega
   go_enter Tryz.func56,Tryz.ntmps56;go_wp2_with fail
   all_goals
    go_ret;exact ⟨rfl,ah.alloc _ _⟩
  ·have h':(len:Int) < 2:=by omega
   go_enter Tryz.func56,Tryz.ntmps56;go_wp2_with fail
   all_goals
    go_ret;exact ⟨rfl,ah.alloc _ _⟩
  ·have h':(8:Int) < (len:Int):=by omega
   have h2:¬ (len:Int) < 2:=by omega
   go_enter Tryz.func56,Tryz.ntmps56;go_wp2_with fail
   all_goals
    go_ret;exact ⟨rfl,ah.alloc _ _⟩
  ·have b1:(k == 1)=false:=by simp;omega
   have b1':(k != 1)=true:=by simp;omega
   have b2:(k == 2)=false:=by simp;omega
   have b3:(k == 3)=false:=by simp;omega
   have b4:(k == 4)=false:=by simp;omega
   have b5:(k == 5)=false:=by simp;omega
   go_enter Tryz.func56,Tryz.ntmps56;go_wp2_with fail
   all_goals
    go_ret;exact ⟨rfl,ah.alloc _ _⟩
  ·have b1:(k == 1)=false:=by simp;omega
   have b1':(k != 1)=true:=by simp;omega
   have b2:(k == 2)=false:=by simp;omega
   have b3:(k == 3)=false:=by simp;omega
   have b4:(k == 4)=false:=by simp;omega
   have b5:(k == 5)=false:=by simp;omega
   have h':¬ k < 1:=by omega
   go_enter Tryz.func56,Tryz.ntmps56;go_wp2_with fail
   all_goals
    go_ret;exact ⟨rfl,ah.alloc _ _⟩
 ·simp only [Bool.true_and];obtain ⟨res,hres⟩:∃ res,res=ps.right:=⟨_,rfl⟩;have aQ:=hid hres;rw [<-hres];have hw:=V3 hp;clear hp hres;rcases hw with ⟨rfl,h1,h2,h3⟩ | ⟨rfl,rfl,h3⟩ | ⟨rfl,rfl,h3⟩ | ⟨rfl,rfl,h3⟩ | ⟨rfl,rfl,h3,h4⟩
  ·have h3':¬ (0:Int) < (len:Int):=by omega
   clear h3;unfold dZ;obtain ⟨W0,hW0⟩:∃ W0,W0=w.alloc (.cells #[.int .i64 1,.int .i64 n,.slice o len cap] 24):=⟨_,rfl⟩;have HB:Hid (∀ W,ah W0 W->W.cell? ⟨w.heap.size,2,none⟩=some (.slice o len cap)):=by
    intro W hq;rw [hW0] at hq;exact (fF w _ _ o len cap _ W hq).2.2
   have aP:Hid (ah w W0):=by rw [hW0];exact ah.alloc _ _
   go_enter Tryz.func56,Tryz.ntmps56;go_wp2_with fail;change Code.wp _ _ _ _ (w.alloc (.cells #[.int .i64 1,.int .i64 n,.slice o len cap] 24));rw [<-hW0];clear hW0;generalize w.heap.size=nb at *;go_loopw [4] (fun t wr=>∃ i:Nat,t=.int .i64 i/\i<=len/\res=(ps.drop i).right/\ah W0 wr) (fun t _=>len-(intOf t).toNat)
   case atStart=>exact ⟨0,rfl,Nat.zero_le _,by rw [Fo.drop_zero];exact aQ.out,ah.refl _⟩
   case round =>
    obtain ⟨i,rfl,hi,hr,hq⟩:=hrel;have HRR:=hid hr;have HQ:=hid hq;have c2:=HB.out wr hq;clear hr hq
    by_cases hlt:i < len
    ·exact absurd hlt (by omega)
    ·have hlt':¬ (i:Int) < len:=by omega
     go_wp2_with fail;go_ret;exact ⟨by rw [HRR.out,Fo.drop_end ps i (by have:=HL.out;omega)];rfl,aP.out.trans HQ.out⟩
  ·have h3':¬ (0:Int) < (len:Int):=by omega
   clear h3;unfold dZ;obtain ⟨W0,hW0⟩:∃ W0,W0=w.alloc (.cells #[.int .i64 2,.int .i64 0,.slice o len cap] 24):=⟨_,rfl⟩;have HB:Hid (∀ W,ah W0 W->W.cell? ⟨w.heap.size,2,none⟩=some (.slice o len cap)):=by
    intro W hq;rw [hW0] at hq;exact (fF w _ _ o len cap _ W hq).2.2
   have aP:Hid (ah w W0):=by rw [hW0];exact ah.alloc _ _
   go_enter Tryz.func56,Tryz.ntmps56;go_wp2_with fail;change Code.wp _ _ _ _ (w.alloc (.cells #[.int .i64 2,.int .i64 0,.slice o len cap] 24));rw [<-hW0];clear hW0;generalize w.heap.size=nb at *;go_loopw [4] (fun t wr=>∃ i:Nat,t=.int .i64 i/\i<=len/\res=(ps.drop i).right/\ah W0 wr) (fun t _=>len-(intOf t).toNat)
   case atStart=>exact ⟨0,rfl,Nat.zero_le _,by rw [Fo.drop_zero];exact aQ.out,ah.refl _⟩
   case round =>
    obtain ⟨i,rfl,hi,hr,hq⟩:=hrel;have HRR:=hid hr;have HQ:=hid hq;have c2:=HB.out wr hq;clear hr hq
    by_cases hlt:i < len
    ·exact absurd hlt (by omega)
    ·have hlt':¬ (i:Int) < len:=by omega
     go_wp2_with fail;go_ret;exact ⟨by rw [HRR.out,Fo.drop_end ps i (by have:=HL.out;omega)];rfl,aP.out.trans HQ.out⟩
  ·have h3':¬ (0:Int) < (len:Int):=by omega
   clear h3;unfold dZ;obtain ⟨W0,hW0⟩:∃ W0,W0=w.alloc (.cells #[.int .i64 3,.int .i64 0,.slice o len cap] 24):=⟨_,rfl⟩;have HB:Hid (∀ W,ah W0 W->W.cell? ⟨w.heap.size,2,none⟩=some (.slice o len cap)):=by
    intro W hq;rw [hW0] at hq;exact (fF w _ _ o len cap _ W hq).2.2
   have aP:Hid (ah w W0):=by rw [hW0];exact ah.alloc _ _
   go_enter Tryz.func56,Tryz.ntmps56;go_wp2_with fail;change Code.wp _ _ _ _ (w.alloc (.cells #[.int .i64 3,.int .i64 0,.slice o len cap] 24));rw [<-hW0];clear hW0;generalize w.heap.size=nb at *;go_loopw [4] (fun t wr=>∃ i:Nat,t=.int .i64 i/\i<=len/\res=(ps.drop i).right/\ah W0 wr) (fun t _=>len-(intOf t).toNat)
   case atStart=>exact ⟨0,rfl,Nat.zero_le _,by rw [Fo.drop_zero];exact aQ.out,ah.refl _⟩
   case round =>
    obtain ⟨i,rfl,hi,hr,hq⟩:=hrel;have HRR:=hid hr;have HQ:=hid hq;have c2:=HB.out wr hq;clear hr hq
    by_cases hlt:i < len
    ·exact absurd hlt (by omega)
    ·have hlt':¬ (i:Int) < len:=by omega
     go_wp2_with fail;go_ret;exact ⟨by rw [HRR.out,Fo.drop_end ps i (by have:=HL.out;omega)];rfl,aP.out.trans HQ.out⟩
  ·have h3':((len:Int) != 2)=false:=by simp;omega
   clear h3;unfold dZ;obtain ⟨W0,hW0⟩:∃ W0,W0=w.alloc (.cells #[.int .i64 4,.int .i64 0,.slice o len cap] 24):=⟨_,rfl⟩;have HB:Hid (∀ W,ah W0 W->W.cell? ⟨w.heap.size,2,none⟩=some (.slice o len cap)):=by
    intro W hq;rw [hW0] at hq;exact (fF w _ _ o len cap _ W hq).2.2
   have aP:Hid (ah w W0):=by rw [hW0];exact ah.alloc _ _
   go_enter Tryz.func56,Tryz.ntmps56;go_wp2_with fail;change Code.wp _ _ _ _ (w.alloc (.cells #[.int .i64 4,.int .i64 0,.slice o len cap] 24));rw [<-hW0];clear hW0;generalize w.heap.size=nb at *;go_loopw [4] (fun t wr=>∃ i:Nat,t=.int .i64 i/\i<=len/\res=(ps.drop i).right/\ah W0 wr) (fun t _=>len-(intOf t).toNat)
   case atStart=>exact ⟨0,rfl,Nat.zero_le _,by rw [Fo.drop_zero];exact aQ.out,ah.refl _⟩
   case round =>
    obtain ⟨i,rfl,hi,hr,hq⟩:=hrel;have HRR:=hid hr;have HQ:=hid hq;have c2:=HB.out wr hq;clear hr hq
    by_cases hlt:i < len
    ·have hlt':(i:Int) < len:=by omega
     obtain ⟨b,off,k1,n1,qs,o1,len1,cap1,rfl,hd,hg,e0,e1,e2,hs1⟩:=(HS.out.stay (aP.out.trans HQ.out)).nth hlt;have HD:=hid hd;have HC:=hid (IH.out i k1 n1 qs hg wr o1 len1 cap1 hs1);unfold dZ at HC;clear hd hg hs1;cases hb:iI k1 n1 qs
     all_goals
      have KD:=hid hb;rw [hb] at HC;clear hb;go_wp2_with fail;refine HC.out.mono ?_;rintro e w1 ⟨rfl,hq1⟩;have bU:=hid (HQ.out.trans hq1);clear hq1;go_wp2_with fail
     ·go_ret;exact ⟨by rw [HRR.out,HD.out,qo,KD.out];rfl,aP.out.trans bU.out⟩
     ·go_roundw
      case rel=>exact ⟨i+1,by go_num,by omega,by rw [HRR.out,HD.out,qo,KD.out];rfl,bU.out⟩
      case measure=>simp [intOf];omega
    ·have hlt':¬ (i:Int) < len:=by omega
     go_wp2_with fail;go_ret;exact ⟨by rw [HRR.out,Fo.drop_end ps i (by have:=HL.out;omega)];rfl,aP.out.trans HQ.out⟩
  ·have h3':¬ (len:Int) < 2:=by omega
   have h4':¬ (8:Int) < (len:Int):=by omega
   unfold dZ;obtain ⟨W0,hW0⟩:∃ W0,W0=w.alloc (.cells #[.int .i64 5,.int .i64 0,.slice o len cap] 24):=⟨_,rfl⟩;have HB:Hid (∀ W,ah W0 W->W.cell? ⟨w.heap.size,2,none⟩=some (.slice o len cap)):=by
    intro W hq;rw [hW0] at hq;exact (fF w _ _ o len cap _ W hq).2.2
   have aP:Hid (ah w W0):=by rw [hW0];exact ah.alloc _ _
   go_enter Tryz.func56,Tryz.ntmps56;go_wp2_with fail;change Code.wp _ _ _ _ (w.alloc (.cells #[.int .i64 5,.int .i64 0,.slice o len cap] 24));rw [<-hW0];clear hW0;generalize w.heap.size=nb at *;go_loopw [4] (fun t wr=>∃ i:Nat,t=.int .i64 i/\i<=len/\res=(ps.drop i).right/\ah W0 wr) (fun t _=>len-(intOf t).toNat)
   case atStart=>exact ⟨0,rfl,Nat.zero_le _,by rw [Fo.drop_zero];exact aQ.out,ah.refl _⟩
   case round =>
    obtain ⟨i,rfl,hi,hr,hq⟩:=hrel;have HRR:=hid hr;have HQ:=hid hq;have c2:=HB.out wr hq;clear hr hq
    by_cases hlt:i < len
    ·have hlt':(i:Int) < len:=by omega
     obtain ⟨b,off,k1,n1,qs,o1,len1,cap1,rfl,hd,hg,e0,e1,e2,hs1⟩:=(HS.out.stay (aP.out.trans HQ.out)).nth hlt;have HD:=hid hd;have HC:=hid (IH.out i k1 n1 qs hg wr o1 len1 cap1 hs1);unfold dZ at HC;clear hd hg hs1;cases hb:iI k1 n1 qs
     all_goals
      have KD:=hid hb;rw [hb] at HC;clear hb;go_wp2_with fail;refine HC.out.mono ?_;rintro e w1 ⟨rfl,hq1⟩;have bU:=hid (HQ.out.trans hq1);clear hq1;go_wp2_with fail
     ·go_ret;exact ⟨by rw [HRR.out,HD.out,qo,KD.out];rfl,aP.out.trans bU.out⟩
     ·go_roundw
      case rel=>exact ⟨i+1,by go_num,by omega,by rw [HRR.out,HD.out,qo,KD.out];rfl,bU.out⟩
      case measure=>simp [intOf];omega
    ·have hlt':¬ (i:Int) < len:=by omega
     go_wp2_with fail;go_ret;exact ⟨by rw [HRR.out,Fo.drop_end ps i (by have:=HL.out;omega)];rfl,aP.out.trans HQ.out⟩
end
section
open Go.RowKit Go.Shelf
theorem elemTy:Elem Tryz.prog 22 24 (.agg #[.int .i64 0,.int .i64 0,.slice none 0 0]) 3 40 :=
 ⟨Tryz.underlying22,by kernel_rfl,by decide,by decide⟩
def DoK (g:Nat) (lb:Array Value) (w0:World) (G:Int->Prop) (p:Int->Int):Prop:=∀ (n:Int) (W:World),G n->ah w0 W ->
 Calls Tryz.prog g (#[.int .i64 n]++lb) W fun e W'=>e=.returned (.int .i64 (p n))/\ah W W'
def sV (p:Int->Int) (k n:Int):Int:=if k == 1 then p n else n
def OB (g:Nat) (lb:Array Value) (w0:World) (G:Int->Prop) (p:Int->Int) (k n:Int) (ps:Fo):Prop :=
 ∀ (w:World) (o:Option Addr) (len cap:Nat),ah w0 w->kT w o len ps->ps.size<=1000000->G n->Ip G ps ->
  Calls Tryz.prog 90 #[dZ k n o len cap,.func (.func g) #[] lb] w fun e w'=>∃ o' cap',e=.returned (dZ k (sV p k n) o' len cap')/\aB (fun b=>w.heap.size<=b) w' o' len (ps.change p)/\ah w w'
theorem dG {w W:World} {a b c:Value} {t:TypeId} {B:Nat} (h:w.heap[B]?=some (.cells #[a,b,c] t (0,0))) (hq:ah w W):W.heap[B]?=some (.cells #[a,b,c] t (0,0)):=by
 rw [hq.block B (lt_of_block h) (fun h=>h)];exact h
theorem ay {w:World} {a b c:Value} {t:TypeId} {B:Nat} (h:w.heap[B]?=some (.cells #[a,b,c] t (0,0))):w.cell? ⟨B,0,none⟩=some a/\w.cell? ⟨B,1,none⟩=some b/\w.cell? ⟨B,2,none⟩=some c/\w.frozen? ⟨B,0,none⟩=false/\w.frozen? ⟨B,1,none⟩=false/\w.frozen? ⟨B,2,none⟩=false:=by
 refine ⟨?_,?_,?_,?_,?_,?_⟩
 ·rw [cell_of_row _ _ _ _ _ (0,0) h];rfl
 ·rw [cell_of_row _ _ _ _ _ (0,0) h];rfl
 ·rw [cell_of_row _ _ _ _ _ (0,0) h];rfl
 ·simp [World.frozen?,h]
 ·simp [World.frozen?,h]
 ·simp [World.frozen?,h]
theorem jf {w:World} {a b c u:Value} {t:TypeId} {B:Nat} (h:w.heap[B]?=some (.cells #[a,b,c] t (0,0))):(w.setCell ⟨B,1,none⟩ u).heap[B]?=some (.cells #[a,u,c] t (0,0)):=by
 have hlt:=lt_of_block h;have h':w.heap[B]=.cells #[a,b,c] t (0,0):=by simpa [Array.getElem?_eq_getElem hlt] using h
 show (w.heap.modify B _)[B]?=_
 rw [Array.getElem?_eq_getElem (by simpa using hlt),Array.getElem_modify_self,h'];rfl
theorem jB {w:World} {a b c u:Value} {t:TypeId} {B:Nat} (h:w.heap[B]?=some (.cells #[a,b,c] t (0,0))):(w.setCell ⟨B,0,none⟩ u).heap[B]?=some (.cells #[u,b,c] t (0,0)):=by
 have hlt:=lt_of_block h;have h':w.heap[B]=.cells #[a,b,c] t (0,0):=by simpa [Array.getElem?_eq_getElem hlt] using h
 show (w.heap.modify B _)[B]?=_
 rw [Array.getElem?_eq_getElem (by simpa using hlt),Array.getElem_modify_self,h'];rfl
theorem jA {w:World} {a b c u:Value} {t:TypeId} {B:Nat} (h:w.heap[B]?=some (.cells #[a,b,c] t (0,0))):(w.setCell ⟨B,2,none⟩ u).heap[B]?=some (.cells #[a,b,u] t (0,0)):=by
 have hlt:=lt_of_block h;have h':w.heap[B]=.cells #[a,b,c] t (0,0):=by simpa [Array.getElem?_eq_getElem hlt] using h
 show (w.heap.modify B _)[B]?=_
 rw [Array.getElem?_eq_getElem (by simpa using hlt),Array.getElem_modify_self,h'];rfl
theorem Bq {g:Nat} {lb:Array Value} {w0:World} {G:Int->Prop} {p:Int->Int} (eg:∀ args w,(callFunc g args).run Tryz.prog w=.ok (.enter g args) w) (hK:DoK g lb w0 G p) (k n:Int) (ps:Fo):OB g lb w0 G p k n ps:=by
 refine Fo.sG (T:=OB g lb w0 G p) ?_ k n ps;intro k n ps ih w o len cap hw hs hsz hgn DX;have HGN:=hid hgn;have YO:=hid DX;clear hgn DX;have HS:=hid hs;have IH:=hid ih;have HL:=hid hs.1;have hmx:=hs.2.1;have hll:=Fo.length_le ps;rw [<-hs.1] at hll;unfold maxLen at hmx;have HK:=hid hK;have HW:=hid hw;have hb0:((w.alloc (.cells #[.int .i64 k,.int .i64 n,.slice o len cap] 24)).alloc (.cells #[.int .i64 0,.int .i64 0,.slice none 0 0] 24)).heap[w.heap.size]?=some (.cells #[.int .i64 k,.int .i64 n,.slice o len cap] 24 (0,0)):=by
  rw [Below.heap_alloc _ _ _ (by simp)];exact heap_alloc_new w _
 have hb1:((w.alloc (.cells #[.int .i64 k,.int .i64 n,.slice o len cap] 24)).alloc (.cells #[.int .i64 0,.int .i64 0,.slice none 0 0] 24)).heap[w.heap.size+1]?=some (.cells #[.int .i64 0,.int .i64 0,.slice none 0 0] 24 (0,0)):=by
  have:=heap_alloc_new (w.alloc (.cells #[.int .i64 k,.int .i64 n,.slice o len cap] 24)) (.cells #[.int .i64 0,.int .i64 0,.slice none 0 0] 24);simpa using this
 have HB0:=hid hb0;have HB1:=hid hb1;clear hs ih hK hw hb0 hb1;unfold dZ;cases hk:(k == 1)
 ·go_enter Tryz.func90,Tryz.ntmps90;go_wp2_with fail;obtain ⟨W0,hW0⟩:∃ W0,W0=((w.alloc (.cells #[.int .i64 k,.int .i64 n,.slice o len cap] 24)).alloc (.cells #[.int .i64 0,.int .i64 0,.slice none 0 0] 24)):=⟨_,rfl⟩;change Code.wp _ _ _ _ ((w.alloc (.cells #[.int .i64 k,.int .i64 n,.slice o len cap] 24)).alloc (.cells #[.int .i64 0,.int .i64 0,.slice none 0 0] 24));have aP:Hid (ah w W0):=by rw [hW0];exact (ah.alloc _ _).trans (ah.alloc _ _)
  have hz0:w.heap.size+2<=W0.heap.size:=by rw [hW0];simp
  have HN:Hid (sV p k n=n):=by show _=_;unfold sV;rw [hk];rfl
  rw [<-hW0] at HB0 HB1 ⊢;clear hW0 hk;generalize hnn:sV p k n=n' at *;generalize hB:w.heap.size=B at *;have cO:=hid hB;clear hB;go_loopw [5,19] (fun v t wr=>∃ (i:Nat) (f:Fo) (xs:List Value) (vo:Option Addr) (vc:Nat),t=.int .i64 i/\i<=len/\v=.slice vo i vc/\f.length=i/\f.app ((ps.drop i).change p)=ps.change p/\jM wr W0.heap.size (.slice vo i vc) f xs/\ah W0 wr) (fun _ t _=>len-(intOf t).toNat)
  case atStart=>exact ⟨0,.nil,[],none,0,rfl,Nat.zero_le _,rfl,rfl,by rw [Fo.drop_zero];rfl,jM.nil _ _,ah.refl _⟩
  case round =>
   obtain ⟨i,f,xs,vo,vc,rfl,hi,rfl,hfl,hap,hrow,hq⟩:=hrel;have HF:=hid hfl;have Td:=hid hap;have HR:=hid hrow;have HQ:=hid hq;clear hfl hap hrow hq
   by_cases hlt:i < len
   ·have hlt':(i:Int) < len:=by omega
    obtain ⟨b,off,k1,n1,qs,o1,len1,cap1,rfl,hd,hg,e0,e1,e2,hs1⟩:=(HS.out.stay (aP.out.trans HQ.out)).nth hlt;have KZ:=Fo.dK ps i k1 n1 qs hg;have HC:=hid (IH.out i k1 n1 qs hg (wr.alloc (.cells #[.int .i64 k1,.int .i64 n1,.slice o1 len1 cap1] 24)) o1 len1 cap1 (HW.out.trans ((aP.out.trans HQ.out).trans (ah.alloc _ _))) (hs1.stay (ah.alloc _ _)) (by omega) (nJ ps i k1 n1 qs YO.out hg).1 (nJ ps i k1 n1 qs YO.out hg).2);have HD:Hid ((f.app (.cons k1 (sV p k1 n1) (qs.change p) .nil)).app ((ps.drop (i+1)).change p)=ps.change p):=by
     show _=_
     rw [<-Td.out,hd,Fo.mQ];rfl
    unfold dZ at HC;clear hd hg hs1 KZ;generalize sV p k1 n1=n2 at *;go_wp2_with fail;refine HC.out.mono ?_;rintro e w1 ⟨o2,cap2,rfl,hs2,hq1⟩;have HS2:=hid hs2;have bU:=hid ((ah.alloc _ _).trans hq1);have HR1:=hid (HR.out.stay bU.out);clear hs2 hq1;go_wp2_with (at_builtin;go_must (refine aY w1 rfl (.tmp 23) (.tmp 27) 22 rfl 24 _ 3 40 elemTy (.slice vo i vc) i xs rfl (HF.out ▸ HR1.out.own) #[.int .i64 k1,.int .i64 n2,.slice o2 len1 cap2] rfl rfl ?c1 ?c2 ?c3 ?_))
    case c1=>simp [Value.oneCell']
    case c2=>unfold maxLen;omega
    case c3=>omega
    intro g2 c' w2 ho hf hg2;have hlow:W0.heap.size<=w1.heap.size:=Nat.le_trans HQ.out.size bU.out.size;have hown:∀ kk,(Value.slice vo i vc).ownBlock=some kk->kk < wr.heap.size:=fun kk h=>(HR.out.own.lt kk h).2
    have HR2:Hid (jM w2 W0.heap.size (.slice (some ⟨g2,0,none⟩) (i+1) c') (f.app (.cons k1 n2 (qs.change p) .nil)) (xs++[.int .i64 k1,.int .i64 n2,.slice o2 len1 cap2])):=by
     show jM _ _ _ _ _
     have hf':=HF.out;subst hf';refine jM.snoc HR1.out (HS2.out.fr (Fr.refl (fun _=>False) _) ?_) ho hf hg2 hlow;intro kk _ hkk;have hkk':(wr.alloc (.cells #[.int .i64 k1,.int .i64 n1,.slice o1 len1 cap1] 24)).heap.size<=kk:=hkk;simp at hkk';refine ⟨⟨by have:=HQ.out.size;omega,fun h=>?_⟩,fun h=>h⟩;have:=hown kk h;omega
    have eF:Hid (ah W0 w2):=by
     show ah _ _
     exact Fr.trans' (HQ.out.trans bU.out) hf (fun kk hkk h=>absurd (HR.out.low kk h) (by omega))
    have HL2:Hid ((f.app (.cons k1 n2 (qs.change p) .nil)).length=i+1):=by
     show _=_
     rw [Fo.bQ,HF.out];rfl
    clear ho hf hg2 hown;go_wp2_with fail;go_roundw
    case rel=>exact ⟨i+1,_,_,some ⟨g2,0,none⟩,c',by go_num,by omega,rfl,HL2.out,HD.out,HR2.out,eF.out⟩
    case measure=>simp [intOf];omega
   ·have hlt':¬ (i:Int) < len:=by omega
    have hb1:=dG HB1.out HQ.out;have hb0:=dG HB0.out HQ.out;obtain ⟨c0,c1,c2,z0,z1,z2⟩:=ay hb0;obtain ⟨d0,d1,d2,y0,y1,y2⟩:=ay hb1;have HB0:=hid hb0;have HB1:=hid hb1;clear hb0 hb1;have hil:i=len:=by omega
    have bH:Hid (∀ u v x y:Value,aB (fun b=>w.heap.size<=b) ((((wr.setCell ⟨B,2,none⟩ u).setCell ⟨B+1,0,none⟩ v).setCell ⟨B+1,1,none⟩ x).setCell ⟨B+1,2,none⟩ y) vo len (ps.change p)/\ah w ((((wr.setCell ⟨B,2,none⟩ u).setCell ⟨B+1,0,none⟩ v).setCell ⟨B+1,1,none⟩ x).setCell ⟨B+1,2,none⟩ y)):=by
     intro u v x y;have hf:Fr (fun kk=>kk=B∨kk=B+1) wr ((((wr.setCell ⟨B,2,none⟩ u).setCell ⟨B+1,0,none⟩ v).setCell ⟨B+1,1,none⟩ x).setCell ⟨B+1,2,none⟩ y) :=
      (((Fr.setCell _ _ _ _ (.inl rfl)).trans (Fr.setCell _ _ _ _ (.inr rfl))).trans (Fr.setCell _ _ _ _ (.inr rfl))).trans (Fr.setCell _ _ _ _ (.inr rfl))
     have hap:=Td.out;subst hil;rw [Fo.drop_end ps i (by have:=HL.out;omega)] at hap;simp only [Fo.change] at hap;rw [Fo.rD] at hap;refine ⟨?_,?_⟩
     ·rw [<-hap];refine (HR.out.slc HF.out.symm (by unfold maxLen;omega)).fr hf ?_;intro kk _ hkk;have hkk':W0.heap.size<=kk:=hkk;have hz:=cO.out;exact ⟨by omega,by omega⟩
     ·exact Fr.trans' (aP.out.trans HQ.out) hf (fun kk hkk h=>by have hz:=cO.out;omega)
    go_wp2_with fail;have hbf:=jA (u:=.slice vo len vc) (jf (u:=.int .i64 n') (jB (u:=.int .i64 k) (B:=B+1) (w:=wr.setCell ⟨B,2,none⟩ (.slice vo len vc)) (by rw [Below.heap_setCell _ _ _ _ (by show B+1≠B;omega)];exact HB1.out)));obtain ⟨f0,f1,f2,_,_,_⟩:=ay hbf;have YT:=bH.out (.slice vo len vc) (.int .i64 k) (.int .i64 n') (.slice vo len vc);have hn':=HN.out;clear hbf;rw [hn'] at f0 f1 f2 YT ⊢;generalize ((((wr.setCell ⟨B,2,none⟩ (.slice vo len vc)).setCell ⟨B+1,0,none⟩ (.int .i64 k)).setCell ⟨B+1,1,none⟩ (.int .i64 n)).setCell ⟨B+1,2,none⟩ (.slice vo len vc))=wf at *;refine bodyPost_ret (by simp [results,Tryz.results90,go_sem,f0,f1,f2];rfl) rfl ?_;exact ⟨vo,⟨vc,rfl⟩,YT⟩
 ·go_enter Tryz.func90,Tryz.ntmps90;go_wp2_with fail;refine (HK.out n _ HGN.out (HW.out.trans ((ah.alloc _ _).trans (ah.alloc _ _)))).mono ?_;rintro e w1 ⟨rfl,hq1⟩;have hb1:=dG HB1.out hq1;have hb0:=dG HB0.out hq1;obtain ⟨c0,c1,c2,z0,z1,z2⟩:=ay hb0;have HB0:=hid hb0;have HB1:=hid hb1;clear hb0 hb1;go_wp2_with fail;obtain ⟨W0,hW0⟩:∃ W0,W0=w1.setCell ⟨w.heap.size,1,none⟩ (.int .i64 (p n)):=⟨_,rfl⟩;change Code.wp _ _ _ _ (w1.setCell ⟨w.heap.size,1,none⟩ (.int .i64 (p n)));have hsz1:w.heap.size+2<=w1.heap.size:=by have:=hq1.size;simp at this;omega
  have aP:Hid (ah w W0):=by
   rw [hW0];exact (((ah.alloc _ _).trans (ah.alloc _ _)).trans hq1).trans' (Fr.setCell (fun kk=>kk=w.heap.size) _ _ _ rfl) (fun i hi h=>by omega)
  have hz0:w.heap.size+2<=W0.heap.size:=by rw [hW0];simpa [World.setCell] using hsz1
  have HN:Hid (sV p k n=p n):=by show _=_;unfold sV;rw [hk];rfl
  replace HB0:Hid (W0.heap[w.heap.size]?=some (.cells #[.int .i64 k,.int .i64 (p n),.slice o len cap] 24 (0,0))):=by
   rw [hW0];exact jf HB0.out
  replace HB1:Hid (W0.heap[w.heap.size+1]?=some (.cells #[.int .i64 0,.int .i64 0,.slice none 0 0] 24 (0,0))):=by
   show _=_
   rw [hW0,Below.heap_setCell _ _ _ _ (by show w.heap.size+1≠w.heap.size;omega)];exact HB1.out
  rw [<-hW0];clear hW0 hk hsz1 c0 c1 c2 z0 z1 z2 hq1;generalize hnn:sV p k n=n' at *;generalize hB:w.heap.size=B at *;have cO:=hid hB;clear hB;go_loopw [5,19] (fun v t wr=>∃ (i:Nat) (f:Fo) (xs:List Value) (vo:Option Addr) (vc:Nat),t=.int .i64 i/\i<=len/\v=.slice vo i vc/\f.length=i/\f.app ((ps.drop i).change p)=ps.change p/\jM wr W0.heap.size (.slice vo i vc) f xs/\ah W0 wr) (fun _ t _=>len-(intOf t).toNat)
  case atStart=>exact ⟨0,.nil,[],none,0,rfl,Nat.zero_le _,rfl,rfl,by rw [Fo.drop_zero];rfl,jM.nil _ _,ah.refl _⟩
  case round =>
   obtain ⟨i,f,xs,vo,vc,rfl,hi,rfl,hfl,hap,hrow,hq⟩:=hrel;have HF:=hid hfl;have Td:=hid hap;have HR:=hid hrow;have HQ:=hid hq;clear hfl hap hrow hq
   by_cases hlt:i < len
   ·have hlt':(i:Int) < len:=by omega
    obtain ⟨b,off,k1,n1,qs,o1,len1,cap1,rfl,hd,hg,e0,e1,e2,hs1⟩:=(HS.out.stay (aP.out.trans HQ.out)).nth hlt;have KZ:=Fo.dK ps i k1 n1 qs hg;have HC:=hid (IH.out i k1 n1 qs hg (wr.alloc (.cells #[.int .i64 k1,.int .i64 n1,.slice o1 len1 cap1] 24)) o1 len1 cap1 (HW.out.trans ((aP.out.trans HQ.out).trans (ah.alloc _ _))) (hs1.stay (ah.alloc _ _)) (by omega) (nJ ps i k1 n1 qs YO.out hg).1 (nJ ps i k1 n1 qs YO.out hg).2);have HD:Hid ((f.app (.cons k1 (sV p k1 n1) (qs.change p) .nil)).app ((ps.drop (i+1)).change p)=ps.change p):=by
     show _=_
     rw [<-Td.out,hd,Fo.mQ];rfl
    unfold dZ at HC;clear hd hg hs1 KZ;generalize sV p k1 n1=n2 at *;go_wp2_with fail;refine HC.out.mono ?_;rintro e w1 ⟨o2,cap2,rfl,hs2,hq1⟩;have HS2:=hid hs2;have bU:=hid ((ah.alloc _ _).trans hq1);have HR1:=hid (HR.out.stay bU.out);clear hs2 hq1;go_wp2_with (at_builtin;go_must (refine aY w1 rfl (.tmp 23) (.tmp 27) 22 rfl 24 _ 3 40 elemTy (.slice vo i vc) i xs rfl (HF.out ▸ HR1.out.own) #[.int .i64 k1,.int .i64 n2,.slice o2 len1 cap2] rfl rfl ?c1 ?c2 ?c3 ?_))
    case c1=>simp [Value.oneCell']
    case c2=>unfold maxLen;omega
    case c3=>omega
    intro g2 c' w2 ho hf hg2;have hlow:W0.heap.size<=w1.heap.size:=Nat.le_trans HQ.out.size bU.out.size;have hown:∀ kk,(Value.slice vo i vc).ownBlock=some kk->kk < wr.heap.size:=fun kk h=>(HR.out.own.lt kk h).2
    have HR2:Hid (jM w2 W0.heap.size (.slice (some ⟨g2,0,none⟩) (i+1) c') (f.app (.cons k1 n2 (qs.change p) .nil)) (xs++[.int .i64 k1,.int .i64 n2,.slice o2 len1 cap2])):=by
     show jM _ _ _ _ _
     have hf':=HF.out;subst hf';refine jM.snoc HR1.out (HS2.out.fr (Fr.refl (fun _=>False) _) ?_) ho hf hg2 hlow;intro kk _ hkk;have hkk':(wr.alloc (.cells #[.int .i64 k1,.int .i64 n1,.slice o1 len1 cap1] 24)).heap.size<=kk:=hkk;simp at hkk';refine ⟨⟨by have:=HQ.out.size;omega,fun h=>?_⟩,fun h=>h⟩;have:=hown kk h;omega
    have eF:Hid (ah W0 w2):=by
     show ah _ _
     exact Fr.trans' (HQ.out.trans bU.out) hf (fun kk hkk h=>absurd (HR.out.low kk h) (by omega))
    have HL2:Hid ((f.app (.cons k1 n2 (qs.change p) .nil)).length=i+1):=by
     show _=_
     rw [Fo.bQ,HF.out];rfl
    clear ho hf hg2 hown;go_wp2_with fail;go_roundw
    case rel=>exact ⟨i+1,_,_,some ⟨g2,0,none⟩,c',by go_num,by omega,rfl,HL2.out,HD.out,HR2.out,eF.out⟩
    case measure=>simp [intOf];omega
   ·have hlt':¬ (i:Int) < len:=by omega
    have hb1:=dG HB1.out HQ.out;have hb0:=dG HB0.out HQ.out;obtain ⟨c0,c1,c2,z0,z1,z2⟩:=ay hb0;obtain ⟨d0,d1,d2,y0,y1,y2⟩:=ay hb1;have HB0:=hid hb0;have HB1:=hid hb1;clear hb0 hb1;have hil:i=len:=by omega
    have bH:Hid (∀ u v x y:Value,aB (fun b=>w.heap.size<=b) ((((wr.setCell ⟨B,2,none⟩ u).setCell ⟨B+1,0,none⟩ v).setCell ⟨B+1,1,none⟩ x).setCell ⟨B+1,2,none⟩ y) vo len (ps.change p)/\ah w ((((wr.setCell ⟨B,2,none⟩ u).setCell ⟨B+1,0,none⟩ v).setCell ⟨B+1,1,none⟩ x).setCell ⟨B+1,2,none⟩ y)):=by
     intro u v x y;have hf:Fr (fun kk=>kk=B∨kk=B+1) wr ((((wr.setCell ⟨B,2,none⟩ u).setCell ⟨B+1,0,none⟩ v).setCell ⟨B+1,1,none⟩ x).setCell ⟨B+1,2,none⟩ y) :=
      (((Fr.setCell _ _ _ _ (.inl rfl)).trans (Fr.setCell _ _ _ _ (.inr rfl))).trans (Fr.setCell _ _ _ _ (.inr rfl))).trans (Fr.setCell _ _ _ _ (.inr rfl))
     have hap:=Td.out;subst hil;rw [Fo.drop_end ps i (by have:=HL.out;omega)] at hap;simp only [Fo.change] at hap;rw [Fo.rD] at hap;refine ⟨?_,?_⟩
     ·rw [<-hap];refine (HR.out.slc HF.out.symm (by unfold maxLen;omega)).fr hf ?_;intro kk _ hkk;have hkk':W0.heap.size<=kk:=hkk;have hz:=cO.out;exact ⟨by omega,by omega⟩
     ·exact Fr.trans' (aP.out.trans HQ.out) hf (fun kk hkk h=>by have hz:=cO.out;omega)
    go_wp2_with fail;have hbf:=jA (u:=.slice vo len vc) (jf (u:=.int .i64 n') (jB (u:=.int .i64 k) (B:=B+1) (w:=wr.setCell ⟨B,2,none⟩ (.slice vo len vc)) (by rw [Below.heap_setCell _ _ _ _ (by show B+1≠B;omega)];exact HB1.out)));obtain ⟨f0,f1,f2,_,_,_⟩:=ay hbf;have YT:=bH.out (.slice vo len vc) (.int .i64 k) (.int .i64 n') (.slice vo len vc);have hn':=HN.out;clear hbf;rw [hn'] at f0 f1 f2 YT ⊢;generalize ((((wr.setCell ⟨B,2,none⟩ (.slice vo len vc)).setCell ⟨B+1,0,none⟩ (.int .i64 k)).setCell ⟨B+1,1,none⟩ (.int .i64 (p n))).setCell ⟨B+1,2,none⟩ (.slice vo len vc))=wf at *;refine bodyPost_ret (by simp [results,Tryz.results90,go_sem,f0,f1,f2];rfl) rfl ?_;exact ⟨vo,⟨vc,rfl⟩,YT⟩
end
section
open Go.RowKit Go.Shelf
def bC (w:World) (B:Nat) (a b c:Value):World:=((w.setCell ⟨B,0,none⟩ a).setCell ⟨B,1,none⟩ b).setCell ⟨B,2,none⟩ c
theorem bg (w:World) (B:Nat) (a b c:Value):Fr (fun k=>k=B) w (bC w B a b c) :=
 ((Fr.setCell (fun k=>k=B) w ⟨B,0,none⟩ a rfl).trans (Fr.setCell (fun k=>k=B) _ ⟨B,1,none⟩ b rfl)).trans (Fr.setCell (fun k=>k=B) _ ⟨B,2,none⟩ c rfl)
theorem aW {w : World} {B : Nat} {a b c a' b' c' : Value} {t : TypeId} (h : w.heap[B]? = some (.cells #[a', b', c'] t (0, 0))) :
    (bC w B a b c).cell? ⟨B,0,none⟩=some a/\(bC w B a b c).cell? ⟨B,1,none⟩=some b/\(bC w B a b c).cell? ⟨B,2,none⟩=some c:=by
 have hbf:=jA (u:=c) (jf (u:=b) (jB (u:=a) h));obtain ⟨f0,f1,f2,_,_,_⟩:=ay hbf;exact ⟨f0,f1,f2⟩
theorem QV (w0:World):DoK 91 #[] w0 (fun _=>True) (fun n=>n):=by
 intro n W _ _;go_enter Tryz.func91,Tryz.ntmps91;go_wp2_with fail;go_ret;exact ⟨rfl,ah.refl _⟩
theorem Yi:∀ args w,(callFunc 91 args).run Tryz.prog w=.ok (.enter 91 args) w:=enters_of Tryz.func91 (by kernel_rfl) rfl
theorem xW (k n : Int) (ps : Fo) (w : World) (o : Option Addr) (len cap : Nat) (hs : kT w o len ps) (hsz : ps.size <= 1000000) :
    Calls Tryz.prog 62 #[dZ k n o len cap] w fun e w'=>∃ o' cap',e=.returned (dZ k n o' len cap')/\aB (fun b=>w.heap.size<=b) w' o' len ps/\ah w w':=by
 have HC:=hid (Bq Yi (QV w) k n ps ((w.alloc (.cells #[.int .i64 k,.int .i64 n,.slice o len cap] 24)).alloc (.cells #[.int .i64 0,.int .i64 0,.slice none 0 0] 24)) o len cap ((ah.alloc _ _).trans (ah.alloc _ _)) (hs.stay ((ah.alloc _ _).trans (ah.alloc _ _))) hsz trivial (uM (fun _=>trivial) ps));rw [Fo.yX,show sV (fun n=>n) k n=n from by unfold sV;split<;>rfl] at HC;have hb1:((w.alloc (.cells #[.int .i64 k,.int .i64 n,.slice o len cap] 24)).alloc (.cells #[.int .i64 0,.int .i64 0,.slice none 0 0] 24)).heap[w.heap.size+1]?=some (.cells #[.int .i64 0,.int .i64 0,.slice none 0 0] 24 (0,0)):=by
  have:=heap_alloc_new (w.alloc (.cells #[.int .i64 k,.int .i64 n,.slice o len cap] 24)) (.cells #[.int .i64 0,.int .i64 0,.slice none 0 0] 24);simpa using this
 have HB1:=hid hb1;clear hs hb1;unfold dZ at *;go_enter Tryz.func62,Tryz.ntmps62;go_wp2_with fail;refine HC.out.mono ?_;rintro e w1 ⟨o2,cap2,rfl,hs2,hq1⟩;have hb1:=dG HB1.out hq1;have HB2:=hid hb1;obtain ⟨d0,d1,d2,y0,y1,y2⟩:=ay hb1;have HS2:=hid hs2;have bU:=hid hq1;clear hs2 hq1 hb1;go_wp2_with fail;clear d0 d1 d2 y0 y1 y2;have hf:=bg w1 (w.heap.size+1) (.int .i64 k) (.int .i64 n) (.slice o2 len cap2);obtain ⟨f0,f1,f2⟩:=aW (a:=.int .i64 k) (b:=.int .i64 n) (c:=.slice o2 len cap2) HB2.out;change bodyPost _ _ _ _ _ (bC w1 (w.heap.size+1) (.int .i64 k) (.int .i64 n) (.slice o2 len cap2));generalize bC w1 (w.heap.size+1) (.int .i64 k) (.int .i64 n) (.slice o2 len cap2)=wf at *;refine bodyPost_ret (by simp [results,Tryz.results62,go_sem,f0,f1,f2];rfl) rfl ?_;refine ⟨o2,cap2,rfl,HS2.out.fr hf ?_,(((ah.alloc _ _).trans (ah.alloc _ _)).trans bU.out).trans' hf (fun kk hkk h=>by omega)⟩;intro kk _ hkk;have hkk':((w.alloc (.cells #[.int .i64 k,.int .i64 n,.slice o len cap] 24)).alloc (.cells #[.int .i64 0,.int .i64 0,.slice none 0 0] 24)).heap.size<=kk:=hkk;simp at hkk';exact ⟨by omega,by omega⟩
theorem Nq (n : Int) (w : World) :
    Calls Tryz.prog 39 #[.int .i64 n] w fun e w'=>e=.returned (dZ 1 n none 0 0)/\ah w w':=by
 unfold dZ;go_enter Tryz.func39,Tryz.ntmps39;go_wp2_with fail;obtain ⟨f0,f1,f2⟩:=fF w 1 n none 0 0 24 _ (ah.refl _);have hq:=ah.alloc w (.cells #[.int .i64 1,.int .i64 n,.slice none 0 0] 24);generalize w.alloc (.cells #[.int .i64 1,.int .i64 n,.slice none 0 0] 24)=wf at *;refine bodyPost_ret (by simp [results,Tryz.results39,go_sem,f0,f1,f2];rfl) rfl ?_;exact ⟨rfl,hq⟩
def Nj:Fo->Int
 | .nil=>0
 | .cons k _ _ .nil=>k
 | .cons _ _ _ (.cons _ _ _ _)=>4
def Nk:Fo->Int
 | .nil=>0
 | .cons _ n _ .nil=>n
 | .cons _ _ _ (.cons _ _ _ _)=>0
def QW:Fo->Fo
 | .nil=>.nil
 | .cons _ _ ps .nil=>ps
 | .cons k n ps (.cons k' n' ps' r)=>.cons k n ps (.cons (Nj (.cons k' n' ps' r)) (Nk (.cons k' n' ps' r)) (QW (.cons k' n' ps' r)) .nil)
def zQ (f : Fo) : Prop := ∀ (w : World) (o : Option Addr) (len cap : Nat), kT w o len f -> len <= cap -> f.size <= 1000000 ->
    Calls Tryz.prog 40 #[.slice o len cap] w fun e w'=>∃ o' len' cap',e=.returned (dZ (Nj f) (Nk f) o' len' cap')/\aB (fun b=>w.heap.size<=b) w' o' len' (QW f)/\ah w w'
theorem QX:zQ .nil:=by
 intro w o len cap hs hc hsz;have hl:len=0:=hs.1;subst hl;unfold dZ Nj Nk;go_enter Tryz.func40,Tryz.ntmps40;go_wp2_with fail;obtain ⟨f0,f1,f2⟩:=fF w 0 0 none 0 0 24 _ (ah.refl _);have hq:=ah.alloc w (.cells #[.int .i64 0,.int .i64 0,.slice none 0 0] 24);generalize w.alloc (.cells #[.int .i64 0,.int .i64 0,.slice none 0 0] 24)=wf at *;refine bodyPost_ret (by simp [results,Tryz.results40,go_sem,f0,f1,f2];rfl) rfl ?_;exact ⟨none,0,0,rfl,aB.nil _ _ _,hq⟩
theorem QY (k n:Int) (ps:Fo):zQ (.cons k n ps .nil):=by
 intro w o len cap hs hc hsz;have hl:len=1:=hs.1;subst hl;obtain ⟨b,off,k',n',qs,o1,len1,cap1,rfl,hd,hg,e0,e1,e2,hs1⟩:=hs.nth (i:=0) (by omega);simp only [Fo.get] at hg;cases hg;have KZ:ps.size<=1000000:=by simp only [Fo.size] at hsz;omega
 have HC:=hid (xW k n ps (w.alloc (.cells #[.int .i64 0,.int .i64 0,.slice none 0 0] 24)) o1 len1 cap1 (hs1.stay (ah.alloc _ _)) KZ);have HB1:=hid (heap_alloc_new w (.cells #[.int .i64 0,.int .i64 0,.slice none 0 0] 24));rw [Nat.zero_mul,Nat.add_zero] at e0 e1 e2;have hbl:=World.block_lt_of_cell? w _ e0;clear hd hs hs1 hsz;unfold dZ at *;simp only [Nj,Nk,QW];go_enter Tryz.func40,Tryz.ntmps40;go_wp2_with fail;refine HC.out.mono ?_;rintro e w1 ⟨o2,cap2,rfl,hs2,hq1⟩;have hb1:=dG HB1.out hq1;have HB2:=hid hb1;obtain ⟨d0,d1,d2,y0,y1,y2⟩:=ay hb1;have HS2:=hid hs2;have bU:=hid hq1;clear hs2 hq1 hb1;go_wp2_with fail;clear d0 d1 d2 y0 y1 y2;have hf:=bg w1 w.heap.size (.int .i64 k) (.int .i64 n) (.slice o2 len1 cap2);obtain ⟨f0,f1,f2⟩:=aW (a:=.int .i64 k) (b:=.int .i64 n) (c:=.slice o2 len1 cap2) HB2.out;change bodyPost _ _ _ _ _ (bC w1 w.heap.size (.int .i64 k) (.int .i64 n) (.slice o2 len1 cap2));generalize bC w1 w.heap.size (.int .i64 k) (.int .i64 n) (.slice o2 len1 cap2)=wf at *;refine bodyPost_ret (by simp [results,Tryz.results40,go_sem,f0,f1,f2];rfl) rfl ?_;refine ⟨o2,len1,cap2,rfl,HS2.out.fr hf ?_,((ah.alloc _ _).trans bU.out).trans' hf (fun kk hkk h=>by omega)⟩;intro kk _ hkk;have hkk':(w.alloc (.cells #[.int .i64 0,.int .i64 0,.slice none 0 0] 24)).heap.size<=kk:=hkk;simp at hkk';exact ⟨by omega,by omega⟩
theorem Nl (k n:Int) (ps:Fo) (k2 n2:Int) (ps2 r:Fo) (ih:zQ (.cons k2 n2 ps2 r)):zQ (.cons k n ps (.cons k2 n2 ps2 r)):=by
 intro w o len cap hs hc hsz;have hl:len=r.length+1+1:=hs.1;have hmx:=hs.2.1;unfold maxLen at hmx;obtain ⟨b,off,k',n',qs,o1,len1,cap1,rfl,hd,hg,e0,e1,e2,hs1⟩:=hs.nth (i:=0) (by omega);simp only [Fo.get] at hg;cases hg;have KZ:ps.size<=1000000:=by simp only [Fo.size] at hsz;omega
 have HC:=hid (xW k n ps);have hs2:kT w (some ⟨b,off+3,none⟩) (len-1) (.cons k2 n2 ps2 r):=by
  refine ⟨by simp only [Fo.length];omega,by unfold maxLen;omega,fun _=>⟨b,off+3,rfl,?_⟩⟩;obtain ⟨b',off',he,ha⟩:=hs.2.2 (by omega);cases he;exact ha.2.2.2
 have HB1:=hid (heap_alloc_new w (.cells #[.int .i64 0,.int .i64 0,.slice none 0 0] 24));rw [Nat.zero_mul,Nat.add_zero] at e0 e1 e2;have hsz2:(Fo.cons k2 n2 ps2 r).size<=1000000:=by simp only [Fo.size] at hsz ⊢;omega
 have ny:=hid hs1;have HS2:=hid hs2;have hlen2:2<=len:=by omega
 unfold zQ at ih;have IH:=hid ih;have j0:(0:Int) < (len:Int):=by omega
 have jn:0 < len:=by omega
 have j1:(1:Int)<=(len:Int):=by omega
 have j2:(len:Int)<=(cap:Int):=by omega
 clear hd hs hs1 hs2 hsz hl ih;unfold dZ at *;have e4:Nj (.cons k n ps (.cons k2 n2 ps2 r))=4:=rfl;have e0':Nk (.cons k n ps (.cons k2 n2 ps2 r))=0:=rfl;have eP:QW (.cons k n ps (.cons k2 n2 ps2 r))=.cons k n ps (.cons (Nj (.cons k2 n2 ps2 r)) (Nk (.cons k2 n2 ps2 r)) (QW (.cons k2 n2 ps2 r)) .nil):=rfl;rw [e4,e0',eP];clear e4 e0' eP;generalize QW (.cons k2 n2 ps2 r)=pa at *;generalize Nj (.cons k2 n2 ps2 r)=ka at *;generalize Nk (.cons k2 n2 ps2 r)=na at *;go_enter Tryz.func40,Tryz.ntmps40;go_wp2_with fail;obtain ⟨W0,hW0⟩:∃ W0,W0=w.alloc (.cells #[.int .i64 0,.int .i64 0,.slice none 0 0] 24):=⟨_,rfl⟩;change Code.wp _ _ _ _ (w.alloc (.cells #[.int .i64 0,.int .i64 0,.slice none 0 0] 24));have aP:Hid (ah w W0):=by rw [hW0];exact ah.alloc _ _
 have hz0:w.heap.size+1=W0.heap.size:=by rw [hW0];simp
 have HZ:=hid hz0;rw [<-hW0] at HB1 ⊢;have g0:=aP.out.at e0;have g1:=aP.out.at e1;have g2:=aP.out.at e2;have hbB:¬ b=w.heap.size:=by have:=World.block_lt_of_cell? w _ e0;simp at this;omega
 clear hW0 e0 e1 e2 hz0;generalize hB:w.heap.size=B at *;have cO:=hid hB;clear hB;go_region_held3 (fun w'=>w'.cell? ⟨b,off,none⟩=some (.int .i64 k)/\w'.cell? ⟨b,off+1,none⟩=some (.int .i64 n)/\w'.cell? ⟨b,off+2,none⟩=some (.slice o1 len1 cap1))
  (first
   | (go_keep;done)
   | (exact ⟨h0,h1,h2⟩)
   | (exact ⟨f0,f1,f2⟩)
   | (exact ⟨g0,g1,g2⟩)
   | (have hp:=bg w4 B (.int .i64 4) (.int .i64 0) (.slice (some ⟨w4.heap.size,0,none⟩) 2 2);exact ⟨(ah.alloc _ _).at ((hp.bf aaK hbB).trans h0),(ah.alloc _ _).at ((hp.bf aaK hbB).trans h1),(ah.alloc _ _).at ((hp.bf aaK hbB).trans h2)⟩))
  (first
   | (go_at_call 62;refine (HC.out _ _ _ _ (ny.out.stay (aP.out.trans (ah.drew _))) KZ).mono ?_;rintro e w3 ⟨o2,cap2,rfl,hs3,hq3⟩;have f3:=(ah.drew W0).trans hq3;have f0:=f3.at g0;have f1:=f3.at g1;have f2:=f3.at g2;have dU:=hid hq3;have RU:=hid hs3;have HF3:=hid f3;clear hq3 hs3)
   | (go_at_call 40;refine (IH.out _ _ _ _ (HS2.out.stay (aP.out.trans HF3.out)) (by omega) hsz2).mono ?_;rintro e w4 ⟨o3,QZ,cap3,rfl,hs4,hq4⟩;have h3:=HF3.out.trans hq4;have h0:=h3.at g0;have aaK:=World.block_lt_of_cell? w4 _ h0;have h1:=h3.at g1;have h2:=h3.at g2;have hb4:=dG HB1.out h3;have hlt4:=lt_of_block hb4;obtain ⟨d0,d1,d2,y0,y1,y2⟩:=ay hb4;have HB4:=hid hb4;have fV:=hid hq4;have Gm:=hid hs4;have LZ:=hid h3;clear hq4 hs4 hb4))
 all_goals
  go_wp2_with fail;clear d0 d1 d2 y0 y1 y2;have hf:=bg w4 B (.int .i64 4) (.int .i64 0) (.slice (some ⟨w4.heap.size,0,none⟩) 2 2);obtain ⟨p0,p1,p2⟩:=aW (a:=.int .i64 4) (b:=.int .i64 0) (c:=.slice (some ⟨w4.heap.size,0,none⟩) 2 2) HB4.out;have hps:(bC w4 B (.int .i64 4) (.int .i64 0) (.slice (some ⟨w4.heap.size,0,none⟩) 2 2)).heap.size=w4.heap.size:=by simp [bC,World.setCell]
  change bodyPost _ _ _ _ _ ((bC w4 B (.int .i64 4) (.int .i64 0) (.slice (some ⟨w4.heap.size,0,none⟩) 2 2)).alloc (.cells #[.int .i64 k,.int .i64 n,.slice o2 len1 cap2,.int .i64 ka,.int .i64 na,.slice o3 QZ cap3] 24));generalize bC w4 B (.int .i64 4) (.int .i64 0) (.slice (some ⟨w4.heap.size,0,none⟩) 2 2)=w5 at *;have hnew:=heap_alloc_new w5 (.cells #[.int .i64 k,.int .i64 n,.slice o2 len1 cap2,.int .i64 ka,.int .i64 na,.slice o3 QZ cap3] 24);have hqa:=ah.alloc w5 (.cells #[.int .i64 k,.int .i64 n,.slice o2 len1 cap2,.int .i64 ka,.int .i64 na,.slice o3 QZ cap3] 24);generalize w5.alloc (.cells #[.int .i64 k,.int .i64 n,.slice o2 len1 cap2,.int .i64 ka,.int .i64 na,.slice o3 QZ cap3] 24)=wf at *;rw [hps] at hnew;have q0:=hqa.at p0;have q1:=hqa.at p1;have q2:=hqa.at p2;refine bodyPost_ret (by simp [results,Tryz.results40,go_sem,q0,q1,q2];rfl) rfl ?_;have hbe:=cO.out;have hz:=HZ.out;have hw3:=HF3.out.size;have hw4:=LZ.out.size;have hfa:Fr (fun kk=>kk=B) w4 wf:=hf.trans (hqa.mono (fun _ _ h=>h.elim));refine ⟨some ⟨w4.heap.size,0,none⟩,2,2,rfl,⟨rfl,by decide,fun _=>⟨w4.heap.size,0,rfl,?_⟩⟩,((aP.out.trans LZ.out).trans' hfa (fun kk hkk h=>by omega))⟩;have hsa:aB (fun kk=>w.heap.size<=kk) wf o2 len1 ps:=by
   refine (RU.out.fr (T:=fun kk=>W0.heap.size<=kk) fV.out (fun kk _ h=>⟨h,fun h=>h⟩)).fr hfa ?_;intro kk _ h;have h':W0.heap.size<=kk:=h;exact ⟨by omega,by omega⟩
  have hsb:aB (fun kk=>w.heap.size<=kk) wf o3 QZ pa:=by
   refine Gm.out.fr hfa ?_;intro kk _ h;have h':w3.heap.size<=kk:=h;exact ⟨by omega,by omega⟩
  have hR:w.heap.size<=w4.heap.size:=by omega
  exact ⟨hR,by rw [cell_of_row _ _ _ _ _ (0,0) hnew];rfl,by rw [cell_of_row _ _ _ _ _ (0,0) hnew];rfl,⟨o2,len1,cap2,by rw [cell_of_row _ _ _ _ _ (0,0) hnew];rfl,hsa.1,hsa.2.1,hsa.2.2⟩,
   hR,by rw [cell_of_row _ _ _ _ _ (0,0) hnew];rfl,by rw [cell_of_row _ _ _ _ _ (0,0) hnew];rfl,⟨o3,QZ,cap3,by rw [cell_of_row _ _ _ _ _ (0,0) hnew];rfl,hsb.1,hsb.2.1,hsb.2.2⟩,trivial⟩
theorem FD:∀ f:Fo,zQ f
 | .nil=>QX
 | .cons k n ps .nil=>QY k n ps
 | .cons k n ps (.cons k2 n2 ps2 r)=>Nl k n ps k2 n2 ps2 r (FD (.cons k2 n2 ps2 r))
end
end Go.Proofs.YtcninopmelmajaaGreatDoor
