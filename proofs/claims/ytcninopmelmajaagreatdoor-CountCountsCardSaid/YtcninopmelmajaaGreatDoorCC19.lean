/-
  Texts laid together (LexRefWords, LexAwake, PaAny, CnAwake): laws and walks, with their conditions.
-/
import Derived.Deep.CutBlock
import Derived.Test.YtcninopmelmajaaGreatDoorCC11
import Derived.Test.YtcninopmelmajaaGreatDoorCC17
import Derived.Test.YtcninopmelmajaaGreatDoorCC18
set_option maxHeartbeats 8000000
set_option maxRecDepth 1000000
namespace Go.Proofs.YtcninopmelmajaaGreatDoor
open Go.Lib (hid)
section
namespace Lx
open Go.RowKit
theorem Gi {at':Nat} {l r:List UInt8} {c:UInt8} (hl:l=c::r) (hb:kZ c=true):dF at' l=dF (at'+1) (l.drop 1):=by
 subst hl
 exact zA (k:=1) (by rw [BA hb];omega) (by rw [BA hb];simp)
theorem Ih {at':Nat} {l r:List UInt8} {c:UInt8} (hl:l=c::r) (hb:kZ c=false) (h:(c == 35)=true):dF at' l=dF (at'+bU mO l) (l.drop (bU mO l)):=by
 have:=OE (r:=r) hb h
 rw [<-hl] at this
 exact zA (by omega) (by omega)
theorem iM {at':Nat} {l r:List UInt8} {c:UInt8} {kd ln:Nat} (hl:l=c::r) (hb:kZ c=false) (h:(c == 35)=false) (hn:nextL l=(kd,ln,0)):dF at' l=AB ⟨kd,l.take ln,at',at'+ln⟩ (dF (at'+ln) (l.drop ln)):=by
 have h0:aQ false l=0:=by rw [hl];exact Ey hb h
 have:=oh (at':=at') (l:=l) (by rw [h0,hl];simp) (by rw [h0,List.drop_zero,hn])
 rw [h0,List.drop_zero,hn] at this
 exact this
theorem gU {at':Nat} {l r:List UInt8} {c:UInt8} {a b er:Nat} (hl:l=c::r) (hb:kZ c=false) (h:(c == 35)=false) (hn:nextL l=(a,b,er)) (he:er≠0):dF at' l=.inr (at',er):=by
 have h0:aQ false l=0:=by rw [hl];exact Ey hb h
 have:=og (at':=at') (l:=l) (by rw [h0,hl];simp) (by rw [h0,List.drop_zero,hn];exact he)
 rw [h0,List.drop_zero,hn] at this
 exact this
theorem BO (x:UInt8) (m:Nat) (hm:m < 256):((x.toNat:Int) == (m:Int))=(x == UInt8.ofNat m):=by
 rw [qR x m hm,Bool.eq_iff_iff];simp;omega
theorem kE (x:UInt8) (m:Nat) (hm:m < 256):((x.toNat:Int) != (m:Int))=!(x == UInt8.ofNat m):=by
 rw [<-BO x m hm];rfl
theorem Ii (s:ByteArray) (n j:Nat):s.extract n j=bW ((s.data.toList.drop n).take (j - n)):=by
 apply Y2
 rw [Lib.extract_data,sZ]
theorem nS {l:List UInt8} {acc:List Tok} {n er:Nat} (hW:jY l=appW acc (dF n (l.drop n))) (hT:dF n (l.drop n)=.inr (n,er)):jY l=.inr (n,er):=by
 rw [hW,hT];rfl
theorem jI {l:List UInt8} {w w':World} {n er:Nat} {e:Ending} (hq:ah w w') (h:jY l=.inr (n,er)) (he:e=.returned (.tuple #[.slice none 0 0,.int .i64 (n:Nat),.int .i64 (er:Nat)])):nY l w e w':=by
 refine ⟨hq,?_⟩
 rw [h];exact he
theorem KJ {x:UInt8} (h:uY x=true):x=40∨x=41∨x=44∨x=58∨x=61∨x=42:=by
 unfold uY at h;simp at h;rcases h with ((((h | h) | h) | h) | h) | h<;>simp [h]
theorem SA {x:UInt8} (h:uY x=false):(x == 40)=false/\(x == 41)=false/\(x == 44)=false/\(x == 58)=false/\(x == 61)=false/\(x == 42)=false:=by
 unfold uY at h;simp at h;simp [h]
theorem DX (x:UInt8):((x.toNat:Int) != 62)=!(x == 62):=kE x 62 (by omega)
theorem b45 (x:UInt8):((x.toNat:Int) == 45)=(x == 45):=BO x 45 (by omega)
theorem n40 (x:UInt8):((x.toNat:Int) != 40)=!(x == 40):=kE x 40 (by omega)
theorem n41 (x:UInt8):((x.toNat:Int) != 41)=!(x == 41):=kE x 41 (by omega)
theorem n44 (x:UInt8):((x.toNat:Int) != 44)=!(x == 44):=kE x 44 (by omega)
theorem n58 (x:UInt8):((x.toNat:Int) != 58)=!(x == 58):=kE x 58 (by omega)
theorem n61 (x:UInt8):((x.toNat:Int) != 61)=!(x == 61):=kE x 61 (by omega)
theorem n42 (x:UInt8):((x.toNat:Int) != 42)=!(x == 42):=kE x 42 (by omega)
def Pj (l:List UInt8) (n size:Nat) (w:World) (t1 t2:Value) (wx:World):Prop :=
 ∃ j kd:Nat,t1=.int .i64 (j:Nat)/\t2=.int .i64 (kd:Nat)/\n < j/\j<=size/\dF n (l.drop n)=AB ⟨kd,(l.drop n).take (j - n),n,j⟩ (dF j (l.drop j))/\ah w wx
theorem pV {l:List UInt8} {n kd ln j:Nat} (h:dF n (l.drop n)=AB ⟨kd,(l.drop n).take ln,n,n+ln⟩ (dF (n+ln) ((l.drop n).drop ln))) (hj:j=n+ln):dF n (l.drop n)=AB ⟨kd,(l.drop n).take (j - n),n,j⟩ (dF j (l.drop j)):=by
 subst hj
 rw [h,List.drop_drop,show n+ln - n=ln from by omega]
theorem Gj (s : ByteArray) (hs : s.size <= 100000) (w : World) :
    Calls Tryz.prog 47 #[.string s] w fun e w'=>nY s.data.toList w e w':=by
 have HS:Hid (s.size<=maxLen):=by show _<=_;unfold maxLen;omega
 go_enter Tryz.func47,Tryz.ntmps47
 go_wp2_with fail
 obtain ⟨B,hB⟩:∃ B,B=w.heap.size:=⟨_,rfl⟩
 have uZ:=hid hB
 clear hB
 go_loopw [5,6] (fun v t wr=>∃ (acc:List Tok) (n:Nat) (o:Option Addr) (c:Nat),v=.slice o acc.length c/\t=.int .i64 n/\n<=s.size/\jY s.data.toList=appW acc (dF n (s.data.toList.drop n))/\oI wr B (.slice o acc.length c) acc/\acc.length<=n/\ah w wr) (fun _ t _=>s.size - (intOf t).toNat)
 case atStart =>
  exact ⟨[],0,none,0,rfl,rfl,Nat.zero_le _,by rw [QS];rfl,⟨World.ownsRow_nil _ _ _ _,by intro k hk;cases hk⟩,Nat.zero_le _,ah.refl _⟩
 case round =>
  obtain ⟨acc,n,o,c,rfl,rfl,hn,hW,hrow,hacc,hq⟩:=hrel
  have HW:=hid hW
  have HR:=hid hrow
  have HQ:=hid hq
  clear hW hrow hq
  have hsz1:acc.length<=100000:=by omega
  by_cases hlt:n < s.size
  ·have hlt':(n:Int) < s.size:=by omega
   have HD:=hid (drop_byte s n hlt)
   have Ij:=hid (VU s[n])
   have HB:=hid (SB s[n])
   have Qx:=hid (vV s[n])
   have Wy:=hid (qV s[n])
   have je:=hid (VW s[n])
   have hx256:=BQ s[n]
   obtain ⟨x,hx⟩:∃ x,s[n]=x:=⟨_,rfl⟩
   rw [hx] at HD Ij HB Qx Wy je hx256
   cases hb:kZ x
   ·have rY:=hid hb
    have b32:((x.toNat:Int) == 32)=false:=by have:=HB.out;rw [hb] at this;revert this;cases ((x.toNat:Int) == 32)<;>simp
    have b9:((x.toNat:Int) == 9)=false:=by have:=HB.out;rw [hb] at this;revert this;cases ((x.toNat:Int) == 9)<;>simp
    have b10:((x.toNat:Int) == 10)=false:=by have:=HB.out;rw [hb] at this;revert this;cases ((x.toNat:Int) == 10)<;>simp
    have b13:((x.toNat:Int) == 13)=false:=by have:=HB.out;rw [hb] at this;revert this;cases ((x.toNat:Int) == 13)<;>simp
    clear hb HB
    cases hh:(x == 35)
    ·have HH:=hid hh
     have hh':((x.toNat:Int) == 35)=false:=by rw [Ij.out,hh]
     clear hh Ij
     go_upto_block 4 with (fail)
     go_cut [8,9] (fun t1 t2 wx=>Pj s.data.toList n s.size wr t1 t2 wx)
     case first =>
      cases hsm:dU x
      ·have zZ:=hid hsm
       clear hsm
       cases hdg:dJ x
       ·as_aux_lemma =>
          have DY:=hid hdg
          clear hdg
          go_wp2_with fail
          refine (Qx.out _).mono ?_;rintro e w' ⟨rfl,rfl⟩
          rw [zZ.out]
          go_wp2_with fail
          refine (Wy.out _).mono ?_;rintro e w' ⟨rfl,rfl⟩
          rw [DY.out]
          clear Qx Wy je
          cases hmn:(x == 45)
          ·have aaJ:((x.toNat:Int) == 45)=false:=by rw [b45,hmn]
           have HM:=hid hmn
           clear hmn
           cases hsg:uY x
           ·obtain ⟨m1,m2,m3,m4,m5,m6⟩:=SA hsg
            have a1:((x.toNat:Int) != 40)=true:=by rw [n40,m1];rfl
            have a2:((x.toNat:Int) != 41)=true:=by rw [n41,m2];rfl
            have a3:((x.toNat:Int) != 44)=true:=by rw [n44,m3];rfl
            have a4:((x.toNat:Int) != 58)=true:=by rw [n58,m4];rfl
            have a5:((x.toNat:Int) != 61)=true:=by rw [n61,m5];rfl
            have a6:((x.toNat:Int) != 42)=true:=by rw [n42,m6];rfl
            have nT:Hid (nextL (s.data.toList.drop n)=(0,0,3)):=by
             show _=_
             rw [HD.out,BF zZ.out DY.out hsg,BD,HM.out];rfl
            have tq:=hid (nS HW.out (gU (at':=n) HD.out rY.out HH.out nT.out (by decide)))
            clear m1 m2 m3 m4 m5 m6 hsg
            go_wp2_with fail
            go_ret3
            exact jI HQ.out tq.out rfl
           ·have hsx:=KJ hsg
            have nT:Hid (nextL (s.data.toList.drop n)=(4,1,0)):=by
             show _=_
             rw [HD.out];exact OH zZ.out DY.out hsg
            have tC:=hid (pV (j:=n+1) (iM (at':=n) HD.out rY.out HH.out nT.out) rfl)
            clear hsg HM nT HD rY HH zZ DY b32 b9 b10 b13 hh' aaJ hx256
            rcases hsx with rfl | rfl | rfl | rfl | rfl | rfl
            all_goals
             go_wp2_with fail
             go_meet
             exact ⟨n+1,4,by go_num,rfl,by omega,by omega,tC.out,ah.refl _⟩
          ·have aaJ:((x.toNat:Int) == 45)=true:=by rw [b45,hmn]
           have HM:=hid hmn
           have hsg : uY x = false := by have : x = 45 := by simpa using hmn
                                         subst this;decide
           have SE:Hid (nextL (s.data.toList.drop n)=if Lib.hasPrefix (x::s.data.toList.drop (n+1)) [45,62] then (4,2,0) else (0,0,3)):=by
            show _=_
            rw [HD.out];exact BF zZ.out DY.out hsg
           rw [BD,hmn] at SE
           clear hmn hsg
           by_cases hn1:n+1 < s.size
           ·have hn1':(n:Int)+1 < s.size:=by omega
            have HD1:=hid (drop_byte s (n+1) hn1)
            have SG:=hid (DX s[n+1])
            obtain ⟨y,hy⟩:∃ y,s[n+1]=y:=⟨_,rfl⟩
            rw [hy] at HD1 SG
            rw [HD1.out] at SE
            cases h62:(y == 62)
            ·have acR:((y.toNat:Int) != 62)=true:=by rw [SG.out,h62];rfl
             have nT:Hid (nextL (s.data.toList.drop n)=(0,0,3)):=by
              show _=_;rw [SE.out];simp [eU,h62]
             have tq:=hid (nS HW.out (gU (at':=n) HD.out rY.out HH.out nT.out (by decide)))
             clear SG h62 SE nT
             go_wp2_with fail
             go_ret3
             exact jI HQ.out tq.out rfl
            ·have acR:((y.toNat:Int) != 62)=false:=by rw [SG.out,h62];rfl
             have nT:Hid (nextL (s.data.toList.drop n)=(4,2,0)):=by
              show _=_;rw [SE.out];simp [eU,h62]
             have tC:=hid (pV (j:=n+2) (iM (at':=n) HD.out rY.out HH.out nT.out) rfl)
             clear SG h62 SE nT
             go_wp2_with fail
             go_meet
             exact ⟨n+2,4,by go_num,rfl,by omega,by omega,tC.out,ah.refl _⟩
           ·have hn1':¬ (n:Int)+1 < s.size:=by omega
            have nT:Hid (nextL (s.data.toList.drop n)=(0,0,3)):=by
             show _=_;rw [SE.out,drop_end s (n+1) (by omega)];simp [eU]
            have tq:=hid (nS HW.out (gU (at':=n) HD.out rY.out HH.out nT.out (by decide)))
            clear SE nT
            go_wp2_with fail
            go_ret3
            exact jI HQ.out tq.out rfl
       ·as_aux_lemma =>
          have DY:=hid hdg
          clear hdg
          have hrl:=nO dJ (s.data.toList.drop n)
          rw [List.length_drop,bH] at hrl
          have hrp:0 < bU dJ (s.data.toList.drop n):=by rw [HD.out];exact qA DY.out
          generalize hrn:bU dJ (s.data.toList.drop n)=rn at *
          have MQ:=hid hrn
          clear hrn
          go_wp2_with fail
          refine (Qx.out _).mono ?_;rintro e w' ⟨rfl,rfl⟩
          rw [zZ.out]
          go_wp2_with fail
          refine (Wy.out _).mono ?_;rintro e w' ⟨rfl,rfl⟩
          rw [DY.out]
          clear Qx Wy
          go_upto_block 7 with (fail)
          go_cut [8] (fun t wx=>∃ j:Nat,t=.int .i64 j/\j=n+rn/\wr=wx)
          case first =>
           go_wp2_with fail
           go_loop [8] (fun t=>∃ j:Nat,t=.int .i64 j/\n+1<=j/\j<=s.size/\n+rn=j+bU dJ (s.data.toList.drop j)) (fun t=>s.size - (intOf t).toNat)
           case atStart=>exact ⟨n+1,by go_num,by omega,by omega,by rw [<-MQ.out,HD.out,eH,DY.out];simp only [if_true];omega⟩
           case round =>
            obtain ⟨j,rfl,hj1,hj2,hj3⟩:=hrel
            have HJ:=hid hj3
            clear hj3
            by_cases hjl:j < s.size
            ·have Gl:(j:Int) < s.size:=by omega
             have BR:=hid (drop_byte s j hjl)
             have HT:=hid (qV s[j])
             obtain ⟨y,hy⟩:∃ y,s[j]=y:=⟨_,rfl⟩
             rw [hy] at BR HT
             cases hp:dJ y
             ·have SH:=hid hp
              clear hp
              have Ik:Hid (j=n+rn):=by have:=HJ.out;rw [BR.out,eH,SH.out] at this;show _=_;simpa using this.symm
              go_wp2_with fail
              refine (HT.out _).mono ?_;rintro e w' ⟨rfl,rfl⟩
              rw [SH.out]
              go_wp2_with fail
              go_meet
              exact ⟨j,rfl,Ik.out,rfl⟩
             ·have SH:=hid hp
              clear hp
              go_wp2_with fail
              refine (HT.out _).mono ?_;rintro e w' ⟨rfl,rfl⟩
              rw [SH.out]
              go_wp2
              go_round
              case rel=>exact ⟨j+1,by go_num,by omega,by omega,by rw [HJ.out,BR.out,eH,SH.out];simp only [if_true];omega⟩
              case measure=>simp [intOf];omega
            ·have Gl:¬ (j:Int) < s.size:=by omega
             have Ik:Hid (j=n+rn):=by have:=HJ.out;rw [drop_end s j (by omega)] at this;show _=_;simpa [bU] using this.symm
             go_wp2_with fail
             go_meet
             exact ⟨j,rfl,Ik.out,rfl⟩
          case rest =>
           obtain ⟨j,rfl,DI,rfl⟩:=hcut
           have hjn:(n:Int)<=j:=by omega
           have hjs:j<=s.size:=by omega
           have aaK:(j:Int)<=s.size:=by omega
           have Ik:=hid DI
           have lF:Hid (nextL (s.data.toList.drop n)=if (decide (1 < rn) && (x == 48)) || eU bg (s.data.toList.drop j) then (0,0,3) else if 9 < rn then (0,0,2) else (2,rn,0)):=by
            show _=_
            rw [HD.out,Ky zZ.out DY.out,<-HD.out]
            unfold Yz
            rw [MQ.out,List.drop_drop,<-DI,HD.out];rfl
           cases hz:(x == 48)
           ·have hz':((x.toNat:Int) == 48)=false:=by rw [je.out,hz]
            rw [hz] at lF
            clear hz
            by_cases hjl:j < s.size
            ·have Gl:(j:Int) < s.size:=by omega
             have BR:=hid (drop_byte s j hjl)
             have kR:=hid (nU s[j])
             obtain ⟨y,hy⟩:∃ y,s[j]=y:=⟨_,rfl⟩
             rw [hy] at BR kR
             cases Pn:bg y
             ·have XL:=hid Pn
              have DF:Hid (eU bg (s.data.toList.drop j)=false):=by show _=_;rw [BR.out];exact Pn
              clear Pn
              by_cases h9:9 < rn
              ·have h9':(9:Int) < (j:Int) - (n:Int):=by omega
               have nT:Hid (nextL (s.data.toList.drop n)=(0,0,2)):=by show _=_;rw [lF.out,DF.out];simp [h9]
               have tq:=hid (nS HW.out (gU (at':=n) HD.out rY.out HH.out nT.out (by decide)))
               clear lF nT DI
               go_wp2_with fail
               refine (kR.out _).mono ?_;rintro e w' ⟨rfl,rfl⟩
               rw [XL.out]
               go_wp2_with fail
               go_ret3
               exact jI HQ.out tq.out rfl
              ·have h9':¬ (9:Int) < (j:Int) - (n:Int):=by omega
               have nT:Hid (nextL (s.data.toList.drop n)=(2,rn,0)):=by show _=_;rw [lF.out,DF.out];simp [h9]
               have tC:=hid (pV (j:=j) (iM (at':=n) HD.out rY.out HH.out nT.out) DI)
               clear lF nT DI
               go_wp2_with fail
               refine (kR.out _).mono ?_;rintro e w' ⟨rfl,rfl⟩
               rw [XL.out]
               go_wp2_with fail
               go_meet
               exact ⟨j,2,rfl,rfl,by have:=Ik.out;omega,hjs,tC.out,ah.refl _⟩
             ·have XL:=hid Pn
              have DF:Hid (eU bg (s.data.toList.drop j)=true):=by show _=_;rw [BR.out];exact Pn
              clear Pn
              have nT:Hid (nextL (s.data.toList.drop n)=(0,0,3)):=by show _=_;rw [lF.out,DF.out];simp
              have tq:=hid (nS HW.out (gU (at':=n) HD.out rY.out HH.out nT.out (by decide)))
              clear lF nT DI
              go_wp2_with fail
              refine (kR.out _).mono ?_;rintro e w' ⟨rfl,rfl⟩
              rw [XL.out]
              go_wp2_with fail
              go_ret3
              exact jI HQ.out tq.out rfl
            ·have Gl:¬ (j:Int) < s.size:=by omega
             have DF:Hid (eU bg (s.data.toList.drop j)=false):=by show _=_;rw [drop_end s j (by omega)];rfl
             by_cases h9:9 < rn
             ·have h9':(9:Int) < (j:Int) - (n:Int):=by omega
              have nT:Hid (nextL (s.data.toList.drop n)=(0,0,2)):=by show _=_;rw [lF.out,DF.out];simp [h9]
              have tq:=hid (nS HW.out (gU (at':=n) HD.out rY.out HH.out nT.out (by decide)))
              clear lF nT DI
              go_wp2_with fail
              go_ret3
              exact jI HQ.out tq.out rfl
             ·have h9':¬ (9:Int) < (j:Int) - (n:Int):=by omega
              have nT:Hid (nextL (s.data.toList.drop n)=(2,rn,0)):=by show _=_;rw [lF.out,DF.out];simp [h9]
              have tC:=hid (pV (j:=j) (iM (at':=n) HD.out rY.out HH.out nT.out) DI)
              clear lF nT DI
              go_wp2_with fail
              go_meet
              exact ⟨j,2,rfl,rfl,by have:=Ik.out;omega,hjs,tC.out,ah.refl _⟩
           ·have hz':((x.toNat:Int) == 48)=true:=by rw [je.out,hz]
            rw [hz] at lF
            clear hz
            by_cases h1:1 < rn
            ·have h1':(n:Int)+1 < (j:Int):=by omega
             have nT:Hid (nextL (s.data.toList.drop n)=(0,0,3)):=by show _=_;rw [lF.out];simp [h1]
             have tq:=hid (nS HW.out (gU (at':=n) HD.out rY.out HH.out nT.out (by decide)))
             clear lF nT DI
             go_wp2_with fail
             go_ret3
             exact jI HQ.out tq.out rfl
            ·have h1':¬ (n:Int)+1 < (j:Int):=by omega
             by_cases hjl:j < s.size
             ·have Gl:(j:Int) < s.size:=by omega
              have BR:=hid (drop_byte s j hjl)
              have kR:=hid (nU s[j])
              obtain ⟨y,hy⟩:∃ y,s[j]=y:=⟨_,rfl⟩
              rw [hy] at BR kR
              cases Pn:bg y
              ·have XL:=hid Pn
               have DF:Hid (eU bg (s.data.toList.drop j)=false):=by show _=_;rw [BR.out];exact Pn
               clear Pn
               have h9:¬ 9 < rn:=by omega
               have h9':¬ (9:Int) < (j:Int) - (n:Int):=by omega
               have nT:Hid (nextL (s.data.toList.drop n)=(2,rn,0)):=by show _=_;rw [lF.out,DF.out];simp [h9,h1]
               have tC:=hid (pV (j:=j) (iM (at':=n) HD.out rY.out HH.out nT.out) DI)
               clear lF nT DI
               go_wp2_with fail
               refine (kR.out _).mono ?_;rintro e w' ⟨rfl,rfl⟩
               rw [XL.out]
               go_wp2_with fail
               go_meet
               exact ⟨j,2,rfl,rfl,by have:=Ik.out;omega,hjs,tC.out,ah.refl _⟩
              ·have XL:=hid Pn
               have DF:Hid (eU bg (s.data.toList.drop j)=true):=by show _=_;rw [BR.out];exact Pn
               clear Pn
               have nT:Hid (nextL (s.data.toList.drop n)=(0,0,3)):=by show _=_;rw [lF.out,DF.out];simp
               have tq:=hid (nS HW.out (gU (at':=n) HD.out rY.out HH.out nT.out (by decide)))
               clear lF nT DI
               go_wp2_with fail
               refine (kR.out _).mono ?_;rintro e w' ⟨rfl,rfl⟩
               rw [XL.out]
               go_wp2_with fail
               go_ret3
               exact jI HQ.out tq.out rfl
             ·have Gl:¬ (j:Int) < s.size:=by omega
              have DF:Hid (eU bg (s.data.toList.drop j)=false):=by show _=_;rw [drop_end s j (by omega)];rfl
              have h9:¬ 9 < rn:=by omega
              have h9':¬ (9:Int) < (j:Int) - (n:Int):=by omega
              have nT:Hid (nextL (s.data.toList.drop n)=(2,rn,0)):=by show _=_;rw [lF.out,DF.out];simp [h9,h1]
              have tC:=hid (pV (j:=j) (iM (at':=n) HD.out rY.out HH.out nT.out) DI)
              clear lF nT DI
              go_wp2_with fail
              go_meet
              exact ⟨j,2,rfl,rfl,by have:=Ik.out;omega,hjs,tC.out,ah.refl _⟩
      ·as_aux_lemma =>
         have zZ:=hid hsm
         clear hsm
         have hrl:=nO bg (s.data.toList.drop n)
         rw [List.length_drop,bH] at hrl
         have hrp:0 < bU bg (s.data.toList.drop n):=by rw [HD.out];exact qA (pU zZ.out)
         clear Wy je
         generalize hrn:bU bg (s.data.toList.drop n)=rn at *
         have MQ:=hid hrn
         clear hrn
         go_wp2_with fail
         refine (Qx.out _).mono ?_;rintro e w' ⟨rfl,rfl⟩
         rw [zZ.out]
         clear Qx
         go_upto_block 5 with (fail)
         go_cut [8] (fun t wx=>∃ j:Nat,t=.int .i64 j/\j=n+rn/\wr=wx)
         case first =>
          go_wp2_with fail
          go_loop [8] (fun t=>∃ j:Nat,t=.int .i64 j/\n+1<=j/\j<=s.size/\n+rn=j+bU bg (s.data.toList.drop j)) (fun t=>s.size - (intOf t).toNat)
          case atStart=>exact ⟨n+1,by go_num,by omega,by omega,by rw [<-MQ.out,HD.out,eH,pU zZ.out];simp only [if_true];omega⟩
          case round =>
           obtain ⟨j,rfl,hj1,hj2,hj3⟩:=hrel
           have HJ:=hid hj3
           clear hj3
           by_cases hjl:j < s.size
           ·have Gl:(j:Int) < s.size:=by omega
            have BR:=hid (drop_byte s j hjl)
            have HT:=hid (nU s[j])
            obtain ⟨y,hy⟩:∃ y,s[j]=y:=⟨_,rfl⟩
            rw [hy] at BR HT
            cases hp:bg y
            ·have SH:=hid hp
             clear hp
             have Ik:Hid (j=n+rn):=by have:=HJ.out;rw [BR.out,eH,SH.out] at this;show _=_;simpa using this.symm
             go_wp2_with fail
             refine (HT.out _).mono ?_;rintro e w' ⟨rfl,rfl⟩
             rw [SH.out]
             go_wp2_with fail
             go_meet
             exact ⟨j,rfl,Ik.out,rfl⟩
            ·have SH:=hid hp
             clear hp
             go_wp2_with fail
             refine (HT.out _).mono ?_;rintro e w' ⟨rfl,rfl⟩
             rw [SH.out]
             go_wp2
             go_round
             case rel=>exact ⟨j+1,by go_num,by omega,by omega,by rw [HJ.out,BR.out,eH,SH.out];simp only [if_true];omega⟩
             case measure=>simp [intOf];omega
           ·have Gl:¬ (j:Int) < s.size:=by omega
            have Ik:Hid (j=n+rn):=by have:=HJ.out;rw [drop_end s j (by omega)] at this;show _=_;simpa [bU] using this.symm
            go_wp2_with fail
            go_meet
            exact ⟨j,rfl,Ik.out,rfl⟩
         case rest =>
          obtain ⟨j,rfl,DI,rfl⟩:=hcut
          have Y3:Hid ((s.extract n j).data.toList=(s.data.toList.drop n).take rn):=by
           show _=_
           rw [Lib.extract_data];congr 1;omega
          have lF:Hid (nextL (s.data.toList.drop n)=if JI ((s.data.toList.drop n).take rn) then (3,rn,0) else if 20 < rn then (0,0,2) else (1,rn,0)):=by
           show _=_
           rw [HD.out,Kw zZ.out,<-HD.out,MQ.out]
          have HK:=hid (tH (s.extract n j) wr)
          rw [Y3.out] at HK
          have hjn:(n:Int)<=j:=by omega
          have hjs:j<=s.size:=by omega
          have aaK:(j:Int)<=s.size:=by omega
          have Ik:=hid DI
          cases hkw:JI ((s.data.toList.drop n).take rn)
          ·have Y4:=hid hkw
           rw [hkw] at lF HK
           clear hkw
           by_cases h20:20 < rn
           ·have SI:(20:Int) < (j:Int) - (n:Int):=by omega
            have nT:Hid (nextL (s.data.toList.drop n)=(0,0,2)):=by show _=_;rw [lF.out];simp [h20]
            have tq:=hid (nS HW.out (gU (at':=n) HD.out rY.out HH.out nT.out (by decide)))
            clear lF nT DI
            go_wp2_with fail
            refine HK.out.mono ?_;rintro e w1 ⟨rfl,hq1⟩
            have dO:=hid (HQ.out.trans hq1)
            clear hq1
            go_wp2_with fail
            go_ret3
            exact jI dO.out tq.out rfl
           ·have SI:¬ (20:Int) < (j:Int) - (n:Int):=by omega
            have nT:Hid (nextL (s.data.toList.drop n)=(1,rn,0)):=by show _=_;rw [lF.out];simp [h20]
            have tC:=hid (pV (j:=j) (iM (at':=n) HD.out rY.out HH.out nT.out) DI)
            clear lF nT DI
            go_wp2_with fail
            refine HK.out.mono ?_;rintro e w1 ⟨rfl,hq1⟩
            have dO:=hid hq1
            clear hq1
            go_wp2_with fail
            go_meet
            exact ⟨j,1,rfl,rfl,by have:=Ik.out;omega,hjs,tC.out,dO.out⟩
          ·have Y4:=hid hkw
           rw [hkw] at lF HK
           clear hkw
           have nT:Hid (nextL (s.data.toList.drop n)=(3,rn,0)):=by show _=_;rw [lF.out];simp
           have tC:=hid (pV (j:=j) (iM (at':=n) HD.out rY.out HH.out nT.out) DI)
           clear lF nT DI
           go_wp2_with fail
           refine HK.out.mono ?_;rintro e w1 ⟨rfl,hq1⟩
           have dO:=hid hq1
           clear hq1
           go_wp2_with fail
           go_meet
           exact ⟨j,3,rfl,rfl,by have:=Ik.out;omega,hjs,tC.out,dO.out⟩
     case rest =>
      obtain ⟨j,kd,rfl,rfl,hj1,hj2,htk,hq1⟩:=hcut
      have tC:=hid htk
      have dO:=hid (HQ.out.trans hq1)
      have HR2:Hid (oI wc B (.slice o acc.length c) acc):=⟨aZ HR.out.1 hq1 (fun _ _ h=>h),HR.out.2⟩
      have acS:=hid (Ii s n j)
      have hjn:(n:Int)<=j:=by omega
      have aaK:(j:Int)<=s.size:=by omega
      clear htk hq1 Qx Wy je
      go_wp2_with (at_builtin;refine aP wc rfl (.tmp 159) (.tmp 169) 88 rfl 94 _ 4 40 MJ (.slice o acc.length c) acc.length (jR acc) rfl HR2.out.1 #[.int .i64 (kd:Nat),.string (s.extract n j),.int .i64 (n:Nat),.int .i64 (j:Nat)] rfl rfl (by simp [Value.oneCell']) (by unfold maxLen;omega) (by omega) ?_;intro g c' w2 ho hf hg)
      go_roundw
      case rel =>
       have hap:=BG (t:=⟨kd,(s.data.toList.drop n).take (j - n),n,j⟩) dO.out uZ.out HR2.out (by rw [acS.out] at ho;exact ho) hf hg
       exact ⟨_,j,some ⟨g,0,none⟩,c',by simp,rfl,by omega,by rw [HW.out,tC.out,N8],hap.1,by simp;omega,hap.2⟩
      case measure=>simp [intOf];omega
    ·as_aux_lemma =>
       have HH:=hid hh
       have hh':((x.toNat:Int) == 35)=true:=by rw [Ij.out,hh]
       clear hh Ij
       have HWH:=hid (Ih (at':=n) HD.out rY.out HH.out)
       have HP:Hid (0 < bU mO (s.data.toList.drop n)):=by rw [HD.out];exact OG HH.out
       have hrl:=nO mO (s.data.toList.drop n)
       rw [List.length_drop,bH] at hrl
       clear Qx Wy je HD
       generalize hrn:bU mO (s.data.toList.drop n)=rn at *
       have MQ:=hid hrn
       clear hrn
       go_wp2_with fail
       go_loop [6] (fun t=>∃ j:Nat,t=.int .i64 j/\n<=j/\j<=s.size/\n+rn=j+bU mO (s.data.toList.drop j)) (fun t=>s.size - (intOf t).toNat)
       case atStart=>exact ⟨n,rfl,Nat.le_refl _,hn,by rw [MQ.out]⟩
       case round =>
        obtain ⟨j,rfl,hj1,hj2,hj3⟩:=hrel
        have HJ:=hid hj3
        clear hj3
        by_cases hjl:j < s.size
        ·have Gl:(j:Int) < s.size:=by omega
         have BR:=hid (drop_byte s j hjl)
         have Il:=hid (WA s[j])
         obtain ⟨y,hy⟩:∃ y,s[j]=y:=⟨_,rfl⟩
         rw [hy] at BR Il
         cases hnl:mO y
         ·have acT:((y.toNat:Int) != 10)=false:=by rw [<-Il.out,hnl]
          have HNY:=hid hnl
          clear hnl Il
          go_wp2
          go_roundw
          case rel =>
           have e:n+rn=j:=by have:=HJ.out;rw [BR.out,eH,HNY.out] at this;simpa using this
           exact ⟨acc,j,o,c,rfl,rfl,hj2,by rw [HW.out,HWH.out,List.drop_drop,e],HR.out,by omega,HQ.out⟩
          case measure =>
           have e:n+rn=j:=by have:=HJ.out;rw [BR.out,eH,HNY.out] at this;simpa using this
           have:=HP.out
           simp [intOf];omega
         ·have acT:((y.toNat:Int) != 10)=true:=by rw [<-Il.out,hnl]
          have HNY:=hid hnl
          clear hnl Il
          go_wp2
          go_round
          case rel=>exact ⟨j+1,by go_num,by omega,by omega,by rw [HJ.out,BR.out,eH,HNY.out];simp only [if_true];omega⟩
          case measure=>simp [intOf];omega
        ·have Gl:¬ (j:Int) < s.size:=by omega
         have BR:=hid (drop_end s j (by omega))
         go_wp2
         go_roundw
         case rel =>
          have e:n+rn=j:=by have:=HJ.out;rw [BR.out] at this;simpa [bU] using this
          exact ⟨acc,j,o,c,rfl,rfl,hj2,by rw [HW.out,HWH.out,List.drop_drop,e],HR.out,by omega,HQ.out⟩
         case measure =>
          have e:n+rn=j:=by have:=HJ.out;rw [BR.out] at this;simpa [bU] using this
          have:=HP.out
          simp [intOf];omega
   ·have rY:=hid hb
    have hb':(((x.toNat:Int) == 32) || ((x.toNat:Int) == 9) || ((x.toNat:Int) == 10) || ((x.toNat:Int) == 13))=true:=by rw [<-HB.out,hb]
    clear hb HB
    have HWB:=hid (Gi (at':=n) HD.out rY.out)
    cases b32:((x.toNat:Int) == 32)<;>cases b9:((x.toNat:Int) == 9)<;>cases b10:((x.toNat:Int) == 10)<;>cases b13:((x.toNat:Int) == 13)
    all_goals
     rw [b32,b9,b10,b13] at hb'
     first
     | (exact absurd hb' (by decide))
     | skip
    all_goals
     clear hb' Qx Wy je HD
     go_wp2
     go_roundw
     case rel=>exact ⟨acc,n+1,o,c,rfl,by go_num,by omega,by rw [HW.out,HWB.out,List.drop_drop],HR.out,by omega,HQ.out⟩
     case measure=>simp [intOf];omega
  ·have hnn:n=s.size:=by omega
   have ED:=hid hnn
   have wQ:=hid (jZ (at':=n) (l:=s.data.toList.drop n) (by rw [drop_end s n (by omega)];rfl))
   clear hnn
   have hlt':¬ (n:Int) < s.size:=by omega
   go_wp2_with (at_builtin;go_must (refine aP wr rfl (.tmp 172) (.tmp 179) 88 rfl 94 _ 4 40 MJ (.slice o acc.length c) acc.length (jR acc) rfl HR.out.1 #[.int .i64 0,.string ⟨#[]⟩,.int .i64 (s.size:Nat),.int .i64 (s.size:Nat)] rfl rfl ?d1 ?d2 ?d3 ?_))
   case d1=>simp [Value.oneCell']
   case d2=>unfold maxLen;omega
   case d3=>omega
   intro g c' w2 ho hf hg
   have hap:oI w2 B (.slice (some ⟨g,0,none⟩) (acc++[lg s.size]).length c') (acc++[lg s.size])/\ah w w2:=by
    refine BG HQ.out uZ.out HR.out ?_ hf hg
    exact ho
   have SK:=hid hap
   clear hap ho hf hg HR
   go_wp2_with fail
   go_ret3
   refine ⟨SK.out.2,?_⟩
   have hw:jY s.data.toList=.inl (acc++[lg s.size]):=by
    rw [HW.out,wQ.out,List.length_drop,bH,ED.out]
    simp [appW]
   rw [hw]
   refine ⟨g,c',by simp,?_⟩
   rw [<-uZ.out];exact SK.out.1
end Lx
end
section
namespace Lx
open Go.RowKit
theorem nY.ok {l : List UInt8} {w w' : World} {e : Ending} (h : nY l w e w') {ts : List Tok} (hw : jY l = .inl ts) :
    ah w w'/\∃ g c,e=.returned (.tuple #[.slice (some ⟨g,0,none⟩) ts.length c,.int .i64 0,.int .i64 0])/\oI w' w.heap.size (.slice (some ⟨g,0,none⟩) ts.length c) ts:=by
 obtain ⟨hq,h⟩:=h
 rw [hw] at h
 exact ⟨hq,h⟩
theorem nY.bad {l : List UInt8} {w w' : World} {e : Ending} (h : nY l w e w') {p : Nat × Nat} (hw : jY l = .inr p) :
    ah w w'/\e=.returned (.tuple #[.slice none 0 0,.int .i64 (p.1:Nat),.int .i64 (p.2:Nat)]):=by
 obtain ⟨hq,h⟩:=h
 rw [hw] at h
 exact ⟨hq,h⟩
theorem KL:∀ (at':Nat) (l:List UInt8) (ts:List Tok),dF at' l=.inl ts->ts.length<=l.length+1:=by
 suffices h:∀ (n:Nat) (at':Nat) (l:List UInt8) (ts:List Tok),l.length<=n->dF at' l=.inl ts->ts.length<=l.length+1 from fun a l ts hw=>h l.length a l ts (Nat.le_refl _) hw
 intro n
 induction n with
 | zero =>
  intro a l ts hl hw
  have:l=[]:=List.eq_nil_of_length_eq_zero (by omega)
  subst this
  rw [jZ rfl] at hw
  cases hw;simp
 | succ n ih =>
  intro a l ts hl hw
  have hle:=mP false l
  by_cases hk:aQ false l=l.length
  ·rw [jZ hk] at hw;cases hw;simp
  ·by_cases he:(nextL (l.drop (aQ false l))).2.2=0
   ·have hlen:=qB he
    rw [oh (by omega) he] at hw
    revert hw
    cases hr:dF (a+aQ false l+(nextL (l.drop (aQ false l))).2.1) ((l.drop (aQ false l)).drop (nextL (l.drop (aQ false l))).2.1) with
    | inr e=>intro hw;cases hw
    | inl us =>
     intro hw
     cases hw
     have:=ih _ _ us (by simp only [List.length_drop] at *;omega) hr
     simp only [List.length_drop,List.length_cons] at *
     omega
   ·rw [og (by omega) he] at hw;cases hw
end Lx
end
section
namespace Pa
open Go.RowKit Lx
theorem SL {ts:List Tok} {f i:Nat} (h:sW ts i=true):Dz ts (f+1) i=wU (Dz ts f) ts i:=by
 conv=>lhs;unfold Dz
 unfold sW at h
 rw [if_pos h]
theorem Po {ts:List Tok} {f i:Nat} (h:sW ts i=false):Dz ts (f+1) i=goQ (Dz ts f) (rO ts (f - 1)) ts (jf (Dz ts f) (rO ts (f - 1)) ts i):=by
 conv=>lhs;unfold Dz
 unfold sW at h
 rw [if_neg (by rw [h];simp)]
theorem SN {ts:List Tok} {i:Nat} (hs:Shut ts) (h:sW ts i=true):i+1 < ts.length:=by
 unfold sW at h
 rw [Bool.or_eq_true,Bool.or_eq_true] at h
 rcases h with (h | h) | h
 ·exact dI hs h (by decide)
 ·exact dI hs h (by decide)
 ·exact dI hs h (by decide)
theorem Pq (ts : List Tok) (g c : Nat) (E : Nat -> jL) (T : Nat -> nI) (i : Nat) (ai lv mo : Int) (w : World) (ea : ai = i) (ht : ny w g ts) (htl : ∀ t ∈ ts, t.text.length <= 1000000)
    (hbr:bY ts i 4 nJ=true->∀ W,ah w W->Calls Tryz.prog 122 #[tks g ts c,.int .i64 i,.int .i64 lv,.int .i64 mo] W (iJ W (VQ E T ts i (E (i+1))))) :
    Calls Tryz.prog 103 #[tks g ts c,.int .i64 ai,.int .i64 lv,.int .i64 mo] w (iJ w (jf E T ts i)):=by
 subst ea
 cases hb:nR ts i
 ·exact OW ts g c E T i lv mo w hb ht
 ·obtain ⟨t, hti⟩ : ∃ t, ts[i]? = some t := by
    unfold nR at hb
    split at hb
    ·next t ht=>exact ⟨t,ht⟩
    ·cases hb
  cases hk1:(t.kind == 1)
  ·cases hk2:(t.kind == 2)
   ·cases hx:(t.text == vw)
    ·cases hy:(t.text == nJ)
     ·exact KC ts g c E T i lv mo w hb ht t hti hk1 hk2 hx hy
     ·refine OZ ts g c E T i lv mo w hb ht t hti hk1 hk2 hx hy (hbr ?_)
      have h1:=RH hti
      rw [hb,hk1,hk2,sV hti,sV hti,sV hti,hx] at h1
      rw [sV hti,hy,Bool.and_true]
      have h2:(t.text == Bh)=false:=by
       have:=eq_of_beq hy
       rw [this];rfl
      rw [h2] at h1
      simpa [hy] using h1.symm
    ·exact OY ts g c E T i lv mo w hb ht t hti hk1 hk2 hx
   ·exact RX ts g c E T i lv mo w hb ht t hti hk1 hk2 (htl t (List.mem_of_getElem? hti))
  ·exact OX ts g c E T i lv mo w hb ht t hti hk1
theorem Io (ts:List Tok) (g c:Nat) (hsh:Shut ts) (htl:∀ t∈ts,t.text.length<=1000000):∀ f,ExT ts g c f
 | 0=>O1 ts g c
 | f+1=>by
  have ih:=Io ts g c hsh htl f
  intro i ai lv mo W ea hi ht hf h1 h2 h3 h4
  subst ea
  have hle:lv<=mo:=by omega
  have hf2:f=(mo+1 - (lv+1)).toNat:=by omega
  have hf3:f - 1=(mo+1 - (lv+2)).toNat:=by omega
  have hE:∀ (j:Nat) (aj:Int) (W':World),aj=j->j < ts.length->ah W W'->Calls Tryz.prog 79 #[tks g ts c,.int .i64 aj,.int .i64 (lv+1),.int .i64 mo] W' (iJ W' (Dz ts f j)):=fun j aj W' e hj hq=>ih j aj (lv+1) mo W' e hj (ht.stay hq) hf2 (by omega) (by omega) h3 h4
  have hT:∀ (j:Nat) (aj:Int) (W':World),aj=j->j < ts.length->ah W W'->Calls Tryz.prog 129 #[tks g ts c,.int .i64 aj,.int .i64 (lv+2),.int .i64 mo] W' (F8 W' (rO ts (f - 1) j)):=fun j aj W' e hj hq=>Ig ts g c hsh (f - 1) j aj (lv+2) mo W' e hj (ht.stay hq) hf3 (by omega) (by omega) h3 (by omega)
  cases hw:sW ts i
  ·rw [Po hw]
   refine KE ts g c (Dz ts f) (rO ts (f - 1)) i lv mo W hi (fun j hj=>Bv hsh (yH hsh f) (Bq hsh (f - 1)) j hj) hsh ht hle hw (fun j aj W' ea hq=>?_)
   refine Pq ts g c (Dz ts f) (rO ts (f - 1)) j aj lv mo W' ea (ht.stay hq) htl (fun ho W'' hq'=>?_)
   exact Gf ts g c (Dz ts f) (rO ts (f - 1)) j lv mo W'' hsh ho (yH hsh f) (Bq hsh (f - 1)) (ht.stay (hq.trans hq')) h1 (by omega) (fun j' aj' W3 e hj hq3=>hE j' aj' W3 e hj ((hq.trans hq').trans hq3)) (fun j' aj' W3 e hj hq3=>hT j' aj' W3 e hj ((hq.trans hq').trans hq3))
  ·rw [SL hw]
   exact O4 ts g c f (Dz ts f) i lv mo W ht hle hw (fun W' hq=>Sz ts g c (Dz ts f) i lv mo W' hsh (SN hsh hw) (yH hsh f) (ht.stay hq) h1 (by omega) (fun j aj W2 e hj hq2=>hE j aj W2 e hj (hq.trans hq2)))
def SQ (w:World) (r:jL) (e:Ending) (w':World):Prop:=match r with
 | .inl ((h,ps),_,j)=>∃ o1 l1 c1 o2 l2 c2,e=.returned (.tuple #[bC h o1 l1 c1 o2 l2 c2,.int .i64 (j:Nat),.int .i64 0])/\aC (fun b=>w.heap.size<=b) w' o1 l1 h.tp/\aY (fun b=>w.heap.size<=b) w' o2 l2 ps/\ah w w'
 | .inr (j,er)=>e=.returned (.tuple #[.agg zero9,.int .i64 (j:Nat),.int .i64 (er:Nat)])/\ah w w'
theorem Pv (ts : List Tok) (g c : Nat) (f : Nat) (mo : Int) (w : World) (hsh : Shut ts) (h0 : 0 < ts.length) (htl : ∀ t ∈ ts, t.text.length <= 1000000) (ht : ny w g ts) (hf : f = mo.toNat) (hm1 : -1000000 <= mo) (hm2 : mo <= 800000) :
    Calls Tryz.prog 48 #[tks g ts c,.int .i64 mo] w (SQ w (oH ts f)):=by
 have hfew:=ht.few
 obtain ⟨W0,hW0⟩:∃ W0,W0=w.alloc (.cells zero9 29):=⟨_,rfl⟩
 have aK:Hid (ah w W0):=by rw [hW0];exact ah.alloc _ _
 have HB0:Hid (W0.heap[w.heap.size]?=some (.cells zero9 29 (0,0))):=by show _=_;rw [hW0];exact heap_alloc_new w _
 have HC:Hid (Calls Tryz.prog 79 #[tks g ts c,.int .i64 0,.int .i64 1,.int .i64 mo] W0 (iJ W0 (Dz ts f 0))):=Io ts g c hsh htl f 0 0 1 mo W0 rfl h0 (ht.stay aK.out) (by omega) (by omega) (by omega) hm1 hm2
 have kR:=yH hsh f 0 h0
 have Vq:Hid (∀ (j:Nat) (t:Tok),ts[j]?=some t->∀ W,ah w W->W.cell? ⟨g,j * 4,none⟩=some (.int .i64 (t.kind:Nat))):=fun j t h W hq=>((ht.stay hq).cells j t h).1
 obtain ⟨res,hres⟩:∃ res,oH ts f=res:=⟨_,rfl⟩
 have aW:=hid hres
 rw [hres]
 clear ht hsh htl hres hf
 go_enter Tryz.func48,Tryz.ntmps48
 go_wp2_with fail
 rw [<-hW0]
 clear hW0
 generalize hB:w.heap.size=B at *
 have bM:=hid hB
 clear hB
 cases hr:Dz ts f 0 with
 | inr y =>
  obtain ⟨j,er⟩:=y
  rw [hr] at HC kR
  have hne:er≠0:=kR.2
  have hne2:((er:Int) == 0)=false:=by simp [hne]
  have JL:((er:Int) != 0)=true:=by simp [hne]
  have sN:Hid (res=.inr (j,er)):=by show _=_;rw [<-aW.out];unfold oH;rw [hr]
  refine HC.out.mono ?_;rintro e w2 ⟨rfl,hq2⟩
  obtain ⟨W3,hW3⟩:∃ W3,W3=w2.alloc (.cells (z13 (j:Nat) (er:Nat)) 129):=⟨_,rfl⟩
  have hqa:ah w2 W3:=by rw [hW3];exact ah.alloc _ _
  have hr3:W3.heap[w2.heap.size]?=some (.cells (z13 (j:Nat) (er:Nat)) 129 (0,0)):=by rw [hW3];exact heap_alloc_new w2 _
  have hb3:=ay (hq2.trans hqa) (fun h=>h) HB0.out
  have HB3:=hid hb3
  have dG:=hid (aK.out.trans (hq2.trans hqa))
  have hw2:B < w2.heap.size:=Nat.lt_of_lt_of_le (lt_of_block HB0.out) hq2.size
  go_upto_region 2 with fail
  change Code.wp _ _ _ _ (w2.alloc (.cells (z13 (j:Nat) (er:Nat)) 129))
  rw [<-hW3]
  clear hW3 hqa hq2 kR
  generalize w2.heap.size=rb at *
  have hn1:¬ B=rb:=by omega
  have hn2:¬ rb=B:=by omega
  obtain ⟨r0,r1,r2,r3,r4,r5,r6,r7,r8,r9,r10,r11,r12⟩:=aG hr3
  obtain ⟨⟨t0,t1,t2,t3,t4,t5,t6,t7,t8⟩,u0,u1,u2,u3,u4,u5,u6,u7,u8⟩:=aT hb3
  clear hr3 hb3
  go_upto_region 5 with fail
  go_region
  have hf:=(iW W3 B (.int .i64 0) (.string ⟨#[]⟩) (.int .i64 0) (.int .i64 0) (.int .i64 0) (.slice none 0 0) (.slice none 0 0) (.int .i64 0) (.int .i64 0)).trans (Fr.drew (fun k=>k=B) _)
  have kF:=ak (ah.drew _) (dH (a0:=.int .i64 0) (a1:=.string ⟨#[]⟩) (a2:=.int .i64 0) (a3:=.int .i64 0) (a4:=.int .i64 0) (a5:=.slice none 0 0) (a6:=.slice none 0 0) (a7:=.int .i64 0) (a8:=.int .i64 0) HB3.out)
  first
   | with_reducible change Exit.then _ _ _ _ (gq W3 B (.int .i64 0) (.string ⟨#[]⟩) (.int .i64 0) (.int .i64 0) (.int .i64 0) (.slice none 0 0) (.slice none 0 0) (.int .i64 0) (.int .i64 0)).drew
   | change Exit.then _ _ _ _ (gq W3 B (.int .i64 0) (.string ⟨#[]⟩) (.int .i64 0) (.int .i64 0) (.int .i64 0) (.slice none 0 0) (.slice none 0 0) (.int .i64 0) (.int .i64 0)).drew
  generalize (gq W3 B (.int .i64 0) (.string ⟨#[]⟩) (.int .i64 0) (.int .i64 0) (.int .i64 0) (.slice none 0 0) (.slice none 0 0) (.int .i64 0) (.int .i64 0)).drew=wf at *
  obtain ⟨⟨x0,x1,x2,x3,x4,x5,x6,x7,x8⟩,_⟩:=aT kF
  clear kF
  go_wp2_with fail
  have dN:ah w wf:=(dG.out).trans' hf (fun k hk e=>by have:=bM.out;omega)
  refine bodyPost_ret (by simp [results,Tryz.results48,go_sem,x0,x1,x2,x3,x4,x5,x6,x7,x8];rfl) rfl ?_
  rw [sN.out]
  exact ⟨rfl,dN⟩
 | inl y =>
  obtain ⟨⟨h,ps⟩,x,j⟩:=y
  rw [hr] at HC kR
  have hj2:0 < j/\j < ts.length:=kR
  obtain ⟨t9,O6⟩:∃ t9,ts[j]?=some t9:=⟨_,List.getElem?_eq_getElem hj2.2⟩
  have HEQ:Hid (Ry ts j=(t9.kind == 0)):=by show _=_;unfold Ry;rw [O6]
  have hjl:(j:Int) < ts.length:=by omega
  have adu:¬ (j:Int)≥ts.length:=by omega
  have adv:¬ (ts.length:Int)<=j:=by omega
  have hj0:(0:Int)<=j:=by omega
  have hkn:=kind_eq t9.kind 0
  refine HC.out.mono ?_;rintro e w2 ⟨o1,l1,c1,o2,l2,c2,rfl,hs1,hs2,hq2⟩
  obtain ⟨W3,hW3⟩:∃ W3,W3=w2.alloc (.cells (c13 h o1 l1 c1 o2 l2 c2 x (j:Nat) 0) 129):=⟨_,rfl⟩
  have hqa:ah w2 W3:=by rw [hW3];exact ah.alloc _ _
  have hr3:W3.heap[w2.heap.size]?=some (.cells (c13 h o1 l1 c1 o2 l2 c2 x (j:Nat) 0) 129 (0,0)):=by rw [hW3];exact heap_alloc_new w2 _
  have hb3:=ay (hq2.trans hqa) (fun h=>h) HB0.out
  have HB3:=hid hb3
  have dG:=hid (aK.out.trans (hq2.trans hqa))
  have hw2:B < w2.heap.size:=Nat.lt_of_lt_of_le (lt_of_block HB0.out) hq2.size
  have nH:=hid (hs1.stay hqa)
  have HS2:=hid (hs2.stay hqa)
  have hw0:=lt_of_block HB0.out
  have k0:=Vq.out j t9 O6 W3 dG.out
  go_upto_region 2 with fail
  change Code.wp _ _ _ _ (w2.alloc (.cells (c13 h o1 l1 c1 o2 l2 c2 x (j:Nat) 0) 129))
  rw [<-hW3]
  clear hW3 hqa hq2 kR hs1 hs2 O6
  generalize w2.heap.size=rb at *
  have hn1:¬ B=rb:=by omega
  have hn2:¬ rb=B:=by omega
  have HR3:=hid hr3
  obtain ⟨r0,r1,r2,r3,r4,r5,r6,r7,r8,r9,r10,r11,r12⟩:=aG hr3
  have v0:=au hr3 0
  have v1:=au hr3 1
  have v2:=au hr3 2
  have v3:=au hr3 3
  have v4:=au hr3 4
  have v5:=au hr3 5
  have v6:=au hr3 6
  have v7:=au hr3 7
  have v8:=au hr3 8
  have v9:=au hr3 9
  have v10:=au hr3 10
  have v11:=au hr3 11
  have v12:=au hr3 12
  obtain ⟨⟨t0,t1,t2,t3,t4,t5,t6,t7,t8⟩,u0,u1,u2,u3,u4,u5,u6,u7,u8⟩:=aT hb3
  clear hr3 hb3
  cases hke:(t9.kind == 0)
  case true =>
   have hk1:((t9.kind:Int) != 0)=false:=by rw [bne,show ((t9.kind:Int) == 0)=true from hkn.trans hke];rfl
   have sN:Hid (res=.inl ((h,ps),x,j+1)):=by show _=_;rw [<-aW.out];unfold oH;rw [hr];show (if Ry ts j=true then _ else _)=_;rw [if_pos (by rw [HEQ.out,hke])]
   clear hkn hke
   go_upto_region 6 with fail
   go_region
   have hf:=(iW W3 B (.int .i64 h.k) (.string h.nm) (.int .i64 h.n) (.int .i64 h.tk) (.int .i64 h.tn) (.slice o1 l1 c1) (.slice o2 l2 c2) (.int .i64 h.fr) (.int .i64 h.en)).trans (Fr.drew (fun k=>k=B) _)
   have kF:=ak (ah.drew _) (dH (a0:=.int .i64 h.k) (a1:=.string h.nm) (a2:=.int .i64 h.n) (a3:=.int .i64 h.tk) (a4:=.int .i64 h.tn) (a5:=.slice o1 l1 c1) (a6:=.slice o2 l2 c2) (a7:=.int .i64 h.fr) (a8:=.int .i64 h.en) HB3.out)
   first
    | with_reducible change Exit.then _ _ _ _ (gq W3 B (.int .i64 h.k) (.string h.nm) (.int .i64 h.n) (.int .i64 h.tk) (.int .i64 h.tn) (.slice o1 l1 c1) (.slice o2 l2 c2) (.int .i64 h.fr) (.int .i64 h.en)).drew
    | change Exit.then _ _ _ _ (gq W3 B (.int .i64 h.k) (.string h.nm) (.int .i64 h.n) (.int .i64 h.tk) (.int .i64 h.tn) (.slice o1 l1 c1) (.slice o2 l2 c2) (.int .i64 h.fr) (.int .i64 h.en)).drew
   generalize (gq W3 B (.int .i64 h.k) (.string h.nm) (.int .i64 h.n) (.int .i64 h.tk) (.int .i64 h.tn) (.slice o1 l1 c1) (.slice o2 l2 c2) (.int .i64 h.fr) (.int .i64 h.en)).drew=wf at *
   obtain ⟨⟨x0,x1,x2,x3,x4,x5,x6,x7,x8⟩,_⟩:=aT kF
   clear kF
   go_wp2_with fail
   have dN:ah w wf:=(dG.out).trans' hf (fun k hk e=>by have:=bM.out;omega)
   refine bodyPost_ret (by simp [results,Tryz.results48,go_sem,x0,x1,x2,x3,x4,x5,x6,x7,x8];rfl) rfl ?_
   rw [sN.out]
   exact ⟨o1,l1,c1,o2,l2,c2,rfl,nH.out.fr hf (fun b _ k=>by have k':W0.heap.size<=b:=k;exact ⟨by have:=bM.out;show w.heap.size<=b;omega,by omega⟩),HS2.out.fr hf (fun b _ k=>by have k':W0.heap.size<=b:=k;exact ⟨by have:=bM.out;show w.heap.size<=b;omega,by omega⟩),dN⟩
  case false =>
   have hk1:((t9.kind:Int) != 0)=true:=by rw [bne,show ((t9.kind:Int) == 0)=false from hkn.trans hke];rfl
   have sN:Hid (res=.inr (j,3)):=by show _=_;rw [<-aW.out];unfold oH;rw [hr];show (if Ry ts j=true then _ else _)=_;rw [if_neg (by rw [HEQ.out,hke];simp)]
   have KA:=hid (kM (j:Int) 3 W3)
   clear hkn hke
   go_wp2_with fail
   refine KA.out.mono ?_;rintro e w4 ⟨rfl,hq4⟩
   have hr4:=ak hq4 HR3.out
   have hb4:=ak hq4 HB3.out
   clear r0 v0 r1 v1 r2 v2 r3 v3 r4 v4 r5 v5 r6 v6 r7 v7 r8 v8 r9 v9 r10 v10 r11 v11 r12 v12 t0 u0 t1 u1 t2 u2 t3 u3 t4 u4 t5 u5 t6 u6 t7 u7 t8 u8
   obtain ⟨r0,r1,r2,r3,r4,r5,r6,r7,r8,r9,r10,r11,r12⟩:=aG hr4
   have v0:=au hr4 0
   have v1:=au hr4 1
   have v2:=au hr4 2
   have v3:=au hr4 3
   have v4:=au hr4 4
   have v5:=au hr4 5
   have v6:=au hr4 6
   have v7:=au hr4 7
   have v8:=au hr4 8
   have v9:=au hr4 9
   have v10:=au hr4 10
   have v11:=au hr4 11
   have v12:=au hr4 12
   go_upto_region 4 with fail
   change Code.wp _ _ _ _ (aO w4 rb (.int .i64 0) (.string ⟨#[]⟩) (.int .i64 0) (.int .i64 0) (.int .i64 0) (.slice none 0 0) (.slice none 0 0) (.int .i64 0) (.int .i64 0) (.int .i64 0) (.int .i64 0) (.int .i64 (j:Nat)) (.int .i64 3))
   have hf5:=bf w4 rb (.int .i64 0) (.string ⟨#[]⟩) (.int .i64 0) (.int .i64 0) (.int .i64 0) (.slice none 0 0) (.slice none 0 0) (.int .i64 0) (.int .i64 0) (.int .i64 0) (.int .i64 0) (.int .i64 (j:Nat)) (.int .i64 3)
   have YR:=aN (a0:=.int .i64 0) (a1:=.string ⟨#[]⟩) (a2:=.int .i64 0) (a3:=.int .i64 0) (a4:=.int .i64 0) (a5:=.slice none 0 0) (a6:=.slice none 0 0) (a7:=.int .i64 0) (a8:=.int .i64 0) (a9:=.int .i64 0) (a10:=.int .i64 0) (a11:=.int .i64 (j:Nat)) (a12:=.int .i64 3) hr4
   have hb5:=ay hf5 (by omega) hb4
   have XM:=hid hb5
   have qM:=hid ((dG.out.trans hq4).trans' hf5 (fun b hb e=>by have:=bM.out;omega))
   clear hf5 hr4 hb4 hq4 r0 v0 r1 v1 r2 v2 r3 v3 r4 v4 r5 v5 r6 v6 r7 v7 r8 v8 r9 v9 r10 v10 r11 v11 r12 v12
   generalize aO w4 rb (.int .i64 0) (.string ⟨#[]⟩) (.int .i64 0) (.int .i64 0) (.int .i64 0) (.slice none 0 0) (.slice none 0 0) (.int .i64 0) (.int .i64 0) (.int .i64 0) (.int .i64 0) (.int .i64 (j:Nat)) (.int .i64 3)=W5 at *
   obtain ⟨r0,r1,r2,r3,r4,r5,r6,r7,r8,r9,r10,r11,r12⟩:=aG YR
   obtain ⟨⟨t0,t1,t2,t3,t4,t5,t6,t7,t8⟩,u0,u1,u2,u3,u4,u5,u6,u7,u8⟩:=aT hb5
   clear YR hb5
   go_upto_region 5 with fail
   go_region
   have hf:=(iW W5 B (.int .i64 0) (.string ⟨#[]⟩) (.int .i64 0) (.int .i64 0) (.int .i64 0) (.slice none 0 0) (.slice none 0 0) (.int .i64 0) (.int .i64 0)).trans (Fr.drew (fun k=>k=B) _)
   have kF:=ak (ah.drew _) (dH (a0:=.int .i64 0) (a1:=.string ⟨#[]⟩) (a2:=.int .i64 0) (a3:=.int .i64 0) (a4:=.int .i64 0) (a5:=.slice none 0 0) (a6:=.slice none 0 0) (a7:=.int .i64 0) (a8:=.int .i64 0) XM.out)
   first
    | with_reducible change Exit.then _ _ _ _ (gq W5 B (.int .i64 0) (.string ⟨#[]⟩) (.int .i64 0) (.int .i64 0) (.int .i64 0) (.slice none 0 0) (.slice none 0 0) (.int .i64 0) (.int .i64 0)).drew
    | change Exit.then _ _ _ _ (gq W5 B (.int .i64 0) (.string ⟨#[]⟩) (.int .i64 0) (.int .i64 0) (.int .i64 0) (.slice none 0 0) (.slice none 0 0) (.int .i64 0) (.int .i64 0)).drew
   generalize (gq W5 B (.int .i64 0) (.string ⟨#[]⟩) (.int .i64 0) (.int .i64 0) (.int .i64 0) (.slice none 0 0) (.slice none 0 0) (.int .i64 0) (.int .i64 0)).drew=wf at *
   obtain ⟨⟨x0,x1,x2,x3,x4,x5,x6,x7,x8⟩,_⟩:=aT kF
   clear kF
   go_wp2_with fail
   have dN:ah w wf:=(qM.out).trans' hf (fun k hk e=>by have:=bM.out;omega)
   refine bodyPost_ret (by simp [results,Tryz.results48,go_sem,x0,x1,x2,x3,x4,x5,x6,x7,x8];rfl) rfl ?_
   rw [sN.out]
   exact ⟨rfl,dN⟩
theorem DZ:∀ (at':Nat) (l:List UInt8) (p:Nat × Nat),dF at' l=.inr p->p.1<=at'+l.length:=by
 suffices h:∀ (n:Nat) (at':Nat) (l:List UInt8) (p:Nat × Nat),l.length<=n->dF at' l=.inr p->p.1<=at'+l.length from fun a l ts hw=>h l.length a l ts (Nat.le_refl _) hw
 intro n
 induction n with
 | zero =>
  intro a l p hl hw
  have:l=[]:=List.eq_nil_of_length_eq_zero (by omega)
  subst this
  rw [jZ rfl] at hw
  cases hw
 | succ n ih =>
  intro a l p hl hw
  have hle:=mP false l
  by_cases hk:aQ false l=l.length
  ·rw [jZ hk] at hw;cases hw
  ·by_cases he:(nextL (l.drop (aQ false l))).2.2=0
   ·have hlen:=qB he
    rw [oh (by omega) he] at hw
    revert hw
    cases hr:dF (a+aQ false l+(nextL (l.drop (aQ false l))).2.1) ((l.drop (aQ false l)).drop (nextL (l.drop (aQ false l))).2.1) with
    | inr e =>
     intro hw
     have:=ih _ _ e (by simp only [List.length_drop] at *;omega) hr
     cases hw
     simp only [List.length_drop] at *
     omega
    | inl us=>intro hw;cases hw
   ·rw [og (by omega) he] at hw;cases hw;simp;omega
def Y5 (w:World) (r:Sum (Nd × To) (Pt × Nat)) (e:Ending) (w':World):Prop:=match r with
 | .inl (h,ps)=>∃ o1 l1 c1 o2 l2 c2,e=.returned (.tuple #[bC h o1 l1 c1 o2 l2 c2,.agg #[.int .i64 0,.int .i64 0],.int .i64 0])/\aC (fun b=>w.heap.size<=b) w' o1 l1 h.tp/\aY (fun b=>w.heap.size<=b) w' o2 l2 ps/\ah w w'
 | .inr (p,er)=>e=.returned (.tuple #[.agg zero9,.agg #[.int .i64 p.1,.int .i64 p.2],.int .i64 (er:Nat)])/\ah w w'
theorem Px {w:World} {B:Nat} {a b:Value} {t:TypeId} (h:w.heap[B]?=some (.cells #[a,b] t (0,0))):w.cell? ⟨B,0,none⟩=some a/\w.cell? ⟨B,1,none⟩=some b/\w.frozen? ⟨B,0,none⟩=false/\w.frozen? ⟨B,1,none⟩=false:=by
 refine ⟨?_,?_,?_,?_⟩
 ·rw [cell_of_row _ _ _ _ _ (0,0) h];rfl
 ·rw [cell_of_row _ _ _ _ _ (0,0) h];rfl
 ·simp [World.frozen?,h]
 ·simp [World.frozen?,h]
def xg (w:World) (B C:Nat) (a0 a1 a2 a3 a4 a5 a6 a7 a8 b0 b1:Value):World:=((gq w B a0 a1 a2 a3 a4 a5 a6 a7 a8).setCell ⟨C,0,none⟩ b0).setCell ⟨C,1,none⟩ b1
theorem yL {w : World} {B C : Nat} {z0 z1 z2 z3 z4 z5 z6 z7 z8 y0 y1 : Value} {t t' : TypeId} (h : w.heap[B]? = some (.cells #[z0, z1, z2, z3, z4, z5, z6, z7, z8] t (0, 0))) (h' : w.heap[C]? = some (.cells #[y0, y1] t' (0, 0))) (hn : B ≠ C) (a0 a1 a2 a3 a4 a5 a6 a7 a8 b0 b1 : Value) :
    Fr (fun k=>k=B∨k=C) w (xg w B C a0 a1 a2 a3 a4 a5 a6 a7 a8 b0 b1)/\(xg w B C a0 a1 a2 a3 a4 a5 a6 a7 a8 b0 b1).heap[B]?=some (.cells #[a0,a1,a2,a3,a4,a5,a6,a7,a8] t (0,0))/\(xg w B C a0 a1 a2 a3 a4 a5 a6 a7 a8 b0 b1).heap[C]?=some (.cells #[b0,b1] t' (0,0)):=by
 have h1:=iW w B a0 a1 a2 a3 a4 a5 a6 a7 a8
 have h2:=Fr.setCell (fun k=>k=C) (gq w B a0 a1 a2 a3 a4 a5 a6 a7 a8) ⟨C,0,none⟩ b0 rfl
 have h3:=Fr.setCell (fun k=>k=C) ((gq w B a0 a1 a2 a3 a4 a5 a6 a7 a8).setCell ⟨C,0,none⟩ b0) ⟨C,1,none⟩ b1 rfl
 refine ⟨((h1.mono (fun _ _ k=>.inl k)).trans (h2.mono (fun _ _ k=>.inr k))).trans (h3.mono (fun _ _ k=>.inr k)),ay h3 hn (ay h2 hn (dH h)),aB (i:=1) (u:=b1) (aB (i:=0) (u:=b0) (ay h1 (fun e=>hn e.symm) h'))⟩
theorem Py {s:List UInt8} {ts:List Tok} (h:jY s=.inl ts):∀ t∈ts,t.text.length<=s.length:=by
 intro t ht
 by_cases hk:t.kind=0
 ·obtain ⟨us,n,rfl,hu⟩:=sU _ _ _ _ h
  rcases List.mem_append.1 ht with h1 | h1
  ·exact absurd hk (hu t h1)
  ·simp at h1;subst h1;exact Nat.zero_le _
 ·have h1:=(KI h t ht).2 hk
  rw [h1.2.2,List.length_take,List.length_drop];omega
theorem SS (s : ByteArray) (hs : s.size <= 100000) (f : Nat) (mo : Int) (hf : f = mo.toNat) (hm1 : -1000000 <= mo) (hm2 : mo <= 800000) (w : World) :
    Calls Tryz.prog 26 #[.string s,.int .i64 mo] w (Y5 w (Ic s.data.toList f)):=by
 obtain ⟨W0,hW0⟩:∃ W0,W0=(w.alloc (.cells zero9 29)).alloc (.cells #[.int .i64 0,.int .i64 0] 27):=⟨_,rfl⟩
 have aK:Hid (ah w W0):=by rw [hW0];exact (ah.alloc _ _).trans (ah.alloc _ _)
 have HB0:Hid (W0.heap[w.heap.size]?=some (.cells zero9 29 (0,0))):=by show _=_;rw [hW0,Below.heap_alloc _ _ _ (by simp)];exact heap_alloc_new w _
 have HS0:Hid (W0.heap[w.heap.size+1]?=some (.cells #[.int .i64 0,.int .i64 0] 27 (0,0))):=by
  show _=_;rw [hW0]
  have:=heap_alloc_new (w.alloc (.cells zero9 29)) (.cells #[.int .i64 0,.int .i64 0] 27)
  simpa using this
 have HC:=hid (Gj s hs W0)
 have HWH:Hid (∀ (ts:List Tok) (g c:Nat) (W:World),jY s.data.toList=.inl ts->ny W g ts->Calls Tryz.prog 48 #[tks g ts c,.int .i64 mo] W (SQ W (oH ts f))):=fun ts g c W hw ht=>Pv ts g c f mo W (vT hw).1 (vT hw).2 (fun t h=>by have:=Py hw t h;rw [bH] at this;omega) ht hf hm1 hm2
 have XG:Hid (∀ ts,jY s.data.toList=.inl ts->ts.length<=1000000):=by
  intro ts h
  have:=KL _ _ _ h
  rw [bH] at this;omega
 obtain ⟨res,hres⟩:∃ res,Ic s.data.toList f=res:=⟨_,rfl⟩
 have aW:=hid hres
 rw [hres]
 clear hres hf
 go_enter Tryz.func26,Tryz.ntmps26
 go_wp2_with fail
 change Calls _ _ _ ((w.alloc (.cells zero9 29)).alloc (.cells #[.int .i64 0,.int .i64 0] 27)) _
 rw [<-hW0]
 clear hW0
 generalize hB:w.heap.size=B at *
 have bM:=hid hB
 clear hB
 cases hw:jY s.data.toList with
 | inr y =>
  obtain ⟨a,er⟩:=y
  have hne:er≠0:=Bz _ _ _ _ hw
  have hne2:((er:Int) != 0)=true:=by simp [hne]
  have sN:Hid (res=.inr (((a:Int),(a:Int)+1),er)):=by show _=_;rw [<-aW.out];unfold Ic;rw [hw]
  refine HC.out.mono ?_;intro e w2 hp
  obtain ⟨hq2,rfl⟩:=hp.bad hw
  have ha:a<=100000:=by have h1:a<=0+s.data.toList.length:=DZ 0 _ _ hw;rw [bH] at h1;omega
  have HB2:=hid (ak hq2 HB0.out)
  have HS2:=hid (ak hq2 HS0.out)
  have dO:=hid (aK.out.trans hq2)
  have hb2:=HB2.out
  obtain ⟨s0,s1,s2,s3⟩:=Px HS2.out
  obtain ⟨⟨t0,t1,t2,t3,t4,t5,t6,t7,t8⟩,u0,u1,u2,u3,u4,u5,u6,u7,u8⟩:=aT hb2
  clear hb2 hq2 hp hw
  go_wp2_with fail
  obtain ⟨hf,kF,hs9⟩:=yL HB2.out HS2.out (by omega) (.int .i64 0) (.string ⟨#[]⟩) (.int .i64 0) (.int .i64 0) (.int .i64 0) (.slice none 0 0) (.slice none 0 0) (.int .i64 0) (.int .i64 0) (.int .i64 (a:Nat)) (.int .i64 ((a:Int)+1))
  change bodyPost _ _ _ _ _ (xg w2 B (B+1) (.int .i64 0) (.string ⟨#[]⟩) (.int .i64 0) (.int .i64 0) (.int .i64 0) (.slice none 0 0) (.slice none 0 0) (.int .i64 0) (.int .i64 0) (.int .i64 (a:Nat)) (.int .i64 ((a:Int)+1)))
  generalize (xg w2 B (B+1) (.int .i64 0) (.string ⟨#[]⟩) (.int .i64 0) (.int .i64 0) (.int .i64 0) (.slice none 0 0) (.slice none 0 0) (.int .i64 0) (.int .i64 0) (.int .i64 (a:Nat)) (.int .i64 ((a:Int)+1)))=wf at *
  obtain ⟨⟨x0,x1,x2,x3,x4,x5,x6,x7,x8⟩,_⟩:=aT kF
  obtain ⟨y0,y1,_,_⟩:=Px hs9
  have dN:ah w wf:=(dO.out).trans' hf (fun k hk e=>by have:=bM.out;omega)
  refine bodyPost_ret (by simp [results,Tryz.results26,go_sem,x0,x1,x2,x3,x4,x5,x6,x7,x8,y0,y1];rfl) rfl ?_
  rw [sN.out]
  exact ⟨rfl,dN⟩
 | inl ts =>
  refine HC.out.mono ?_;intro e w2 hp
  obtain ⟨hq2,g,c,rfl,hrow⟩:=hp.ok hw
  have htk:ny w2 g ts:=⟨hrow.at,hrow.lt.2,XG.out ts hw⟩
  have hlen:=XG.out ts hw
  have hgl:W0.heap.size<=g:=hrow.lt.1
  have hz0:B+1 < W0.heap.size:=lt_of_block HS0.out
  have HWC:=hid (HWH.out ts g c w2 hw htk)
  have DC:=hid (vT hw)
  have HTR:Hid (res=match oH ts f with
   | .inl (t,_,_)=>.inl t
   | .inr (i,e)=>.inr (at' ts i,e)):=by show _=_;rw [<-aW.out];unfold Ic;rw [hw];rfl
  have dO:=hid hq2
  have HTK:=hid htk
  clear hp hrow hw htk hq2
  go_wp2_with fail
  cases hr:oH ts f with
  | inr y =>
   obtain ⟨j,er⟩:=y
   obtain ⟨hj,hne⟩:=OD DC.out.1 DC.out.2 f j er hr
   have hne2:((er:Int) != 0)=true:=by simp [hne]
   rw [hr] at HWC HTR
   refine HWC.out.mono ?_;rintro e w3 ⟨rfl,hq3⟩
   obtain ⟨W4,Gg⟩:∃ W4,W4=w3.alloc (.cells zero9 29):=⟨_,rfl⟩
   have hq4:ah w2 W4:=by rw [Gg];exact hq3.trans (ah.alloc _ _)
   obtain ⟨t9,O6⟩:∃ t9,ts[j]?=some t9:=⟨_,List.getElem?_eq_getElem hj⟩
   have HAT:Hid (at' ts j=(((t9.fr:Nat):Int),((t9.to:Nat):Int))):=KF O6
   obtain ⟨k0,k1,k2,k3⟩:=(HTK.out.stay hq4).cells j t9 O6
   have hjl:(j:Int) < ts.length:=by omega
   have hj0:(0:Int)<=j:=by omega
   have HB4:=hid (ak (dO.out.trans hq4) HB0.out)
   have Wh:=hid (ak (dO.out.trans hq4) HS0.out)
   have gY:=hid (aK.out.trans (dO.out.trans hq4))
   have hg2:=HTK.out.lt
   have hn1:¬ B=g:=by omega
   have hn2:¬ g=B:=by omega
   have hn3:¬ B+1=g:=by omega
   have hn4:¬ g=B+1:=by omega
   go_upto_region 6 with fail
   change Code.wp _ _ _ _ (w3.alloc (.cells zero9 29))
   rw [<-Gg]
   clear Gg hq4 hq3 O6 hr
   have hb4:=HB4.out
   obtain ⟨s0,s1,s2,s3⟩:=Px Wh.out
   obtain ⟨⟨t0,t1,t2,t3,t4,t5,t6,t7,t8⟩,u0,u1,u2,u3,u4,u5,u6,u7,u8⟩:=aT hb4
   clear hb4
   go_region
   obtain ⟨hf,kF,hs9⟩:=yL HB4.out Wh.out (by omega) (.int .i64 0) (.string ⟨#[]⟩) (.int .i64 0) (.int .i64 0) (.int .i64 0) (.slice none 0 0) (.slice none 0 0) (.int .i64 0) (.int .i64 0) (.int .i64 (t9.fr:Nat)) (.int .i64 (t9.to:Nat))
   change Exit.then _ _ _ _ (xg W4 B (B+1) (.int .i64 0) (.string ⟨#[]⟩) (.int .i64 0) (.int .i64 0) (.int .i64 0) (.slice none 0 0) (.slice none 0 0) (.int .i64 0) (.int .i64 0) (.int .i64 (t9.fr:Nat)) (.int .i64 (t9.to:Nat))).drew
   replace hf:=hf.trans (Fr.drew _ _)
   replace kF:=ak (ah.drew _) kF
   replace hs9:=ak (ah.drew _) hs9
   generalize (xg W4 B (B+1) (.int .i64 0) (.string ⟨#[]⟩) (.int .i64 0) (.int .i64 0) (.int .i64 0) (.slice none 0 0) (.slice none 0 0) (.int .i64 0) (.int .i64 0) (.int .i64 (t9.fr:Nat)) (.int .i64 (t9.to:Nat))).drew=wf at *
   obtain ⟨⟨x0,x1,x2,x3,x4,x5,x6,x7,x8⟩,_⟩:=aT kF
   obtain ⟨y0,y1,_,_⟩:=Px hs9
   go_wp2_with fail
   have dN:ah w wf:=(gY.out).trans' hf (fun k hk e=>by have:=bM.out;omega)
   refine bodyPost_ret (by simp [results,Tryz.results26,go_sem,x0,x1,x2,x3,x4,x5,x6,x7,x8,y0,y1];rfl) rfl ?_
   rw [HTR.out,HAT.out]
   exact ⟨rfl,dN⟩
  | inl y =>
   obtain ⟨⟨h,ps⟩,x,j⟩:=y
   rw [hr] at HWC HTR
   refine HWC.out.mono ?_;rintro e w3 ⟨o1,l1,c1,o2,l2,c2,rfl,hs1,hs2,hq3⟩
   obtain ⟨W4,Gg⟩:∃ W4,W4=w3.alloc (.cells (cells9 h o1 l1 c1 o2 l2 c2) 29):=⟨_,rfl⟩
   have hqa:ah w3 W4:=by rw [Gg];exact ah.alloc _ _
   have hq4:ah w2 W4:=hq3.trans hqa
   have hx4:W4.heap[w3.heap.size]?=some (.cells (cells9 h o1 l1 c1 o2 l2 c2) 29 (0,0)):=by rw [Gg];exact heap_alloc_new w3 _
   have HB4:=hid (ak (dO.out.trans hq4) HB0.out)
   have Wh:=hid (ak (dO.out.trans hq4) HS0.out)
   have gY:=hid (aK.out.trans (dO.out.trans hq4))
   have nH:=hid (hs1.stay hqa)
   have HS2:=hid (hs2.stay hqa)
   have hw2:B+1 < w2.heap.size:=Nat.lt_of_lt_of_le (lt_of_block HS0.out) dO.out.size
   unfold bC
   go_upto_region 5 with fail
   change Code.wp _ _ _ _ (w3.alloc (.cells (cells9 h o1 l1 c1 o2 l2 c2) 29))
   rw [<-Gg]
   clear Gg hq4 hq3 hqa hs1 hs2 hr
   generalize w3.heap.size=yb at *
   have hb4:=HB4.out
   obtain ⟨s0,s1,s2,s3⟩:=Px Wh.out
   obtain ⟨⟨t0,t1,t2,t3,t4,t5,t6,t7,t8⟩,u0,u1,u2,u3,u4,u5,u6,u7,u8⟩:=aT hb4
   obtain ⟨⟨r0,r1,r2,r3,r4,r5,r6,r7,r8⟩,v0,v1,v2,v3,v4,v5,v6,v7,v8⟩:=aT hx4
   clear hb4 hx4
   go_wp2_with fail
   obtain ⟨hf,kF,hs9⟩:=yL HB4.out Wh.out (by omega) (.int .i64 h.k) (.string h.nm) (.int .i64 h.n) (.int .i64 h.tk) (.int .i64 h.tn) (.slice o1 l1 c1) (.slice o2 l2 c2) (.int .i64 h.fr) (.int .i64 h.en) (.int .i64 0) (.int .i64 0)
   change bodyPost _ _ _ _ _ (xg W4 B (B+1) (.int .i64 h.k) (.string h.nm) (.int .i64 h.n) (.int .i64 h.tk) (.int .i64 h.tn) (.slice o1 l1 c1) (.slice o2 l2 c2) (.int .i64 h.fr) (.int .i64 h.en) (.int .i64 0) (.int .i64 0))
   generalize (xg W4 B (B+1) (.int .i64 h.k) (.string h.nm) (.int .i64 h.n) (.int .i64 h.tk) (.int .i64 h.tn) (.slice o1 l1 c1) (.slice o2 l2 c2) (.int .i64 h.fr) (.int .i64 h.en) (.int .i64 0) (.int .i64 0))=wf at *
   obtain ⟨⟨x0,x1,x2,x3,x4,x5,x6,x7,x8⟩,_⟩:=aT kF
   obtain ⟨y0,y1,_,_⟩:=Px hs9
   have dN:ah w wf:=(gY.out).trans' hf (fun k hk e=>by have:=bM.out;omega)
   refine bodyPost_ret (by simp [results,Tryz.results26,go_sem,x0,x1,x2,x3,x4,x5,x6,x7,x8,y0,y1];rfl) rfl ?_
   rw [HTR.out]
   exact ⟨o1,l1,c1,o2,l2,c2,rfl,nH.out.fr hf (fun b _ k=>by have k':w2.heap.size<=b:=k;exact ⟨by have:=bM.out;show w.heap.size<=b;omega,by omega⟩),HS2.out.fr hf (fun b _ k=>by have k':w2.heap.size<=b:=k;exact ⟨by have:=bM.out;show w.heap.size<=b;omega,by omega⟩),dN⟩
end Pa
end
section
open Go.RowKit Go.Shelf Lx Pa
namespace Cn
abbrev XO:ByteArray:=⟨#[108,101,116,32,105,32,61,32,102,117,110,32,120,32,45,62,32,120,32,105,110,32,105,32,105]⟩
def h18:Nd:=⟨6,⟨#[105]⟩,0,0,0,.nil,0,25⟩
def p18:To:=.cons ⟨4,⟨#[120]⟩,0,0,0,.nil,8,18⟩ (.cons ⟨1,⟨#[120]⟩,0,0,0,.nil,17,18⟩ .nil .nil) (.cons ⟨5,⟨#[]⟩,0,0,0,.nil,22,25⟩ (.cons ⟨1,⟨#[105]⟩,0,0,0,.nil,22,23⟩ .nil (.cons ⟨1,⟨#[105]⟩,0,0,0,.nil,24,25⟩ .nil .nil)) .nil)
theorem t18:Ic XO.data.toList 9=.inl (h18,p18):=by kernel_rfl
theorem n18:mV h18 p18=(10,0):=by kernel_rfl
theorem g18:allT sJ (.cons h18 p18 .nil):=by
 have h:∀ k nm a b,nm.size<=100000->sJ ⟨k,nm,0,0,0,.nil,a,b⟩:=fun k nm a b hn=>⟨hn,Nat.zero_le _,(by decide:(Lit.int .i64 0).wf=true),trivial⟩
 exact ⟨h _ _ _ _ (by decide),⟨h _ _ _ _ (by decide),⟨h _ _ _ _ (by decide),trivial,trivial⟩,⟨h _ _ _ _ (by decide),⟨h _ _ _ _ (by decide),trivial,⟨h _ _ _ _ (by decide),trivial,trivial⟩⟩,trivial⟩⟩,trivial⟩
theorem z18:p18.size<=100000:=by decide
theorem Ip (w:World) (ht:Lx.jO w):Calls Tryz.prog 9 #[] w fun e w'=>e=.returned (.bool true)/\ah w w':=by
 have HC:=hid (SS XO (by decide) 9 9 rfl (by decide) (by decide) w)
 rw [t18] at HC
 have HN:=n18
 have HG:=g18
 have HZ:=z18
 have HT:=hid ht
 clear ht
 generalize h18=h at *
 generalize p18=ps at *
 have HE:Hid (∀ (W:World) (o1:Option Addr) (l1 c1:Nat) (o2:Option Addr) (l2 c2:Nat),aC (fun b=>w.heap.size<=b) W o1 l1 h.tp->aY (fun b=>w.heap.size<=b) W o2 l2 ps->ah w W->Calls Tryz.prog 10 #[bC h o1 l1 c1 o2 l2 c2] W fun e w'=>e=.returned (.tuple #[.int .i64 10,.int .i64 0])/\ah W w'):=fun W o1 l1 c1 o2 l2 c2 k1 k2 hq=>by
  have k:=Md h ps W _ o1 l1 c1 o2 l2 c2 k1 k2 HZ HG (HT.out.stay hq)
  rw [HN] at k;exact k
 unfold bC at HE
 clear HN HG HZ HT
 go_enter Tryz.func9,Tryz.ntmps9
 go_wp2_with fail
 refine HC.out.mono ?_;rintro x w1 ⟨o1,l1,c1,o2,l2,c2,rfl,hs1,hs2,hq1⟩
 unfold bC
 obtain ⟨W2,hW2⟩:∃ W2,W2=(w1.alloc (.cells (cells9 h o1 l1 c1 o2 l2 c2) 29)).alloc (.cells #[.int .i64 0,.int .i64 0] 27):=⟨_,rfl⟩
 have hqa:ah w1 W2:=by rw [hW2];exact (ah.alloc _ _).trans (ah.alloc _ _)
 have hb2:W2.heap[w1.heap.size]?=some (.cells (cells9 h o1 l1 c1 o2 l2 c2) 29 (0,0)):=by
  rw [hW2,Below.heap_alloc _ _ _ (by simp)];exact heap_alloc_new w1 _
 have dO:=hid (hq1.trans hqa)
 have HE2:=hid (HE.out W2 o1 l1 c1 o2 l2 c2 (hs1.stay hqa) (hs2.stay hqa) dO.out)
 go_upto_region 2 with fail
 change Code.wp _ _ _ _ ((w1.alloc (.cells (cells9 h o1 l1 c1 o2 l2 c2) 29)).alloc (.cells #[.int .i64 0,.int .i64 0] 27))
 rw [<-hW2]
 clear hW2 hqa hq1 hs1 hs2
 generalize w1.heap.size=tb at *
 obtain ⟨a0,a1,a2,a3,a4,a5,a6,a7,a8⟩:=aA hb2
 clear hb2
 go_wp2_with fail
 refine HE2.out.mono ?_;rintro x w3 ⟨rfl,hq3⟩
 have dG:=hid (dO.out.trans hq3)
 clear hq3
 go_wp2_with fail
 go_ret
 exact ⟨rfl,dG.out⟩
end Cn
end
end Go.Proofs.YtcninopmelmajaaGreatDoor
