/-
  Texts laid together (LexRefWords, LexAwake): laws and walks, with their conditions.
-/
import Derived.Deep.DeepCutAuto
import Derived.Deep.CutBlock
import Derived.Test.YtcninopmelmajaaDoorTX6
set_option maxHeartbeats 8000000
set_option maxRecDepth 1000000
namespace Go.Proofs.YtcninopmelmajaaDoor
open Go.Lib (hid)
section
namespace Lx
open Go.RowKit
theorem IJ {at':Nat} {l r:List UInt8} {c:UInt8} (hl:l=c::r) (hb:lu c=true):dK at' l=dK (at'+1) (l.drop 1):=by
 subst hl;exact zX (k:=1) (by rw [Ec hb];omega) (by rw [Ec hb];simp)
theorem KN {at':Nat} {l r:List UInt8} {c:UInt8} (hl:l=c::r) (hb:lu c=false) (h:(c == 35)=true):dK at' l=dK (at'+dI mZ l) (l.drop (dI mZ l)):=by
 have:=QZ (r:=r) hb h;rw [<-hl] at this;exact zX (by omega) (by omega)
theorem iL {at':Nat} {l r:List UInt8} {c:UInt8} {kd ln:Nat} (hl:l=c::r) (hb:lu c=false) (h:(c == 35)=false) (hn:nextL l=(kd,ln,0)):dK at' l=Bz ⟨kd,l.take ln,at',at'+ln⟩ (dK (at'+ln) (l.drop ln)):=by
 have h0:aO false l=0:=by rw [hl];exact Gw hb h
 have:=oL (at':=at') (l:=l) (by rw [h0,hl];simp) (by rw [h0,List.drop_zero,hn]);rw [h0,List.drop_zero,hn] at this;exact this
theorem gJ {at':Nat} {l r:List UInt8} {c:UInt8} {a b er:Nat} (hl:l=c::r) (hb:lu c=false) (h:(c == 35)=false) (hn:nextL l=(a,b,er)) (he:er≠0):dK at' l=.inr (at',er):=by
 have h0:aO false l=0:=by rw [hl];exact Gw hb h
 have:=oK (at':=at') (l:=l) (by rw [h0,hl];simp) (by rw [h0,List.drop_zero,hn];exact he);rw [h0,List.drop_zero,hn] at this;exact this
theorem Ei (x:UInt8) (m:Nat) (hm:m < 256):((x.toNat:Int) == (m:Int))=(x == UInt8.ofNat m):=by
 rw [rJ x m hm,Bool.eq_iff_iff];simp;omega
theorem kL (x:UInt8) (m:Nat) (hm:m < 256):((x.toNat:Int) != (m:Int))=!(x == UInt8.ofNat m):=by
 rw [<-Ei x m hm];rfl
theorem Ah (s:ByteArray) (n j:Nat):s.extract n j=dn ((s.data.toList.drop n).take (j-n)):=by
 apply aaQ;rw [Lib.extract_data,uD]
theorem oG {l:List UInt8} {acc:List Tok} {n er:Nat} (hW:jZ l=appW acc (dK n (l.drop n))) (hT:dK n (l.drop n)=.inr (n,er)):jZ l=.inr (n,er):=by
 rw [hW,hT];rfl
theorem jL {l:List UInt8} {w w':World} {n er:Nat} {e:Ending} (hq:ah w w') (h:jZ l=.inr (n,er)) (he:e=.returned (.tuple #[.slice none 0 0,.int .i64 (n:Nat),.int .i64 (er:Nat)])):oJ l w e w':=by
 refine ⟨hq,?_⟩;rw [h];exact he
theorem Nr {x:UInt8} (h:vN x=true):x=40∨x=41∨x=44∨x=58∨x=61∨x=42:=by
 unfold vN at h;simp at h;rcases h with ((((h | h) | h) | h) | h) | h<;>simp [h]
theorem Wj {x:UInt8} (h:vN x=false):(x == 40)=false/\(x == 41)=false/\(x == 44)=false/\(x == 58)=false/\(x == 61)=false/\(x == 42)=false:=by
 unfold vN at h;simp at h;simp [h]
theorem EZ (x:UInt8):((x.toNat:Int) != 62)=!(x == 62):=kL x 62 (by omega)
theorem b45 (x:UInt8):((x.toNat:Int) == 45)=(x == 45):=Ei x 45 (by omega)
theorem n40 (x:UInt8):((x.toNat:Int) != 40)=!(x == 40):=kL x 40 (by omega)
theorem n41 (x:UInt8):((x.toNat:Int) != 41)=!(x == 41):=kL x 41 (by omega)
theorem n44 (x:UInt8):((x.toNat:Int) != 44)=!(x == 44):=kL x 44 (by omega)
theorem n58 (x:UInt8):((x.toNat:Int) != 58)=!(x == 58):=kL x 58 (by omega)
theorem n61 (x:UInt8):((x.toNat:Int) != 61)=!(x == 61):=kL x 61 (by omega)
theorem n42 (x:UInt8):((x.toNat:Int) != 42)=!(x == 42):=kL x 42 (by omega)
def Q8 (l:List UInt8) (n size:Nat) (w:World) (t1 t2:Value) (wx:World):Prop :=
 ∃ j kd:Nat,t1=.int .i64 (j:Nat)/\t2=.int .i64 (kd:Nat)/\n < j/\j<=size/\dK n (l.drop n)=Bz ⟨kd,(l.drop n).take (j-n),n,j⟩ (dK j (l.drop j))/\ah w wx
theorem qy {l:List UInt8} {n kd ln j:Nat} (h:dK n (l.drop n)=Bz ⟨kd,(l.drop n).take ln,n,n+ln⟩ (dK (n+ln) ((l.drop n).drop ln))) (hj:j=n+ln):dK n (l.drop n)=Bz ⟨kd,(l.drop n).take (j-n),n,j⟩ (dK j (l.drop j)):=by
 subst hj;rw [h,List.drop_drop,show n+ln-n=ln from by omega]
theorem Hq (s : ByteArray) (hs : s.size <= 100000) (w : World) :
    Calls Tryd.prog 15 #[.string s] w fun e w'=>oJ s.data.toList w e w':=by
 have HS:Hid (s.size<=maxLen):=by show _<=_;unfold maxLen;omega
 go_enter Tryd.func15,Tryd.ntmps15;go_wp2_with fail;obtain ⟨B,hB⟩:∃ B,B=w.heap.size:=⟨_,rfl⟩;have IQ:=hid hB;clear hB;go_loopw [5,6] (fun v t wr=>∃ (acc:List Tok) (n:Nat) (o:Option Addr) (c:Nat),v=.slice o acc.length c/\t=.int .i64 n/\n<=s.size/\jZ s.data.toList=appW acc (dK n (s.data.toList.drop n))/\pV wr B (.slice o acc.length c) acc/\acc.length<=n/\ah w wr) (fun _ t _=>s.size-(intOf t).toNat)
 case atStart =>
  exact ⟨[],0,none,0,rfl,rfl,Nat.zero_le _,by rw [RX];rfl,⟨World.ownsRow_nil _ _ _ _,by intro k hk;cases hk⟩,Nat.zero_le _,ah.refl _⟩
 case round =>
  obtain ⟨acc,n,o,c,rfl,rfl,hn,hW,hrow,hacc,hq⟩:=hrel;have HW:=hid hW;have HR:=hid hrow;have HQ:=hid hq;clear hW hrow hq;have hsz1:acc.length<=100000:=by omega
  by_cases hlt:n < s.size
  ·have hlt':(n:Int) < s.size:=by omega
   have HD:=hid (drop_byte s n hlt);have KO:=hid (Yw s[n]);have HB:=hid (Ux s[n]);have WT:=hid (DC s[n]);have Yy:=hid (rM s[n]);have EW:=hid (Yx s[n]);have hx256:=Dy s[n];obtain ⟨x,hx⟩:∃ x,s[n]=x:=⟨_,rfl⟩;rw [hx] at HD KO HB WT Yy EW hx256;cases hb:lu x
   ·have sK:=hid hb;have b32:((x.toNat:Int) == 32)=false:=by have:=HB.out;rw [hb] at this;revert this;cases ((x.toNat:Int) == 32)<;>simp
    have b9:((x.toNat:Int) == 9)=false:=by have:=HB.out;rw [hb] at this;revert this;cases ((x.toNat:Int) == 9)<;>simp
    have b10:((x.toNat:Int) == 10)=false:=by have:=HB.out;rw [hb] at this;revert this;cases ((x.toNat:Int) == 10)<;>simp
    have b13:((x.toNat:Int) == 13)=false:=by have:=HB.out;rw [hb] at this;revert this;cases ((x.toNat:Int) == 13)<;>simp
    clear hb HB;cases hh:(x == 35)
    ·have HH:=hid hh;have hh':((x.toNat:Int) == 35)=false:=by rw [KO.out,hh]
     clear hh KO;go_upto_block 4 with (fail)
     go_cut [8,9] (fun t1 t2 wx=>Q8 s.data.toList n s.size wr t1 t2 wx)
     case first =>
      cases hsm:gQ x
      ·have Bf:=hid hsm;clear hsm;cases hdg:dD x
       ·as_aux_lemma =>
          have E5:=hid hdg;clear hdg;go_wp2_with fail;refine (WT.out _).mono ?_;rintro e w' ⟨rfl,rfl⟩;rw [Bf.out];go_wp2_with fail;refine (Yy.out _).mono ?_;rintro e w' ⟨rfl,rfl⟩;rw [E5.out];clear WT Yy EW;cases hmn:(x == 45)
          ·have acy:((x.toNat:Int) == 45)=false:=by rw [b45,hmn]
           have HM:=hid hmn;clear hmn;cases hsg:vN x
           ·obtain ⟨m1,m2,m3,m4,m5,m6⟩:=Wj hsg;have a1:((x.toNat:Int) != 40)=true:=by rw [n40,m1];rfl
            have a2:((x.toNat:Int) != 41)=true:=by rw [n41,m2];rfl
            have a3:((x.toNat:Int) != 44)=true:=by rw [n44,m3];rfl
            have a4:((x.toNat:Int) != 58)=true:=by rw [n58,m4];rfl
            have a5:((x.toNat:Int) != 61)=true:=by rw [n61,m5];rfl
            have a6:((x.toNat:Int) != 42)=true:=by rw [n42,m6];rfl
            have nU:Hid (nextL (s.data.toList.drop n)=(0,0,3)):=by
             show _=_
             rw [HD.out,Ee Bf.out E5.out hsg,Ed,HM.out];rfl
            have uH:=hid (oG HW.out (gJ (at':=n) HD.out sK.out HH.out nU.out (by decide)));clear m1 m2 m3 m4 m5 m6 hsg;go_wp2_with fail;go_ret3;exact jL HQ.out uH.out rfl
           ·have hsx:=Nr hsg;have nU:Hid (nextL (s.data.toList.drop n)=(4,1,0)):=by
             show _=_
             rw [HD.out];exact Q7 Bf.out E5.out hsg
            have qQ:=hid (qy (j:=n+1) (iL (at':=n) HD.out sK.out HH.out nU.out) rfl);clear hsg HM nU HD sK HH Bf E5 b32 b9 b10 b13 hh' acy hx256;rcases hsx with rfl | rfl | rfl | rfl | rfl | rfl
            all_goals
             go_wp2_with fail;go_meet;exact ⟨n+1,4,by go_num,rfl,by omega,by omega,qQ.out,ah.refl _⟩
          ·have acy:((x.toNat:Int) == 45)=true:=by rw [b45,hmn]
           have HM:=hid hmn
           have hsg : vN x = false := by have : x = 45 := by simpa using hmn
                                         subst this;decide
           have Jz:Hid (nextL (s.data.toList.drop n)=if Lib.hasPrefix (x::s.data.toList.drop (n+1)) [45,62] then (4,2,0) else (0,0,3)):=by
            show _=_
            rw [HD.out];exact Ee Bf.out E5.out hsg
           rw [Ed,hmn] at Jz;clear hmn hsg
           by_cases hn1:n+1 < s.size
           ·have hn1':(n:Int)+1 < s.size:=by omega
            have HD1:=hid (drop_byte s (n+1) hn1);have Wn:=hid (EZ s[n+1]);obtain ⟨y,hy⟩:∃ y,s[n+1]=y:=⟨_,rfl⟩;rw [hy] at HD1 Wn;rw [HD1.out] at Jz;cases h62:(y == 62)
            ·have adE:((y.toNat:Int) != 62)=true:=by rw [Wn.out,h62];rfl
             have nU:Hid (nextL (s.data.toList.drop n)=(0,0,3)):=by
              show _=_;rw [Jz.out];simp [gU,h62]
             have uH:=hid (oG HW.out (gJ (at':=n) HD.out sK.out HH.out nU.out (by decide)));clear Wn h62 Jz nU;go_wp2_with fail;go_ret3;exact jL HQ.out uH.out rfl
            ·have adE:((y.toNat:Int) != 62)=false:=by rw [Wn.out,h62];rfl
             have nU:Hid (nextL (s.data.toList.drop n)=(4,2,0)):=by
              show _=_;rw [Jz.out];simp [gU,h62]
             have qQ:=hid (qy (j:=n+2) (iL (at':=n) HD.out sK.out HH.out nU.out) rfl);clear Wn h62 Jz nU;go_wp2_with fail;go_meet;exact ⟨n+2,4,by go_num,rfl,by omega,by omega,qQ.out,ah.refl _⟩
           ·have hn1':¬ (n:Int)+1 < s.size:=by omega
            have nU:Hid (nextL (s.data.toList.drop n)=(0,0,3)):=by
             show _=_;rw [Jz.out,drop_end s (n+1) (by omega)];simp [gU]
            have uH:=hid (oG HW.out (gJ (at':=n) HD.out sK.out HH.out nU.out (by decide)));clear Jz nU;go_wp2_with fail;go_ret3;exact jL HQ.out uH.out rfl
       ·as_aux_lemma =>
          have E5:=hid hdg;clear hdg;have hrl:=og dD (s.data.toList.drop n);rw [List.length_drop,bH] at hrl;have hrp:0 < dI dD (s.data.toList.drop n):=by rw [HD.out];exact qG E5.out
          generalize hrn:dI dD (s.data.toList.drop n)=rn at *;have uh:=hid hrn;clear hrn;go_wp2_with fail;refine (WT.out _).mono ?_;rintro e w' ⟨rfl,rfl⟩;rw [Bf.out];go_wp2_with fail;refine (Yy.out _).mono ?_;rintro e w' ⟨rfl,rfl⟩;rw [E5.out];clear WT Yy;go_upto_block 7 with (fail)
          go_cut [8] (fun t wx=>∃ j:Nat,t=.int .i64 j/\j=n+rn/\wr=wx)
          case first =>
           go_wp2_with fail;go_loop [8] (fun t=>∃ j:Nat,t=.int .i64 j/\n+1<=j/\j<=s.size/\n+rn=j+dI dD (s.data.toList.drop j)) (fun t=>s.size-(intOf t).toNat)
           case atStart=>exact ⟨n+1,by go_num,by omega,by omega,by rw [<-uh.out,HD.out,iC,E5.out];simp only [if_true];omega⟩
           case round =>
            obtain ⟨j,rfl,hj1,hj2,hj3⟩:=hrel;have HJ:=hid hj3;clear hj3
            by_cases hjl:j < s.size
            ·have IK:(j:Int) < s.size:=by omega
             have Ej:=hid (drop_byte s j hjl);have HT:=hid (rM s[j]);obtain ⟨y,hy⟩:∃ y,s[j]=y:=⟨_,rfl⟩;rw [hy] at Ej HT;cases hp:dD y
             ·have Wp:=hid hp;clear hp;have JA:Hid (j=n+rn):=by have:=HJ.out;rw [Ej.out,iC,Wp.out] at this;show _=_;simpa using this.symm
              go_wp2_with fail;refine (HT.out _).mono ?_;rintro e w' ⟨rfl,rfl⟩;rw [Wp.out];go_wp2_with fail;go_meet;exact ⟨j,rfl,JA.out,rfl⟩
             ·have Wp:=hid hp;clear hp;go_wp2_with fail;refine (HT.out _).mono ?_;rintro e w' ⟨rfl,rfl⟩;rw [Wp.out];go_wp2;go_round
              case rel=>exact ⟨j+1,by go_num,by omega,by omega,by rw [HJ.out,Ej.out,iC,Wp.out];simp only [if_true];omega⟩
              case measure=>simp [intOf];omega
            ·have IK:¬ (j:Int) < s.size:=by omega
             have JA:Hid (j=n+rn):=by have:=HJ.out;rw [drop_end s j (by omega)] at this;show _=_;simpa [dI] using this.symm
             go_wp2_with fail;go_meet;exact ⟨j,rfl,JA.out,rfl⟩
          case rest =>
           obtain ⟨j,rfl,EG,rfl⟩:=hcut;have hjn:(n:Int)<=j:=by omega
           have hjs:j<=s.size:=by omega
           have acz:(j:Int)<=s.size:=by omega
           have JA:=hid EG;have lZ:Hid (nextL (s.data.toList.drop n)=if (decide (1 < rn) && (x == 48)) || gU bI (s.data.toList.drop j) then (0,0,3) else if 9 < rn then (0,0,2) else (2,rn,0)):=by
            show _=_
            rw [HD.out,Nq Bf.out E5.out,<-HD.out];unfold aaR;rw [uh.out,List.drop_drop,<-EG,HD.out];rfl
           cases hz:(x == 48)
           ·have hz':((x.toNat:Int) == 48)=false:=by rw [EW.out,hz]
            rw [hz] at lZ;clear hz
            by_cases hjl:j < s.size
            ·have IK:(j:Int) < s.size:=by omega
             have Ej:=hid (drop_byte s j hjl);have uN:=hid (rO s[j]);obtain ⟨y,hy⟩:∃ y,s[j]=y:=⟨_,rfl⟩;rw [hy] at Ej uN;cases Q9:bI y
             ·have Y8:=hid Q9;have xK:Hid (gU bI (s.data.toList.drop j)=false):=by show _=_;rw [Ej.out];exact Q9
              clear Q9
              by_cases h9:9 < rn
              ·have h9':(9:Int) < (j:Int)-(n:Int):=by omega
               have nU:Hid (nextL (s.data.toList.drop n)=(0,0,2)):=by show _=_;rw [lZ.out,xK.out];simp [h9]
               have uH:=hid (oG HW.out (gJ (at':=n) HD.out sK.out HH.out nU.out (by decide)));clear lZ nU EG;go_wp2_with fail;refine (uN.out _).mono ?_;rintro e w' ⟨rfl,rfl⟩;rw [Y8.out];go_wp2_with fail;go_ret3;exact jL HQ.out uH.out rfl
              ·have h9':¬ (9:Int) < (j:Int)-(n:Int):=by omega
               have nU:Hid (nextL (s.data.toList.drop n)=(2,rn,0)):=by show _=_;rw [lZ.out,xK.out];simp [h9]
               have qQ:=hid (qy (j:=j) (iL (at':=n) HD.out sK.out HH.out nU.out) EG);clear lZ nU EG;go_wp2_with fail;refine (uN.out _).mono ?_;rintro e w' ⟨rfl,rfl⟩;rw [Y8.out];go_wp2_with fail;go_meet;exact ⟨j,2,rfl,rfl,by have:=JA.out;omega,hjs,qQ.out,ah.refl _⟩
             ·have Y8:=hid Q9;have xK:Hid (gU bI (s.data.toList.drop j)=true):=by show _=_;rw [Ej.out];exact Q9
              clear Q9;have nU:Hid (nextL (s.data.toList.drop n)=(0,0,3)):=by show _=_;rw [lZ.out,xK.out];simp
              have uH:=hid (oG HW.out (gJ (at':=n) HD.out sK.out HH.out nU.out (by decide)));clear lZ nU EG;go_wp2_with fail;refine (uN.out _).mono ?_;rintro e w' ⟨rfl,rfl⟩;rw [Y8.out];go_wp2_with fail;go_ret3;exact jL HQ.out uH.out rfl
            ·have IK:¬ (j:Int) < s.size:=by omega
             have xK:Hid (gU bI (s.data.toList.drop j)=false):=by show _=_;rw [drop_end s j (by omega)];rfl
             by_cases h9:9 < rn
             ·have h9':(9:Int) < (j:Int)-(n:Int):=by omega
              have nU:Hid (nextL (s.data.toList.drop n)=(0,0,2)):=by show _=_;rw [lZ.out,xK.out];simp [h9]
              have uH:=hid (oG HW.out (gJ (at':=n) HD.out sK.out HH.out nU.out (by decide)));clear lZ nU EG;go_wp2_with fail;go_ret3;exact jL HQ.out uH.out rfl
             ·have h9':¬ (9:Int) < (j:Int)-(n:Int):=by omega
              have nU:Hid (nextL (s.data.toList.drop n)=(2,rn,0)):=by show _=_;rw [lZ.out,xK.out];simp [h9]
              have qQ:=hid (qy (j:=j) (iL (at':=n) HD.out sK.out HH.out nU.out) EG);clear lZ nU EG;go_wp2_with fail;go_meet;exact ⟨j,2,rfl,rfl,by have:=JA.out;omega,hjs,qQ.out,ah.refl _⟩
           ·have hz':((x.toNat:Int) == 48)=true:=by rw [EW.out,hz]
            rw [hz] at lZ;clear hz
            by_cases h1:1 < rn
            ·have h1':(n:Int)+1 < (j:Int):=by omega
             have nU:Hid (nextL (s.data.toList.drop n)=(0,0,3)):=by show _=_;rw [lZ.out];simp [h1]
             have uH:=hid (oG HW.out (gJ (at':=n) HD.out sK.out HH.out nU.out (by decide)));clear lZ nU EG;go_wp2_with fail;go_ret3;exact jL HQ.out uH.out rfl
            ·have h1':¬ (n:Int)+1 < (j:Int):=by omega
             by_cases hjl:j < s.size
             ·have IK:(j:Int) < s.size:=by omega
              have Ej:=hid (drop_byte s j hjl);have uN:=hid (rO s[j]);obtain ⟨y,hy⟩:∃ y,s[j]=y:=⟨_,rfl⟩;rw [hy] at Ej uN;cases Q9:bI y
              ·have Y8:=hid Q9;have xK:Hid (gU bI (s.data.toList.drop j)=false):=by show _=_;rw [Ej.out];exact Q9
               clear Q9;have h9:¬ 9 < rn:=by omega
               have h9':¬ (9:Int) < (j:Int)-(n:Int):=by omega
               have nU:Hid (nextL (s.data.toList.drop n)=(2,rn,0)):=by show _=_;rw [lZ.out,xK.out];simp [h9,h1]
               have qQ:=hid (qy (j:=j) (iL (at':=n) HD.out sK.out HH.out nU.out) EG);clear lZ nU EG;go_wp2_with fail;refine (uN.out _).mono ?_;rintro e w' ⟨rfl,rfl⟩;rw [Y8.out];go_wp2_with fail;go_meet;exact ⟨j,2,rfl,rfl,by have:=JA.out;omega,hjs,qQ.out,ah.refl _⟩
              ·have Y8:=hid Q9;have xK:Hid (gU bI (s.data.toList.drop j)=true):=by show _=_;rw [Ej.out];exact Q9
               clear Q9;have nU:Hid (nextL (s.data.toList.drop n)=(0,0,3)):=by show _=_;rw [lZ.out,xK.out];simp
               have uH:=hid (oG HW.out (gJ (at':=n) HD.out sK.out HH.out nU.out (by decide)));clear lZ nU EG;go_wp2_with fail;refine (uN.out _).mono ?_;rintro e w' ⟨rfl,rfl⟩;rw [Y8.out];go_wp2_with fail;go_ret3;exact jL HQ.out uH.out rfl
             ·have IK:¬ (j:Int) < s.size:=by omega
              have xK:Hid (gU bI (s.data.toList.drop j)=false):=by show _=_;rw [drop_end s j (by omega)];rfl
              have h9:¬ 9 < rn:=by omega
              have h9':¬ (9:Int) < (j:Int)-(n:Int):=by omega
              have nU:Hid (nextL (s.data.toList.drop n)=(2,rn,0)):=by show _=_;rw [lZ.out,xK.out];simp [h9,h1]
              have qQ:=hid (qy (j:=j) (iL (at':=n) HD.out sK.out HH.out nU.out) EG);clear lZ nU EG;go_wp2_with fail;go_meet;exact ⟨j,2,rfl,rfl,by have:=JA.out;omega,hjs,qQ.out,ah.refl _⟩
      ·as_aux_lemma =>
         have Bf:=hid hsm;clear hsm;have hrl:=og bI (s.data.toList.drop n);rw [List.length_drop,bH] at hrl;have hrp:0 < dI bI (s.data.toList.drop n):=by rw [HD.out];exact qG (qc Bf.out)
         clear Yy EW;generalize hrn:dI bI (s.data.toList.drop n)=rn at *;have uh:=hid hrn;clear hrn;go_wp2_with fail;refine (WT.out _).mono ?_;rintro e w' ⟨rfl,rfl⟩;rw [Bf.out];clear WT;go_upto_block 5 with (fail)
         go_cut [8] (fun t wx=>∃ j:Nat,t=.int .i64 j/\j=n+rn/\wr=wx)
         case first =>
          go_wp2_with fail;go_loop [8] (fun t=>∃ j:Nat,t=.int .i64 j/\n+1<=j/\j<=s.size/\n+rn=j+dI bI (s.data.toList.drop j)) (fun t=>s.size-(intOf t).toNat)
          case atStart=>exact ⟨n+1,by go_num,by omega,by omega,by rw [<-uh.out,HD.out,iC,qc Bf.out];simp only [if_true];omega⟩
          case round =>
           obtain ⟨j,rfl,hj1,hj2,hj3⟩:=hrel;have HJ:=hid hj3;clear hj3
           by_cases hjl:j < s.size
           ·have IK:(j:Int) < s.size:=by omega
            have Ej:=hid (drop_byte s j hjl);have HT:=hid (rO s[j]);obtain ⟨y,hy⟩:∃ y,s[j]=y:=⟨_,rfl⟩;rw [hy] at Ej HT;cases hp:bI y
            ·have Wp:=hid hp;clear hp;have JA:Hid (j=n+rn):=by have:=HJ.out;rw [Ej.out,iC,Wp.out] at this;show _=_;simpa using this.symm
             go_wp2_with fail;refine (HT.out _).mono ?_;rintro e w' ⟨rfl,rfl⟩;rw [Wp.out];go_wp2_with fail;go_meet;exact ⟨j,rfl,JA.out,rfl⟩
            ·have Wp:=hid hp;clear hp;go_wp2_with fail;refine (HT.out _).mono ?_;rintro e w' ⟨rfl,rfl⟩;rw [Wp.out];go_wp2;go_round
             case rel=>exact ⟨j+1,by go_num,by omega,by omega,by rw [HJ.out,Ej.out,iC,Wp.out];simp only [if_true];omega⟩
             case measure=>simp [intOf];omega
           ·have IK:¬ (j:Int) < s.size:=by omega
            have JA:Hid (j=n+rn):=by have:=HJ.out;rw [drop_end s j (by omega)] at this;show _=_;simpa [dI] using this.symm
            go_wp2_with fail;go_meet;exact ⟨j,rfl,JA.out,rfl⟩
         case rest =>
          obtain ⟨j,rfl,EG,rfl⟩:=hcut;have HKD:Hid ((s.extract n j).data.toList=(s.data.toList.drop n).take rn):=by
           show _=_
           rw [Lib.extract_data];congr 1;omega
          have lZ:Hid (nextL (s.data.toList.drop n)=if OQ ((s.data.toList.drop n).take rn) then (3,rn,0) else if 20 < rn then (0,0,2) else (1,rn,0)):=by
           show _=_
           rw [HD.out,Np Bf.out,<-HD.out,uh.out]
          have HK:=hid (Eb (s.extract n j) wr);rw [HKD.out] at HK;have hjn:(n:Int)<=j:=by omega
          have hjs:j<=s.size:=by omega
          have acz:(j:Int)<=s.size:=by omega
          have JA:=hid EG;cases hkw:OQ ((s.data.toList.drop n).take rn)
          ·have HKW:=hid hkw;rw [hkw] at lZ HK;clear hkw
           by_cases h20:20 < rn
           ·have aaS:(20:Int) < (j:Int)-(n:Int):=by omega
            have nU:Hid (nextL (s.data.toList.drop n)=(0,0,2)):=by show _=_;rw [lZ.out];simp [h20]
            have uH:=hid (oG HW.out (gJ (at':=n) HD.out sK.out HH.out nU.out (by decide)));clear lZ nU EG;go_wp2_with fail;refine HK.out.mono ?_;rintro e w1 ⟨rfl,hq1⟩;have fC:=hid (HQ.out.trans hq1);clear hq1;go_wp2_with fail;go_ret3;exact jL fC.out uH.out rfl
           ·have aaS:¬ (20:Int) < (j:Int)-(n:Int):=by omega
            have nU:Hid (nextL (s.data.toList.drop n)=(1,rn,0)):=by show _=_;rw [lZ.out];simp [h20]
            have qQ:=hid (qy (j:=j) (iL (at':=n) HD.out sK.out HH.out nU.out) EG);clear lZ nU EG;go_wp2_with fail;refine HK.out.mono ?_;rintro e w1 ⟨rfl,hq1⟩;have fC:=hid hq1;clear hq1;go_wp2_with fail;go_meet;exact ⟨j,1,rfl,rfl,by have:=JA.out;omega,hjs,qQ.out,fC.out⟩
          ·have HKW:=hid hkw;rw [hkw] at lZ HK;clear hkw;have nU:Hid (nextL (s.data.toList.drop n)=(3,rn,0)):=by show _=_;rw [lZ.out];simp
           have qQ:=hid (qy (j:=j) (iL (at':=n) HD.out sK.out HH.out nU.out) EG);clear lZ nU EG;go_wp2_with fail;refine HK.out.mono ?_;rintro e w1 ⟨rfl,hq1⟩;have fC:=hid hq1;clear hq1;go_wp2_with fail;go_meet;exact ⟨j,3,rfl,rfl,by have:=JA.out;omega,hjs,qQ.out,fC.out⟩
     case rest =>
      obtain ⟨j,kd,rfl,rfl,hj1,hj2,htk,hq1⟩:=hcut;have qQ:=hid htk;have fC:=hid (HQ.out.trans hq1);have HR2:Hid (pV wc B (.slice o acc.length c) acc):=⟨aU HR.out.1 hq1 (fun _ _ h=>h),HR.out.2⟩;have adF:=hid (Ah s n j);have hjn:(n:Int)<=j:=by omega
      have acz:(j:Int)<=s.size:=by omega
      clear htk hq1 WT Yy EW;go_wp2_with (at_builtin;refine aX wc rfl (.tmp 159) (.tmp 169) 49 rfl 55 _ 4 40 OJ (.slice o acc.length c) acc.length (jV acc) rfl HR2.out.1 #[.int .i64 (kd:Nat),.string (s.extract n j),.int .i64 (n:Nat),.int .i64 (j:Nat)] rfl rfl (by simp [Value.oneCell']) (by unfold maxLen;omega) (by omega) ?_;intro g c' w2 ho hf hg);go_roundw
      case rel =>
       have hap:=Ef (t:=⟨kd,(s.data.toList.drop n).take (j-n),n,j⟩) fC.out IQ.out HR2.out (by rw [adF.out] at ho;exact ho) hf hg;exact ⟨_,j,some ⟨g,0,none⟩,c',by simp,rfl,by omega,by rw [HW.out,qQ.out,OU],hap.1,by simp;omega,hap.2⟩
      case measure=>simp [intOf];omega
    ·as_aux_lemma =>
       have HH:=hid hh;have hh':((x.toNat:Int) == 35)=true:=by rw [KO.out,hh]
       clear hh KO;have HWH:=hid (KN (at':=n) HD.out sK.out HH.out);have HP:Hid (0 < dI mZ (s.data.toList.drop n)):=by rw [HD.out];exact Q5 HH.out
       have hrl:=og mZ (s.data.toList.drop n);rw [List.length_drop,bH] at hrl;clear WT Yy EW HD;generalize hrn:dI mZ (s.data.toList.drop n)=rn at *;have uh:=hid hrn;clear hrn;go_wp2_with fail;go_loop [6] (fun t=>∃ j:Nat,t=.int .i64 j/\n<=j/\j<=s.size/\n+rn=j+dI mZ (s.data.toList.drop j)) (fun t=>s.size-(intOf t).toNat)
       case atStart=>exact ⟨n,rfl,Nat.le_refl _,hn,by rw [uh.out]⟩
       case round =>
        obtain ⟨j,rfl,hj1,hj2,hj3⟩:=hrel;have HJ:=hid hj3;clear hj3
        by_cases hjl:j < s.size
        ·have IK:(j:Int) < s.size:=by omega
         have Ej:=hid (drop_byte s j hjl);have Jw:=hid (XT s[j]);obtain ⟨y,hy⟩:∃ y,s[j]=y:=⟨_,rfl⟩;rw [hy] at Ej Jw;cases hnl:mZ y
         ·have adG:((y.toNat:Int) != 10)=false:=by rw [<-Jw.out,hnl]
          have HNY:=hid hnl;clear hnl Jw;go_wp2;go_roundw
          case rel =>
           have e:n+rn=j:=by have:=HJ.out;rw [Ej.out,iC,HNY.out] at this;simpa using this
           exact ⟨acc,j,o,c,rfl,rfl,hj2,by rw [HW.out,HWH.out,List.drop_drop,e],HR.out,by omega,HQ.out⟩
          case measure =>
           have e:n+rn=j:=by have:=HJ.out;rw [Ej.out,iC,HNY.out] at this;simpa using this
           have:=HP.out;simp [intOf];omega
         ·have adG:((y.toNat:Int) != 10)=true:=by rw [<-Jw.out,hnl]
          have HNY:=hid hnl;clear hnl Jw;go_wp2;go_round
          case rel=>exact ⟨j+1,by go_num,by omega,by omega,by rw [HJ.out,Ej.out,iC,HNY.out];simp only [if_true];omega⟩
          case measure=>simp [intOf];omega
        ·have IK:¬ (j:Int) < s.size:=by omega
         have Ej:=hid (drop_end s j (by omega));go_wp2;go_roundw
         case rel =>
          have e:n+rn=j:=by have:=HJ.out;rw [Ej.out] at this;simpa [dI] using this
          exact ⟨acc,j,o,c,rfl,rfl,hj2,by rw [HW.out,HWH.out,List.drop_drop,e],HR.out,by omega,HQ.out⟩
         case measure =>
          have e:n+rn=j:=by have:=HJ.out;rw [Ej.out] at this;simpa [dI] using this
          have:=HP.out;simp [intOf];omega
   ·have sK:=hid hb;have hb':(((x.toNat:Int) == 32) || ((x.toNat:Int) == 9) || ((x.toNat:Int) == 10) || ((x.toNat:Int) == 13))=true:=by rw [<-HB.out,hb]
    clear hb HB;have HWB:=hid (IJ (at':=n) HD.out sK.out);cases b32:((x.toNat:Int) == 32)<;>cases b9:((x.toNat:Int) == 9)<;>cases b10:((x.toNat:Int) == 10)<;>cases b13:((x.toNat:Int) == 13)
    all_goals
     rw [b32,b9,b10,b13] at hb'
     first
     | (exact absurd hb' (by decide))
     | skip
    all_goals
     clear hb' WT Yy EW HD;go_wp2;go_roundw
     case rel=>exact ⟨acc,n+1,o,c,rfl,by go_num,by omega,by rw [HW.out,HWB.out,List.drop_drop],HR.out,by omega,HQ.out⟩
     case measure=>simp [intOf];omega
  ·have hnn:n=s.size:=by omega
   have HNN:=hid hnn;have zC:=hid (ku (at':=n) (l:=s.data.toList.drop n) (by rw [drop_end s n (by omega)];rfl));clear hnn;have hlt':¬ (n:Int) < s.size:=by omega
   go_wp2_with (at_builtin;go_must (refine aX wr rfl (.tmp 172) (.tmp 179) 49 rfl 55 _ 4 40 OJ (.slice o acc.length c) acc.length (jV acc) rfl HR.out.1 #[.int .i64 0,.string ⟨#[]⟩,.int .i64 (s.size:Nat),.int .i64 (s.size:Nat)] rfl rfl ?d1 ?d2 ?d3 ?_))
   case d1=>simp [Value.oneCell']
   case d2=>unfold maxLen;omega
   case d3=>omega
   intro g c' w2 ho hf hg;have hap:pV w2 B (.slice (some ⟨g,0,none⟩) (acc++[lC s.size]).length c') (acc++[lC s.size])/\ah w w2:=by
    refine Ef HQ.out IQ.out HR.out ?_ hf hg;exact ho
   have Tt:=hid hap;clear hap ho hf hg HR;go_wp2_with fail;go_ret3;refine ⟨Tt.out.2,?_⟩;have hw:jZ s.data.toList=.inl (acc++[lC s.size]):=by
    rw [HW.out,zC.out,List.length_drop,bH,HNN.out];simp [appW]
   rw [hw];refine ⟨g,c',by simp,?_⟩;rw [<-IQ.out];exact Tt.out.1
end Lx
end
section
namespace Lx
open Go.RowKit
theorem oJ.ok {l : List UInt8} {w w' : World} {e : Ending} (h : oJ l w e w') {ts : List Tok} (hw : jZ l = .inl ts) :
    ah w w'/\∃ g c,e=.returned (.tuple #[.slice (some ⟨g,0,none⟩) ts.length c,.int .i64 0,.int .i64 0])/\pV w' w.heap.size (.slice (some ⟨g,0,none⟩) ts.length c) ts:=by
 obtain ⟨hq,h⟩:=h;rw [hw] at h;exact ⟨hq,h⟩
theorem oJ.bad {l : List UInt8} {w w' : World} {e : Ending} (h : oJ l w e w') {p : Nat × Nat} (hw : jZ l = .inr p) :
    ah w w'/\e=.returned (.tuple #[.slice none 0 0,.int .i64 (p.1:Nat),.int .i64 (p.2:Nat)]):=by
 obtain ⟨hq,h⟩:=h;rw [hw] at h;exact ⟨hq,h⟩
theorem CG:∀ (at':Nat) (l:List UInt8) (ts:List Tok),dK at' l=.inl ts->ts.length<=l.length+1:=by
 suffices h:∀ (n:Nat) (at':Nat) (l:List UInt8) (ts:List Tok),l.length<=n->dK at' l=.inl ts->ts.length<=l.length+1 from fun a l ts hw=>h l.length a l ts (Nat.le_refl _) hw
 intro n
 induction n with
 | zero =>
  intro a l ts hl hw;have:l=[]:=List.eq_nil_of_length_eq_zero (by omega);subst this;rw [ku rfl] at hw;cases hw;simp
 | succ n ih =>
  intro a l ts hl hw;have hle:=ng false l
  by_cases hk:aO false l=l.length
  ·rw [ku hk] at hw;cases hw;simp
  ·by_cases he:(nextL (l.drop (aO false l))).2.2=0
   ·have hlen:=qH he;rw [oL (by omega) he] at hw
    revert hw
    cases hr:dK (a+aO false l+(nextL (l.drop (aO false l))).2.1) ((l.drop (aO false l)).drop (nextL (l.drop (aO false l))).2.1) with
    | inr e=>intro hw;cases hw
    | inl us =>
     intro hw;cases hw;have:=ih _ _ us (by simp only [List.length_drop] at *;omega) hr;simp only [List.length_drop,List.length_cons] at *;omega
   ·rw [oK (by omega) he] at hw;cases hw
end Lx
end
end Go.Proofs.YtcninopmelmajaaDoor
