/-
  Texts laid together (LexRefWords, LexAwake): laws and walks, with their conditions.
-/
import Derived.Deep.DeepCutAuto
import Derived.Deep.CutBlock
import Derived.Test.YtcninopmelmajaaGreatDoorOF6
set_option maxHeartbeats 8000000
set_option maxRecDepth 1000000
namespace Go.Proofs.YtcninopmelmajaaGreatDoor
open Go.Lib (hid)
section
namespace Lx
open Go.RowKit
theorem Ig {at':Nat} {l r:List UInt8} {c:UInt8} (hl:l=c::r) (hb:lJ c=true):dN at' l=dN (at'+1) (l.drop 1):=by
 subst hl;exact zS (k:=1) (by rw [DL hb];omega) (by rw [DL hb];simp)
theorem J6 {at':Nat} {l r:List UInt8} {c:UInt8} (hl:l=c::r) (hb:lJ c=false) (h:(c == 35)=true):dN at' l=dN (at'+dn nH l) (l.drop (dn nH l)):=by
 have:=QI (r:=r) hb h;rw [<-hl] at this;exact zS (by omega) (by omega)
theorem iV {at':Nat} {l r:List UInt8} {c:UInt8} {kd ln:Nat} (hl:l=c::r) (hb:lJ c=false) (h:(c == 35)=false) (hn:nextL l=(kd,ln,0)):dN at' l=Bf ⟨kd,l.take ln,at',at'+ln⟩ (dN (at'+ln) (l.drop ln)):=by
 have h0:aS false l=0:=by rw [hl];exact F7 hb h
 have:=oV (at':=at') (l:=l) (by rw [h0,hl];simp) (by rw [h0,List.drop_zero,hn]);rw [h0,List.drop_zero,hn] at this;exact this
theorem iy {at':Nat} {l r:List UInt8} {c:UInt8} {a b er:Nat} (hl:l=c::r) (hb:lJ c=false) (h:(c == 35)=false) (hn:nextL l=(a,b,er)) (he:er≠0):dN at' l=.inr (at',er):=by
 have h0:aS false l=0:=by rw [hl];exact F7 hb h
 have:=oU (at':=at') (l:=l) (by rw [h0,hl];simp) (by rw [h0,List.drop_zero,hn];exact he);rw [h0,List.drop_zero,hn] at this;exact this
theorem DU (x:UInt8) (m:Nat) (hm:m < 256):((x.toNat:Int) == (m:Int))=(x == UInt8.ofNat m):=by
 rw [rG x m hm,Bool.eq_iff_iff];simp;omega
theorem kS (x:UInt8) (m:Nat) (hm:m < 256):((x.toNat:Int) != (m:Int))=!(x == UInt8.ofNat m):=by
 rw [<-DU x m hm];rfl
theorem J7 (s:ByteArray) (n j:Nat):s.extract n j=dD ((s.data.toList.drop n).take (j-n)):=by
 apply aaH;rw [Lib.extract_data,uD]
theorem oM {l:List UInt8} {acc:List Tok} {n er:Nat} (hW:kH l=appW acc (dN n (l.drop n))) (hT:dN n (l.drop n)=.inr (n,er)):kH l=.inr (n,er):=by
 rw [hW,hT];rfl
theorem jT {l:List UInt8} {w w':World} {n er:Nat} {e:Ending} (hq:ah w w') (h:kH l=.inr (n,er)) (he:e=.returned (.tuple #[.slice none 0 0,.int .i64 (n:Nat),.int .i64 (er:Nat)])):oQ l w e w':=by
 refine ⟨hq,?_⟩;rw [h];exact he
theorem Na {x:UInt8} (h:vN x=true):x=40∨x=41∨x=44∨x=58∨x=61∨x=42:=by
 unfold vN at h;simp at h;rcases h with ((((h | h) | h) | h) | h) | h<;>simp [h]
theorem VR {x:UInt8} (h:vN x=false):(x == 40)=false/\(x == 41)=false/\(x == 44)=false/\(x == 58)=false/\(x == 61)=false/\(x == 42)=false:=by
 unfold vN at h;simp at h;simp [h]
theorem EJ (x:UInt8):((x.toNat:Int) != 62)=!(x == 62):=kS x 62 (by omega)
theorem b45 (x:UInt8):((x.toNat:Int) == 45)=(x == 45):=DU x 45 (by omega)
theorem n40 (x:UInt8):((x.toNat:Int) != 40)=!(x == 40):=kS x 40 (by omega)
theorem n41 (x:UInt8):((x.toNat:Int) != 41)=!(x == 41):=kS x 41 (by omega)
theorem n44 (x:UInt8):((x.toNat:Int) != 44)=!(x == 44):=kS x 44 (by omega)
theorem n58 (x:UInt8):((x.toNat:Int) != 58)=!(x == 58):=kS x 58 (by omega)
theorem n61 (x:UInt8):((x.toNat:Int) != 61)=!(x == 61):=kS x 61 (by omega)
theorem n42 (x:UInt8):((x.toNat:Int) != 42)=!(x == 42):=kS x 42 (by omega)
def QL (l:List UInt8) (n size:Nat) (w:World) (t1 t2:Value) (wx:World):Prop :=
 ∃ j kd:Nat,t1=.int .i64 (j:Nat)/\t2=.int .i64 (kd:Nat)/\n < j/\j<=size/\dN n (l.drop n)=Bf ⟨kd,(l.drop n).take (j-n),n,j⟩ (dN j (l.drop j))/\ah w wx
theorem qG {l:List UInt8} {n kd ln j:Nat} (h:dN n (l.drop n)=Bf ⟨kd,(l.drop n).take ln,n,n+ln⟩ (dN (n+ln) ((l.drop n).drop ln))) (hj:j=n+ln):dN n (l.drop n)=Bf ⟨kd,(l.drop n).take (j-n),n,j⟩ (dN j (l.drop j)):=by
 subst hj;rw [h,List.drop_drop,show n+ln-n=ln from by omega]
theorem GN (s : ByteArray) (hs : s.size <= 100000) (w : World) :
    Calls Tryz.prog 47 #[.string s] w fun e w'=>oQ s.data.toList w e w':=by
 have HS:Hid (s.size<=maxLen):=by show _<=_;unfold maxLen;omega
 go_enter Tryz.func47,Tryz.ntmps47;go_wp2_with fail;obtain ⟨B,hB⟩:∃ B,B=w.heap.size:=⟨_,rfl⟩;have yV:=hid hB;clear hB;go_loopw [5,6] (fun v t wr=>∃ (acc:List Tok) (n:Nat) (o:Option Addr) (c:Nat),v=.slice o acc.length c/\t=.int .i64 n/\n<=s.size/\kH s.data.toList=appW acc (dN n (s.data.toList.drop n))/\qm wr B (.slice o acc.length c) acc/\acc.length<=n/\ah w wr) (fun _ t _=>s.size-(intOf t).toNat)
 case atStart =>
  exact ⟨[],0,none,0,rfl,rfl,Nat.zero_le _,by rw [Rz];rfl,⟨World.ownsRow_nil _ _ _ _,by intro k hk;cases hk⟩,Nat.zero_le _,ah.refl _⟩
 case round =>
  obtain ⟨acc,n,o,c,rfl,rfl,hn,hW,hrow,hacc,hq⟩:=hrel;have HW:=hid hW;have HR:=hid hrow;have HQ:=hid hq;clear hW hrow hq;have hsz1:acc.length<=100000:=by omega
  by_cases hlt:n < s.size
  ·have hlt':(n:Int) < s.size:=by omega
   have HD:=hid (drop_byte s n hlt);have J8:=hid (Ye s[n]);have HB:=hid (TT s[n]);have Ws:=hid (wO s[n]);have Yg:=hid (rH s[n]);have iK:=hid (Yf s[n]);have hx256:=CP s[n];obtain ⟨x,hx⟩:∃ x,s[n]=x:=⟨_,rfl⟩;rw [hx] at HD J8 HB Ws Yg iK hx256;cases hb:lJ x
   ·have sH:=hid hb;have b32:((x.toNat:Int) == 32)=false:=by have:=HB.out;rw [hb] at this;revert this;cases ((x.toNat:Int) == 32)<;>simp
    have b9:((x.toNat:Int) == 9)=false:=by have:=HB.out;rw [hb] at this;revert this;cases ((x.toNat:Int) == 9)<;>simp
    have b10:((x.toNat:Int) == 10)=false:=by have:=HB.out;rw [hb] at this;revert this;cases ((x.toNat:Int) == 10)<;>simp
    have b13:((x.toNat:Int) == 13)=false:=by have:=HB.out;rw [hb] at this;revert this;cases ((x.toNat:Int) == 13)<;>simp
    clear hb HB;cases hh:(x == 35)
    ·have HH:=hid hh;have hh':((x.toNat:Int) == 35)=false:=by rw [J8.out,hh]
     clear hh J8;go_upto_block 4 with (fail)
     go_cut [8,9] (fun t1 t2 wx=>QL s.data.toList n s.size wr t1 t2 wx)
     case first =>
      cases hsm:eX x
      ·have AV:=hid hsm;clear hsm;cases hdg:dR x
       ·as_aux_lemma =>
          have EK:=hid hdg;clear hdg;go_wp2_with fail;refine (Ws.out _).mono ?_;rintro e w' ⟨rfl,rfl⟩;rw [AV.out];go_wp2_with fail;refine (Yg.out _).mono ?_;rintro e w' ⟨rfl,rfl⟩;rw [EK.out];clear Ws Yg iK;cases hmn:(x == 45)
          ·have acs:((x.toNat:Int) == 45)=false:=by rw [b45,hmn]
           have HM:=hid hmn;clear hmn;cases hsg:vN x
           ·obtain ⟨m1,m2,m3,m4,m5,m6⟩:=VR hsg;have a1:((x.toNat:Int) != 40)=true:=by rw [n40,m1];rfl
            have a2:((x.toNat:Int) != 41)=true:=by rw [n41,m2];rfl
            have a3:((x.toNat:Int) != 44)=true:=by rw [n44,m3];rfl
            have a4:((x.toNat:Int) != 58)=true:=by rw [n58,m4];rfl
            have a5:((x.toNat:Int) != 61)=true:=by rw [n61,m5];rfl
            have a6:((x.toNat:Int) != 42)=true:=by rw [n42,m6];rfl
            have nZ:Hid (nextL (s.data.toList.drop n)=(0,0,3)):=by
             show _=_
             rw [HD.out,DR AV.out EK.out hsg,DN,HM.out];rfl
            have uI:=hid (oM HW.out (iy (at':=n) HD.out sH.out HH.out nZ.out (by decide)));clear m1 m2 m3 m4 m5 m6 hsg;go_wp2_with fail;go_ret3;exact jT HQ.out uI.out rfl
           ·have hsx:=Na hsg;have nZ:Hid (nextL (s.data.toList.drop n)=(4,1,0)):=by
             show _=_
             rw [HD.out];exact QK AV.out EK.out hsg
            have qX:=hid (qG (j:=n+1) (iV (at':=n) HD.out sH.out HH.out nZ.out) rfl);clear hsg HM nZ HD sH HH AV EK b32 b9 b10 b13 hh' acs hx256;rcases hsx with rfl | rfl | rfl | rfl | rfl | rfl
            all_goals
             go_wp2_with fail;go_meet;exact ⟨n+1,4,by go_num,rfl,by omega,by omega,qX.out,ah.refl _⟩
          ·have acs:((x.toNat:Int) == 45)=true:=by rw [b45,hmn]
           have HM:=hid hmn
           have hsg : vN x = false := by have : x = 45 := by simpa using hmn
                                         subst this;decide
           have Jf:Hid (nextL (s.data.toList.drop n)=if Lib.hasPrefix (x::s.data.toList.drop (n+1)) [45,62] then (4,2,0) else (0,0,3)):=by
            show _=_
            rw [HD.out];exact DR AV.out EK.out hsg
           rw [DN,hmn] at Jf;clear hmn hsg
           by_cases hn1:n+1 < s.size
           ·have hn1':(n:Int)+1 < s.size:=by omega
            have HD1:=hid (drop_byte s (n+1) hn1);have VT:=hid (EJ s[n+1]);obtain ⟨y,hy⟩:∃ y,s[n+1]=y:=⟨_,rfl⟩;rw [hy] at HD1 VT;rw [HD1.out] at Jf;cases h62:(y == 62)
            ·have ady:((y.toNat:Int) != 62)=true:=by rw [VT.out,h62];rfl
             have nZ:Hid (nextL (s.data.toList.drop n)=(0,0,3)):=by
              show _=_;rw [Jf.out];simp [fK,h62]
             have uI:=hid (oM HW.out (iy (at':=n) HD.out sH.out HH.out nZ.out (by decide)));clear VT h62 Jf nZ;go_wp2_with fail;go_ret3;exact jT HQ.out uI.out rfl
            ·have ady:((y.toNat:Int) != 62)=false:=by rw [VT.out,h62];rfl
             have nZ:Hid (nextL (s.data.toList.drop n)=(4,2,0)):=by
              show _=_;rw [Jf.out];simp [fK,h62]
             have qX:=hid (qG (j:=n+2) (iV (at':=n) HD.out sH.out HH.out nZ.out) rfl);clear VT h62 Jf nZ;go_wp2_with fail;go_meet;exact ⟨n+2,4,by go_num,rfl,by omega,by omega,qX.out,ah.refl _⟩
           ·have hn1':¬ (n:Int)+1 < s.size:=by omega
            have nZ:Hid (nextL (s.data.toList.drop n)=(0,0,3)):=by
             show _=_;rw [Jf.out,drop_end s (n+1) (by omega)];simp [fK]
            have uI:=hid (oM HW.out (iy (at':=n) HD.out sH.out HH.out nZ.out (by decide)));clear Jf nZ;go_wp2_with fail;go_ret3;exact jT HQ.out uI.out rfl
       ·as_aux_lemma =>
          have EK:=hid hdg;clear hdg;have hrl:=oD dR (s.data.toList.drop n);rw [List.length_drop,bM] at hrl;have hrp:0 < dn dR (s.data.toList.drop n):=by rw [HD.out];exact qL EK.out
          generalize hrn:dn dR (s.data.toList.drop n)=rn at *;have sN:=hid hrn;clear hrn;go_wp2_with fail;refine (Ws.out _).mono ?_;rintro e w' ⟨rfl,rfl⟩;rw [AV.out];go_wp2_with fail;refine (Yg.out _).mono ?_;rintro e w' ⟨rfl,rfl⟩;rw [EK.out];clear Ws Yg;go_upto_block 7 with (fail)
          go_cut [8] (fun t wx=>∃ j:Nat,t=.int .i64 j/\j=n+rn/\wr=wx)
          case first =>
           go_wp2_with fail;go_loop [8] (fun t=>∃ j:Nat,t=.int .i64 j/\n+1<=j/\j<=s.size/\n+rn=j+dn dR (s.data.toList.drop j)) (fun t=>s.size-(intOf t).toNat)
           case atStart=>exact ⟨n+1,by go_num,by omega,by omega,by rw [<-sN.out,HD.out,fG,EK.out];simp only [if_true];omega⟩
           case round =>
            obtain ⟨j,rfl,hj1,hj2,hj3⟩:=hrel;have HJ:=hid hj3;clear hj3
            by_cases hjl:j < s.size
            ·have Ih:(j:Int) < s.size:=by omega
             have DV:=hid (drop_byte s j hjl);have HT:=hid (rH s[j]);obtain ⟨y,hy⟩:∃ y,s[j]=y:=⟨_,rfl⟩;rw [hy] at DV HT;cases hp:dR y
             ·have VU:=hid hp;clear hp;have Jg:Hid (j=n+rn):=by have:=HJ.out;rw [DV.out,fG,VU.out] at this;show _=_;simpa using this.symm
              go_wp2_with fail;refine (HT.out _).mono ?_;rintro e w' ⟨rfl,rfl⟩;rw [VU.out];go_wp2_with fail;go_meet;exact ⟨j,rfl,Jg.out,rfl⟩
             ·have VU:=hid hp;clear hp;go_wp2_with fail;refine (HT.out _).mono ?_;rintro e w' ⟨rfl,rfl⟩;rw [VU.out];go_wp2;go_round
              case rel=>exact ⟨j+1,by go_num,by omega,by omega,by rw [HJ.out,DV.out,fG,VU.out];simp only [if_true];omega⟩
              case measure=>simp [intOf];omega
            ·have Ih:¬ (j:Int) < s.size:=by omega
             have Jg:Hid (j=n+rn):=by have:=HJ.out;rw [drop_end s j (by omega)] at this;show _=_;simpa [dn] using this.symm
             go_wp2_with fail;go_meet;exact ⟨j,rfl,Jg.out,rfl⟩
          case rest =>
           obtain ⟨j,rfl,Ef,rfl⟩:=hcut;have hjn:(n:Int)<=j:=by omega
           have hjs:j<=s.size:=by omega
           have acu:(j:Int)<=s.size:=by omega
           have Jg:=hid Ef;have lZ:Hid (nextL (s.data.toList.drop n)=if (decide (1 < rn) && (x == 48)) || fK bG (s.data.toList.drop j) then (0,0,3) else if 9 < rn then (0,0,2) else (2,rn,0)):=by
            show _=_
            rw [HD.out,MZ AV.out EK.out,<-HD.out];unfold aaI;rw [sN.out,List.drop_drop,<-Ef,HD.out];rfl
           cases hz:(x == 48)
           ·have hz':((x.toNat:Int) == 48)=false:=by rw [iK.out,hz]
            rw [hz] at lZ;clear hz
            by_cases hjl:j < s.size
            ·have Ih:(j:Int) < s.size:=by omega
             have DV:=hid (drop_byte s j hjl);have oN:=hid (oJ s[j]);obtain ⟨y,hy⟩:∃ y,s[j]=y:=⟨_,rfl⟩;rw [hy] at DV oN;cases QM:bG y
             ·have YK:=hid QM;have tC:Hid (fK bG (s.data.toList.drop j)=false):=by show _=_;rw [DV.out];exact QM
              clear QM
              by_cases h9:9 < rn
              ·have h9':(9:Int) < (j:Int)-(n:Int):=by omega
               have nZ:Hid (nextL (s.data.toList.drop n)=(0,0,2)):=by show _=_;rw [lZ.out,tC.out];simp [h9]
               have uI:=hid (oM HW.out (iy (at':=n) HD.out sH.out HH.out nZ.out (by decide)));clear lZ nZ Ef;go_wp2_with fail;refine (oN.out _).mono ?_;rintro e w' ⟨rfl,rfl⟩;rw [YK.out];go_wp2_with fail;go_ret3;exact jT HQ.out uI.out rfl
              ·have h9':¬ (9:Int) < (j:Int)-(n:Int):=by omega
               have nZ:Hid (nextL (s.data.toList.drop n)=(2,rn,0)):=by show _=_;rw [lZ.out,tC.out];simp [h9]
               have qX:=hid (qG (j:=j) (iV (at':=n) HD.out sH.out HH.out nZ.out) Ef);clear lZ nZ Ef;go_wp2_with fail;refine (oN.out _).mono ?_;rintro e w' ⟨rfl,rfl⟩;rw [YK.out];go_wp2_with fail;go_meet;exact ⟨j,2,rfl,rfl,by have:=Jg.out;omega,hjs,qX.out,ah.refl _⟩
             ·have YK:=hid QM;have tC:Hid (fK bG (s.data.toList.drop j)=true):=by show _=_;rw [DV.out];exact QM
              clear QM;have nZ:Hid (nextL (s.data.toList.drop n)=(0,0,3)):=by show _=_;rw [lZ.out,tC.out];simp
              have uI:=hid (oM HW.out (iy (at':=n) HD.out sH.out HH.out nZ.out (by decide)));clear lZ nZ Ef;go_wp2_with fail;refine (oN.out _).mono ?_;rintro e w' ⟨rfl,rfl⟩;rw [YK.out];go_wp2_with fail;go_ret3;exact jT HQ.out uI.out rfl
            ·have Ih:¬ (j:Int) < s.size:=by omega
             have tC:Hid (fK bG (s.data.toList.drop j)=false):=by show _=_;rw [drop_end s j (by omega)];rfl
             by_cases h9:9 < rn
             ·have h9':(9:Int) < (j:Int)-(n:Int):=by omega
              have nZ:Hid (nextL (s.data.toList.drop n)=(0,0,2)):=by show _=_;rw [lZ.out,tC.out];simp [h9]
              have uI:=hid (oM HW.out (iy (at':=n) HD.out sH.out HH.out nZ.out (by decide)));clear lZ nZ Ef;go_wp2_with fail;go_ret3;exact jT HQ.out uI.out rfl
             ·have h9':¬ (9:Int) < (j:Int)-(n:Int):=by omega
              have nZ:Hid (nextL (s.data.toList.drop n)=(2,rn,0)):=by show _=_;rw [lZ.out,tC.out];simp [h9]
              have qX:=hid (qG (j:=j) (iV (at':=n) HD.out sH.out HH.out nZ.out) Ef);clear lZ nZ Ef;go_wp2_with fail;go_meet;exact ⟨j,2,rfl,rfl,by have:=Jg.out;omega,hjs,qX.out,ah.refl _⟩
           ·have hz':((x.toNat:Int) == 48)=true:=by rw [iK.out,hz]
            rw [hz] at lZ;clear hz
            by_cases h1:1 < rn
            ·have h1':(n:Int)+1 < (j:Int):=by omega
             have nZ:Hid (nextL (s.data.toList.drop n)=(0,0,3)):=by show _=_;rw [lZ.out];simp [h1]
             have uI:=hid (oM HW.out (iy (at':=n) HD.out sH.out HH.out nZ.out (by decide)));clear lZ nZ Ef;go_wp2_with fail;go_ret3;exact jT HQ.out uI.out rfl
            ·have h1':¬ (n:Int)+1 < (j:Int):=by omega
             by_cases hjl:j < s.size
             ·have Ih:(j:Int) < s.size:=by omega
              have DV:=hid (drop_byte s j hjl);have oN:=hid (oJ s[j]);obtain ⟨y,hy⟩:∃ y,s[j]=y:=⟨_,rfl⟩;rw [hy] at DV oN;cases QM:bG y
              ·have YK:=hid QM;have tC:Hid (fK bG (s.data.toList.drop j)=false):=by show _=_;rw [DV.out];exact QM
               clear QM;have h9:¬ 9 < rn:=by omega
               have h9':¬ (9:Int) < (j:Int)-(n:Int):=by omega
               have nZ:Hid (nextL (s.data.toList.drop n)=(2,rn,0)):=by show _=_;rw [lZ.out,tC.out];simp [h9,h1]
               have qX:=hid (qG (j:=j) (iV (at':=n) HD.out sH.out HH.out nZ.out) Ef);clear lZ nZ Ef;go_wp2_with fail;refine (oN.out _).mono ?_;rintro e w' ⟨rfl,rfl⟩;rw [YK.out];go_wp2_with fail;go_meet;exact ⟨j,2,rfl,rfl,by have:=Jg.out;omega,hjs,qX.out,ah.refl _⟩
              ·have YK:=hid QM;have tC:Hid (fK bG (s.data.toList.drop j)=true):=by show _=_;rw [DV.out];exact QM
               clear QM;have nZ:Hid (nextL (s.data.toList.drop n)=(0,0,3)):=by show _=_;rw [lZ.out,tC.out];simp
               have uI:=hid (oM HW.out (iy (at':=n) HD.out sH.out HH.out nZ.out (by decide)));clear lZ nZ Ef;go_wp2_with fail;refine (oN.out _).mono ?_;rintro e w' ⟨rfl,rfl⟩;rw [YK.out];go_wp2_with fail;go_ret3;exact jT HQ.out uI.out rfl
             ·have Ih:¬ (j:Int) < s.size:=by omega
              have tC:Hid (fK bG (s.data.toList.drop j)=false):=by show _=_;rw [drop_end s j (by omega)];rfl
              have h9:¬ 9 < rn:=by omega
              have h9':¬ (9:Int) < (j:Int)-(n:Int):=by omega
              have nZ:Hid (nextL (s.data.toList.drop n)=(2,rn,0)):=by show _=_;rw [lZ.out,tC.out];simp [h9,h1]
              have qX:=hid (qG (j:=j) (iV (at':=n) HD.out sH.out HH.out nZ.out) Ef);clear lZ nZ Ef;go_wp2_with fail;go_meet;exact ⟨j,2,rfl,rfl,by have:=Jg.out;omega,hjs,qX.out,ah.refl _⟩
      ·as_aux_lemma =>
         have AV:=hid hsm;clear hsm;have hrl:=oD bG (s.data.toList.drop n);rw [List.length_drop,bM] at hrl;have hrp:0 < dn bG (s.data.toList.drop n):=by rw [HD.out];exact qL (qw AV.out)
         clear Yg iK;generalize hrn:dn bG (s.data.toList.drop n)=rn at *;have sN:=hid hrn;clear hrn;go_wp2_with fail;refine (Ws.out _).mono ?_;rintro e w' ⟨rfl,rfl⟩;rw [AV.out];clear Ws;go_upto_block 5 with (fail)
         go_cut [8] (fun t wx=>∃ j:Nat,t=.int .i64 j/\j=n+rn/\wr=wx)
         case first =>
          go_wp2_with fail;go_loop [8] (fun t=>∃ j:Nat,t=.int .i64 j/\n+1<=j/\j<=s.size/\n+rn=j+dn bG (s.data.toList.drop j)) (fun t=>s.size-(intOf t).toNat)
          case atStart=>exact ⟨n+1,by go_num,by omega,by omega,by rw [<-sN.out,HD.out,fG,qw AV.out];simp only [if_true];omega⟩
          case round =>
           obtain ⟨j,rfl,hj1,hj2,hj3⟩:=hrel;have HJ:=hid hj3;clear hj3
           by_cases hjl:j < s.size
           ·have Ih:(j:Int) < s.size:=by omega
            have DV:=hid (drop_byte s j hjl);have HT:=hid (oJ s[j]);obtain ⟨y,hy⟩:∃ y,s[j]=y:=⟨_,rfl⟩;rw [hy] at DV HT;cases hp:bG y
            ·have VU:=hid hp;clear hp;have Jg:Hid (j=n+rn):=by have:=HJ.out;rw [DV.out,fG,VU.out] at this;show _=_;simpa using this.symm
             go_wp2_with fail;refine (HT.out _).mono ?_;rintro e w' ⟨rfl,rfl⟩;rw [VU.out];go_wp2_with fail;go_meet;exact ⟨j,rfl,Jg.out,rfl⟩
            ·have VU:=hid hp;clear hp;go_wp2_with fail;refine (HT.out _).mono ?_;rintro e w' ⟨rfl,rfl⟩;rw [VU.out];go_wp2;go_round
             case rel=>exact ⟨j+1,by go_num,by omega,by omega,by rw [HJ.out,DV.out,fG,VU.out];simp only [if_true];omega⟩
             case measure=>simp [intOf];omega
           ·have Ih:¬ (j:Int) < s.size:=by omega
            have Jg:Hid (j=n+rn):=by have:=HJ.out;rw [drop_end s j (by omega)] at this;show _=_;simpa [dn] using this.symm
            go_wp2_with fail;go_meet;exact ⟨j,rfl,Jg.out,rfl⟩
         case rest =>
          obtain ⟨j,rfl,Ef,rfl⟩:=hcut;have HKD:Hid ((s.extract n j).data.toList=(s.data.toList.drop n).take rn):=by
           show _=_
           rw [Lib.extract_data];congr 1;omega
          have lZ:Hid (nextL (s.data.toList.drop n)=if KC ((s.data.toList.drop n).take rn) then (3,rn,0) else if 20 < rn then (0,0,2) else (1,rn,0)):=by
           show _=_
           rw [HD.out,MX AV.out,<-HD.out,sN.out]
          have HK:=hid (uH (s.extract n j) wr);rw [HKD.out] at HK;have hjn:(n:Int)<=j:=by omega
          have hjs:j<=s.size:=by omega
          have acu:(j:Int)<=s.size:=by omega
          have Jg:=hid Ef;cases hkw:KC ((s.data.toList.drop n).take rn)
          ·have HKW:=hid hkw;rw [hkw] at lZ HK;clear hkw
           by_cases h20:20 < rn
           ·have VQ:(20:Int) < (j:Int)-(n:Int):=by omega
            have nZ:Hid (nextL (s.data.toList.drop n)=(0,0,2)):=by show _=_;rw [lZ.out];simp [h20]
            have uI:=hid (oM HW.out (iy (at':=n) HD.out sH.out HH.out nZ.out (by decide)));clear lZ nZ Ef;go_wp2_with fail;refine HK.out.mono ?_;rintro e w1 ⟨rfl,hq1⟩;have eF:=hid (HQ.out.trans hq1);clear hq1;go_wp2_with fail;go_ret3;exact jT eF.out uI.out rfl
           ·have VQ:¬ (20:Int) < (j:Int)-(n:Int):=by omega
            have nZ:Hid (nextL (s.data.toList.drop n)=(1,rn,0)):=by show _=_;rw [lZ.out];simp [h20]
            have qX:=hid (qG (j:=j) (iV (at':=n) HD.out sH.out HH.out nZ.out) Ef);clear lZ nZ Ef;go_wp2_with fail;refine HK.out.mono ?_;rintro e w1 ⟨rfl,hq1⟩;have eF:=hid hq1;clear hq1;go_wp2_with fail;go_meet;exact ⟨j,1,rfl,rfl,by have:=Jg.out;omega,hjs,qX.out,eF.out⟩
          ·have HKW:=hid hkw;rw [hkw] at lZ HK;clear hkw;have nZ:Hid (nextL (s.data.toList.drop n)=(3,rn,0)):=by show _=_;rw [lZ.out];simp
           have qX:=hid (qG (j:=j) (iV (at':=n) HD.out sH.out HH.out nZ.out) Ef);clear lZ nZ Ef;go_wp2_with fail;refine HK.out.mono ?_;rintro e w1 ⟨rfl,hq1⟩;have eF:=hid hq1;clear hq1;go_wp2_with fail;go_meet;exact ⟨j,3,rfl,rfl,by have:=Jg.out;omega,hjs,qX.out,eF.out⟩
     case rest =>
      obtain ⟨j,kd,rfl,rfl,hj1,hj2,htk,hq1⟩:=hcut;have qX:=hid htk;have eF:=hid (HQ.out.trans hq1);have HR2:Hid (qm wc B (.slice o acc.length c) acc):=⟨aV HR.out.1 hq1 (fun _ _ h=>h),HR.out.2⟩;have adz:=hid (J7 s n j);have hjn:(n:Int)<=j:=by omega
      have acu:(j:Int)<=s.size:=by omega
      clear htk hq1 Ws Yg iK;go_wp2_with (at_builtin;refine aY wc rfl (.tmp 159) (.tmp 169) 88 rfl 94 _ 4 40 Oy (.slice o acc.length c) acc.length (kE acc) rfl HR2.out.1 #[.int .i64 (kd:Nat),.string (s.extract n j),.int .i64 (n:Nat),.int .i64 (j:Nat)] rfl rfl (by simp [Value.oneCell']) (by unfold maxLen;omega) (by omega) ?_;intro g c' w2 ho hf hg);go_roundw
      case rel =>
       have hap:=DT (t:=⟨kd,(s.data.toList.drop n).take (j-n),n,j⟩) eF.out yV.out HR2.out (by rw [adz.out] at ho;exact ho) hf hg;exact ⟨_,j,some ⟨g,0,none⟩,c',by simp,rfl,by omega,by rw [HW.out,qX.out,OD],hap.1,by simp;omega,hap.2⟩
      case measure=>simp [intOf];omega
    ·as_aux_lemma =>
       have HH:=hid hh;have hh':((x.toNat:Int) == 35)=true:=by rw [J8.out,hh]
       clear hh J8;have HWH:=hid (J6 (at':=n) HD.out sH.out HH.out);have HP:Hid (0 < dn nH (s.data.toList.drop n)):=by rw [HD.out];exact QJ HH.out
       have hrl:=oD nH (s.data.toList.drop n);rw [List.length_drop,bM] at hrl;clear Ws Yg iK HD;generalize hrn:dn nH (s.data.toList.drop n)=rn at *;have sN:=hid hrn;clear hrn;go_wp2_with fail;go_loop [6] (fun t=>∃ j:Nat,t=.int .i64 j/\n<=j/\j<=s.size/\n+rn=j+dn nH (s.data.toList.drop j)) (fun t=>s.size-(intOf t).toNat)
       case atStart=>exact ⟨n,rfl,Nat.le_refl _,hn,by rw [sN.out]⟩
       case round =>
        obtain ⟨j,rfl,hj1,hj2,hj3⟩:=hrel;have HJ:=hid hj3;clear hj3
        by_cases hjl:j < s.size
        ·have Ih:(j:Int) < s.size:=by omega
         have DV:=hid (drop_byte s j hjl);have Jd:=hid (Xw s[j]);obtain ⟨y,hy⟩:∃ y,s[j]=y:=⟨_,rfl⟩;rw [hy] at DV Jd;cases hnl:nH y
         ·have adA:((y.toNat:Int) != 10)=false:=by rw [<-Jd.out,hnl]
          have HNY:=hid hnl;clear hnl Jd;go_wp2;go_roundw
          case rel =>
           have e:n+rn=j:=by have:=HJ.out;rw [DV.out,fG,HNY.out] at this;simpa using this
           exact ⟨acc,j,o,c,rfl,rfl,hj2,by rw [HW.out,HWH.out,List.drop_drop,e],HR.out,by omega,HQ.out⟩
          case measure =>
           have e:n+rn=j:=by have:=HJ.out;rw [DV.out,fG,HNY.out] at this;simpa using this
           have:=HP.out;simp [intOf];omega
         ·have adA:((y.toNat:Int) != 10)=true:=by rw [<-Jd.out,hnl]
          have HNY:=hid hnl;clear hnl Jd;go_wp2;go_round
          case rel=>exact ⟨j+1,by go_num,by omega,by omega,by rw [HJ.out,DV.out,fG,HNY.out];simp only [if_true];omega⟩
          case measure=>simp [intOf];omega
        ·have Ih:¬ (j:Int) < s.size:=by omega
         have DV:=hid (drop_end s j (by omega));go_wp2;go_roundw
         case rel =>
          have e:n+rn=j:=by have:=HJ.out;rw [DV.out] at this;simpa [dn] using this
          exact ⟨acc,j,o,c,rfl,rfl,hj2,by rw [HW.out,HWH.out,List.drop_drop,e],HR.out,by omega,HQ.out⟩
         case measure =>
          have e:n+rn=j:=by have:=HJ.out;rw [DV.out] at this;simpa [dn] using this
          have:=HP.out;simp [intOf];omega
   ·have sH:=hid hb;have hb':(((x.toNat:Int) == 32) || ((x.toNat:Int) == 9) || ((x.toNat:Int) == 10) || ((x.toNat:Int) == 13))=true:=by rw [<-HB.out,hb]
    clear hb HB;have HWB:=hid (Ig (at':=n) HD.out sH.out);cases b32:((x.toNat:Int) == 32)<;>cases b9:((x.toNat:Int) == 9)<;>cases b10:((x.toNat:Int) == 10)<;>cases b13:((x.toNat:Int) == 13)
    all_goals
     rw [b32,b9,b10,b13] at hb'
     first
     | (exact absurd hb' (by decide))
     | skip
    all_goals
     clear hb' Ws Yg iK HD;go_wp2;go_roundw
     case rel=>exact ⟨acc,n+1,o,c,rfl,by go_num,by omega,by rw [HW.out,HWB.out,List.drop_drop],HR.out,by omega,HQ.out⟩
     case measure=>simp [intOf];omega
  ·have hnn:n=s.size:=by omega
   have HNN:=hid hnn;have zy:=hid (kJ (at':=n) (l:=s.data.toList.drop n) (by rw [drop_end s n (by omega)];rfl));clear hnn;have hlt':¬ (n:Int) < s.size:=by omega
   go_wp2_with (at_builtin;go_must (refine aY wr rfl (.tmp 172) (.tmp 179) 88 rfl 94 _ 4 40 Oy (.slice o acc.length c) acc.length (kE acc) rfl HR.out.1 #[.int .i64 0,.string ⟨#[]⟩,.int .i64 (s.size:Nat),.int .i64 (s.size:Nat)] rfl rfl ?d1 ?d2 ?d3 ?_))
   case d1=>simp [Value.oneCell']
   case d2=>unfold maxLen;omega
   case d3=>omega
   intro g c' w2 ho hf hg;have hap:qm w2 B (.slice (some ⟨g,0,none⟩) (acc++[lK s.size]).length c') (acc++[lK s.size])/\ah w w2:=by
    refine DT HQ.out yV.out HR.out ?_ hf hg;exact ho
   have Td:=hid hap;clear hap ho hf hg HR;go_wp2_with fail;go_ret3;refine ⟨Td.out.2,?_⟩;have hw:kH s.data.toList=.inl (acc++[lK s.size]):=by
    rw [HW.out,zy.out,List.length_drop,bM,HNN.out];simp [appW]
   rw [hw];refine ⟨g,c',by simp,?_⟩;rw [<-yV.out];exact Td.out.1
end Lx
end
section
namespace Lx
open Go.RowKit
theorem oQ.ok {l : List UInt8} {w w' : World} {e : Ending} (h : oQ l w e w') {ts : List Tok} (hw : kH l = .inl ts) :
    ah w w'/\∃ g c,e=.returned (.tuple #[.slice (some ⟨g,0,none⟩) ts.length c,.int .i64 0,.int .i64 0])/\qm w' w.heap.size (.slice (some ⟨g,0,none⟩) ts.length c) ts:=by
 obtain ⟨hq,h⟩:=h;rw [hw] at h;exact ⟨hq,h⟩
theorem oQ.bad {l : List UInt8} {w w' : World} {e : Ending} (h : oQ l w e w') {p : Nat × Nat} (hw : kH l = .inr p) :
    ah w w'/\e=.returned (.tuple #[.slice none 0 0,.int .i64 (p.1:Nat),.int .i64 (p.2:Nat)]):=by
 obtain ⟨hq,h⟩:=h;rw [hw] at h;exact ⟨hq,h⟩
theorem LQ:∀ (at':Nat) (l:List UInt8) (ts:List Tok),dN at' l=.inl ts->ts.length<=l.length+1:=by
 suffices h:∀ (n:Nat) (at':Nat) (l:List UInt8) (ts:List Tok),l.length<=n->dN at' l=.inl ts->ts.length<=l.length+1 from fun a l ts hw=>h l.length a l ts (Nat.le_refl _) hw
 intro n
 induction n with
 | zero =>
  intro a l ts hl hw;have:l=[]:=List.eq_nil_of_length_eq_zero (by omega);subst this;rw [kJ rfl] at hw;cases hw;simp
 | succ n ih =>
  intro a l ts hl hw;have hle:=nI false l
  by_cases hk:aS false l=l.length
  ·rw [kJ hk] at hw;cases hw;simp
  ·by_cases he:(nextL (l.drop (aS false l))).2.2=0
   ·have hlen:=qM he;rw [oV (by omega) he] at hw
    revert hw
    cases hr:dN (a+aS false l+(nextL (l.drop (aS false l))).2.1) ((l.drop (aS false l)).drop (nextL (l.drop (aS false l))).2.1) with
    | inr e=>intro hw;cases hw
    | inl us =>
     intro hw;cases hw;have:=ih _ _ us (by simp only [List.length_drop] at *;omega) hr;simp only [List.length_drop,List.length_cons] at *;omega
   ·rw [oU (by omega) he] at hw;cases hw
end Lx
end
end Go.Proofs.YtcninopmelmajaaGreatDoor
