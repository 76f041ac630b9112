/-
  Texts laid together (LexName, TyEach, TySize, TyMap, TyVars, TyVars2, TyCanon, TeSound): laws and walks, with their conditions.
-/
import Derived.Maps.OwnOps
import Derived.Maps.Views
import Derived.Deep.MidRow
import Derived.Test.YtcninopmelmajaaGreatDoorCC5
set_option maxHeartbeats 8000000
set_option maxRecDepth 1000000
namespace Go.Proofs.YtcninopmelmajaaGreatDoor
open Go.Lib (hid)
section
namespace Lx
open Go.RowKit
def nameB (l:List UInt8):Bool:=eU dU l && decide (bU bg l=l.length) && decide (l.length<=20) && !JI l
theorem LQ (s:ByteArray):s.toList.isEmpty=decide (s.size=0):=by
 rw [ByteArray.toList_eq,Bool.eq_iff_iff,decide_eq_true_eq,List.isEmpty_iff,<-bH,List.length_eq_zero_iff]
theorem name_any (s : ByteArray) (hs : s.size <= 100000) (w : World) (ht : jO w) :
    Calls Tryz.prog 86 #[.string s] w fun e w'=>e=.returned (.bool (nameB s.data.toList))/\ah w w':=by
 have HT:=hid ht
 have HS:Hid (s.size<=maxLen):=by show _<=_;unfold maxLen;omega
 clear ht
 have HE:=hid (LQ s)
 obtain ⟨res,hres⟩:∃ res,res=nameB s.data.toList:=⟨_,rfl⟩
 have aW:=hid hres
 rw [<-hres]
 clear hres
 by_cases h0:s.size=0
 ·have e1:s.toList.isEmpty=true:=by rw [HE.out];simpa using h0
  have e2:s.toList=[]:=by simpa using e1
  have HF:Hid (res=false):=by
   show _=_
   rw [aW.out]
   have:s.data.toList=[]:=by rw [<-List.length_eq_zero_iff,bH];exact h0
   rw [this];rfl
  clear h0
  go_enter Tryz.func86,Tryz.ntmps86
  go_wp2_with fail
  go_ret
  exact ⟨by rw [HF.out];first | rfl | simp_all,ah.refl _⟩
 ·have e1:s.toList.isEmpty=false:=by rw [HE.out];simpa using h0
  have e2:¬ s.toList=[]:=by simpa using e1
  have hpos:0 < s.size:=by omega
  have HD:Hid (s.data.toList=s[0]::s.data.toList.drop 1):=by
   have:=drop_byte s 0 hpos;rw [List.drop_zero] at this;exact this
  have HB:=hid (Fv s[0])
  obtain ⟨x,hx⟩:∃ x,s[0]=x:=⟨_,rfl⟩
  rw [hx] at HD HB
  have hrl:=nO bg s.data.toList
  rw [bH] at hrl
  have HR:=hid (fun W=>run_any 108 bg UR Qg s 0 0 rfl (by omega) HS.out W)
  rw [List.drop_zero] at HR
  have HK:=hid (fun W h=>Js s W h)
  have HN:Hid (res=(dU x && decide (bU bg s.data.toList=s.size) && decide (s.size<=20) && !JI s.data.toList)):=by
   show _=_
   rw [aW.out];unfold nameB;rw [bH,HD.out];rfl
  clear aW HE HD h0
  generalize bU bg s.data.toList=rn at *
  cases hsm:dU x
  ·have je:=hid hsm
   clear hsm
   go_enter Tryz.func86,Tryz.ntmps86
   go_wp2_with fail
   refine (HB.out _).mono ?_;rintro e w' ⟨rfl,rfl⟩
   rw [je.out]
   go_wp2_with fail
   go_ret
   exact ⟨by rw [HN.out,je.out];rfl,ah.refl _⟩
  ·have je:=hid hsm
   clear hsm
   by_cases hrn:rn=s.size
   ·have hr1:((rn:Int) == (s.size:Int))=true:=by simp [hrn]
    have MQ:=hid hrn
    clear hrn
    by_cases h20:s.size<=20
    ·have SI:(s.size:Int)<=20:=by omega
     cases hkw:JI s.data.toList
     all_goals
      have Y4:=hid hkw
      clear hkw
      go_enter Tryz.func86,Tryz.ntmps86
      go_wp2_with fail
      refine (HB.out _).mono ?_;rintro e w' ⟨rfl,rfl⟩
      rw [je.out]
      go_wp2_with fail
      refine (HR.out _).mono ?_;rintro e w' ⟨rfl,rfl⟩
      go_wp2_with fail
      refine (HK.out _ HT.out).mono ?_;rintro e w' ⟨rfl,hq⟩
      rw [Y4.out]
      go_wp2_with fail
      go_ret
      exact ⟨by rw [HN.out,je.out,Y4.out,MQ.out];simp [h20],hq⟩
    ·have SI:¬ (s.size:Int)<=20:=by omega
     go_enter Tryz.func86,Tryz.ntmps86
     go_wp2_with fail
     refine (HB.out _).mono ?_;rintro e w' ⟨rfl,rfl⟩
     rw [je.out]
     go_wp2_with fail
     refine (HR.out _).mono ?_;rintro e w' ⟨rfl,rfl⟩
     go_wp2_with fail
     go_ret
     exact ⟨by rw [HN.out,je.out,MQ.out];simp [h20],ah.refl _⟩
   ·have hr1:((rn:Int) == (s.size:Int))=false:=by simp;omega
    have MQ:=hid hrn
    clear hrn
    go_enter Tryz.func86,Tryz.ntmps86
    go_wp2_with fail
    refine (HB.out _).mono ?_;rintro e w' ⟨rfl,rfl⟩
    rw [je.out]
    go_wp2_with fail
    refine (HR.out _).mono ?_;rintro e w' ⟨rfl,rfl⟩
    go_wp2_with fail
    go_ret
    exact ⟨by rw [HN.out,je.out];simp [MQ.out],ah.refl _⟩
theorem BN {p:UInt8->Bool} {l:List UInt8} (h:bU p l < l.length):bU p l≠l.length:=by omega
theorem He (s : ByteArray) (hs : s.size <= 100000) (w : World) :
    Calls Tryz.prog 55 #[.string s] w fun e w'=>e=.returned (.bool (nameB s.data.toList))/\ah w w':=by
 obtain ⟨res,hres⟩:∃ res,res=nameB s.data.toList:=⟨_,rfl⟩
 have aW:Hid (res=(eU dU s.data.toList && decide (bU bg s.data.toList=s.size) && decide (s.size<=20) && !JI s.data.toList)):=by
  show _=_
  rw [hres];unfold nameB;rw [bH]
 rw [<-hres]
 clear hres
 go_enter Tryz.func55,Tryz.ntmps55
 go_wp2_with fail
 go_loop [3] (fun t=>∃ k:Nat,t=.int .i64 k/\k<=s.size/\bU bg s.data.toList=k+bU bg (s.data.toList.drop k)/\(0 < k->eU dU s.data.toList=true)) (fun t=>s.size - (intOf t).toNat)
 case atStart=>exact ⟨0,rfl,Nat.zero_le _,by simp,fun h=>by omega⟩
 case round =>
  obtain ⟨k,rfl,hk,hr,hg⟩:=hrel
  have HR:=hid hr
  have HG:=hid hg
  clear hr hg
  by_cases hlt:k < s.size
  ·have hlt':(k:Int) < s.size:=by omega
   have HD:=hid (drop_byte s k hlt)
   have HI:=hid (nU s[k])
   have HL:=hid (vV s[k])
   obtain ⟨x,hx⟩:∃ x,s[k]=x:=⟨_,rfl⟩
   rw [hx] at HD HI HL
   cases hin:bg x
   ·have kR:=hid hin
    clear hin
    go_wp2_with fail
    refine (HI.out _).mono ?_;rintro e w' ⟨rfl,rfl⟩
    rw [kR.out]
    go_wp2_with fail
    go_ret
    refine ⟨?_,ah.refl _⟩
    have:bU bg s.data.toList=k:=by rw [HR.out,HD.out,eH,kR.out];rfl
    have hne:¬ bU bg s.data.toList=s.size:=by omega
    rw [aW.out];simp [hne]
   ·have kR:=hid hin
    clear hin
    by_cases hk0:k=0
    ·have b0:((k:Int) == 0)=true:=by simp [hk0]
     cases hsm:dU x
     ·have je:=hid hsm
      have DF:Hid (eU dU s.data.toList=false):=by
       show _=_
       have:=HD.out;rw [hk0,List.drop_zero] at this;rw [this];exact hsm
      clear hsm hk0
      go_wp2_with fail
      refine (HI.out _).mono ?_;rintro e w' ⟨rfl,rfl⟩
      rw [kR.out]
      go_wp2_with fail
      refine (HL.out _).mono ?_;rintro e w' ⟨rfl,rfl⟩
      rw [je.out]
      go_wp2_with fail
      go_ret
      exact ⟨by rw [aW.out,DF.out];rfl,ah.refl _⟩
     ·have je:=hid hsm
      have DF:Hid (eU dU s.data.toList=true):=by
       show _=_
       have:=HD.out;rw [hk0,List.drop_zero] at this;rw [this];exact hsm
      clear hsm hk0
      go_wp2_with fail
      refine (HI.out _).mono ?_;rintro e w' ⟨rfl,rfl⟩
      rw [kR.out]
      go_wp2_with fail
      refine (HL.out _).mono ?_;rintro e w' ⟨rfl,rfl⟩
      rw [je.out]
      go_wp2_with fail
      go_round
      case rel=>exact ⟨k+1,by go_num,by omega,by rw [HR.out,HD.out,eH,kR.out];simp only [if_true];omega,fun _=>DF.out⟩
      case measure=>simp [intOf];omega
    ·have b0:((k:Int) == 0)=false:=by simp;omega
     have HK0:=hid hk0
     clear hk0
     go_wp2_with fail
     refine (HI.out _).mono ?_;rintro e w' ⟨rfl,rfl⟩
     rw [kR.out]
     go_wp2_with fail
     go_round
     case rel=>exact ⟨k+1,by go_num,by omega,by rw [HR.out,HD.out,eH,kR.out];simp only [if_true];omega,fun _=>HG.out (by have:=HK0.out;omega)⟩
     case measure=>simp [intOf];omega
  ·have hkk:k=s.size:=by omega
   have hlt':¬ (k:Int) < s.size:=by omega
   have MQ:Hid (bU bg s.data.toList=s.size):=by
    show _=_
    rw [HR.out,drop_end s k (by omega),hkk];rfl
   have HK:=hid (tH s w)
   by_cases h0:0 < s.size
   ·have h0':(0:Int) < s.size:=by omega
    have DF:=hid (HG.out (by omega))
    by_cases h20:s.size<=20
    ·have SI:(s.size:Int)<=20:=by omega
     cases hkw:JI s.data.toList
     all_goals
      have Y4:=hid hkw
      clear hkw hkk
      go_wp2_with fail
      refine HK.out.mono ?_;rintro e w' ⟨rfl,hq⟩
      rw [Y4.out]
      go_wp2_with fail
      go_ret
      exact ⟨by rw [aW.out,DF.out,MQ.out,Y4.out];simp [h20],hq⟩
    ·have SI:¬ (s.size:Int)<=20:=by omega
     clear hkk
     go_wp2_with fail
     go_ret
     exact ⟨by rw [aW.out];simp [h20],ah.refl _⟩
   ·have h0':¬ (0:Int) < s.size:=by omega
    have HE:Hid (s.data.toList=[]):=by show _=_;rw [<-List.length_eq_zero_iff,bH];omega
    clear hkk
    go_wp2_with fail
    go_ret
    exact ⟨by rw [aW.out,HE.out];rfl,ah.refl _⟩
end Lx
end
section
open Go.RowKit Go.Shelf
def qj {σ:Type} (step:σ->Int->Int->Fo->σ):σ->Fo->σ
 | s,.nil=>s
 | s,.cons k n ps r=>qj step (qj step (step s k n ps) ps) r
structure Yg (g:Nat) (lb:Array Value) (N:Nat) (w0:World) (G:Int->Prop) (S:World->Nat->Prop) {σ:Type} (step:σ->Int->Int->Fo->σ) (J:Nat->σ->World->Prop):Prop where
 quiet:∀ m s W,J m s W->ah w0 W
 alloc:∀ m s W o,J m s W->J m s (W.alloc o)
 low:∀ m s W,J m s W->∀ k,S W k->k < W.heap.size
 back:∀ m s W o k,J m s W->S (W.alloc o) k->S W k
 call:∀ m s k n ps (W:World) (o:Option Addr) (len cap:Nat),m < N->J m s W->qm w0 o len ps->G n ->
  Calls Tryz.prog g (#[kL k n o len cap]++lb) W fun e W'=>e=.returned (.tuple #[])/\J (m+1) (step s k n ps) W'/\Fr (S W) W W'
section
variable {g:Nat} {lb:Array Value} {N:Nat} {w0:World} {G:Int->Prop} {S:World->Nat->Prop} {σ:Type} {step:σ->Int->Int->Fo->σ} {J:Nat->σ->World->Prop}
def Yh (g:Nat) (lb:Array Value) (N:Nat) (w0:World) (G:Int->Prop) {σ:Type} (step:σ->Int->Int->Fo->σ) (J:Nat->σ->World->Prop) (k n:Int) (ps:Fo):Prop :=
 ∀ (m:Nat) (s:σ) (w:World) (o:Option Addr) (len cap:Nat),J m s w->qm w0 o len ps->m+(ps.size+1)<=N->G n->Ir G ps ->
  Calls Tryz.prog 72 #[kL k n o len cap,.func (.func g) #[] lb] w fun e w'=>e=.returned (.tuple #[])/\J (m+(ps.size+1)) (qj step (step s k n ps) ps) w'
theorem UU (eg:∀ args w,(callFunc g args).run Tryz.prog w=.ok (.enter g args) w) (hK:Yg g lb N w0 G S step J) (k n:Int) (ps:Fo):Yh g lb N w0 G step J k n ps:=by
 refine Fo.qE (T:=Yh g lb N w0 G step J) ?_ k n ps
 intro k n ps ih m s w o len cap hJ hs hN hgn GY
 have ZV:=hid GY
 have HS:=hid hs
 have IH:=hid ih
 have HL:=hid hs.1
 have hmx:=hs.2.1
 unfold maxLen at hmx
 have HK:=hid hK
 have HJ:=hid (hK.alloc m s w (.cells #[.int .i64 k,.int .i64 n,.slice o len cap] 24) hJ)
 have Xq:=hid (hK.low m s w hJ)
 have ab3:=hid (fun j=>hK.back m s w (.cells #[.int .i64 k,.int .i64 n,.slice o len cap] 24) j hJ)
 have HC:=hid (hK.call m s k n ps _ o len cap (by omega) HJ.out hs hgn)
 clear hs ih hJ hK hgn GY
 unfold kL at HC ⊢
 go_enter Tryz.func72,Tryz.ntmps72
 go_wp2_with fail
 refine HC.out.mono ?_;rintro e w1 ⟨rfl,hj1,hf1⟩
 have HJ1:=hid hj1
 have c2:w1.cell? ⟨w.heap.size,2,none⟩=some (.slice o len cap):=by
  rw [hf1.bG (by simp) (fun h=>absurd (Xq.out _ (ab3.out _ h)) (Nat.lt_irrefl _)),cell_of_row _ _ _ _ _ (0,0) (heap_alloc_new w _)];rfl
 clear hj1 hf1
 go_wp2_with fail
 clear c2
 go_loopw [12] (fun t wr=>∃ (i m':Nat) (s':σ),t=.int .i64 i/\i<=len/\m'+(ps.drop i).size=m+(ps.size+1)/\qj step s' (ps.drop i)=qj step (step s k n ps) ps/\J m' s' wr) (fun t _=>len - (intOf t).toNat)
 case atStart=>exact ⟨0,m+1,_,rfl,Nat.zero_le _,by rw [Fo.drop_zero];omega,by rw [Fo.drop_zero],HJ1.out⟩
 case round =>
  obtain ⟨i,m',s',rfl,hi,hm,hfo,hj⟩:=hrel
  have HM:=hid hm
  have HFO:=hid hfo
  have HJJ:=hid hj
  clear hm hfo hj
  by_cases hlt:i < len
  ·have hlt':(i:Int) < len:=by omega
   have HQ:=hid (HK.out.quiet _ _ _ HJJ.out)
   obtain ⟨b,off,k1,n1,qs,o1,len1,cap1,rfl,hd,hg,e0,e1,e2,hs1⟩:=(HS.out.stay HQ.out).nth hlt
   obtain ⟨_,_,_,_,_,_,_,_,ho,hd',hg',_,_,f2,hs0⟩:=HS.out.nth hlt
   rw [hg] at hg'
   cases hg'
   cases ho
   have f2':=HQ.out.at f2
   rw [e2] at f2'
   cases f2'
   have xY:=hid (IH.out i k1 n1 qs hg m' s' _ o1 len1 cap1 (HK.out.alloc m' s' wr (.cells #[.int .i64 k1,.int .i64 n1,.slice o1 len1 cap1] 24) HJJ.out) hs0 (by
    have:=HM.out;rw [hd] at this;simp only [Fo.size] at this;omega) (mZ ps i k1 n1 qs ZV.out hg).1 (mZ ps i k1 n1 qs ZV.out hg).2)
   have HM2:Hid (m'+(qs.size+1)+(ps.drop (i+1)).size=m+(ps.size+1)):=by
    have:=HM.out;rw [hd] at this;simp only [Fo.size] at this;show _=_;omega
   have adb:Hid (qj step (qj step (step s' k1 n1 qs) qs) (ps.drop (i+1))=qj step (step s k n ps) ps):=by
    show _=_
    rw [<-HFO.out,hd];rfl
   unfold kL at xY
   clear hd hg hs1 hd' f2 hs0
   go_wp2_with fail
   refine xY.out.mono ?_;rintro e w2 ⟨rfl,hj2⟩
   have HJ2:=hid hj2
   clear hj2
   go_wp2_with fail
   go_roundw
   case rel=>exact ⟨i+1,m'+(qs.size+1),_,by go_num,by omega,HM2.out,adb.out,HJ2.out⟩
   case measure=>simp [intOf];omega
  ·have hlt':¬ (i:Int) < len:=by omega
   have HE:Hid (J (m+(ps.size+1)) (qj step (step s k n ps) ps) wr):=by
    have h1:=HM.out
    have h2:=HFO.out
    rw [Fo.drop_end ps i (by have:=HL.out;omega)] at h1 h2
    simp only [Fo.size,Nat.add_zero,qj] at h1 h2
    show J _ _ _
    rw [<-h1,<-h2];exact HJJ.out
   go_wp2_with fail
   go_end0
   exact ⟨rfl,HE.out⟩
end
end
section
open Go.RowKit Go.Shelf
def lQ (w:World) (c:Nat) (v:Value) (t:TypeId):Prop:=w.heap[c]?=some (.cells #[v] t (0,0))
theorem lQ.alloc {w:World} {c:Nat} {v:Value} {t:TypeId} (h:lQ w c v t) (o:Obj):lQ (w.alloc o) c v t:=by
 unfold lQ at *
 rw [Below.heap_alloc _ _ _ (lt_of_block h)];exact h
theorem lQ.new (w:World) (v:Value) (t:TypeId):lQ (w.alloc (.cells #[v] t)) w.heap.size v t:=heap_alloc_new w _
end
section
open Go.RowKit Go.Maps
def sF (n:Int):Prop:=(Lit.int .i64 n).wf=true
theorem Z7 {n:Int} (h0:-9223372036854775808<=n) (h1:n<=9223372036854775807):sF n:=WalkArith.wf_i64 (by omega)
theorem ab4:Keyed Tryz.prog 3:=int_keyed Tryz.underlying3
theorem zeroE (w:World):(zeroValue 3).run Tryz.prog w=.ok (.int .i64 0) w:=by kernel_rfl
def VD (f:Fo):Prop:=Ir sF f
def MapOf (w:World) (b n:Nat) (p:Int->Int):Prop :=
 ∃ D:DataW Unit,w.ownsMap Tryz.prog 3 (plainElem Tryz.prog 3) b n D/\IsMap D/\∀ v,sF v->D.atKey (.int .i64 v) (.lit (.int .i64 0))=.lit (.int .i64 (p v))
theorem MapOf.made (w:World):MapOf (w.alloc (.map #[] 0)) w.heap.size 0 (fun _=>0) :=
 ⟨.map [],World.ownsMap_made _ _ _ _,⟨_,rfl⟩,fun _ _=>rfl⟩
theorem MapOf.lt {w:World} {b n:Nat} {p:Int->Int} (h:MapOf w b n p):b < w.heap.size:=by
 obtain ⟨D,h,_⟩:=h
 exact h.lt
theorem MapOf.fr {w w':World} {b n:Nat} {p:Int->Int} {S:Nat->Prop} (h:MapOf w b n p) (hf:Fr S w w') (hb:¬ S b):MapOf w' b n p:=by
 have hlt:=h.lt
 obtain ⟨D,⟨es,clock,hh,F,hs,hD⟩,hm,ha⟩:=h
 exact ⟨D,⟨es,clock,(hf.block b hlt hb).trans hh,F,hs,hD⟩,hm,ha⟩
theorem MapOf.stay {w w':World} {b n:Nat} {p:Int->Int} (h:MapOf w b n p) (hq:ah w w'):MapOf w' b n p:=h.fr hq (fun h=>h)
theorem MapOf.ab5 {w:World} {b n:Nat} {p q:Int->Int} (h:MapOf w b n p) (he:∀ v,sF v->p v=q v):MapOf w b n q:=by
 obtain ⟨D,h1,h2,h3⟩:=h
 exact ⟨D,h1,h2,fun v hv=>by rw [h3 v hv,he v hv]⟩
theorem MapOf.look {w:World} {b n:Nat} {p:Int->Int} (h:MapOf w b n p) {v:Int} (hv:sF v):(Instr.lookup 124 (.map (some b)) (.int .i64 v) false).run Tryz.prog w=.ok (.int .i64 (p v)) w:=by
 obtain ⟨D,h1,h2,h3⟩:=h
 obtain ⟨c,hr,hc,_⟩:=h1.lookup_int ab4 Tryz.underlying124 Tryz.underlying3 (zeroE _) (keyOf_int_mk Tryz.underlying3 hv)
 rw [h3 v hv] at hc
 injection hc with hc
 injection hc with _ hc
 rw [hc];exact hr
theorem GR (w : World) {ops : Array Oper} {rest : List Oper} {o : Oper} {a : Act} {Q : Exit -> Act -> World -> Prop}
    (hg:o.guard=none) (m x y:Operand) (hop:o.op=Op.mapUpdate 124 m x y) {b n:Nat} {p:Int->Int} (hm:a.eval m=.map (some b)) (hown:MapOf w b n p) (hn:n < maxLen) (v u:Int) (hv:sF v) (hu:sF u) (hx:a.eval x=.int .i64 v) (hy:a.eval y=.int .i64 u)
    (hK:∀ w',MapOf w' b (n+1) (fun k=>if k=v then u else p k)->Fr (fun k=>k=b) w w'->wpList Tryz.prog ops Q rest (a.put o.dst undef) w'):wpList Tryz.prog ops Q (o::rest) a w:=by
 obtain ⟨D,h1,h2,h3⟩:=hown
 refine wpList_mapUpdate_own w hg m x y 124 hop 3 3 ab4 Tryz.underlying124 _ b n D hm h1 hn _ _ (.int .i64 v) hx hy (keyOf_int_mk Tryz.underlying3 hv) _ [] (plainElem_int Tryz.underlying3 hu) ?_
 intro w' hown' hgr
 refine hK w' ⟨_,hown',h2.put _ _,?_⟩ (Fr.grown hgr (fun k hk=>by cases hk;rfl))
 intro k hk
 by_cases he:k=v
 ·subst he
  rw [atKey_put_same h2 (by trivial)];simp
 ·rw [atKey_put_other (by intro h;injection h with _ h;exact he h),h3 k hk];simp [he]
end
section
open Go.RowKit Go.Maps
theorem jH:Elem Tryz.prog 35 3 (.int .i64 0) 1 8 :=
 ⟨Tryz.underlying35,by kernel_rfl,by decide,by decide⟩
def dw (l:List Int) (k n:Int) (_:Fo):List Int:=if k == 1 && !inB l n then l++[n] else l
theorem zx:∀ (f:Fo) (l:List Int),qj dw l f=Fo.vars l f
 | .nil,l=>rfl
 | .cons k n ps r,l=>by
  show qj dw (qj dw (dw l k n ps) ps) r=_
  rw [zx ps,zx r];rfl
def xZ (l:List Int) (v:Int):Int:=if inB l v then 1 else 0
def ints (l:List Int):List Value:=l.map (Value.int .i64)
def Jt (w0:World) (cs co bm:Nat) (m:Nat) (l:List Int) (W:World):Prop :=
 ∃ vo,lQ W cs (.map (some bm)) 124/\lQ W co vo 35/\MapOf W bm m (xZ l)/\W.ownsRow 0 3 1 vo l.length (ints l)/\(∀ g,vo.ownBlock=some g->w0.heap.size<=g/\g≠cs/\g≠co/\g≠bm)/\l.length<=m/\ah w0 W
def Yi (co bm:Nat) (W:World) (k:Nat):Prop:=k=co∨k=bm∨∃ vo,lQ W co vo 35/\vo.ownBlock=some k
theorem lQ.inj {w:World} {c:Nat} {v u:Value} {t t':TypeId} (h:lQ w c v t) (h':lQ w c u t'):v=u:=by
 unfold lQ at *
 rw [h] at h'
 injection h' with h'
 injection h' with h1 h2 h3
 have:=congrArg (fun a:Array Value=>a[0]?) h1
 simpa using this
theorem lQ.back {w:World} {c:Nat} {v u:Value} {t t':TypeId} {o:Obj} (h:lQ w c v t) (h':lQ (w.alloc o) c u t'):lQ w c u t':=by
 have:=lt_of_block h
 unfold lQ at *
 rw [Below.heap_alloc _ _ _ this] at h';exact h'
theorem lQ.fr {w w':World} {c:Nat} {v:Value} {t:TypeId} {S:Nat->Prop} (h:lQ w c v t) (hf:Fr S w w') (hS:¬ S c):lQ w' c v t:=by
 have:=lt_of_block h
 unfold lQ at *
 rw [hf.block c this hS];exact h
theorem UW (l:List Int) (n v:Int):inB (l++[n]) v=(inB l v || v == n):=by
 unfold inB;rw [Bool.eq_iff_iff];simp
theorem Qh (w0 : World) (cs co bm : Nat) (hcs : w0.heap.size <= cs) (hco : w0.heap.size <= co) (hbm : w0.heap.size <= bm) (h12 : cs ≠ co) (h13 : cs ≠ bm) (h23 : co ≠ bm) :
    Yg 73 #[.pointer (some ⟨cs,0,none⟩),.pointer (some ⟨co,0,none⟩)] 10000000 w0 sF (Yi co bm) dw (Jt w0 cs co bm) where
 quiet:=fun m l W h=>by obtain ⟨vo,_,_,_,_,_,_,h⟩:=h;exact h
 alloc:=fun m l W o h=>by
  obtain ⟨vo,h1,h2,h3,h4,h5,h6,h7⟩:=h
  exact ⟨vo,h1.alloc o,h2.alloc o,h3.stay (ah.alloc _ _),h4.alloc o,h5,h6,h7.trans (ah.alloc _ _)⟩
 low:=fun m l W h k hk=>by
  obtain ⟨vo,h1,h2,h3,h4,h5,h6,h7⟩:=h
  rcases hk with rfl | rfl | ⟨vo',hb,hk⟩
  ·exact lt_of_block h2
  ·exact h3.lt
  ·have:=h2.inj hb
   subst this
   exact (h4.lt k hk).2
 back:=fun m l W o k h hk=>by
  obtain ⟨vo,h1,h2,h3,h4,h5,h6,h7⟩:=h
  rcases hk with rfl | rfl | ⟨vo',hb,hk⟩
  ·exact .inl rfl
  ·exact .inr (.inl rfl)
  ·exact .inr (.inr ⟨vo',h2.back hb,hk⟩)
 call:=by
  intro m l k n ps W o len cap hm hJ hs hgn
  have HJ:=hid hJ
  obtain ⟨vo,h1,h2,h3,h4,h5,h6,h7⟩:=hJ
  have HW:=hid hgn
  have H1:=hid h1
  have H2:=hid h2
  have H3:=hid (h3.stay (ah.alloc W (.cells #[.int .i64 k,.int .i64 n,.slice o len cap] 24)))
  have H4:=hid h4
  have H5:=hid h5
  have H6:=hid h6
  have H7:=hid h7
  have hb1:=h1.alloc (.cells #[.int .i64 k,.int .i64 n,.slice o len cap] 24)
  have hb2:=h2.alloc (.cells #[.int .i64 k,.int .i64 n,.slice o len cap] 24)
  have c1:=cell_of_one hb1
  have c2:=cell_of_one hb2
  have z2:=free_of_one hb2
  have hcl:=lt_of_block h1
  have hol:=lt_of_block h2
  have Vl:Hid (ah W (W.alloc (.cells #[.int .i64 k,.int .i64 n,.slice o len cap] 24))):=ah.alloc _ _
  have QJ:Hid (dw l k n ps=l->∀ W',ah W W'->Jt w0 cs co bm (m+1) (dw l k n ps) W'/\Fr (Yi co bm W) W W'):=by
   intro e W' hq
   rw [e]
   refine ⟨⟨vo,h1.fr hq (fun h=>h),h2.fr hq (fun h=>h),?_,aZ h4 hq (fun _ _ h=>h),h5,by omega,h7.trans hq⟩,hq.mono (fun _ _ h=>h.elim)⟩
   obtain ⟨D,hD,hM,hA⟩:=h3.stay hq
   exact ⟨D,hD.mono (by omega),hM,hA⟩
  clear h1 h2 h3 h4 h5 h6 h7 hgn hs hb1 hb2
  have hlk:=H3.out.look HW.out
  unfold kL
  cases hk:(k == 1)
  ·go_enter Tryz.func73,Tryz.ntmps73
   go_wp2_with fail
   go_end0
   exact ⟨rfl,QJ.out (by unfold dw;rw [hk];rfl) _ Vl.out⟩
  ·cases hin:inB l n
   ·have hsn:(xZ l n == 0)=true:=by unfold xZ;rw [hin];rfl
    have hsz:xZ l n=0:=by unfold xZ;rw [hin];rfl
    have HV:Hid (dw l k n ps=l++[n]):=by show _=_;unfold dw;rw [hk,hin];rfl
    clear hin
    rw [hsz] at hlk
    have hbm:=H3.out.lt
    have adA:bm < W.heap.size:=by
     obtain ⟨vo',_,_,h3,_⟩:=HJ.out
     exact h3.lt
    have hbx:=heap_alloc_new W (.cells #[.int .i64 k,.int .i64 n,.slice o len cap] 24)
    have rY:=hid hbx
    clear hbx hsz hsn
    go_enter Tryz.func73,Tryz.ntmps73
    go_wp2_with (at_mapUpdate;go_must (refine GR _ rfl _ _ _ rfl rfl H3.out ?hn n 1 HW.out (Z7 (by omega) (by omega)) rfl rfl ?_))
    case hn=>unfold maxLen;omega
    intro w1 hm1 hf1
    have B1:=hid (lQ.fr (H1.out.alloc _) hf1 (fun h=>h13 h))
    have B2:=hid (lQ.fr (H2.out.alloc _) hf1 (fun h=>h23 h))
    have HB1:Hid (w1.heap[W.heap.size]?=some (.cells #[.int .i64 k,.int .i64 n,.slice o len cap] 24 (0,0))):=by
     show _=_
     rw [hf1.block W.heap.size (by simp) (fun h=>by have h':W.heap.size=bm:=h;omega)];exact rY.out
    have HM1:=hid hm1
    have xU:=hid hf1
    have H41:Hid (w1.ownsRow 0 3 1 vo l.length (ints l)):=aZ (H4.out.alloc _) hf1 (fun g hg h=>(H5.out g hg).2.2.2 h)
    obtain ⟨g0,g1,g2,_,_,_⟩:=aF HB1.out
    have d2:=cell_of_one B2.out
    clear c1 c2 z2 hlk hm1 hf1
    go_wp2_with (at_builtin;go_must (refine aP w1 rfl (.tmp 19) (.tmp 22) 35 rfl 3 _ 1 8 jH vo l.length (ints l) rfl H41.out #[.int .i64 n] rfl rfl ?c1 ?c2 ?c3 ?_))
    case c1=>simp [Value.oneCell']
    case c2=>have:=H6.out;unfold maxLen;omega
    case c3=>have:=H6.out;omega
    intro gg c' w2 ho hf hgg
    have hz1:W.heap.size+1<=w1.heap.size:=by have:=xU.out.size;simpa using this
    have C1:=hid (lQ.fr B1.out hf (fun h=>(H5.out _ h).2.1 rfl))
    have C2:=hid (lQ.fr B2.out hf (fun h=>(H5.out _ h).2.2.1 rfl))
    have CM:=hid (HM1.out.fr hf (fun h=>(H5.out _ h).2.2.2 rfl))
    have e2:=cell_of_one C2.out
    have y2:=free_of_one C2.out
    have HOW:=hid ho
    have Yq:=hid hf
    have HGG:Hid (w0.heap.size<=gg/\gg≠cs/\gg≠co/\gg≠bm):=by
     rcases hgg with h | h
     ·exact H5.out gg h
     ·have:=H7.out.size
      exact ⟨by omega,by omega,by omega,by omega⟩
    clear g0 g1 g2 d2 ho hf hgg
    go_wp2_with fail
    go_end0
    have hset:=Fr.setCell (fun j=>j=co) w2 ⟨co,0,none⟩ (.slice (some ⟨gg,0,none⟩) (l.length+1) c') rfl
    refine ⟨rfl,?_,?_⟩
    ·rw [HV.out]
     refine ⟨.slice (some ⟨gg,0,none⟩) (l.length+1) c',C1.out.fr hset (fun h=>h12 h),one_setCell C2.out,(CM.out.fr hset (fun h=>h23 h.symm)).ab5 ?_,?_,?_,by simp;have:=H6.out;omega,?_⟩
     ·intro v hv
      unfold xZ
      rw [UW]
      by_cases he:v=n
      ·simp [he]
      ·simp [he]
     ·have hrow := ownsRow_setCell_other HOW.out ⟨co, 0, none⟩ (.slice (some ⟨gg, 0, none⟩) (l.length + 1) c') (by
        intro h;simp [Value.ownBlock] at h;exact HGG.out.2.2.1 h)
      simpa [ints] using hrow
     ·intro g hg
      simp [Value.ownBlock] at hg
      subst hg
      exact HGG.out
     ·refine Fr.trans' (Fr.trans' (Fr.trans' (H7.out.trans Vl.out) xU.out (fun i hi h=>?_)) Yq.out (fun i hi h=>?_)) hset (fun i hi h=>?_)
      ·have h':i=bm:=h;omega
      ·have:=(H5.out i h).1;omega
      ·have h':i=co:=h;omega
    ·refine Fr.trans' (Fr.trans' (Fr.trans' (Vl.out.mono (fun _ _ h=>h.elim)) xU.out (fun i hi h=>.inr (.inl h))) Yq.out (fun i hi h=>.inr (.inr ⟨vo,H2.out,h⟩))) hset (fun i hi h=>.inl h)
   ·have hsn:(xZ l n == 0)=false:=by unfold xZ;rw [hin];rfl
    go_enter Tryz.func73,Tryz.ntmps73
    go_wp2_with fail
    go_end0
    exact ⟨rfl,QJ.out (by unfold dw;rw [hk,hin];rfl) _ Vl.out⟩
end
section
open Go.RowKit Go.Maps
theorem Xr:∀ args w,(callFunc 73 args).run Tryz.prog w=.ok (.enter 73 args) w:=enters_of Tryz.func73 (by kernel_rfl) rfl
def FM (B:Nat) (w:World) (vo:Value) (l:List Int):Prop:=w.ownsRow 0 3 1 vo l.length (ints l)/\∀ g,vo.ownBlock=some g->B<=g
theorem FB (k n:Int) (ps r:Fo) (l:List Int):Fo.vars l (.cons k n ps r)=Fo.vars (Fo.vars (dw l k n ps) ps) r:=rfl
theorem AX (f : Fo) (w : World) (o : Option Addr) (len cap : Nat) (hs : qm w o len f) (hw : VD f) (hsz : f.size <= 1000000) :
    Calls Tryz.prog 45 #[.slice o len cap] w fun e w'=>∃ vo,e=.returned vo/\FM w.heap.size w' vo (Fo.vars [] f)/\ah w w':=by
 have HS:=hid hs
 have HL:=hid hs.1
 have HWF:=hid hw
 have hmx:=hs.2.1
 unfold maxLen at hmx
 have hmm:=@run_makeMap Tryz.prog
 clear hs hw
 go_enter Tryz.func45,Tryz.ntmps45
 go_wp2_with fail
 obtain ⟨W0,hW0⟩:∃ W0,W0=((w.alloc (.map #[] 0)).alloc (.cells #[.map (some w.heap.size)] 124)).alloc (.cells #[.slice none 0 0] 35):=⟨_,rfl⟩
 change Code.wp _ _ _ _ (((w.alloc (.map #[] 0)).alloc (.cells #[.map (some w.heap.size)] 124)).alloc (.cells #[.slice none 0 0] 35))
 have HJ0:Hid (Jt w (w.heap.size+1) (w.heap.size+1+1) w.heap.size 0 [] W0):=by
  rw [hW0]
  refine ⟨.slice none 0 0,?_,?_,?_,World.ownsRow_nil _ _ _ _,(fun g hg=>by cases hg),Nat.le_refl _,(((ah.alloc _ _).trans (ah.alloc _ _)).trans (ah.alloc _ _))⟩
  ·refine lQ.alloc ?_ _
   have:=lQ.new (w.alloc (.map #[] 0)) (.map (some w.heap.size)) 124
   rw [show (w.alloc (.map #[] 0)).heap.size=w.heap.size+1 from by simp] at this
   exact this
  ·have:=lQ.new ((w.alloc (.map #[] 0)).alloc (.cells #[.map (some w.heap.size)] 124)) (.slice none 0 0) 35
   rw [show ((w.alloc (.map #[] 0)).alloc (.cells #[.map (some w.heap.size)] 124)).heap.size=w.heap.size+1+1 from by simp] at this
   exact this
  ·exact ((MapOf.made w).stay ((ah.alloc _ _).trans (ah.alloc _ _))).ab5 (fun v _=>by simp [xZ,inB])
 have HE:=hid (UU Xr (Qh w (w.heap.size+1) (w.heap.size+1+1) w.heap.size (by omega) (by omega) (by omega) (by omega) (by omega) (by omega)))
 rw [<-hW0]
 clear hW0
 generalize hB:w.heap.size=B at *
 go_loopw [10] (fun t wr=>∃ (i m:Nat) (l:List Int),t=.int .i64 i/\i<=len/\m+(f.drop i).size=f.size/\Fo.vars l (f.drop i)=Fo.vars [] f/\Jt w (B+1) (B+1+1) B m l wr) (fun t _=>len - (intOf t).toNat)
 case atStart=>exact ⟨0,0,[],rfl,Nat.zero_le _,by rw [Fo.drop_zero];omega,by rw [Fo.drop_zero],HJ0.out⟩
 case round =>
  obtain ⟨i,m,l,rfl,hi,hm,hv,hj⟩:=hrel
  have HM:=hid hm
  have HV:=hid hv
  have HJ:=hid hj
  have hqq:ah w wr:=by obtain ⟨_,_,_,_,_,_,_,h⟩:=hj;exact h
  have HQ:=hid hqq
  clear hm hv hj hqq
  by_cases hlt:i < len
  ·have hlt':(i:Int) < len:=by omega
   obtain ⟨b,off,k1,n1,qs,o1,len1,cap1,rfl,hd,hg,e0,e1,e2,hs1⟩:=(HS.out.stay HQ.out).nth hlt
   obtain ⟨_,_,_,_,_,_,_,_,ho,hd',hg',_,_,f2,hs0⟩:=HS.out.nth hlt
   rw [hg] at hg'
   cases hg'
   cases ho
   have f2':=HQ.out.at f2
   rw [e2] at f2'
   cases f2'
   have hjb:Jt w (B+1) (B+1+1) B m l (wr.alloc (.cells #[.int .i64 k1,.int .i64 n1,.slice o1 len1 cap1] 24)):=by
    obtain ⟨vo,h1,h2,h3,h4,h5,h6,h7⟩:=HJ.out
    exact ⟨vo,h1.alloc _,h2.alloc _,h3.stay (ah.alloc _ _),h4.alloc _,h5,h6,h7.trans (ah.alloc _ _)⟩
   have hgn:=mZ f i k1 n1 qs HWF.out hg
   have HC:=hid (HE.out k1 n1 qs m l _ o1 len1 cap1 hjb hs0 (by
    have:=HM.out;rw [hd] at this;simp only [Fo.size] at this;omega) hgn.1 hgn.2)
   have HM2:Hid (m+(qs.size+1)+(f.drop (i+1)).size=f.size):=by
    have:=HM.out;rw [hd] at this;simp only [Fo.size] at this;show _=_;omega
   have Yn:Hid (Fo.vars (qj dw (dw l k1 n1 qs) qs) (f.drop (i+1))=Fo.vars [] f):=by
    show _=_
    rw [<-HV.out,hd,zx,FB]
   unfold kL at HC
   clear hd hg hs1 hd' f2 hs0 hjb hgn
   go_wp2_with fail
   refine HC.out.mono ?_;rintro e w2 ⟨rfl,hj2⟩
   have HJ2:=hid hj2
   clear hj2
   go_wp2_with fail
   go_roundw
   case rel=>exact ⟨i+1,_,_,by go_num,by omega,HM2.out,Yn.out,HJ2.out⟩
   case measure=>simp [intOf];omega
  ·have hlt':¬ (i:Int) < len:=by omega
   have hfin:Fo.vars [] f=l:=by
    have:=HV.out
    rw [Fo.drop_end f i (by have:=HL.out;omega)] at this
    exact this.symm
   have bJ:=hid hfin
   obtain ⟨vo,h1,h2,h3,h4,h5,h6,h7⟩:=HJ.out
   have c2:=cell_of_one h2
   have H4:=hid h4
   have H5:=hid h5
   have H7:=hid h7
   clear h1 h2 h3 h4 h5 h6 h7 hfin
   go_wp2_with fail
   go_ret
   refine ⟨vo,rfl,?_,H7.out⟩
   rw [bJ.out]
   exact ⟨H4.out,fun g hg=>by have:=(H5.out g hg).1;omega⟩
end
section
open Go.RowKit Go.Maps
theorem sK:∀ (f:Fo) (l:List Int),(Fo.vars l f).length<=l.length+f.size
 | .nil,l=>by simp [Fo.vars,Fo.size]
 | .cons k n ps r,l=>by
  rw [FB]
  have h1:=sK r (Fo.vars (dw l k n ps) ps)
  have h2:=sK ps (dw l k n ps)
  have h3:(dw l k n ps).length<=l.length+1:=by unfold dw;split<;>simp
  simp only [Fo.size];omega
theorem FM.at {B:Nat} {w:World} {vo:Value} {l:List Int} (h:FM B w vo l):∃ a c,vo=.slice a l.length c/\l.length<=c/\(∀ g,(Value.slice a l.length c).ownBlock=some g->B<=g)/\w.ownsRow 0 3 1 (.slice a l.length c) l.length (ints l):=by
 obtain ⟨h1,h2⟩:=h
 have h1':=h1
 rcases h1.2 with ⟨rfl,h0⟩ | ⟨g,cap,cur,rfl,_,_,hc,_⟩
 ·exact ⟨none,0,by rw [h0],by omega,by rw [h0];exact h2,by rw [h0];rw [h0] at h1';exact h1'⟩
 ·exact ⟨some ⟨g,0,none⟩,cap,rfl,by omega,h2,h1'⟩
theorem VF {w:World} {a:Option Addr} {n c:Nat} {l:List Int} (h:w.ownsRow 0 3 1 (.slice a n c) l.length (ints l)) {i:Nat} {x:Int} (hx:l[i]?=some x):∃ g,a=some ⟨g,0,none⟩/\w.cell? ⟨g,i,none⟩=some (.int .i64 x):=by
 rcases h.2 with ⟨he,h0⟩ | ⟨g,cap,cur,he,_⟩
 ·rw [List.length_eq_zero_iff.1 h0] at hx;simp at hx
 ·injection he with h1 h2 h3
  subst h1
  have:=h.cells (g:=g) rfl i (.int .i64 x) (by unfold ints;rw [List.getElem?_map,hx];rfl)
  exact ⟨g,rfl,by simpa [Addr.add_lit] using this⟩
end
section
open Go.RowKit
def fC (k:Int):Bool:=k == 1 || k == 4 || k == 6 || k == 7
def oz (k:Int):Int:=if k == 1 then 9223372036854775807 else if k == 2 then 999999999 else if k == 3 then 1 else 0
def iI (k:Int):Int:=if k == 4 || k == 10 then 1 else if k == 5 || k == 6 || k == 7 || k == 9 then 2 else if k == 8 then 3 else 0
def mQ (k:Int):Int:=if k == 4 || k == 10 then 1 else if k == 5 || k == 6 || k == 7 then 2 else if k == 8 then 3 else if k == 9 then 8 else 0
def uw (tk tn:Int) (tp:Fo):Bool:=iH tk tn tp && (Fo.vars [] (.cons tk tn tp .nil)).isEmpty
def fF (h:Nd):Bool:=if fC h.k then Lx.nameB h.nm.data.toList else h.nm.toList.isEmpty
def dW (h:Nd):Bool:=if h.k == 10 then uw h.tk h.tn h.tp else gJ h.tk h.tn h.tp 0 0 .nil
def aI (h:Nd) (m:Nat):Bool :=
 decide (1<=h.k) && decide (h.k<=10) && fF h && dW h && decide (0<=h.n) && decide (h.n<=oz h.k) && decide (iI h.k<=m) && decide ((m:Int)<=mQ h.k)
def fQ:Array Value:=#[
 .bool false,.bool false,.int .i64 0,.int .i64 0,.int .i64 0,
 .bool true,.bool false,.int .i64 0,.int .i64 0,.int .i64 9223372036854775807,
 .bool false,.bool false,.int .i64 0,.int .i64 0,.int .i64 999999999,
 .bool false,.bool false,.int .i64 0,.int .i64 0,.int .i64 1,
 .bool true,.bool false,.int .i64 1,.int .i64 1,.int .i64 0,
 .bool false,.bool false,.int .i64 2,.int .i64 2,.int .i64 0,
 .bool true,.bool false,.int .i64 2,.int .i64 2,.int .i64 0,
 .bool true,.bool false,.int .i64 2,.int .i64 2,.int .i64 0,
 .bool false,.bool false,.int .i64 3,.int .i64 3,.int .i64 0,
 .bool false,.bool false,.int .i64 2,.int .i64 8,.int .i64 0,
 .bool false,.bool true,.int .i64 1,.int .i64 1,.int .i64 0]
theorem Ju {P:Program} {fn:Func} {tmps:Array Value} {t:TypeId} {a:Tmp} {ad:Addr} {v:Value} {w:World} (hr:fn.results=#[.cell a t]) (hx:tmps.getD a undef=.pointer (some ad)) (hl:(loadVar t ad).run P w=.ok v w):(results fn tmps).run P w=.ok v w:=by
 have hx2:tmps[a]?.getD undef=.pointer (some ad):=by simpa using hx
 simp [results,hr,asAddr,hx2,hl]
theorem bK {P : Program} {ops : Array Oper} {rest : List Oper} {o : Oper} {a : Act} {w : World} {Q : Exit -> Act -> World -> Prop} (hg : o.guard = none) (t : TypeId) (parts : Array (Nat × Operand)) (ho : o.op = .build t parts)
    (cs:Array Value) (hc:P.built t (parts.map fun (i,x)=>(i,a.eval x)).toList=some cs)
    (h:wpList P ops Q rest (a.put o.dst (.agg cs)) w):wpList P ops Q (o::rest) a w :=
 wpList_build hg t parts ho (by rw [hc];rfl) (by rw [hc];exact h)
def zeroCells:Array Value:=#[
 .bool false,.bool false,.int .i64 0,.int .i64 0,.int .i64 0,.bool false,.bool false,.int .i64 0,.int .i64 0,.int .i64 0,
 .bool false,.bool false,.int .i64 0,.int .i64 0,.int .i64 0,.bool false,.bool false,.int .i64 0,.int .i64 0,.int .i64 0,
 .bool false,.bool false,.int .i64 0,.int .i64 0,.int .i64 0,.bool false,.bool false,.int .i64 0,.int .i64 0,.int .i64 0,
 .bool false,.bool false,.int .i64 0,.int .i64 0,.int .i64 0,.bool false,.bool false,.int .i64 0,.int .i64 0,.int .i64 0,
 .bool false,.bool false,.int .i64 0,.int .i64 0,.int .i64 0,.bool false,.bool false,.int .i64 0,.int .i64 0,.int .i64 0,
 .bool false,.bool false,.int .i64 0,.int .i64 0,.int .i64 0]
theorem LU (w:World):Calls Tryz.prog 85 #[] w fun e w'=>e=.returned (.agg fQ)/\ah w w':=by
 obtain ⟨W0,hW0⟩:∃ W0,W0=w.alloc (.cells zeroCells 137):=⟨_,rfl⟩
 obtain ⟨B,hB⟩:∃ B,B=w.heap.size:=⟨_,rfl⟩
 have hb0:W0.heap[B]?=some (.cells zeroCells 137 (0,0)):=by rw [hW0,hB];exact heap_alloc_new _ _
 have aK:Hid (ah w W0):=by rw [hW0];exact ah.alloc _ _
 have HB0:=hid hb0
 have bM:=hid hB
 have hi:(Tryz.prog.info? 137).map (·.size)=some 55:=by kernel_rfl
 have HI:=hid hi
 clear hi hb0
 go_enter Tryz.func85,Tryz.ntmps85
 go_upto_region 1 with fail
 change Code.wp _ _ _ _ (w.alloc (.cells zeroCells 137))
 rw [<-hW0,<-hB]
 clear hW0 hB
 refine wp_region_lit ?_
 with_reducible refine bK (by rfl) 136 _ (by rfl) #[.bool true,.bool false,.int .i64 0,.int .i64 0,.int .i64 9223372036854775807] (by kernel_rfl) ?_
 go_frame
 with_reducible refine bK (by rfl) 136 _ (by rfl) #[.bool false,.bool false,.int .i64 0,.int .i64 0,.int .i64 999999999] (by kernel_rfl) ?_
 go_frame
 with_reducible refine bK (by rfl) 136 _ (by rfl) #[.bool false,.bool false,.int .i64 0,.int .i64 0,.int .i64 1] (by kernel_rfl) ?_
 go_frame
 with_reducible refine bK (by rfl) 136 _ (by rfl) #[.bool true,.bool false,.int .i64 1,.int .i64 1,.int .i64 0] (by kernel_rfl) ?_
 go_frame
 with_reducible refine bK (by rfl) 136 _ (by rfl) #[.bool false,.bool false,.int .i64 2,.int .i64 2,.int .i64 0] (by kernel_rfl) ?_
 go_frame
 with_reducible refine bK (by rfl) 136 _ (by rfl) #[.bool true,.bool false,.int .i64 2,.int .i64 2,.int .i64 0] (by kernel_rfl) ?_
 go_frame
 with_reducible refine bK (by rfl) 136 _ (by rfl) #[.bool true,.bool false,.int .i64 2,.int .i64 2,.int .i64 0] (by kernel_rfl) ?_
 go_frame
 with_reducible refine bK (by rfl) 136 _ (by rfl) #[.bool false,.bool false,.int .i64 3,.int .i64 3,.int .i64 0] (by kernel_rfl) ?_
 go_frame
 with_reducible refine bK (by rfl) 136 _ (by rfl) #[.bool false,.bool false,.int .i64 2,.int .i64 8,.int .i64 0] (by kernel_rfl) ?_
 go_frame
 with_reducible refine bK (by rfl) 136 _ (by rfl) #[.bool false,.bool true,.int .i64 1,.int .i64 1,.int .i64 0] (by kernel_rfl) ?_
 go_frame
 with_reducible refine bK (by rfl) 137 _ (by rfl) fQ (by kernel_rfl) ?_
 go_frame
 with_reducible refine wpList_store_row ?e1 137 (.tmp 0) (.tmp 11) ?e2 B fQ ?e3 ?e4 137 zeroCells HB0.out ?e5 ?e6 ?e7 ?_
 case e1=>rfl
 case e2=>rfl
 case e3=>rfl
 case e4=>rfl
 case e5=>exact HI.out
 case e6=>rfl
 case e7=>simp [fQ,Value.oneCell']
 simp only [Act.put]
 have hb1:=setRow_heap W0 B zeroCells fQ 137 (0,0) HB0.out
 have hq1:ah w (W0.setRow B fQ):=Fr.trans' aK.out (S:=fun _=>False) (T:=fun k=>k=B) ⟨rfl,rfl,rfl,by simp,fun k _ hk=>setRow_other W0 B k fQ hk⟩ (fun k hk e=>by have:=bM.out;omega)
 generalize W0.setRow B fQ=W1 at *
 have HB1:=hid hb1
 have bI:=hid hq1
 clear hb1 hq1
 go_wp2_with fail
 have hb1:=HB1.out
 have hl:=run_loadVar_mid (P:=Tryz.prog) W1 B 0 137 fQ.toList _ (fun j v hv=>by rw [cell_of_row _ _ _ _ _ (0,0) hb1,Nat.zero_add];simpa using hv) Tryz.underlying137 (by rfl) HI.out
 refine bodyPost_ret (Ju (a:=0) (t:=137) (ad:=⟨B,0,none⟩) Tryz.results85 (by rfl) hl) (by rfl) ?_
 exact ⟨rfl,bI.out⟩
theorem UY (k:Int) (h1:1<=k) (h2:k<=10) (W:World):Sem.run Tryz.prog (Instr.index 137 (.agg fQ) (.int .i64 k)) W=.ok (.agg #[.bool (fC k),.bool (k == 10),.int .i64 (iI k),.int .i64 (mQ k),.int .i64 (oz k)]) W:=by
 have hk:k=1∨k=2∨k=3∨k=4∨k=5∨k=6∨k=7∨k=8∨k=9∨k=10:=by omega
 rcases hk with rfl | rfl | rfl | rfl | rfl | rfl | rfl | rfl | rfl | rfl
 all_goals rfl
theorem cells5 {w : World} {b : Nat} {a0 a1 a2 a3 a4 : Value} {t : TypeId} (h : w.heap[b]? = some (.cells #[a0, a1, a2, a3, a4] t (0, 0))) :
    w.cell? ⟨b,0,none⟩=some a0/\w.cell? ⟨b,1,none⟩=some a1/\w.cell? ⟨b,2,none⟩=some a2/\w.cell? ⟨b,3,none⟩=some a3/\w.cell? ⟨b,4,none⟩=some a4:=by
 refine ⟨?_,?_,?_,?_,?_⟩<;>(rw [cell_of_row _ _ _ _ _ (0,0) h];rfl)
theorem Xt (w:World) (b:Nat) (a0 a1 a2 a3 a4:Value):Fr (fun j=>j=b) w (((((w.setCell ⟨b,0,none⟩ a0).setCell ⟨b,1,none⟩ a1).setCell ⟨b,2,none⟩ a2).setCell ⟨b,3,none⟩ a3).setCell ⟨b,4,none⟩ a4) :=
 ((((Fr.setCell (fun j=>j=b) w ⟨b,0,none⟩ a0 rfl).trans (Fr.setCell (fun j=>j=b) _ ⟨b,1,none⟩ a1 rfl)).trans (Fr.setCell (fun j=>j=b) _ ⟨b,2,none⟩ a2 rfl)).trans (Fr.setCell (fun j=>j=b) _ ⟨b,3,none⟩ a3 rfl)).trans (Fr.setCell (fun j=>j=b) _ ⟨b,4,none⟩ a4 rfl)
theorem LV {w : World} {b : Nat} {a0 a1 a2 a3 a4 b0 b1 b2 b3 b4 : Value} {t : TypeId} (h : w.heap[b]? = some (.cells #[b0, b1, b2, b3, b4] t (0, 0))) :
    (((((w.setCell ⟨b,0,none⟩ a0).setCell ⟨b,1,none⟩ a1).setCell ⟨b,2,none⟩ a2).setCell ⟨b,3,none⟩ a3).setCell ⟨b,4,none⟩ a4).heap[b]?=some (.cells #[a0,a1,a2,a3,a4] t (0,0)):=by
 have s0:(w.setCell ⟨b,0,none⟩ a0).heap[b]?=some (.cells #[a0,b1,b2,b3,b4] t (0,0)):=aB h
 have s1:((w.setCell ⟨b,0,none⟩ a0).setCell ⟨b,1,none⟩ a1).heap[b]?=some (.cells #[a0,a1,b2,b3,b4] t (0,0)):=aB s0
 have s2:(((w.setCell ⟨b,0,none⟩ a0).setCell ⟨b,1,none⟩ a1).setCell ⟨b,2,none⟩ a2).heap[b]?=some (.cells #[a0,a1,a2,b3,b4] t (0,0)):=aB s1
 have s3:((((w.setCell ⟨b,0,none⟩ a0).setCell ⟨b,1,none⟩ a1).setCell ⟨b,2,none⟩ a2).setCell ⟨b,3,none⟩ a3).heap[b]?=some (.cells #[a0,a1,a2,a3,b4] t (0,0)):=aB s2
 exact aB s3
theorem QT (k : Int) (hk1 : 1 <= k) (hk2 : k <= 10) (nm : ByteArray) (n tk tn : Int) (uJ : Fo) (fr en : Int) (w : World) (o1 : Option Addr) (l1 c1 : Nat) (o2 : Option Addr) (l2 c2 : Nat)
    (hs:qm w o1 l1 uJ) (hnm:nm.size<=100000) (hz:uJ.size<=100000) (hwn:sF tn) (hwf:VD uJ) (_:l2<=9223372036854775807) (ht:Lx.jO w) :
    Calls Tryz.prog 51 #[.agg #[.int .i64 k,.string nm,.int .i64 n,.int .i64 tk,.int .i64 tn,.slice o1 l1 c1,.slice o2 l2 c2,.int .i64 fr,.int .i64 en]] w fun e w'=>e=.returned (.bool (aI ⟨k,nm,n,tk,tn,uJ,fr,en⟩ l2))/\ah w w':=by
 have DC:=hid (fun (W:World)=>LU W)
 have Yj:=hid (fun (W:World) (h:ah w W)=>Lx.name_any nm hnm W (ht.stay h))
 have zO:=hid (fun (W:World) (h:ah w W)=>UQ tk tn uJ 0 0 .nil W o1 l1 c1 none 0 0 (hs.stay h) (qm.nil _ _))
 have Dv:=hid (fun (W:World) (h:ah w W)=>P9 tk tn uJ W o1 l1 c1 (hs.stay h))
 have NS:Hid (∀ W' b,ah w W'->W'.heap[b]?=some (.cells #[.int .i64 tk,.int .i64 tn,.slice o1 l1 c1] 24 (0,0))->Calls Tryz.prog 45 #[.slice (some ⟨b,0,none⟩) 1 1] W' fun e w'=>∃ a c,e=.returned (.slice a (Fo.vars [] (.cons tk tn uJ .nil)).length c)/\ah W' w'):=by
  intro W' b h hb
  refine (AX (.cons tk tn uJ .nil) W' (some ⟨b,0,none⟩) 1 1 (ac7 hb (hs.stay h)) ⟨hwn,hwf,trivial⟩ (by simp only [Fo.size];omega)).mono ?_
  rintro e w' ⟨vo,rfl,hr,hq⟩
  obtain ⟨a,c,rfl,_⟩:=hr.at
  exact ⟨a,c,rfl,hq⟩
 have hix:=UY k hk1 hk2
 obtain ⟨res,hres⟩:∃ res,res=aI ⟨k,nm,n,tk,tn,uJ,fr,en⟩ l2:=⟨_,rfl⟩
 rw [<-hres]
 have UZ:Hid (res=((if fC k then Lx.nameB nm.data.toList else nm.toList.isEmpty) && (if (k == 10) then (iH tk tn uJ && (Fo.vars [] (.cons tk tn uJ .nil)).isEmpty) else gJ tk tn uJ 0 0 .nil) && decide (0<=n) && decide (n<=oz k) && decide (iI k<=(l2:Int)) && decide ((l2:Int)<=mQ k))):=by
  show _=_
  rw [hres];unfold aI fF dW uw;simp only [hk1,hk2,decide_true,Bool.true_and]
 clear hres hs ht hwn hwf hz hnm
 generalize fC k=sn at *
 generalize (k == 10)=st at *
 generalize iI k=le at *
 generalize mQ k=mo at *
 generalize oz k=tp at *
 obtain ⟨W0,hW0⟩:∃ W0,W0=w.alloc (.cells #[.int .i64 k,.string nm,.int .i64 n,.int .i64 tk,.int .i64 tn,.slice o1 l1 c1,.slice o2 l2 c2,.int .i64 fr,.int .i64 en] 29):=⟨_,rfl⟩
 obtain ⟨B,hB⟩:∃ B,B=w.heap.size:=⟨_,rfl⟩
 have hb0:W0.heap[B]?=some (.cells #[.int .i64 k,.string nm,.int .i64 n,.int .i64 tk,.int .i64 tn,.slice o1 l1 c1,.slice o2 l2 c2,.int .i64 fr,.int .i64 en] 29 (0,0)):=by rw [hW0,hB];exact heap_alloc_new _ _
 have aK:Hid (ah w W0):=by rw [hW0];exact ah.alloc _ _
 have HB0:Hid (∀ W,ah W0 W->W.heap[B]?=some (.cells #[.int .i64 k,.string nm,.int .i64 n,.int .i64 tk,.int .i64 tn,.slice o1 l1 c1,.slice o2 l2 c2,.int .i64 fr,.int .i64 en] 29 (0,0))):=fun W h=>(h.block _ (lt_of_block hb0) (fun h=>h)).trans hb0
 have hBlt:B < W0.heap.size:=lt_of_block hb0
 clear hb0
 have HBC:Hid (∀ W,ah W0 W->W.cell? ⟨B,0,none⟩=some (.int .i64 k)):=fun W h=>by rw [cell_of_row _ _ _ _ _ (0,0) (HB0.out W h)];rfl
 have HBF:Hid (∀ W,Fr (fun j=>W0.heap.size<=j) W0 W->W.cell? ⟨B,0,none⟩=some (.int .i64 k)):=fun W h=>(h.bG hBlt (fun hh=>by have h2:W0.heap.size<=B:=hh;omega)).trans (HBC.out _ (ah.refl _))
 have adB:¬ k < 1:=by omega
 have adC:¬ 10 < k:=by omega
 clear hBlt
 go_enter Tryz.func51,Tryz.ntmps51
 go_upto_region 3 with fail
 change Code.wp _ _ _ _ (w.alloc (.cells #[.int .i64 k,.string nm,.int .i64 n,.int .i64 tk,.int .i64 tn,.slice o1 l1 c1,.slice o2 l2 c2,.int .i64 fr,.int .i64 en] 29))
 rw [<-hW0,<-hB]
 clear hW0 hB
 go_cut [3] (fun t wx=>∃ sb:Nat,t=.pointer (some ⟨sb,0,none⟩)/\wx.heap[sb]?=some (.cells #[.bool sn,.bool st,.int .i64 le,.int .i64 mo,.int .i64 tp] 136 (0,0))/\ah W0 wx)
 case first =>
  clear UZ Yj zO Dv NS
  have Vz:=Fr.refl (fun j=>W0.heap.size<=j) W0
  have a0:=HBF.out _ Vz
  go_region_held3 (fun w'=>w'.cell? ⟨B,0,none⟩=some (.int .i64 k))
   (((refine HBF.out _ ?_);(repeat (first | with_reducible exact Vz | with_reducible exact ah.fr hqc | with_reducible exact Fr.refl _ _ | with_reducible refine Fr.trans ?_ (Fr.alloc _ _ _) | with_reducible refine Fr.trans ?_ (Fr.drew _ _) | ((with_reducible refine Fr.trans ?_ (Fr.setCell _ _ _ _ ?hsd));(case hsd=>(simp<;>omega))) | fail))))
   (first
    | (go_at_call 85;(with_reducible refine Calls.mono (DC.out _) ?_);rintro e wx ⟨rfl,jQ⟩;(try (refine UH (b:=W0.heap.size) (t:=136) (a0:=.bool false) (a1:=.bool false) (a2:=.int .i64 0) (a3:=.int .i64 0) (a4:=.int .i64 0) (ak jQ ?hbk) ?_;(case hbk=>exact dM _ _ _ _ rfl);intro f0 f1 f2 f3 f4 y0 y1 y2 y3 y4 hzz));(refine Uz (S:=fun j=>W0.heap.size<=j) (w0:=W0) ?hfr jQ ?_);(case hfr=>(repeat (first | with_reducible exact Vz | with_reducible exact ah.fr hqc | with_reducible exact Fr.refl _ _ | with_reducible refine Fr.trans ?_ (Fr.alloc _ _ _) | with_reducible refine Fr.trans ?_ (Fr.drew _ _) | ((with_reducible refine Fr.trans ?_ (Fr.setCell _ _ _ _ ?hsd));(case hsd=>(simp<;>omega))) | fail)));intro Vz))
  all_goals
   clear hix DC a0 HBC HBF HB0
   generalize fQ=sc at *
   go_step
   go_step
   go_meet
   refine ⟨_,rfl,?hbb,?hqq⟩
   case hbb =>
    first
    | with_reducible exact heap_alloc_new _ _
    | with_reducible exact LV hzz
   case hqq =>
    unfold ah
    have h0:Fr (fun _=>False) W0 wx:=Vz.mono (fun i hi h=>by have h2:W0.heap.size<=i:=h;omega)
    first
    | with_reducible exact Fr.trans h0 (Fr.alloc _ _ _)
    | (with_reducible refine Fr.trans' (T := fun j => j = W0.heap.size) h0 ?_ (fun i hi e => by omega)
       with_reducible exact Xt _ _ _ _ _ _ _)
 case rest =>
  rename World=>wx
  obtain ⟨sb,rfl,hsb,jQ⟩:=hcut
  have NT:Hid (∀ W,ah wx W->W.heap[sb]?=some (.cells #[.bool sn,.bool st,.int .i64 le,.int .i64 mo,.int .i64 tp] 136 (0,0))):=fun W h=>(h.block _ (lt_of_block hsb) (fun h=>h)).trans hsb
  have qP:=hid jQ
  have aW:=UZ
  clear HBC HBF DC hix UZ hsb jQ
  obtain ⟨b0,b1,b2,b3,b4,b5,b6,b7,b8⟩:=aA (h:=⟨k,nm,n,tk,tn,uJ,fr,en⟩) (HB0.out _ qP.out)
  obtain ⟨s0,s1,s2,s3,s4⟩:=cells5 (NT.out _ (ah.refl wx))
  generalize gJ tk tn uJ 0 0 .nil=sm at *
  generalize iH tk tn uJ=rt at *
  generalize Fo.vars [] (.cons tk tn uJ .nil)=L at *
  unfold kL at zO Dv
  cases sn
  ·cases hbn:nm.toList.isEmpty
   ·have e2:¬ nm.toList=[]:=by simpa using hbn
    have e3:nm.toList.isEmpty=false:=hbn
    rw [hbn] at aW
    clear hbn
    have DU:=hid (ah.refl wx)
    cases st
    ·go_wp2_with fail
     refine (zO.out _ (aK.out.trans qP.out)).mono ?_;rintro e w5 ⟨rfl,hq5⟩
     have HF:=hid ((aK.out.trans qP.out).trans hq5)
     have NU:=hid (qP.out.trans hq5)
     have xU:=hid (DU.out.trans hq5)
     clear hq5
     clear b0 b1 b2 b3 b4 b5 b6 b7 b8 s0 s1 s2 s3 s4
     obtain ⟨b0,b1,b2,b3,b4,b5,b6,b7,b8⟩:=aA (h:=⟨k,nm,n,tk,tn,uJ,fr,en⟩) (HB0.out _ NU.out)
     obtain ⟨s0,s1,s2,s3,s4⟩:=cells5 (NT.out _ xU.out)
     change Hid (res=(false && sm && decide (0<=n) && decide (n<=tp) && decide (le<=(l2:Int)) && decide ((l2:Int)<=mo))) at aW
     generalize sm=bt at *
     go_upto_region 11 with fail
     go_wp2_with fail
     all_goals first
     | (exfalso;omega)
     | (go_ret;exact ⟨by rw [aW.out];simp<;>omega,HF.out⟩)
    ·go_wp2_with fail
     refine (zO.out _ (aK.out.trans qP.out)).mono ?_;rintro e w3 ⟨rfl,hq3⟩
     have NV:=hid (qP.out.trans hq3)
     have U0:=hid (DU.out.trans hq3)
     clear hq3 b0 b1 b2 b3 b4 b5 b6 b7 b8 s0 s1 s2 s3 s4
     obtain ⟨b0,b1,b2,b3,b4,b5,b6,b7,b8⟩:=aA (h:=⟨k,nm,n,tk,tn,uJ,fr,en⟩) (HB0.out _ NV.out)
     obtain ⟨s0,s1,s2,s3,s4⟩:=cells5 (NT.out _ U0.out)
     go_wp2_with fail
     refine (Dv.out _ (aK.out.trans NV.out)).mono ?_;rintro e w5 ⟨rfl,hq5⟩
     have HF:=hid ((aK.out.trans NV.out).trans hq5)
     have NU:=hid (NV.out.trans hq5)
     have xU:=hid (U0.out.trans hq5)
     clear hq5
     clear b0 b1 b2 b3 b4 b5 b6 b7 b8 s0 s1 s2 s3 s4
     obtain ⟨b0,b1,b2,b3,b4,b5,b6,b7,b8⟩:=aA (h:=⟨k,nm,n,tk,tn,uJ,fr,en⟩) (HB0.out _ NU.out)
     obtain ⟨s0,s1,s2,s3,s4⟩:=cells5 (NT.out _ xU.out)
     cases rt
     ·change Hid (res=(false && (false && L.isEmpty) && decide (0<=n) && decide (n<=tp) && decide (le<=(l2:Int)) && decide ((l2:Int)<=mo))) at aW
      go_upto_region 11 with fail
      go_wp2_with fail
      all_goals first
      | (exfalso;omega)
      | (go_ret;exact ⟨by rw [aW.out];simp<;>omega,HF.out⟩)
     ·change Hid (res=(false && (true && L.isEmpty) && decide (0<=n) && decide (n<=tp) && decide (le<=(l2:Int)) && decide ((l2:Int)<=mo))) at aW
      obtain ⟨W6,uM⟩:∃ W6,W6=w5.alloc (.cells #[.int .i64 tk,.int .i64 tn,.slice o1 l1 c1] 24):=⟨_,rfl⟩
      obtain ⟨vb,hvb⟩:∃ vb,vb=w5.heap.size:=⟨_,rfl⟩
      have hb6:W6.heap[vb]?=some (.cells #[.int .i64 tk,.int .i64 tn,.slice o1 l1 c1] 24 (0,0)):=by rw [uM,hvb];exact heap_alloc_new _ _
      have zG:Hid (ah w5 W6):=by rw [uM];exact ah.alloc _ _
      have Vx:=hid (NS.out W6 vb (HF.out.trans zG.out) hb6)
      rw [uM,hvb] at Vx
      clear hb6 uM hvb zG
      go_wp2_with fail
      refine Vx.out.mono ?_;rintro e w7 ⟨va,vc,rfl,hq7⟩
      replace HF:=hid ((HF.out.trans (ah.alloc _ _)).trans hq7)
      have HG0:=hid ((NU.out.trans (ah.alloc _ _)).trans hq7)
      have Qv:=hid ((xU.out.trans (ah.alloc _ _)).trans hq7)
      clear hq7
      clear b0 b1 b2 b3 b4 b5 b6 b7 b8 s0 s1 s2 s3 s4
      obtain ⟨b0,b1,b2,b3,b4,b5,b6,b7,b8⟩:=aA (h:=⟨k,nm,n,tk,tn,uJ,fr,en⟩) (HB0.out _ HG0.out)
      obtain ⟨s0,s1,s2,s3,s4⟩:=cells5 (NT.out _ Qv.out)
      cases L
      ·change Hid (res=(false && true && decide (0<=n) && decide (n<=tp) && decide (le<=(l2:Int)) && decide ((l2:Int)<=mo))) at aW
       have hl0:((([]:List Int).length:Nat):Int)=0:=rfl
       go_upto_region 11 with fail
       go_wp2_with fail
       all_goals first
       | (exfalso;omega)
       | (go_ret;exact ⟨by rw [aW.out];simp<;>omega,HF.out⟩)
      ·rename_i x0 r0
       change Hid (res=(false && false && decide (0<=n) && decide (n<=tp) && decide (le<=(l2:Int)) && decide ((l2:Int)<=mo))) at aW
       have hl0:¬ (((x0::r0).length:Nat):Int)=0:=by simp;omega
       generalize (((x0::r0).length:Nat))=ln at *
       go_upto_region 11 with fail
       go_wp2_with fail
       all_goals first
       | (exfalso;omega)
       | (go_ret;exact ⟨by rw [aW.out];simp<;>omega,HF.out⟩)
   ·have e2:nm.toList=[]:=by simpa using hbn
    have e3:nm.toList.isEmpty=true:=hbn
    rw [hbn] at aW
    clear hbn
    have DU:=hid (ah.refl wx)
    cases st
    ·go_wp2_with fail
     refine (zO.out _ (aK.out.trans qP.out)).mono ?_;rintro e w5 ⟨rfl,hq5⟩
     have HF:=hid ((aK.out.trans qP.out).trans hq5)
     have NU:=hid (qP.out.trans hq5)
     have xU:=hid (DU.out.trans hq5)
     clear hq5
     clear b0 b1 b2 b3 b4 b5 b6 b7 b8 s0 s1 s2 s3 s4
     obtain ⟨b0,b1,b2,b3,b4,b5,b6,b7,b8⟩:=aA (h:=⟨k,nm,n,tk,tn,uJ,fr,en⟩) (HB0.out _ NU.out)
     obtain ⟨s0,s1,s2,s3,s4⟩:=cells5 (NT.out _ xU.out)
     change Hid (res=(true && sm && decide (0<=n) && decide (n<=tp) && decide (le<=(l2:Int)) && decide ((l2:Int)<=mo))) at aW
     generalize sm=bt at *
     go_upto_region 11 with fail
     cases bt
     ·go_wp2_with fail
      all_goals first
      | (exfalso;omega)
      | (go_ret;exact ⟨by rw [aW.out];simp<;>omega,HF.out⟩)
     ·by_cases g1:0<=n
      ·by_cases g2:n<=tp
       ·by_cases g3:le<=(l2:Int)
        ·by_cases g4:(l2:Int)<=mo
         ·go_wp2_with fail
          all_goals first
          | (exfalso;omega)
          | (go_ret;exact ⟨by rw [aW.out];simp [g1,g2,g3,g4]<;>omega,HF.out⟩)
         ·have g4':mo < (l2:Int):=by omega
          go_wp2_with fail
          all_goals first
          | (exfalso;omega)
          | (go_ret;exact ⟨by rw [aW.out];simp [g1,g2,g3,g4]<;>omega,HF.out⟩)
        ·have g3':(l2:Int) < le:=by omega
         go_wp2_with fail
         all_goals first
         | (exfalso;omega)
         | (go_ret;exact ⟨by rw [aW.out];simp<;>omega,HF.out⟩)
       ·have g2':tp < n:=by omega
        go_wp2_with fail
        all_goals first
        | (exfalso;omega)
        | (go_ret;exact ⟨by rw [aW.out];simp<;>omega,HF.out⟩)
      ·have g1':n < 0:=by omega
       go_wp2_with fail
       all_goals first
       | (exfalso;omega)
       | (go_ret;exact ⟨by rw [aW.out];simp<;>omega,HF.out⟩)
    ·go_wp2_with fail
     refine (zO.out _ (aK.out.trans qP.out)).mono ?_;rintro e w3 ⟨rfl,hq3⟩
     have NV:=hid (qP.out.trans hq3)
     have U0:=hid (DU.out.trans hq3)
     clear hq3 b0 b1 b2 b3 b4 b5 b6 b7 b8 s0 s1 s2 s3 s4
     obtain ⟨b0,b1,b2,b3,b4,b5,b6,b7,b8⟩:=aA (h:=⟨k,nm,n,tk,tn,uJ,fr,en⟩) (HB0.out _ NV.out)
     obtain ⟨s0,s1,s2,s3,s4⟩:=cells5 (NT.out _ U0.out)
     go_wp2_with fail
     refine (Dv.out _ (aK.out.trans NV.out)).mono ?_;rintro e w5 ⟨rfl,hq5⟩
     have HF:=hid ((aK.out.trans NV.out).trans hq5)
     have NU:=hid (NV.out.trans hq5)
     have xU:=hid (U0.out.trans hq5)
     clear hq5
     clear b0 b1 b2 b3 b4 b5 b6 b7 b8 s0 s1 s2 s3 s4
     obtain ⟨b0,b1,b2,b3,b4,b5,b6,b7,b8⟩:=aA (h:=⟨k,nm,n,tk,tn,uJ,fr,en⟩) (HB0.out _ NU.out)
     obtain ⟨s0,s1,s2,s3,s4⟩:=cells5 (NT.out _ xU.out)
     cases rt
     ·change Hid (res=(true && (false && L.isEmpty) && decide (0<=n) && decide (n<=tp) && decide (le<=(l2:Int)) && decide ((l2:Int)<=mo))) at aW
      go_upto_region 11 with fail
      go_wp2_with fail
      all_goals first
      | (exfalso;omega)
      | (go_ret;exact ⟨by rw [aW.out];simp<;>omega,HF.out⟩)
     ·change Hid (res=(true && (true && L.isEmpty) && decide (0<=n) && decide (n<=tp) && decide (le<=(l2:Int)) && decide ((l2:Int)<=mo))) at aW
      obtain ⟨W6,uM⟩:∃ W6,W6=w5.alloc (.cells #[.int .i64 tk,.int .i64 tn,.slice o1 l1 c1] 24):=⟨_,rfl⟩
      obtain ⟨vb,hvb⟩:∃ vb,vb=w5.heap.size:=⟨_,rfl⟩
      have hb6:W6.heap[vb]?=some (.cells #[.int .i64 tk,.int .i64 tn,.slice o1 l1 c1] 24 (0,0)):=by rw [uM,hvb];exact heap_alloc_new _ _
      have zG:Hid (ah w5 W6):=by rw [uM];exact ah.alloc _ _
      have Vx:=hid (NS.out W6 vb (HF.out.trans zG.out) hb6)
      rw [uM,hvb] at Vx
      clear hb6 uM hvb zG
      go_wp2_with fail
      refine Vx.out.mono ?_;rintro e w7 ⟨va,vc,rfl,hq7⟩
      replace HF:=hid ((HF.out.trans (ah.alloc _ _)).trans hq7)
      have HG0:=hid ((NU.out.trans (ah.alloc _ _)).trans hq7)
      have Qv:=hid ((xU.out.trans (ah.alloc _ _)).trans hq7)
      clear hq7
      clear b0 b1 b2 b3 b4 b5 b6 b7 b8 s0 s1 s2 s3 s4
      obtain ⟨b0,b1,b2,b3,b4,b5,b6,b7,b8⟩:=aA (h:=⟨k,nm,n,tk,tn,uJ,fr,en⟩) (HB0.out _ HG0.out)
      obtain ⟨s0,s1,s2,s3,s4⟩:=cells5 (NT.out _ Qv.out)
      cases L
      ·change Hid (res=(true && true && decide (0<=n) && decide (n<=tp) && decide (le<=(l2:Int)) && decide ((l2:Int)<=mo))) at aW
       have hl0:((([]:List Int).length:Nat):Int)=0:=rfl
       go_upto_region 11 with fail
       by_cases g1:0<=n
       ·by_cases g2:n<=tp
        ·by_cases g3:le<=(l2:Int)
         ·by_cases g4:(l2:Int)<=mo
          ·go_wp2_with fail
           all_goals first
           | (exfalso;omega)
           | (go_ret;exact ⟨by rw [aW.out];simp [g1,g2,g3,g4]<;>omega,HF.out⟩)
          ·have g4':mo < (l2:Int):=by omega
           go_wp2_with fail
           all_goals first
           | (exfalso;omega)
           | (go_ret;exact ⟨by rw [aW.out];simp [g1,g2,g3,g4]<;>omega,HF.out⟩)
         ·have g3':(l2:Int) < le:=by omega
          go_wp2_with fail
          all_goals first
          | (exfalso;omega)
          | (go_ret;exact ⟨by rw [aW.out];simp<;>omega,HF.out⟩)
        ·have g2':tp < n:=by omega
         go_wp2_with fail
         all_goals first
         | (exfalso;omega)
         | (go_ret;exact ⟨by rw [aW.out];simp<;>omega,HF.out⟩)
       ·have g1':n < 0:=by omega
        go_wp2_with fail
        all_goals first
        | (exfalso;omega)
        | (go_ret;exact ⟨by rw [aW.out];simp<;>omega,HF.out⟩)
      ·rename_i x0 r0
       change Hid (res=(true && false && decide (0<=n) && decide (n<=tp) && decide (le<=(l2:Int)) && decide ((l2:Int)<=mo))) at aW
       have hl0:¬ (((x0::r0).length:Nat):Int)=0:=by simp;omega
       generalize (((x0::r0).length:Nat))=ln at *
       go_upto_region 11 with fail
       go_wp2_with fail
       all_goals first
       | (exfalso;omega)
       | (go_ret;exact ⟨by rw [aW.out];simp<;>omega,HF.out⟩)
  ·go_wp2_with fail
   refine (Yj.out _ (aK.out.trans qP.out)).mono ?_;rintro e w4 ⟨rfl,hq4⟩
   have HX0:=hid (qP.out.trans hq4)
   have DU:=hid hq4
   clear hq4
   clear b0 b1 b2 b3 b4 b5 b6 b7 b8 s0 s1 s2 s3 s4
   obtain ⟨b0,b1,b2,b3,b4,b5,b6,b7,b8⟩:=aA (h:=⟨k,nm,n,tk,tn,uJ,fr,en⟩) (HB0.out _ HX0.out)
   obtain ⟨s0,s1,s2,s3,s4⟩:=cells5 (NT.out _ DU.out)
   generalize Lx.nameB nm.data.toList=bn at *
   cases st
   ·go_wp2_with fail
    refine (zO.out _ (aK.out.trans HX0.out)).mono ?_;rintro e w5 ⟨rfl,hq5⟩
    have HF:=hid ((aK.out.trans HX0.out).trans hq5)
    have NU:=hid (HX0.out.trans hq5)
    have xU:=hid (DU.out.trans hq5)
    clear hq5
    clear b0 b1 b2 b3 b4 b5 b6 b7 b8 s0 s1 s2 s3 s4
    obtain ⟨b0,b1,b2,b3,b4,b5,b6,b7,b8⟩:=aA (h:=⟨k,nm,n,tk,tn,uJ,fr,en⟩) (HB0.out _ NU.out)
    obtain ⟨s0,s1,s2,s3,s4⟩:=cells5 (NT.out _ xU.out)
    change Hid (res=(bn && sm && decide (0<=n) && decide (n<=tp) && decide (le<=(l2:Int)) && decide ((l2:Int)<=mo))) at aW
    generalize sm=bt at *
    go_upto_region 11 with fail
    cases bn
    ·go_wp2_with fail
     all_goals first
     | (exfalso;omega)
     | (go_ret;exact ⟨by rw [aW.out];simp<;>omega,HF.out⟩)
    ·cases bt
     ·go_wp2_with fail
      all_goals first
      | (exfalso;omega)
      | (go_ret;exact ⟨by rw [aW.out];simp<;>omega,HF.out⟩)
     ·by_cases g1:0<=n
      ·by_cases g2:n<=tp
       ·by_cases g3:le<=(l2:Int)
        ·by_cases g4:(l2:Int)<=mo
         ·go_wp2_with fail
          all_goals first
          | (exfalso;omega)
          | (go_ret;exact ⟨by rw [aW.out];simp [g1,g2,g3,g4]<;>omega,HF.out⟩)
         ·have g4':mo < (l2:Int):=by omega
          go_wp2_with fail
          all_goals first
          | (exfalso;omega)
          | (go_ret;exact ⟨by rw [aW.out];simp [g1,g2,g3,g4]<;>omega,HF.out⟩)
        ·have g3':(l2:Int) < le:=by omega
         go_wp2_with fail
         all_goals first
         | (exfalso;omega)
         | (go_ret;exact ⟨by rw [aW.out];simp<;>omega,HF.out⟩)
       ·have g2':tp < n:=by omega
        go_wp2_with fail
        all_goals first
        | (exfalso;omega)
        | (go_ret;exact ⟨by rw [aW.out];simp<;>omega,HF.out⟩)
      ·have g1':n < 0:=by omega
       go_wp2_with fail
       all_goals first
       | (exfalso;omega)
       | (go_ret;exact ⟨by rw [aW.out];simp<;>omega,HF.out⟩)
   ·go_wp2_with fail
    refine (zO.out _ (aK.out.trans HX0.out)).mono ?_;rintro e w3 ⟨rfl,hq3⟩
    have NV:=hid (HX0.out.trans hq3)
    have U0:=hid (DU.out.trans hq3)
    clear hq3 b0 b1 b2 b3 b4 b5 b6 b7 b8 s0 s1 s2 s3 s4
    obtain ⟨b0,b1,b2,b3,b4,b5,b6,b7,b8⟩:=aA (h:=⟨k,nm,n,tk,tn,uJ,fr,en⟩) (HB0.out _ NV.out)
    obtain ⟨s0,s1,s2,s3,s4⟩:=cells5 (NT.out _ U0.out)
    go_wp2_with fail
    refine (Dv.out _ (aK.out.trans NV.out)).mono ?_;rintro e w5 ⟨rfl,hq5⟩
    have HF:=hid ((aK.out.trans NV.out).trans hq5)
    have NU:=hid (NV.out.trans hq5)
    have xU:=hid (U0.out.trans hq5)
    clear hq5
    clear b0 b1 b2 b3 b4 b5 b6 b7 b8 s0 s1 s2 s3 s4
    obtain ⟨b0,b1,b2,b3,b4,b5,b6,b7,b8⟩:=aA (h:=⟨k,nm,n,tk,tn,uJ,fr,en⟩) (HB0.out _ NU.out)
    obtain ⟨s0,s1,s2,s3,s4⟩:=cells5 (NT.out _ xU.out)
    cases rt
    ·change Hid (res=(bn && (false && L.isEmpty) && decide (0<=n) && decide (n<=tp) && decide (le<=(l2:Int)) && decide ((l2:Int)<=mo))) at aW
     go_upto_region 11 with fail
     cases bn
     ·go_wp2_with fail
      all_goals first
      | (exfalso;omega)
      | (go_ret;exact ⟨by rw [aW.out];simp<;>omega,HF.out⟩)
     ·go_wp2_with fail
      all_goals first
      | (exfalso;omega)
      | (go_ret;exact ⟨by rw [aW.out];simp<;>omega,HF.out⟩)
    ·change Hid (res=(bn && (true && L.isEmpty) && decide (0<=n) && decide (n<=tp) && decide (le<=(l2:Int)) && decide ((l2:Int)<=mo))) at aW
     obtain ⟨W6,uM⟩:∃ W6,W6=w5.alloc (.cells #[.int .i64 tk,.int .i64 tn,.slice o1 l1 c1] 24):=⟨_,rfl⟩
     obtain ⟨vb,hvb⟩:∃ vb,vb=w5.heap.size:=⟨_,rfl⟩
     have hb6:W6.heap[vb]?=some (.cells #[.int .i64 tk,.int .i64 tn,.slice o1 l1 c1] 24 (0,0)):=by rw [uM,hvb];exact heap_alloc_new _ _
     have zG:Hid (ah w5 W6):=by rw [uM];exact ah.alloc _ _
     have Vx:=hid (NS.out W6 vb (HF.out.trans zG.out) hb6)
     rw [uM,hvb] at Vx
     clear hb6 uM hvb zG
     go_wp2_with fail
     refine Vx.out.mono ?_;rintro e w7 ⟨va,vc,rfl,hq7⟩
     replace HF:=hid ((HF.out.trans (ah.alloc _ _)).trans hq7)
     have HG0:=hid ((NU.out.trans (ah.alloc _ _)).trans hq7)
     have Qv:=hid ((xU.out.trans (ah.alloc _ _)).trans hq7)
     clear hq7
     clear b0 b1 b2 b3 b4 b5 b6 b7 b8 s0 s1 s2 s3 s4
     obtain ⟨b0,b1,b2,b3,b4,b5,b6,b7,b8⟩:=aA (h:=⟨k,nm,n,tk,tn,uJ,fr,en⟩) (HB0.out _ HG0.out)
     obtain ⟨s0,s1,s2,s3,s4⟩:=cells5 (NT.out _ Qv.out)
     cases L
     ·change Hid (res=(bn && true && decide (0<=n) && decide (n<=tp) && decide (le<=(l2:Int)) && decide ((l2:Int)<=mo))) at aW
      have hl0:((([]:List Int).length:Nat):Int)=0:=rfl
      go_upto_region 11 with fail
      cases bn
      ·go_wp2_with fail
       all_goals first
       | (exfalso;omega)
       | (go_ret;exact ⟨by rw [aW.out];simp<;>omega,HF.out⟩)
      ·by_cases g1:0<=n
       ·by_cases g2:n<=tp
        ·by_cases g3:le<=(l2:Int)
         ·by_cases g4:(l2:Int)<=mo
          ·go_wp2_with fail
           all_goals first
           | (exfalso;omega)
           | (go_ret;exact ⟨by rw [aW.out];simp [g1,g2,g3,g4]<;>omega,HF.out⟩)
          ·have g4':mo < (l2:Int):=by omega
           go_wp2_with fail
           all_goals first
           | (exfalso;omega)
           | (go_ret;exact ⟨by rw [aW.out];simp [g1,g2,g3,g4]<;>omega,HF.out⟩)
         ·have g3':(l2:Int) < le:=by omega
          go_wp2_with fail
          all_goals first
          | (exfalso;omega)
          | (go_ret;exact ⟨by rw [aW.out];simp<;>omega,HF.out⟩)
        ·have g2':tp < n:=by omega
         go_wp2_with fail
         all_goals first
         | (exfalso;omega)
         | (go_ret;exact ⟨by rw [aW.out];simp<;>omega,HF.out⟩)
       ·have g1':n < 0:=by omega
        go_wp2_with fail
        all_goals first
        | (exfalso;omega)
        | (go_ret;exact ⟨by rw [aW.out];simp<;>omega,HF.out⟩)
     ·rename_i x0 r0
      change Hid (res=(bn && false && decide (0<=n) && decide (n<=tp) && decide (le<=(l2:Int)) && decide ((l2:Int)<=mo))) at aW
      have hl0:¬ (((x0::r0).length:Nat):Int)=0:=by simp;omega
      generalize (((x0::r0).length:Nat))=ln at *
      go_upto_region 11 with fail
      cases bn
      ·go_wp2_with fail
       all_goals first
       | (exfalso;omega)
       | (go_ret;exact ⟨by rw [aW.out];simp<;>omega,HF.out⟩)
      ·go_wp2_with fail
       all_goals first
       | (exfalso;omega)
       | (go_ret;exact ⟨by rw [aW.out];simp<;>omega,HF.out⟩)
end
end Go.Proofs.YtcninopmelmajaaGreatDoor
