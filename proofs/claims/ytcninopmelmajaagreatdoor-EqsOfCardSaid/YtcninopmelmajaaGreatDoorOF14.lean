/-
  Texts laid together (PaIs, PaTyp): laws and walks, with their conditions.
-/
import Derived.Test.YtcninopmelmajaaGreatDoorOF12
set_option maxHeartbeats 8000000
set_option maxRecDepth 1000000
namespace Go.Proofs.YtcninopmelmajaaGreatDoor
open Go.Lib (hid)
section
namespace Pa
open Go.RowKit Lx
structure nU (w:World) (g:Nat) (ts:List Tok):Prop where
 cells:IG w g ts
 lt:g < w.heap.size
 few:ts.length<=1000000
theorem nU.stay {w w':World} {g:Nat} {ts:List Tok} (h:nU w g ts) (hq:ah w w'):nU w' g ts :=
 ⟨h.cells.stay h.lt hq,Nat.lt_of_lt_of_le h.lt hq.size,h.few⟩
abbrev tks (g:Nat) (ts:List Tok) (c:Nat):Value:=.slice (some ⟨g,0,none⟩) ts.length c
theorem ba_eq (a:List UInt8) (s:ByteArray):((dD a).toList == s.toList)=(a == s.data.toList):=by
 rw [ByteArray.toList_eq,ByteArray.toList_eq];rfl
theorem RZ {ts:List Tok} {i k:Nat} {s:List UInt8} (h:¬ i < ts.length):dH ts i k s=false:=by
 unfold dH;rw [List.getElem?_eq_none (by omega)]
theorem sW {ts:List Tok} {i k:Nat} {s:List UInt8} {t:Tok} (h:ts[i]?=some t):dH ts i k s=(t.kind == k && t.text == s):=by
 unfold dH;rw [h]
theorem kind_eq (a k:Nat):((a:Int) == (k:Int))=(a == k):=by
 rw [Bool.eq_iff_iff,beq_iff_eq,beq_iff_eq];omega
theorem KN (ts : List Tok) (g c i k : Nat) (s : ByteArray) (w : World) (h : nU w g ts) :
    Calls Tryz.prog 119 #[tks g ts c,.int .i64 i,.int .i64 k,.string s] w fun e w'=>e=.returned (.bool (dH ts i k s.data.toList))/\w=w':=by
 have hfew:=h.few
 by_cases hi:i < ts.length
 ·obtain ⟨t,ht⟩:∃ t,ts[i]?=some t:=⟨_,List.getElem?_eq_getElem hi⟩;obtain ⟨a0,a1,_,_⟩:=h.cells i t ht;rw [sW ht];have hi':(i:Int) < ts.length:=by omega
  have h0:(0:Int)<=i:=by omega
  have e1:=kind_eq t.kind k;have e2:=ba_eq t.text s;clear h ht;cases hk:(t.kind == k)
  ·rw [hk] at e1;go_enter Tryz.func119,Tryz.ntmps119;go_wp2_with fail;go_ret;exact ⟨rfl,rfl⟩
  ·rw [hk] at e1;rw [Bool.true_and];cases hs:(t.text == s.data.toList)
   ·rw [hs] at e2;go_enter Tryz.func119,Tryz.ntmps119;go_wp2_with fail;go_ret;exact ⟨rfl,rfl⟩
   ·rw [hs] at e2;go_enter Tryz.func119,Tryz.ntmps119;go_wp2_with fail;go_ret;exact ⟨rfl,rfl⟩
 ·have hi':¬ (i:Int) < ts.length:=by omega
  have h0:(0:Int)<=i:=by omega
  rw [RZ hi];clear h;go_enter Tryz.func119,Tryz.ntmps119;go_wp2_with fail;go_ret;exact ⟨rfl,rfl⟩
theorem lM (ts : List Tok) (g c i : Nat) (s : ByteArray) (w : World) (h : nU w g ts) :
    Calls Tryz.prog 101 #[tks g ts c,.int .i64 i,.string s] w fun e w'=>e=.returned (.bool (dH ts i 3 s.data.toList))/\w=w':=by
 have HC:=hid (KN ts g c i 3 s w h);clear h;generalize dH ts i 3 s.data.toList=r at *;go_enter Tryz.func101,Tryz.ntmps101;go_wp2_with fail;refine HC.out.mono ?_;rintro e w1 ⟨rfl,rfl⟩;go_wp2_with fail;go_ret;exact ⟨rfl,rfl⟩
theorem Bv (ts : List Tok) (g c i : Nat) (s : ByteArray) (w : World) (h : nU w g ts) :
    Calls Tryz.prog 121 #[tks g ts c,.int .i64 i,.string s] w fun e w'=>e=.returned (.bool (dH ts i 4 s.data.toList))/\w=w':=by
 have HC:=hid (KN ts g c i 4 s w h);clear h;generalize dH ts i 4 s.data.toList=r at *;go_enter Tryz.func121,Tryz.ntmps121;go_wp2_with fail;refine HC.out.mono ?_;rintro e w1 ⟨rfl,rfl⟩;go_wp2_with fail;go_ret;exact ⟨rfl,rfl⟩
theorem OM (ts : List Tok) (g c i : Nat) (w : World) (h : nU w g ts) :
    Calls Tryz.prog 120 #[tks g ts c,.int .i64 i] w fun e w'=>e=.returned (.bool (rY ts i))/\w=w':=by
 have hfew:=h.few
 by_cases hi:i < ts.length
 ·obtain ⟨t,ht⟩:∃ t,ts[i]?=some t:=⟨_,List.getElem?_eq_getElem hi⟩;obtain ⟨a0,a1,_,_⟩:=h.cells i t ht;have hi':(i:Int) < ts.length:=by omega
  have h0:(0:Int)<=i:=by omega
  have e1:=kind_eq t.kind 1;have e:rY ts i=(t.kind == 1):=by unfold rY;rw [ht]
  rw [e];clear h ht e a1;cases hk:(t.kind == 1)
  ·rw [hk] at e1;have e1':((t.kind:Int) == 1)=false:=e1;clear e1;go_enter Tryz.func120,Tryz.ntmps120;go_wp2_with fail;go_ret;exact ⟨rfl,rfl⟩
  ·rw [hk] at e1;have e1':((t.kind:Int) == 1)=true:=e1;clear e1;go_enter Tryz.func120,Tryz.ntmps120;go_wp2_with fail;go_ret;exact ⟨rfl,rfl⟩
 ·have hi':¬ (i:Int) < ts.length:=by omega
  have e:rY ts i=false:=by unfold rY;rw [List.getElem?_eq_none (by omega)]
  rw [e];clear h e;go_enter Tryz.func120,Tryz.ntmps120;go_wp2_with fail;go_ret;exact ⟨rfl,rfl⟩
theorem Si {ts:List Tok} {i:Nat} {t:Tok} (h:ts[i]?=some t):oG ts i=(t.kind == 1 || t.kind == 2 || dH ts i 3 vS || dH ts i 3 Bz || dH ts i 4 oh):=by
 unfold oG;rw [h,sW h,sW h,sW h]
theorem kL (ts : List Tok) (g c i : Nat) (w : World) (h : nU w g ts) :
    Calls Tryz.prog 104 #[tks g ts c,.int .i64 i] w fun e w'=>e=.returned (.bool (oG ts i))/\w=w':=by
 have hfew:=h.few
 by_cases hi:i < ts.length
 ·obtain ⟨t,ht⟩:∃ t,ts[i]?=some t:=⟨_,List.getElem?_eq_getElem hi⟩;obtain ⟨a0,a1,_,_⟩:=h.cells i t ht;have hi':(i:Int) < ts.length:=by omega
  have h0:(0:Int)<=i:=by omega
  have e1:=kind_eq t.kind 1;have e2:=kind_eq t.kind 2;rw [Si ht];have H1:Hid (Calls Tryz.prog 101 #[tks g ts c,.int .i64 i,.string ⟨#[116,114,117,101]⟩] w fun e w'=>e=.returned (.bool (dH ts i 3 vS))/\w=w'):=lM ts g c i _ w h;have H2:Hid (Calls Tryz.prog 101 #[tks g ts c,.int .i64 i,.string ⟨#[102,97,108,115,101]⟩] w fun e w'=>e=.returned (.bool (dH ts i 3 Bz))/\w=w'):=lM ts g c i _ w h;have H3:Hid (Calls Tryz.prog 121 #[tks g ts c,.int .i64 i,.string ⟨#[40]⟩] w fun e w'=>e=.returned (.bool (dH ts i 4 oh))/\w=w'):=Bv ts g c i _ w h;clear h ht a1;generalize dH ts i 3 vS=r1 at *;generalize dH ts i 3 Bz=r2 at *;generalize dH ts i 4 oh=r3 at *;cases hk:(t.kind == 1)
  ·cases hk2:(t.kind == 2)
   ·rw [hk] at e1;rw [hk2] at e2;have e1':((t.kind:Int) == 1)=false:=e1;have e2':((t.kind:Int) == 2)=false:=e2;clear e1 e2;go_enter Tryz.func104,Tryz.ntmps104;go_wp2_with fail;refine H1.out.mono ?_;rintro e w1 ⟨rfl,rfl⟩;cases r1
    ·go_wp2_with fail;refine H2.out.mono ?_;rintro e w1 ⟨rfl,rfl⟩;cases r2
     ·go_wp2_with fail;refine H3.out.mono ?_;rintro e w1 ⟨rfl,rfl⟩;go_wp2_with fail;go_ret;exact ⟨rfl,rfl⟩
     ·go_wp2_with fail;go_ret;exact ⟨rfl,rfl⟩
    ·go_wp2_with fail;go_ret;exact ⟨rfl,rfl⟩
   ·rw [hk] at e1;rw [hk2] at e2;have e1':((t.kind:Int) == 1)=false:=e1;have e2':((t.kind:Int) == 2)=true:=e2;clear e1 e2;go_enter Tryz.func104,Tryz.ntmps104;go_wp2_with fail;go_ret;exact ⟨rfl,rfl⟩
  ·rw [hk] at e1;have e1':((t.kind:Int) == 1)=true:=e1;clear e1 e2;go_enter Tryz.func104,Tryz.ntmps104;go_wp2_with fail;go_ret;exact ⟨rfl,rfl⟩
 ·have hi':¬ (i:Int) < ts.length:=by omega
  have e:oG ts i=false:=by unfold oG;rw [List.getElem?_eq_none (by omega)]
  rw [e];clear h e;go_enter Tryz.func104,Tryz.ntmps104;go_wp2_with fail;go_ret;exact ⟨rfl,rfl⟩
end Pa
end
section
namespace Pa
open Go.RowKit Lx
structure lN (w:World) (T:Nat->Prop) (v:Value) (f:Fo) (xs:List Value):Prop where
 own:w.ownsRow 0 24 3 v f.length xs
 low:∀ k,v.ownBlock=some k->T k
 cells:RowOf (fun k=>T k/\v.ownBlock≠some k) w xs f
theorem lN.fr {w w':World} {T:Nat->Prop} {v:Value} {f:Fo} {xs:List Value} {S:Nat->Prop} (h:lN w T v f xs) (hf:Fr S w w') (hS:∀ k,T k->¬ S k):lN w' T v f xs :=
 ⟨aV h.own hf (fun k hk hs=>hS k (h.low k hk) hs),h.low,RowOf.fr hf (fun k _ hk=>⟨hk,hS k hk.1⟩) f xs h.cells⟩
theorem lN.stay {w w':World} {T:Nat->Prop} {v:Value} {f:Fo} {xs:List Value} (h:lN w T v f xs) (hf:ah w w'):lN w' T v f xs:=h.fr hf (fun _ _ h=>h)
theorem lN.snoc {W w1 : World} {T : Nat -> Prop} {v : Value} {f : Fo} {xs : List Value} {k n : Int} {ps : Fo} {o : Option Addr} {len cap g c : Nat} (hr : lN W T v f xs)
    (hs:aB (fun k=>T k/\v.ownBlock≠some k) W o len ps)
    (ho:w1.ownsRow 0 24 3 (.slice (some ⟨g,0,none⟩) (f.length+1) c) (f.length+1) (xs++[.int .i64 k,.int .i64 n,.slice o len cap])) (hf:Fr (fun k=>v.ownBlock=some k) W w1) (hg:v.ownBlock=some g∨W.heap.size<=g) (hT:∀ k,W.heap.size<=k->T k) :
    lN w1 T (.slice (some ⟨g,0,none⟩) (f.length+1) c) (f.app (.cons k n ps .nil)) (xs++[.int .i64 k,.int .i64 n,.slice o len cap]):=by
 refine ⟨by rw [Fo.bQ];exact ho,?_,?_⟩
 ·intro k hk;simp [Value.ownBlock] at hk;subst hk;rcases hg with h | h
  ·exact hr.low g h
  ·exact hT _ h
 ·have hk : ∀ k, k < W.heap.size -> (T k /\ v.ownBlock ≠ some k) -> ((T k /\ (Value.slice (some ⟨g, 0, none⟩) (f.length + 1) c).ownBlock ≠ some k) /\ ¬ v.ownBlock = some k) := by
    rintro k hk ⟨h1,h2⟩;refine ⟨⟨h1,fun h=>?_⟩,h2⟩;simp [Value.ownBlock] at h;subst h;rcases hg with h | h
    ·exact h2 h
    ·omega
  exact RowOf.snoc (hs.fr hf hk) f xs (RowOf.fr hf hk f xs hr.cells)
theorem lN.slc {w:World} {T:Nat->Prop} {o:Option Addr} {len cap:Nat} {f:Fo} {xs:List Value} (h:lN w T (.slice o len cap) f xs) (hl:len=f.length) (hm:len<=maxLen):aB T w o len f:=by
 refine ⟨hl,hm,fun h0=>?_⟩;rcases h.own.2 with ⟨_,h2⟩ | ⟨g,cap',cur,he,_⟩
 ·omega
 ·injection he with h1 h2 h3
  subst h1;refine ⟨g,0,rfl,RowOf.at (h.low g rfl) f xs 0 (RowOf.fr (Fr.refl (fun _=>False) w) (fun k _ hk=>⟨hk.1,fun h=>h⟩) f xs h.cells) ?_⟩;intro j u hj;have:=h.own.cells (g:=g) rfl j u hj;simpa [Addr.add_lit] using this
def Gn (w:World) (r:ou) (e:Ending) (w':World):Prop:=match r with
 | .inl ((k,m,qs),j)=>∃ o n c,e=.returned (.tuple #[.agg #[.int .i64 k,.int .i64 m,.slice o n c],.int .i64 (j:Nat),.int .i64 0])/\aB (fun b=>w.heap.size<=b) w' o n qs/\ah w w'
 | .inr (j,er)=>e=.returned (.tuple #[.agg #[.int .i64 0,.int .i64 0,.slice none 0 0],.int .i64 (j:Nat),.int .i64 (er:Nat)])/\ah w w'
structure Bx (W:World) (B:Nat) (k m:Int) (v:Value):Prop where
 r:W.heap[B]?=some (.cells #[.int .i64 0,.int .i64 0,.slice none 0 0] 24 (0,0))
 z:W.heap[B+1]?=some (.cells #[.int .i64 0,.int .i64 0,.slice none 0 0] 24 (0,0))
 t:W.heap[B+1+1]?=some (.cells #[.int .i64 k,.int .i64 m,v] 24 (0,0))
theorem Bx.fr {W W':World} {B:Nat} {k m:Int} {v:Value} {S:Nat->Prop} (h:Bx W B k m v) (hf:Fr S W W') (h0:¬ S B) (h1:¬ S (B+1)) (h2:¬ S (B+1+1)):Bx W' B k m v :=
 ⟨aC hf h0 h.r,aC hf h1 h.z,aC hf h2 h.t⟩
theorem Bx.stay {W W':World} {B:Nat} {k m:Int} {v:Value} (h:Bx W B k m v) (hf:ah W W'):Bx W' B k m v:=h.fr hf (fun h=>h) (fun h=>h) (fun h=>h)
theorem BA {w : World} {B : Nat} {a b c a' b' c' : Value} {t : TypeId} (h : w.heap[B]? = some (.cells #[a', b', c'] t (0, 0))) :
    (bC w B a b c).heap[B]?=some (.cells #[a,b,c] t (0,0)):=jA (u:=c) (jf (u:=b) (jB (u:=a) h))
theorem Bx.put {W:World} {B:Nat} {k m k' m':Int} {v v':Value} (h:Bx W B k m v):Bx (bC W (B+1+1) (.int .i64 k') (.int .i64 m') v') B k' m' v':=by
 have hf:=bg W (B+1+1) (.int .i64 k') (.int .i64 m') v';exact ⟨aC hf (by omega) h.r,aC hf (by omega) h.z,BA h.t⟩
def WH (ts:List Tok) (f i:Nat) (w:World) (B:Nat) (t:Value) (wx:World):Prop :=
 ∃ (k m:Int) (qs:Fo) (j:Nat) (o:Option Addr) (n c:Nat),t=.int .i64 (j:Nat)/\Bx wx B k m (.slice o n c)/\aB (fun b=>B+3<=b) wx o n qs/\mO (rZ ts f) ts i=.inl ((k,m,qs),j)/\j < ts.length/\ah w wx
theorem WI {ps:Fo} (h:ps.length=1):∃ k m qs,ps=.cons k m qs .nil:=by
 match ps,h with
 | .cons k m qs .nil,_=>exact ⟨k,m,qs,rfl⟩
 | .cons _ _ _ (.cons _ _ _ _),h=>simp [Fo.length] at h
def WJ (ts:List Tok) (f:Nat) (fin:Sum (Fo × Nat) (Nat × Nat)) (w:World) (B pb:Nat) (t:Value) (wx:World):Prop :=
 ∃ (ps:Fo) (j n g c:Nat) (xs:List Value),t=.int .i64 (j:Nat)/\j < ts.length/\ps.length+n=9/\1<=ps.length/\1<=n/\Bx wx B 5 0 (.slice (some ⟨g,0,none⟩) ps.length c) /\
  (∃ x y z,wx.heap[pb]?=some (.cells #[x,y,z] 24 (0,0)))/\lN wx (fun b=>B+3<=b/\b≠pb) (.slice (some ⟨g,0,none⟩) ps.length c) ps xs/\kM (rZ ts f) ts n ps j=fin/\ah w wx
theorem WM {T:Nat->ou} {ts:List Tok} {n:Nat} {ps:Fo} {j:Nat} (h:dH ts j 4 BD=false):kM T ts n ps j=.inl (ps,j):=by
 cases n with
 | zero=>rfl
 | succ n=>unfold kM;rw [if_neg (by rw [h];simp)]
theorem OO {T:Nat->ou} {ts:List Tok} {n:Nat} {ps:Fo} {j:Nat} (h:dH ts j 4 BD=true) (h8:8<=ps.length) (hn:1<=n):kM T ts n ps j=.inr (j,6):=by
 obtain ⟨m,rfl⟩:∃ m,n=m+1:=⟨n-1,by omega⟩;unfold kM;rw [if_pos h,if_pos h8]
theorem Sj {T:Nat->ou} {ts:List Tok} {n:Nat} {ps:Fo} {j:Nat} {x:Nat × Nat} (h:dH ts j 4 BD=true) (h8:¬ 8<=ps.length) (hn:1<=n) (ht:T (j+1)=.inr x):kM T ts n ps j=.inr x:=by
 obtain ⟨m,rfl⟩:∃ m,n=m+1:=⟨n-1,by omega⟩;unfold kM;rw [if_pos h,if_neg h8,ht]
theorem OQ {T:Nat->ou} {ts:List Tok} {n:Nat} {ps:Fo} {j:Nat} {k m:Int} {qs:Fo} {j':Nat} (h:dH ts j 4 BD=true) (h8:¬ 8<=ps.length) (hn:1<=n) (ht:T (j+1)=.inl ((k,m,qs),j')):kM T ts n ps j=kM T ts (n-1) (ps.app (.cons k m qs .nil)) j':=by
 obtain ⟨l,rfl⟩:∃ l,n=l+1:=⟨n-1,by omega⟩
 conv=>lhs;unfold kM
 rw [if_pos h,if_neg h8,ht];rfl
theorem WO {ts:List Tok} {ps:Fo} {j:Nat} (h:dH ts j 4 jC=false):wF ts (.inl (ps,j))=.inr (j,3):=by
 show (if dH ts j 4 jC=true then _ else _)=_;rw [if_neg (by rw [h];simp)]
theorem Sl {ts:List Tok} {k m:Int} {qs:Fo} {j:Nat} (h:dH ts j 4 jC=true):wF ts (.inl (.cons k m qs .nil,j))=.inl ((k,m,qs),j+1):=by
 show (if dH ts j 4 jC=true then _ else _)=_;rw [if_pos h]
theorem OT {ts:List Tok} {ps:Fo} {j:Nat} (h:dH ts j 4 jC=true) (h1:ps.length≠1):wF ts (.inl (ps,j))=.inl ((5,0,ps),j+1):=by
 show (if dH ts j 4 jC=true then _ else _)=_;rw [if_pos h]
 split
 ·next k m qs=>exact absurd rfl h1
 ·rfl
def RdT (ts:List Tok) (g c f:Nat):Prop:=∀ (i:Nat) (ai lv mo:Int) (W:World),ai=i->i < ts.length->nU W g ts->f=(mo+1-lv).toNat->-1000000<=lv->lv<=1000000->-1000000<=mo->mo<=900000 ->
 Calls Tryz.prog 129 #[tks g ts c,.int .i64 ai,.int .i64 lv,.int .i64 mo] W (Gn W (rZ ts f i))
theorem Sm {T:Nat->ou} {ts:List Tok} {i:Nat} (h:dH ts i 3 KO=true):mO T ts i=.inl ((2,0,.nil),i+1):=by unfold mO;rw [if_pos h]
theorem OU {T:Nat->ou} {ts:List Tok} {i:Nat} (h1:dH ts i 3 KO=false) (h:dH ts i 3 ET=true):mO T ts i=.inl ((3,0,.nil),i+1):=by unfold mO;rw [if_neg (by rw [h1];simp),if_pos h]
theorem EU {T:Nat->ou} {ts:List Tok} {i:Nat} (h1:dH ts i 3 KO=false) (h2:dH ts i 3 ET=false) (h:dH ts i 4 oh=true):mO T ts i=YX T ts (T (i+1)):=by unfold mO;rw [if_neg (by rw [h1];simp),if_neg (by rw [h2];simp),if_pos h]
theorem WQ {T:Nat->ou} {ts:List Tok} {i:Nat} (h1:dH ts i 3 KO=false) (h2:dH ts i 3 ET=false) (h:dH ts i 4 oh=false):mO T ts i=.inr (i,3):=by unfold mO;rw [if_neg (by rw [h1];simp),if_neg (by rw [h2];simp),if_neg (by rw [h];simp)]
theorem aaT (ts : List Tok) (g c i k : Nat) (s : ByteArray) (w : World) (ai : Int) (ea : ai = i) (h : nU w g ts) :
    Calls Tryz.prog 119 #[tks g ts c,.int .i64 ai,.int .i64 k,.string s] w fun e w'=>e=.returned (.bool (dH ts i k s.data.toList))/\w=w':=by
 subst ea;exact KN ts g c i k s w h
abbrev Ai:Obj:=.cells #[.int .i64 0,.int .i64 0,.slice none 0 0] 24
theorem OV (ts:List Tok) (g c:Nat):RdT ts g c 0:=by
 intro i ai lv mo w ea hi ht hf h1 h2 h3 h4;subst ea;have hlt:lv > mo:=by omega
 have hlt':mo < lv:=hlt;clear hf;have HQ:Hid (ah w ((w.alloc Ai).alloc Ai)):=(ah.alloc _ _).trans (ah.alloc _ _);have hb0:((w.alloc Ai).alloc Ai).heap[w.heap.size]?=some (.cells #[.int .i64 0,.int .i64 0,.slice none 0 0] 24 (0,0)):=by
  rw [Below.heap_alloc _ _ _ (by simp)];exact heap_alloc_new w _
 have HB0:=hid hb0;clear hb0 ht;go_enter Tryz.func129,Tryz.ntmps129;go_wp2_with fail;change bodyPost _ _ _ _ _ ((w.alloc Ai).alloc Ai);generalize (w.alloc Ai).alloc Ai=wf at *;obtain ⟨f0,f1,f2,_,_,_⟩:=ay HB0.out;refine bodyPost_ret (by simp [results,Tryz.results129,go_sem,f0,f1,f2];rfl) rfl ?_;exact ⟨rfl,HQ.out⟩
theorem OW (ts:List Tok) (g c f:Nat) (hsh:Shut ts) (ih:RdT ts g c f):RdT ts g c (f+1):=by
 intro i ai lv mo w ea hi ht hf h1 h2 h3 h4;subst ea;have hfew:=ht.few;have hle:¬ lv > mo:=by omega
 have hle':lv<=mo:=by omega
 have hf2:f=(mo+1-(lv+1)).toNat:=by omega
 have HIH:Hid (∀ (j:Nat) (aj:Int) (W:World),aj=j->j < ts.length->ah w W->Calls Tryz.prog 129 #[tks g ts c,.int .i64 aj,.int .i64 (lv+1),.int .i64 mo] W (Gn W (rZ ts f j))):=fun j aj W ej hj hq=>ih j aj (lv+1) mo W ej hj (ht.stay hq) hf2 (by omega) (by omega) h3 h4
 have oN:Hid (∀ j,j < ts.length->xI ts.length j (rZ ts f j)):=fun j hj=>BF hsh f j hj
 have HIS:Hid (∀ (j k:Nat) (s:ByteArray) (aj:Int) (W:World),aj=j->ah w W->Calls Tryz.prog 119 #[tks g ts c,.int .i64 aj,.int .i64 k,.string s] W fun e w'=>e=.returned (.bool (dH ts j k s.data.toList))/\W=w'):=fun j k s aj W ej hq=>aaT ts g c j k s W aj ej (ht.stay hq)
 have DZ:=hid hsh;have acB:Hid (∀ W,ah w W->Calls Tryz.prog 119 #[tks g ts c,.int .i64 i,.int .i64 3,.string ⟨#[105,110,116]⟩] W fun e w'=>e=.returned (.bool (dH ts i 3 KO))/\W=w'):=fun W hq=>HIS.out i 3 _ _ W rfl hq
 have aaU:Hid (∀ W,ah w W->Calls Tryz.prog 119 #[tks g ts c,.int .i64 i,.int .i64 3,.string ⟨#[98,111,111,108]⟩] W fun e w'=>e=.returned (.bool (dH ts i 3 ET))/\W=w'):=fun W hq=>HIS.out i 3 _ _ W rfl hq
 have aaV:Hid (∀ W,ah w W->Calls Tryz.prog 119 #[tks g ts c,.int .i64 i,.int .i64 4,.string ⟨#[40]⟩] W fun e w'=>e=.returned (.bool (dH ts i 4 oh))/\W=w'):=fun W hq=>HIS.out i 4 _ _ W rfl hq
 have aaW:Hid (∀ (j:Nat) (W:World),ah w W->Calls Tryz.prog 119 #[tks g ts c,.int .i64 j,.int .i64 4,.string ⟨#[42]⟩] W fun e w'=>e=.returned (.bool (dH ts j 4 BD))/\W=w'):=fun j W hq=>HIS.out j 4 _ _ W rfl hq
 have YZ:Hid (∀ (j:Nat) (W:World),ah w W->Calls Tryz.prog 119 #[tks g ts c,.int .i64 j,.int .i64 4,.string ⟨#[41]⟩] W fun e w'=>e=.returned (.bool (dH ts j 4 jC))/\W=w'):=fun j W hq=>HIS.out j 4 _ _ W rfl hq
 have acC:Hid (∀ (j:Nat) (W:World),ah w W->Calls Tryz.prog 119 #[tks g ts c,.int .i64 j,.int .i64 4,.string ⟨#[45,62]⟩] W fun e w'=>e=.returned (.bool (dH ts j 4 BG))/\W=w'):=fun j W hq=>HIS.out j 4 _ _ W rfl hq
 obtain ⟨W0,hW0⟩:∃ W0,W0=((w.alloc Ai).alloc Ai).alloc Ai:=⟨_,rfl⟩;have aP:Hid (ah w W0):=by rw [hW0];exact ((ah.alloc _ _).trans (ah.alloc _ _)).trans (ah.alloc _ _)
 have sH:Hid (Bx W0 w.heap.size 0 0 (.slice none 0 0)):=by
  refine ⟨?_,?_,?_⟩
  ·rw [hW0,Below.heap_alloc _ _ _ (by simp;omega),Below.heap_alloc _ _ _ (by simp)];exact heap_alloc_new w _
  ·rw [hW0,Below.heap_alloc _ _ _ (by simp)];have:=heap_alloc_new (w.alloc Ai) Ai;simpa using this
  ·rw [hW0];have:=heap_alloc_new ((w.alloc Ai).alloc Ai) Ai;simpa using this
 have hz0:w.heap.size+3<=W0.heap.size:=by rw [hW0];simp
 have HZ0:=hid hz0;clear hf hf2 ht ih hsh hz0;go_enter Tryz.func129,Tryz.ntmps129;go_upto_block 0 with (fail)
 change Code.wp _ _ _ _ (((w.alloc Ai).alloc Ai).alloc Ai);rw [<-hW0];clear hW0;generalize hB:w.heap.size=B at *;have cO:=hid hB;clear hB;go_cut [1] (fun t wx=>WH ts f i w B t wx)
 case first =>
  obtain ⟨t0,t1,t2,y0,y1,y2⟩:=ay sH.out.t;obtain ⟨z0,z1,z2,_,_,_⟩:=ay sH.out.z;obtain ⟨r0,r1,r2,x0,x1,x2⟩:=ay sH.out.r;have hps:=bg W0 (B+1+1);go_wp2_with fail;refine (acB.out W0 aP.out).mono ?_;rintro e w1 ⟨rfl,rfl⟩;cases c1:dH ts i 3 KO
  case true =>
   have hlt:=dP DZ.out c1 (by decide);go_wp2_with fail;go_meet;exact ⟨2,0,.nil,i+1,none,0,0,by go_num,sH.out.put,aB.nil _ _ _,Sm c1,by omega,aP.out.trans' (hps _ _ _) (fun k hk e=>by have:=cO.out;omega)⟩
  case false =>
  go_wp2_with fail;refine (aaU.out W0 aP.out).mono ?_;rintro e w1 ⟨rfl,rfl⟩;cases c2:dH ts i 3 ET
  case true =>
   have hlt:=dP DZ.out c2 (by decide);go_wp2_with fail;go_meet;exact ⟨3,0,.nil,i+1,none,0,0,by go_num,sH.out.put,aB.nil _ _ _,OU c1 c2,by omega,aP.out.trans' (hps _ _ _) (fun k hk e=>by have:=cO.out;omega)⟩
  case false =>
  go_wp2_with fail;refine (aaV.out W0 aP.out).mono ?_;rintro e w1 ⟨rfl,rfl⟩;cases c3:dH ts i 4 oh
  case false =>
   clear t0 t1 t2 y0 y1 y2;go_wp2_with fail;have hf:=bg W0 B (.int .i64 0) (.int .i64 0) (.slice none 0 0);obtain ⟨f0,f1,f2⟩:=aW (a:=.int .i64 0) (b:=.int .i64 0) (c:=.slice none 0 0) (sH.out).r;have dY:ah w (bC W0 B (.int .i64 0) (.int .i64 0) (.slice none 0 0)):=(aP.out).trans' hf (fun k hk e=>by have:=cO.out;omega);change bodyPost _ _ _ _ _ (bC W0 B (.int .i64 0) (.int .i64 0) (.slice none 0 0));generalize bC W0 B (.int .i64 0) (.int .i64 0) (.slice none 0 0)=wf at *;refine bodyPost_ret (by simp [results,Tryz.results129,go_sem,f0,f1,f2];rfl) rfl ?_;rw [show rZ ts (f+1) i=.inr (i,3) from by unfold rZ;rw [WQ c1 c2 c3];rfl];exact ⟨rfl,dY⟩
  case true =>
  have hlt:=dP DZ.out c3 (by decide);have HC:=HIH.out (i+1) ((i:Int)+1) W0 (by omega) hlt aP.out;have HI1:=oN.out (i+1) hlt;cases hr:rZ ts f (i+1) with
  | inr x =>
   obtain ⟨j,er⟩:=x;rw [hr] at HC HI1;have hne:er≠0:=HI1.2;have hne2:((er:Int) != 0)=true:=by simp [hne]
   clear t0 t1 t2 y0 y1 y2 z0 z1 z2 r0 r1 r2 x0 x1 x2 HI1 hps;go_wp2_with fail;refine HC.mono ?_;rintro e w1 ⟨rfl,hq1⟩;obtain ⟨W2,hW2⟩:∃ W2,W2=w1.alloc Ai:=⟨_,rfl⟩;have hq2:ah W0 W2:=by rw [hW2];exact hq1.trans (ah.alloc _ _)
   have Y0:=hid (sH.out.stay hq2);have bU:=hid (aP.out.trans hq2);obtain ⟨z0,z1,z2,_,_,_⟩:=ay Y0.out.z;obtain ⟨r0,r1,r2,x0,x1,x2⟩:=ay Y0.out.r;clear HC hq1 hq2;go_upto_region 12 with fail
   change Code.wp _ _ _ _ (w1.alloc Ai);rw [<-hW2];clear hW2;go_wp2_with fail;have hf:=bg W2 B (.int .i64 0) (.int .i64 0) (.slice none 0 0);obtain ⟨f0,f1,f2⟩:=aW (a:=.int .i64 0) (b:=.int .i64 0) (c:=.slice none 0 0) (Y0.out).r;have dY:ah w (bC W2 B (.int .i64 0) (.int .i64 0) (.slice none 0 0)):=(bU.out).trans' hf (fun k hk e=>by have:=cO.out;omega);change bodyPost _ _ _ _ _ (bC W2 B (.int .i64 0) (.int .i64 0) (.slice none 0 0));generalize bC W2 B (.int .i64 0) (.int .i64 0) (.slice none 0 0)=wf at *;refine bodyPost_ret (by simp [results,Tryz.results129,go_sem,f0,f1,f2];rfl) rfl ?_;rw [show rZ ts (f+1) i=.inr (j,er) from by unfold rZ;rw [EU c1 c2 c3,hr];rfl];exact ⟨rfl,dY⟩
  | inl x =>
   obtain ⟨⟨k,m,qs⟩,j⟩:=x;rw [hr] at HC HI1;have hj1:i+1 < j/\j < ts.length:=HI1;clear t0 t1 t2 y0 y1 y2 z0 z1 z2 r0 r1 r2 x0 x1 x2 HI1 hps;go_wp2_with fail;refine HC.mono ?_;rintro e w1 ⟨o1,n1,d1,rfl,hs1,hq1⟩;obtain ⟨W2,hW2⟩:∃ W2,W2=w1.alloc (.cells #[.int .i64 k,.int .i64 m,.slice o1 n1 d1] 24):=⟨_,rfl⟩;obtain ⟨pb,hpb⟩:∃ pb,pb=w1.heap.size:=⟨_,rfl⟩;have HPB:Hid (W2.heap[pb]?=some (.cells #[.int .i64 k,.int .i64 m,.slice o1 n1 d1] 24 (0,0))):=by show _=_;rw [hW2,hpb];exact heap_alloc_new w1 _
   have hqa:ah w1 W2:=by rw [hW2];exact ah.alloc _ _
   have hq2:ah W0 W2:=hq1.trans hqa;have acD:=hid (sH.out.stay hq2);have eF:=hid (aP.out.trans hq2);have hpz:B+3<=pb:=by have:=HZ0.out;have:=hq1.size;omega
   have acE:W2.heap.size=pb+1:=by rw [hW2,hpb];simp
   have HS2:Hid (aB (fun b=>B+3<=b/\b≠pb) W2 o1 n1 qs):=hs1.fr hqa (fun b hb h=>⟨⟨by have h':W0.heap.size<=b:=h;have:=HZ0.out;omega,by omega⟩,fun h=>h⟩);clear HC hq1 hq2 hs1;go_upto_region 14 with fail
   change Code.wp _ _ _ _ (w1.alloc (.cells #[.int .i64 k,.int .i64 m,.slice o1 n1 d1] 24));rw [<-hW2,<-hpb];clear hW2 hpb hqa;obtain ⟨p0,p1,p2,_,_,_⟩:=ay HPB.out;obtain ⟨W3,hW3⟩:∃ W3,W3=W2.alloc (.cells #[.int .i64 k,.int .i64 m,.slice o1 n1 d1] 24):=⟨_,rfl⟩;have hq3:ah W2 W3:=by rw [hW3];exact ah.alloc _ _
   have hg3:W3.heap[W2.heap.size]?=some (.cells #[.int .i64 k,.int .i64 m,.slice o1 n1 d1] 24 (0,0)):=by rw [hW3];exact heap_alloc_new W2 _
   have WR:=hid (acD.out.stay hq3);have dU:=hid (eF.out.trans hq3);have aaX:=aC hq3 (fun h=>h) HPB.out;have hs3:=HS2.out.fr (T:=fun b=>B+3<=b/\b≠pb) hq3 (fun b hb h=>⟨h,fun h=>h⟩);have HR3:Hid (lN W3 (fun b=>B+3<=b/\b≠pb) (.slice (some ⟨pb+1,0,none⟩) 1 1) (.cons k m qs .nil) [.int .i64 k,.int .i64 m,.slice o1 n1 d1]):=by
    rw [acE] at hg3;refine ⟨⟨rfl,.inr ⟨pb+1,1,_,rfl,Nat.zero_le _,hg3,Nat.le_refl _,by decide,rfl,rfl⟩⟩,fun b hb=>?_,⟨o1,n1,d1,[],rfl,HS2.out.fr hq3 (fun b hb h=>⟨⟨h,fun e=>by simp [Value.ownBlock] at e;omega⟩,fun h=>h⟩),rfl⟩⟩;simp [Value.ownBlock] at hb;subst hb;exact ⟨by omega,by omega⟩
   rw [hW3] at WR;obtain ⟨t0,t1,t2,y0,y1,y2⟩:=ay WR.out.t;rw [<-hW3] at WR;go_upto_region 15 with fail
   change Code.wp _ _ _ _ (bC (W2.alloc (.cells #[.int .i64 k,.int .i64 m,.slice o1 n1 d1] 24)) (B+1+1) (.int .i64 5) (.int .i64 0) (.slice (some ⟨pb+1,0,none⟩) 1 1));rw [<-hW3];clear t0 t1 t2 y0 y1 y2 p0 p1 p2 hW3 hg3 hs3;have hfL:=bg W3 (B+1+1) (.int .i64 5) (.int .i64 0) (.slice (some ⟨pb+1,0,none⟩) 1 1);have acF:Hid (Bx (bC W3 (B+1+1) (.int .i64 5) (.int .i64 0) (.slice (some ⟨pb+1,0,none⟩) 1 1)) B 5 0 (.slice (some ⟨pb+1,0,none⟩) 1 1)):=WR.out.put;have Ei:=hid (HR3.out.fr hfL (fun b h e=>by have:=h.1;omega));have HQL:Hid (ah w (bC W3 (B+1+1) (.int .i64 5) (.int .i64 0) (.slice (some ⟨pb+1,0,none⟩) 1 1))):=dU.out.trans' hfL (fun b hb e=>by have:=cO.out;omega);have HPL:=hid (aC hfL (by omega) aaX);generalize bC W3 (B+1+1) (.int .i64 5) (.int .i64 0) (.slice (some ⟨pb+1,0,none⟩) 1 1)=WL at *;obtain ⟨fin,hfin⟩:∃ fin,kM (rZ ts f) ts 8 (.cons k m qs .nil) j=fin:=⟨_,rfl⟩;have Y1:Hid (mO (rZ ts f) ts i=wF ts fin):=by show _=_;rw [EU c1 c2 c3,hr,<-hfin];rfl
   have bH:=hid hfin;clear hfin hr hq3 hfL aaX;go_wp2_with fail;go_loopw [1] (fun t wr=>WJ ts f fin w B pb t wr) (fun t _=>ts.length-(intOf t).toNat)
   case atStart=>exact ⟨.cons k m qs .nil,j,8,pb+1,1,_,rfl,hj1.2,rfl,Nat.le_refl _,by omega,acF.out,⟨_,_,_,HPL.out⟩,Ei.out,bH.out,HQL.out⟩
   case round =>
    obtain ⟨ps,j2,n,g2,c2',xs,rfl,hj2,hn9,hp1,hn1,hbx,⟨x9,y9,z9,aaY⟩,hrow,hst,hq⟩:=hrel;have xJ:=hid hbx;have Aj:=hid hq;have HRR:=hid hrow;have yJ:=hid aaY;have HST:=hid hst;clear hbx hrow aaY hst hq;go_wp2_with fail;refine (aaW.out j2 wr Aj.out).mono ?_;rintro e w4 ⟨rfl,rfl⟩;cases cs:dH ts j2 4 BD
    case false =>
     have Sr:fin=.inl (ps,j2):=by rw [<-HST.out,WM cs]
     go_wp2_with fail;refine (YZ.out j2 wr Aj.out).mono ?_;rintro e w4 ⟨rfl,rfl⟩;cases cc:dH ts j2 4 jC
     case false =>
      obtain ⟨z0,z1,z2,_,_,_⟩:=ay xJ.out.z;obtain ⟨r0,r1,r2,x0,x1,x2⟩:=ay xJ.out.r;go_wp2_with fail;have hf:=bg wr B (.int .i64 0) (.int .i64 0) (.slice none 0 0);obtain ⟨f0,f1,f2⟩:=aW (a:=.int .i64 0) (b:=.int .i64 0) (c:=.slice none 0 0) (xJ.out).r;have dY:ah w (bC wr B (.int .i64 0) (.int .i64 0) (.slice none 0 0)):=(Aj.out).trans' hf (fun k hk e=>by have:=cO.out;omega);change bodyPost _ _ _ _ _ (bC wr B (.int .i64 0) (.int .i64 0) (.slice none 0 0));generalize bC wr B (.int .i64 0) (.int .i64 0) (.slice none 0 0)=wf at *;refine bodyPost_ret (by simp [results,Tryz.results129,go_sem,f0,f1,f2];rfl) rfl ?_;rw [show rZ ts (f+1) i=.inr (j2,3) from by unfold rZ;rw [Y1.out,Sr,WO cc];rfl];exact ⟨rfl,dY⟩
     case true =>
      have hlt2:=dP DZ.out cc (by decide);obtain ⟨t0,t1,t2,y0,y1,y2⟩:=ay xJ.out.t
      by_cases hl1:ps.length=1
      ·obtain ⟨k2,m2,sF,hps⟩:=WI hl1;have hcl:=HRR.out.cells;rw [hps] at hcl;obtain ⟨o2,n2,d2,ys,hxs,hs2,hys⟩:=hcl;have acG:ys=[]:=hys;subst acG;have e0:wr.cell? ⟨g2,0,none⟩=some (.int .i64 k2):=by have:=HRR.out.own.cells (g:=g2) rfl 0 (.int .i64 k2) (by rw [hxs];rfl);simpa [Addr.add_lit] using this
       have e1:wr.cell? ⟨g2,1,none⟩=some (.int .i64 m2):=by have:=HRR.out.own.cells (g:=g2) rfl 1 (.int .i64 m2) (by rw [hxs];rfl);simpa [Addr.add_lit] using this
       have e2:wr.cell? ⟨g2,2,none⟩=some (.slice o2 n2 d2):=by have:=HRR.out.own.cells (g:=g2) rfl 2 (.slice o2 n2 d2) (by rw [hxs];rfl);simpa [Addr.add_lit] using this
       have HS2:=hid hs2;rw [hl1] at t2;clear hs2 hxs hys;go_wp2_with fail;go_meet;have hfp:=bg wr (B+1+1) (.int .i64 k2) (.int .i64 m2) (.slice o2 n2 d2);refine ⟨k2,m2,sF,j2+1,o2,n2,d2,by go_num,xJ.out.put,HS2.out.fr hfp (fun b _ h=>⟨h.1.1,fun e=>by have:=h.1.1;omega⟩),?_,hlt2,Aj.out.trans' hfp (fun b hb e=>by have:=cO.out;omega)⟩;rw [Y1.out,Sr,hps];exact Sl cc
      ·have adG:((ps.length:Int) == 1)=false:=by simp;omega
       go_wp2_with fail;go_meet;refine ⟨5,0,ps,j2+1,some ⟨g2,0,none⟩,ps.length,c2',by go_num,xJ.out,?_,?_,hlt2,Aj.out⟩
       ·exact (HRR.out.slc rfl (by unfold maxLen;omega)).fr (Fr.refl (fun _=>False) wr) (fun b _ h=>⟨h.1,fun h=>h⟩)
       ·rw [Y1.out,Sr];exact OT cc hl1
    case true =>
     have hlt2:=dP DZ.out cs (by decide)
     by_cases h8:8<=ps.length
     ·have h8':(8:Int)<=(ps.length:Int):=by omega
      have Y2:(ps.length:Int)≥8:=h8';obtain ⟨_,_,t2,_,_,_⟩:=ay xJ.out.t;obtain ⟨z0,z1,z2,_,_,_⟩:=ay xJ.out.z;obtain ⟨r0,r1,r2,x0,x1,x2⟩:=ay xJ.out.r;go_wp2_with fail;have hf:=bg wr B (.int .i64 0) (.int .i64 0) (.slice none 0 0);obtain ⟨f0,f1,f2⟩:=aW (a:=.int .i64 0) (b:=.int .i64 0) (c:=.slice none 0 0) (xJ.out).r;have dY:ah w (bC wr B (.int .i64 0) (.int .i64 0) (.slice none 0 0)):=(Aj.out).trans' hf (fun k hk e=>by have:=cO.out;omega);change bodyPost _ _ _ _ _ (bC wr B (.int .i64 0) (.int .i64 0) (.slice none 0 0));generalize bC wr B (.int .i64 0) (.int .i64 0) (.slice none 0 0)=wf at *;refine bodyPost_ret (by simp [results,Tryz.results129,go_sem,f0,f1,f2];rfl) rfl ?_;rw [show rZ ts (f+1) i=.inr (j2,6) from by unfold rZ;rw [Y1.out,<-HST.out,OO cs h8 hn1];rfl];exact ⟨rfl,dY⟩
     ·have h8':¬ (8:Int)<=(ps.length:Int):=by omega
      have Y2:¬ (ps.length:Int)≥8:=h8';have HC:=HIH.out (j2+1) ((j2:Int)+1) wr (by omega) hlt2 Aj.out;have HI2:=oN.out (j2+1) hlt2;cases hr2:rZ ts f (j2+1) with
      | inr x =>
       obtain ⟨j3,er⟩:=x;rw [hr2] at HC HI2;have hne:er≠0:=HI2.2;have hne2:((er:Int) != 0)=true:=by simp [hne]
       have HC2:=hid HC;clear HC HI2;obtain ⟨_,_,t2,_,_,_⟩:=ay xJ.out.t;go_wp2_with fail;refine HC2.out.mono ?_;rintro e w5 ⟨rfl,hq5⟩;have OX:=aC hq5 (fun h=>h) yJ.out;obtain ⟨_,_,_,v0,v1,v2⟩:=ay OX;have Ii:=bg w5 pb (.int .i64 0) (.int .i64 0) (.slice none 0 0);have OY:=hid ((xJ.out.stay hq5).fr Ii (by omega) (by omega) (by omega));have yK:=hid ((Aj.out.trans hq5).trans' Ii (fun b hb e=>by have:=cO.out;omega));clear t2;go_upto_region 20 with fail
       change Code.wp _ _ _ _ (bC w5 pb (.int .i64 0) (.int .i64 0) (.slice none 0 0));generalize bC w5 pb (.int .i64 0) (.int .i64 0) (.slice none 0 0)=W6 at *;clear Ii hq5 OX v0 v1 v2;obtain ⟨z0,z1,z2,_,_,_⟩:=ay OY.out.z;obtain ⟨r0,r1,r2,x0,x1,x2⟩:=ay OY.out.r;go_wp2_with fail;have hf:=bg W6 B (.int .i64 0) (.int .i64 0) (.slice none 0 0);obtain ⟨f0,f1,f2⟩:=aW (a:=.int .i64 0) (b:=.int .i64 0) (c:=.slice none 0 0) (OY.out).r;have dY:ah w (bC W6 B (.int .i64 0) (.int .i64 0) (.slice none 0 0)):=(yK.out).trans' hf (fun k hk e=>by have:=cO.out;omega);change bodyPost _ _ _ _ _ (bC W6 B (.int .i64 0) (.int .i64 0) (.slice none 0 0));generalize bC W6 B (.int .i64 0) (.int .i64 0) (.slice none 0 0)=wf at *;refine bodyPost_ret (by simp [results,Tryz.results129,go_sem,f0,f1,f2];rfl) rfl ?_;rw [show rZ ts (f+1) i=.inr (j3,er) from by unfold rZ;rw [Y1.out,<-HST.out,Sj cs h8 hn1 hr2];rfl];exact ⟨rfl,dY⟩
      | inl x =>
       obtain ⟨⟨k3,m3,qs3⟩,j3⟩:=x;rw [hr2] at HC HI2;have hj3:j2+1 < j3/\j3 < ts.length:=HI2;have HC2:=hid HC;clear HC HI2;obtain ⟨_,_,t2,_,_,_⟩:=ay xJ.out.t;go_wp2_with fail;refine HC2.out.mono ?_;rintro e w5 ⟨o5,n5,d5,rfl,hs5,hq5⟩;have OX:=aC hq5 (fun h=>h) yJ.out;obtain ⟨_,_,_,v0,v1,v2⟩:=ay OX;have Ii:=bg w5 pb (.int .i64 k3) (.int .i64 m3) (.slice o5 n5 d5);have OY:=hid ((xJ.out.stay hq5).fr Ii (by omega) (by omega) (by omega));have yK:=hid ((Aj.out.trans hq5).trans' Ii (fun b hb e=>by have:=cO.out;omega));have HP6:=hid (BA (a:=.int .i64 k3) (b:=.int .i64 m3) (c:=.slice o5 n5 d5) OX);have HR6:=hid ((HRR.out.stay hq5).fr Ii (fun b h e=>h.2 e));have hpw:pb < wr.heap.size:=lt_of_block yJ.out;have hgw:g2 < wr.heap.size:=(HRR.out.own.lt g2 rfl).2;have hqz:=hq5.size;have HS6:Hid (aB (fun b=>(B+3<=b/\b≠pb)/\(Value.slice (some ⟨g2,0,none⟩) ps.length c2').ownBlock≠some b) (bC w5 pb (.int .i64 k3) (.int .i64 m3) (.slice o5 n5 d5)) o5 n5 qs3):=hs5.fr Ii (fun b hb h=>by
        have h':wr.heap.size<=b:=h;exact ⟨⟨⟨by omega,by omega⟩,fun e=>by simp [Value.ownBlock] at e;omega⟩,by omega⟩)
       have hz6:w5.heap.size<=(bC w5 pb (.int .i64 k3) (.int .i64 m3) (.slice o5 n5 d5)).heap.size:=Ii.size;clear t2;go_upto_region 22 with fail
       change Code.wp _ _ _ _ (bC w5 pb (.int .i64 k3) (.int .i64 m3) (.slice o5 n5 d5));generalize bC w5 pb (.int .i64 k3) (.int .i64 m3) (.slice o5 n5 d5)=W6 at *;clear Ii hq5 OX v0 v1 v2 hs5;obtain ⟨_,_,t2,_,_,_⟩:=ay OY.out.t;obtain ⟨p0,p1,p2,_,_,_⟩:=ay HP6.out;go_wp2_with (at_builtin;refine aY W6 rfl (.tmp 92) (.tmp 94) 22 rfl 24 _ 3 40 elemTy (.slice (some ⟨g2,0,none⟩) ps.length c2') ps.length xs rfl HR6.out.own #[.int .i64 k3,.int .i64 m3,.slice o5 n5 d5] rfl rfl (by simp [Value.oneCell']) (by unfold maxLen;omega) (by omega) ?_;intro g3 c3 w7 ho Ej hg;have xK:=hid (OY.out.fr Ej (fun e=>by simp [Value.ownBlock] at e;have:=(HR6.out.low g2 rfl).1;omega) (fun e=>by simp [Value.ownBlock] at e;have:=(HR6.out.low g2 rfl).1;omega) (fun e=>by simp [Value.ownBlock] at e;have:=(HR6.out.low g2 rfl).1;omega));obtain ⟨_,_,_,_,_,u2⟩:=ay xK.out.t;have u2':=(ay xK.out.t).2.2.1;clear t2);go_roundw
       case rel =>
        have hlow:=HR6.out.low g2 rfl;have hfs:=Fr.setCell (fun k=>k=B+1+1) w7 ⟨B+1+1,2,none⟩ (.slice (some ⟨g3,0,none⟩) (ps.length+1) c3) rfl;have hlen:(ps.app (.cons k3 m3 qs3 .nil)).length=ps.length+1:=by rw [Fo.bQ];simp [Fo.length]
        have Sv:=(lN.snoc HR6.out HS6.out ho Ej hg (fun b hb=>⟨by omega,by omega⟩)).fr hfs (fun b h e=>by have:=h.1;omega);refine ⟨ps.app (.cons k3 m3 qs3 .nil),j3,n-1,g3,c3,xs++[.int .i64 k3,.int .i64 m3,.slice o5 n5 d5],rfl,hj3.2,by omega,by omega,by omega,?_,⟨.int .i64 k3,.int .i64 m3,.slice o5 n5 d5,aC hfs (by omega) (aC Ej (fun e=>by simp [Value.ownBlock] at e;exact hlow.2 e) HP6.out)⟩,?_,?_,?_⟩
        ·rw [hlen];exact ⟨aC hfs (by omega) xK.out.r,aC hfs (by omega) xK.out.z,jA xK.out.t⟩
        ·rw [hlen];exact Sv
        ·rw [<-OQ cs h8 hn1 hr2];exact HST.out
        ·exact (yK.out.trans' Ej (fun b hb e=>by simp [Value.ownBlock] at e;have:=cO.out;omega)).trans' hfs (fun b hb e=>by have:=cO.out;omega)
       case measure=>simp [intOf];omega
 case rest =>
  rename World=>wx
  obtain ⟨k,m,qs,j,o,n,d,rfl,hbx,hsl,hhd,hj,hq⟩:=hcut;have HB:=hid hbx;have HS:=hid hsl;have HH:=hid hhd;have HQ:=hid hq;have hwz:B+3<=wx.heap.size:=by have:=lt_of_block hbx.t;omega
  clear hbx hsl hhd hq;go_wp2_with fail;refine (acC.out j wx HQ.out).mono ?_;rintro e w4 ⟨rfl,rfl⟩;cases ca:dH ts j 4 BG
  case false =>
   obtain ⟨t0,t1,t2,_,_,_⟩:=ay HB.out.t;obtain ⟨r0,r1,r2,x0,x1,x2⟩:=ay HB.out.r;go_wp2_with fail;have hf:=bg wx B (.int .i64 k) (.int .i64 m) (.slice o n d);obtain ⟨f0,f1,f2⟩:=aW (a:=.int .i64 k) (b:=.int .i64 m) (c:=.slice o n d) HB.out.r;have dY:ah w (bC wx B (.int .i64 k) (.int .i64 m) (.slice o n d)):=HQ.out.trans' hf (fun k hk e=>by have:=cO.out;omega);have hsf:aB (fun b=>w.heap.size<=b) (bC wx B (.int .i64 k) (.int .i64 m) (.slice o n d)) o n qs:=HS.out.fr hf (fun b _ h=>⟨by have h':B+3<=b:=h;have:=cO.out;omega,fun e=>by have h':B+3<=b:=h;omega⟩);change bodyPost _ _ _ _ _ (bC wx B (.int .i64 k) (.int .i64 m) (.slice o n d));generalize bC wx B (.int .i64 k) (.int .i64 m) (.slice o n d)=wf at *;refine bodyPost_ret (by simp [results,Tryz.results129,go_sem,f0,f1,f2];rfl) rfl ?_;rw [show rZ ts (f+1) i=.inl ((k,m,qs),j) from by unfold rZ;rw [HH.out];unfold Nr;simp [ca]];exact ⟨o,n,d,rfl,hsf,dY⟩
  case true =>
   have hlt:=dP DZ.out ca (by decide);have HC:=HIH.out (j+1) ((j:Int)+1) wx (by omega) hlt HQ.out;have HI1:=oN.out (j+1) hlt;have WS:Hid (rZ ts (f+1) i=KP k m qs (rZ ts f (j+1))):=by show _=_;conv=>lhs;unfold rZ;rw [HH.out];unfold Nr;simp only [ca,if_true]
   cases hr:rZ ts f (j+1) with
   | inr x =>
    obtain ⟨j3,er⟩:=x;rw [hr] at HC HI1 WS;have hne:er≠0:=HI1.2;have hne2:((er:Int) != 0)=true:=by simp [hne]
    clear HI1;go_wp2_with fail;refine HC.mono ?_;rintro e w5 ⟨rfl,hq5⟩;obtain ⟨W6,uX⟩:∃ W6,W6=w5.alloc Ai:=⟨_,rfl⟩;have hq6:ah wx W6:=by rw [uX];exact hq5.trans (ah.alloc _ _)
    have vT:=hid (HB.out.stay hq6);have yK:=hid (HQ.out.trans hq6);obtain ⟨z0,z1,z2,_,_,_⟩:=ay vT.out.z;obtain ⟨r0,r1,r2,x0,x1,x2⟩:=ay vT.out.r;clear HC hq5 hq6;go_upto_region 32 with fail
    change Code.wp _ _ _ _ (w5.alloc Ai);rw [<-uX];clear uX;go_wp2_with fail;have hf:=bg W6 B (.int .i64 0) (.int .i64 0) (.slice none 0 0);obtain ⟨f0,f1,f2⟩:=aW (a:=.int .i64 0) (b:=.int .i64 0) (c:=.slice none 0 0) (vT.out).r;have dY:ah w (bC W6 B (.int .i64 0) (.int .i64 0) (.slice none 0 0)):=(yK.out).trans' hf (fun k hk e=>by have:=cO.out;omega);change bodyPost _ _ _ _ _ (bC W6 B (.int .i64 0) (.int .i64 0) (.slice none 0 0));generalize bC W6 B (.int .i64 0) (.int .i64 0) (.slice none 0 0)=wf at *;refine bodyPost_ret (by simp [results,Tryz.results129,go_sem,f0,f1,f2];rfl) rfl ?_;rw [WS.out];exact ⟨rfl,dY⟩
   | inl x =>
    obtain ⟨⟨k2,m2,sF⟩,j3⟩:=x;rw [hr] at HC WS;clear HI1;go_wp2_with fail;refine HC.mono ?_;rintro e w5 ⟨o5,n5,d5,rfl,hs5,hq5⟩;obtain ⟨W6,uX⟩:∃ W6,W6=w5.alloc (.cells #[.int .i64 k2,.int .i64 m2,.slice o5 n5 d5] 24):=⟨_,rfl⟩;have hqa:ah w5 W6:=by rw [uX];exact ah.alloc _ _
    have hq6:ah wx W6:=hq5.trans hqa;have hnew:W6.heap[w5.heap.size]?=some (.cells #[.int .i64 k2,.int .i64 m2,.slice o5 n5 d5] 24 (0,0)):=by rw [uX];exact heap_alloc_new w5 _
    have vT:=hid (HB.out.stay hq6);have yK:=hid (HQ.out.trans hq6);have HS6:=hid (HS.out.fr (T:=fun b=>B+3<=b) hq6 (fun b _ h=>⟨h,fun h=>h⟩));have hz5:=hq5.size;have HS7:Hid (aB (fun b=>B+3<=b) W6 o5 n5 sF):=hs5.fr hqa (fun b _ h=>⟨by have h':wx.heap.size<=b:=h;show B+3<=b;omega,fun h=>h⟩);have hz6:B+3<=W6.heap.size:=by have:=hqa.size;omega
    go_upto_region 34 with fail
    change Code.wp _ _ _ _ (w5.alloc (.cells #[.int .i64 k2,.int .i64 m2,.slice o5 n5 d5] 24));rw [<-uX];clear HC hq5 hq6 hs5 uX hqa;generalize w5.heap.size=b16 at *;obtain ⟨t0,t1,t2,_,_,_⟩:=ay vT.out.t;obtain ⟨p0,p1,p2,_,_,_⟩:=ay hnew;obtain ⟨W7,Ak⟩:∃ W7,W7=W6.alloc (.cells #[.int .i64 k,.int .i64 m,.slice o n d,.int .i64 k2,.int .i64 m2,.slice o5 n5 d5] 24):=⟨_,rfl⟩;have hq7:ah W6 W7:=by rw [Ak];exact ah.alloc _ _
    have hrow:W7.heap[W6.heap.size]?=some (.cells #[.int .i64 k,.int .i64 m,.slice o n d,.int .i64 k2,.int .i64 m2,.slice o5 n5 d5] 24 (0,0)):=by rw [Ak];exact heap_alloc_new W6 _
    have xK:=hid (vT.out.stay hq7);have Ns:=hid (yK.out.trans hq7);have hsA:=HS6.out.fr (T:=fun b=>B+3<=b) hq7 (fun b _ h=>⟨h,fun h=>h⟩);have hsB:=HS7.out.fr (T:=fun b=>B+3<=b) hq7 (fun b _ h=>⟨h,fun h=>h⟩);rw [Ak] at xK;obtain ⟨r0,r1,r2,x0,x1,x2⟩:=ay xK.out.r;rw [<-Ak] at xK;go_wp2_with fail;change bodyPost _ _ _ _ _ (bC (W6.alloc (.cells #[.int .i64 k,.int .i64 m,.slice o n d,.int .i64 k2,.int .i64 m2,.slice o5 n5 d5] 24)) B (.int .i64 4) (.int .i64 0) (.slice (some ⟨W6.heap.size,0,none⟩) 2 2));rw [<-Ak];clear r0 r1 r2 x0 x1 x2 t0 t1 t2 p0 p1 p2 Ak;have hf:=bg W7 B (.int .i64 4) (.int .i64 0) (.slice (some ⟨W6.heap.size,0,none⟩) 2 2);obtain ⟨f0,f1,f2⟩:=aW (a:=.int .i64 4) (b:=.int .i64 0) (c:=.slice (some ⟨W6.heap.size,0,none⟩) 2 2) xK.out.r;have dY:ah w (bC W7 B (.int .i64 4) (.int .i64 0) (.slice (some ⟨W6.heap.size,0,none⟩) 2 2)):=Ns.out.trans' hf (fun k hk e=>by have:=cO.out;omega);have hrow2:=aC hf (by omega) hrow;have Y3:=hsA.fr (T:=fun b=>w.heap.size<=b) hf (fun b _ h=>⟨by have h':B+3<=b:=h;have:=cO.out;omega,fun e=>by have h':B+3<=b:=h;omega⟩);have Y4:=hsB.fr (T:=fun b=>w.heap.size<=b) hf (fun b _ h=>⟨by have h':B+3<=b:=h;have:=cO.out;omega,fun e=>by have h':B+3<=b:=h;omega⟩);generalize bC W7 B (.int .i64 4) (.int .i64 0) (.slice (some ⟨W6.heap.size,0,none⟩) 2 2)=wf at *;refine bodyPost_ret (by simp [results,Tryz.results129,go_sem,f0,f1,f2];rfl) rfl ?_;rw [WS.out];have hR:w.heap.size<=W6.heap.size:=by have:=cO.out;omega
    exact ⟨some ⟨W6.heap.size,0,none⟩,2,2,rfl,⟨rfl,by decide,fun _=>⟨W6.heap.size,0,rfl,hR,by rw [cell_of_row _ _ _ _ _ (0,0) hrow2];rfl,by rw [cell_of_row _ _ _ _ _ (0,0) hrow2];rfl,⟨o,n,d,by rw [cell_of_row _ _ _ _ _ (0,0) hrow2];rfl,Y3.1,Y3.2.1,Y3.2.2⟩,
     hR,by rw [cell_of_row _ _ _ _ _ (0,0) hrow2];rfl,by rw [cell_of_row _ _ _ _ _ (0,0) hrow2];rfl,⟨o5,n5,d5,by rw [cell_of_row _ _ _ _ _ (0,0) hrow2];rfl,Y4.1,Y4.2.1,Y4.2.2⟩,trivial⟩⟩,dY⟩
theorem II (ts:List Tok) (g c:Nat) (hsh:Shut ts):∀ f,RdT ts g c f
 | 0=>OV ts g c
 | f+1=>OW ts g c f hsh (II ts g c hsh f)
end Pa
end
end Go.Proofs.YtcninopmelmajaaGreatDoor
