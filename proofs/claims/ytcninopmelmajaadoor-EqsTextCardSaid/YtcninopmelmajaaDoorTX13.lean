/-
  Texts laid together (PaIs, PaTyp): laws and walks, with their conditions.
-/
import Derived.Test.YtcninopmelmajaaDoorTX11
set_option maxHeartbeats 8000000
set_option maxRecDepth 1000000
namespace Go.Proofs.YtcninopmelmajaaDoor
open Go.Lib (hid)
section
namespace Pa
open Go.RowKit Lx
structure nN (w:World) (g:Nat) (ts:List Tok):Prop where
 cells:Jc w g ts
 lt:g < w.heap.size
 few:ts.length<=1000000
theorem nN.stay {w w':World} {g:Nat} {ts:List Tok} (h:nN w g ts) (hq:ah w w'):nN w' g ts :=
 ⟨h.cells.stay h.lt hq,Nat.lt_of_lt_of_le h.lt hq.size,h.few⟩
abbrev tks (g:Nat) (ts:List Tok) (c:Nat):Value:=.slice (some ⟨g,0,none⟩) ts.length c
theorem ba_eq (a:List UInt8) (s:ByteArray):((dn a).toList == s.toList)=(a == s.data.toList):=by
 rw [ByteArray.toList_eq,ByteArray.toList_eq];rfl
theorem Sz {ts:List Tok} {i k:Nat} {s:List UInt8} (h:¬ i < ts.length):bZ ts i k s=false:=by
 unfold bZ;rw [List.getElem?_eq_none (by omega)]
theorem tH {ts:List Tok} {i k:Nat} {s:List UInt8} {t:Tok} (h:ts[i]?=some t):bZ ts i k s=(t.kind == k && t.text == s):=by
 unfold bZ;rw [h]
theorem kind_eq (a k:Nat):((a:Int) == (k:Int))=(a == k):=by
 rw [Bool.eq_iff_iff,beq_iff_eq,beq_iff_eq];omega
theorem Lm (ts : List Tok) (g c i k : Nat) (s : ByteArray) (w : World) (h : nN w g ts) :
    Calls Tryd.prog 63 #[tks g ts c,.int .i64 i,.int .i64 k,.string s] w fun e w'=>e=.returned (.bool (bZ ts i k s.data.toList))/\w=w':=by
 have hfew:=h.few
 by_cases hi:i < ts.length
 ·obtain ⟨t,ht⟩:∃ t,ts[i]?=some t:=⟨_,List.getElem?_eq_getElem hi⟩;obtain ⟨a0,a1,_,_⟩:=h.cells i t ht;rw [tH ht];have hi':(i:Int) < ts.length:=by omega
  have h0:(0:Int)<=i:=by omega
  have e1:=kind_eq t.kind k;have e2:=ba_eq t.text s;clear h ht;cases hk:(t.kind == k)
  ·rw [hk] at e1;go_enter Tryd.func63,Tryd.ntmps63;go_wp2_with fail;go_ret;exact ⟨rfl,rfl⟩
  ·rw [hk] at e1;rw [Bool.true_and];cases hs:(t.text == s.data.toList)
   ·rw [hs] at e2;go_enter Tryd.func63,Tryd.ntmps63;go_wp2_with fail;go_ret;exact ⟨rfl,rfl⟩
   ·rw [hs] at e2;go_enter Tryd.func63,Tryd.ntmps63;go_wp2_with fail;go_ret;exact ⟨rfl,rfl⟩
 ·have hi':¬ (i:Int) < ts.length:=by omega
  have h0:(0:Int)<=i:=by omega
  rw [Sz hi];clear h;go_enter Tryd.func63,Tryd.ntmps63;go_wp2_with fail;go_ret;exact ⟨rfl,rfl⟩
theorem lG (ts : List Tok) (g c i : Nat) (s : ByteArray) (w : World) (h : nN w g ts) :
    Calls Tryd.prog 47 #[tks g ts c,.int .i64 i,.string s] w fun e w'=>e=.returned (.bool (bZ ts i 3 s.data.toList))/\w=w':=by
 have HC:=hid (Lm ts g c i 3 s w h);clear h;generalize bZ ts i 3 s.data.toList=r at *;go_enter Tryd.func47,Tryd.ntmps47;go_wp2_with fail;refine HC.out.mono ?_;rintro e w1 ⟨rfl,rfl⟩;go_wp2_with fail;go_ret;exact ⟨rfl,rfl⟩
theorem BJ (ts : List Tok) (g c i : Nat) (s : ByteArray) (w : World) (h : nN w g ts) :
    Calls Tryd.prog 65 #[tks g ts c,.int .i64 i,.string s] w fun e w'=>e=.returned (.bool (bZ ts i 4 s.data.toList))/\w=w':=by
 have HC:=hid (Lm ts g c i 4 s w h);clear h;generalize bZ ts i 4 s.data.toList=r at *;go_enter Tryd.func65,Tryd.ntmps65;go_wp2_with fail;refine HC.out.mono ?_;rintro e w1 ⟨rfl,rfl⟩;go_wp2_with fail;go_ret;exact ⟨rfl,rfl⟩
theorem O4 (ts : List Tok) (g c i : Nat) (w : World) (h : nN w g ts) :
    Calls Tryd.prog 64 #[tks g ts c,.int .i64 i] w fun e w'=>e=.returned (.bool (oO ts i))/\w=w':=by
 have hfew:=h.few
 by_cases hi:i < ts.length
 ·obtain ⟨t,ht⟩:∃ t,ts[i]?=some t:=⟨_,List.getElem?_eq_getElem hi⟩;obtain ⟨a0,a1,_,_⟩:=h.cells i t ht;have hi':(i:Int) < ts.length:=by omega
  have h0:(0:Int)<=i:=by omega
  have e1:=kind_eq t.kind 1;have e:oO ts i=(t.kind == 1):=by unfold oO;rw [ht]
  rw [e];clear h ht e a1;cases hk:(t.kind == 1)
  ·rw [hk] at e1;have e1':((t.kind:Int) == 1)=false:=e1;clear e1;go_enter Tryd.func64,Tryd.ntmps64;go_wp2_with fail;go_ret;exact ⟨rfl,rfl⟩
  ·rw [hk] at e1;have e1':((t.kind:Int) == 1)=true:=e1;clear e1;go_enter Tryd.func64,Tryd.ntmps64;go_wp2_with fail;go_ret;exact ⟨rfl,rfl⟩
 ·have hi':¬ (i:Int) < ts.length:=by omega
  have e:oO ts i=false:=by unfold oO;rw [List.getElem?_eq_none (by omega)]
  rw [e];clear h e;go_enter Tryd.func64,Tryd.ntmps64;go_wp2_with fail;go_ret;exact ⟨rfl,rfl⟩
theorem SA {ts:List Tok} {i:Nat} {t:Tok} (h:ts[i]?=some t):oh ts i=(t.kind == 1 || t.kind == 2 || bZ ts i 3 vP || bZ ts i 3 BK || bZ ts i 4 nX):=by
 unfold oh;rw [h,tH h,tH h,tH h]
theorem kE (ts : List Tok) (g c i : Nat) (w : World) (h : nN w g ts) :
    Calls Tryd.prog 50 #[tks g ts c,.int .i64 i] w fun e w'=>e=.returned (.bool (oh ts i))/\w=w':=by
 have hfew:=h.few
 by_cases hi:i < ts.length
 ·obtain ⟨t,ht⟩:∃ t,ts[i]?=some t:=⟨_,List.getElem?_eq_getElem hi⟩;obtain ⟨a0,a1,_,_⟩:=h.cells i t ht;have hi':(i:Int) < ts.length:=by omega
  have h0:(0:Int)<=i:=by omega
  have e1:=kind_eq t.kind 1;have e2:=kind_eq t.kind 2;rw [SA ht];have H1:Hid (Calls Tryd.prog 47 #[tks g ts c,.int .i64 i,.string ⟨#[116,114,117,101]⟩] w fun e w'=>e=.returned (.bool (bZ ts i 3 vP))/\w=w'):=lG ts g c i _ w h;have H2:Hid (Calls Tryd.prog 47 #[tks g ts c,.int .i64 i,.string ⟨#[102,97,108,115,101]⟩] w fun e w'=>e=.returned (.bool (bZ ts i 3 BK))/\w=w'):=lG ts g c i _ w h;have H3:Hid (Calls Tryd.prog 65 #[tks g ts c,.int .i64 i,.string ⟨#[40]⟩] w fun e w'=>e=.returned (.bool (bZ ts i 4 nX))/\w=w'):=BJ ts g c i _ w h;clear h ht a1;generalize bZ ts i 3 vP=r1 at *;generalize bZ ts i 3 BK=r2 at *;generalize bZ ts i 4 nX=r3 at *;cases hk:(t.kind == 1)
  ·cases hk2:(t.kind == 2)
   ·rw [hk] at e1;rw [hk2] at e2;have e1':((t.kind:Int) == 1)=false:=e1;have e2':((t.kind:Int) == 2)=false:=e2;clear e1 e2;go_enter Tryd.func50,Tryd.ntmps50;go_wp2_with fail;refine H1.out.mono ?_;rintro e w1 ⟨rfl,rfl⟩;cases r1
    ·go_wp2_with fail;refine H2.out.mono ?_;rintro e w1 ⟨rfl,rfl⟩;cases r2
     ·go_wp2_with fail;refine H3.out.mono ?_;rintro e w1 ⟨rfl,rfl⟩;go_wp2_with fail;go_ret;exact ⟨rfl,rfl⟩
     ·go_wp2_with fail;go_ret;exact ⟨rfl,rfl⟩
    ·go_wp2_with fail;go_ret;exact ⟨rfl,rfl⟩
   ·rw [hk] at e1;rw [hk2] at e2;have e1':((t.kind:Int) == 1)=false:=e1;have e2':((t.kind:Int) == 2)=true:=e2;clear e1 e2;go_enter Tryd.func50,Tryd.ntmps50;go_wp2_with fail;go_ret;exact ⟨rfl,rfl⟩
  ·rw [hk] at e1;have e1':((t.kind:Int) == 1)=true:=e1;clear e1 e2;go_enter Tryd.func50,Tryd.ntmps50;go_wp2_with fail;go_ret;exact ⟨rfl,rfl⟩
 ·have hi':¬ (i:Int) < ts.length:=by omega
  have e:oh ts i=false:=by unfold oh;rw [List.getElem?_eq_none (by omega)]
  rw [e];clear h e;go_enter Tryd.func50,Tryd.ntmps50;go_wp2_with fail;go_ret;exact ⟨rfl,rfl⟩
end Pa
end
section
namespace Pa
open Go.RowKit Lx
structure lH (w:World) (T:Nat->Prop) (v:Value) (f:Fo) (xs:List Value):Prop where
 own:w.ownsRow 0 25 3 v f.length xs
 low:∀ k,v.ownBlock=some k->T k
 cells:RowOf (fun k=>T k/\v.ownBlock≠some k) w xs f
theorem lH.fr {w w':World} {T:Nat->Prop} {v:Value} {f:Fo} {xs:List Value} {S:Nat->Prop} (h:lH w T v f xs) (hf:Fr S w w') (hS:∀ k,T k->¬ S k):lH w' T v f xs :=
 ⟨aU h.own hf (fun k hk hs=>hS k (h.low k hk) hs),h.low,RowOf.fr hf (fun k _ hk=>⟨hk,hS k hk.1⟩) f xs h.cells⟩
theorem lH.stay {w w':World} {T:Nat->Prop} {v:Value} {f:Fo} {xs:List Value} (h:lH w T v f xs) (hf:ah w w'):lH w' T v f xs:=h.fr hf (fun _ _ h=>h)
theorem lH.snoc {W w1 : World} {T : Nat -> Prop} {v : Value} {f : Fo} {xs : List Value} {k n : Int} {ps : Fo} {o : Option Addr} {len cap g c : Nat} (hr : lH W T v f xs)
    (hs:aB (fun k=>T k/\v.ownBlock≠some k) W o len ps)
    (ho:w1.ownsRow 0 25 3 (.slice (some ⟨g,0,none⟩) (f.length+1) c) (f.length+1) (xs++[.int .i64 k,.int .i64 n,.slice o len cap])) (hf:Fr (fun k=>v.ownBlock=some k) W w1) (hg:v.ownBlock=some g∨W.heap.size<=g) (hT:∀ k,W.heap.size<=k->T k) :
    lH w1 T (.slice (some ⟨g,0,none⟩) (f.length+1) c) (f.app (.cons k n ps .nil)) (xs++[.int .i64 k,.int .i64 n,.slice o len cap]):=by
 refine ⟨by rw [Fo.bJ];exact ho,?_,?_⟩
 ·intro k hk;simp [Value.ownBlock] at hk;subst hk;rcases hg with h | h
  ·exact hr.low g h
  ·exact hT _ h
 ·have hk : ∀ k, k < W.heap.size -> (T k /\ v.ownBlock ≠ some k) -> ((T k /\ (Value.slice (some ⟨g, 0, none⟩) (f.length + 1) c).ownBlock ≠ some k) /\ ¬ v.ownBlock = some k) := by
    rintro k hk ⟨h1,h2⟩;refine ⟨⟨h1,fun h=>?_⟩,h2⟩;simp [Value.ownBlock] at h;subst h;rcases hg with h | h
    ·exact h2 h
    ·omega
  exact RowOf.snoc (hs.fr hf hk) f xs (RowOf.fr hf hk f xs hr.cells)
theorem lH.slc {w:World} {T:Nat->Prop} {o:Option Addr} {len cap:Nat} {f:Fo} {xs:List Value} (h:lH w T (.slice o len cap) f xs) (hl:len=f.length) (hm:len<=maxLen):aB T w o len f:=by
 refine ⟨hl,hm,fun h0=>?_⟩;rcases h.own.2 with ⟨_,h2⟩ | ⟨g,cap',cur,he,_⟩
 ·omega
 ·injection he with h1 h2 h3
  subst h1;refine ⟨g,0,rfl,RowOf.at (h.low g rfl) f xs 0 (RowOf.fr (Fr.refl (fun _=>False) w) (fun k _ hk=>⟨hk.1,fun h=>h⟩) f xs h.cells) ?_⟩;intro j u hj;have:=h.own.cells (g:=g) rfl j u hj;simpa [Addr.add_lit] using this
def GX (w:World) (r:l7) (e:Ending) (w':World):Prop:=match r with
 | .inl ((k,m,qs),j)=>∃ o n c,e=.returned (.tuple #[.agg #[.int .i64 k,.int .i64 m,.slice o n c],.int .i64 (j:Nat),.int .i64 0])/\aB (fun b=>w.heap.size<=b) w' o n qs/\ah w w'
 | .inr (j,er)=>e=.returned (.tuple #[.agg #[.int .i64 0,.int .i64 0,.slice none 0 0],.int .i64 (j:Nat),.int .i64 (er:Nat)])/\ah w w'
structure Bx (W:World) (B:Nat) (k m:Int) (v:Value):Prop where
 r:W.heap[B]?=some (.cells #[.int .i64 0,.int .i64 0,.slice none 0 0] 25 (0,0))
 z:W.heap[B+1]?=some (.cells #[.int .i64 0,.int .i64 0,.slice none 0 0] 25 (0,0))
 t:W.heap[B+1+1]?=some (.cells #[.int .i64 k,.int .i64 m,v] 25 (0,0))
theorem Bx.fr {W W':World} {B:Nat} {k m:Int} {v:Value} {S:Nat->Prop} (h:Bx W B k m v) (hf:Fr S W W') (h0:¬ S B) (h1:¬ S (B+1)) (h2:¬ S (B+1+1)):Bx W' B k m v :=
 ⟨aC hf h0 h.r,aC hf h1 h.z,aC hf h2 h.t⟩
theorem Bx.stay {W W':World} {B:Nat} {k m:Int} {v:Value} (h:Bx W B k m v) (hf:ah W W'):Bx W' B k m v:=h.fr hf (fun h=>h) (fun h=>h) (fun h=>h)
theorem BL {w : World} {B : Nat} {a b c a' b' c' : Value} {t : TypeId} (h : w.heap[B]? = some (.cells #[a', b', c'] t (0, 0))) :
    (bf w B a b c).heap[B]?=some (.cells #[a,b,c] t (0,0)):=ji (u:=c) (iW (u:=b) (jk (u:=a) h))
theorem Bx.put {W:World} {B:Nat} {k m k' m':Int} {v v':Value} (h:Bx W B k m v):Bx (bf W (B+1+1) (.int .i64 k') (.int .i64 m') v') B k' m' v':=by
 have hf:=aZ W (B+1+1) (.int .i64 k') (.int .i64 m') v';exact ⟨aC hf (by omega) h.r,aC hf (by omega) h.z,BL h.t⟩
def WZ (ts:List Tok) (f i:Nat) (w:World) (B:Nat) (t:Value) (wx:World):Prop :=
 ∃ (k m:Int) (qs:Fo) (j:Nat) (o:Option Addr) (n c:Nat),t=.int .i64 (j:Nat)/\Bx wx B k m (.slice o n c)/\aB (fun b=>B+3<=b) wx o n qs/\jv (qh ts f) ts i=.inl ((k,m,qs),j)/\j < ts.length/\ah w wx
theorem Xa {ps:Fo} (h:ps.length=1):∃ k m qs,ps=.cons k m qs .nil:=by
 match ps,h with
 | .cons k m qs .nil,_=>exact ⟨k,m,qs,rfl⟩
 | .cons _ _ _ (.cons _ _ _ _),h=>simp [Fo.length] at h
def Xb (ts:List Tok) (f:Nat) (fin:Sum (Fo × Nat) (Nat × Nat)) (w:World) (B pb:Nat) (t:Value) (wx:World):Prop :=
 ∃ (ps:Fo) (j n g c:Nat) (xs:List Value),t=.int .i64 (j:Nat)/\j < ts.length/\ps.length+n=9/\1<=ps.length/\1<=n/\Bx wx B 5 0 (.slice (some ⟨g,0,none⟩) ps.length c) /\
  (∃ x y z,wx.heap[pb]?=some (.cells #[x,y,z] 25 (0,0)))/\lH wx (fun b=>B+3<=b/\b≠pb) (.slice (some ⟨g,0,none⟩) ps.length c) ps xs/\gV (qh ts f) ts n ps j=fin/\ah w wx
theorem Xc {T:Nat->l7} {ts:List Tok} {n:Nat} {ps:Fo} {j:Nat} (h:bZ ts j 4 BM=false):gV T ts n ps j=.inl (ps,j):=by
 cases n with
 | zero=>rfl
 | succ n=>unfold gV;rw [if_neg (by rw [h];simp)]
theorem O5 {T:Nat->l7} {ts:List Tok} {n:Nat} {ps:Fo} {j:Nat} (h:bZ ts j 4 BM=true) (h8:8<=ps.length) (hn:1<=n):gV T ts n ps j=.inr (j,6):=by
 obtain ⟨m,rfl⟩:∃ m,n=m+1:=⟨n-1,by omega⟩;unfold gV;rw [if_pos h,if_pos h8]
theorem SB {T:Nat->l7} {ts:List Tok} {n:Nat} {ps:Fo} {j:Nat} {x:Nat × Nat} (h:bZ ts j 4 BM=true) (h8:¬ 8<=ps.length) (hn:1<=n) (ht:T (j+1)=.inr x):gV T ts n ps j=.inr x:=by
 obtain ⟨m,rfl⟩:∃ m,n=m+1:=⟨n-1,by omega⟩;unfold gV;rw [if_pos h,if_neg h8,ht]
theorem O6 {T:Nat->l7} {ts:List Tok} {n:Nat} {ps:Fo} {j:Nat} {k m:Int} {qs:Fo} {j':Nat} (h:bZ ts j 4 BM=true) (h8:¬ 8<=ps.length) (hn:1<=n) (ht:T (j+1)=.inl ((k,m,qs),j')):gV T ts n ps j=gV T ts (n-1) (ps.app (.cons k m qs .nil)) j':=by
 obtain ⟨l,rfl⟩:∃ l,n=l+1:=⟨n-1,by omega⟩
 conv=>lhs;unfold gV
 rw [if_pos h,if_neg h8,ht];rfl
theorem Xd {ts:List Tok} {ps:Fo} {j:Nat} (h:bZ ts j 4 iw=false):oP ts (.inl (ps,j))=.inr (j,3):=by
 show (if bZ ts j 4 iw=true then _ else _)=_;rw [if_neg (by rw [h];simp)]
theorem SC {ts:List Tok} {k m:Int} {qs:Fo} {j:Nat} (h:bZ ts j 4 iw=true):oP ts (.inl (.cons k m qs .nil,j))=.inl ((k,m,qs),j+1):=by
 show (if bZ ts j 4 iw=true then _ else _)=_;rw [if_pos h]
theorem O7 {ts:List Tok} {ps:Fo} {j:Nat} (h:bZ ts j 4 iw=true) (h1:ps.length≠1):oP ts (.inl (ps,j))=.inl ((5,0,ps),j+1):=by
 show (if bZ ts j 4 iw=true then _ else _)=_;rw [if_pos h]
 split
 ·next k m qs=>exact absurd rfl h1
 ·rfl
def RdT (ts:List Tok) (g c f:Nat):Prop:=∀ (i:Nat) (ai lv mo:Int) (W:World),ai=i->i < ts.length->nN W g ts->f=(mo+1-lv).toNat->-1000000<=lv->lv<=1000000->-1000000<=mo->mo<=900000 ->
 Calls Tryd.prog 80 #[tks g ts c,.int .i64 ai,.int .i64 lv,.int .i64 mo] W (GX W (qh ts f i))
theorem SE {T:Nat->l7} {ts:List Tok} {i:Nat} (h:bZ ts i 3 Lp=true):jv T ts i=.inl ((2,0,.nil),i+1):=by unfold jv;rw [if_pos h]
theorem O8 {T:Nat->l7} {ts:List Tok} {i:Nat} (h1:bZ ts i 3 Lp=false) (h:bZ ts i 3 Fh=true):jv T ts i=.inl ((3,0,.nil),i+1):=by unfold jv;rw [if_neg (by rw [h1];simp),if_pos h]
theorem Fj {T:Nat->l7} {ts:List Tok} {i:Nat} (h1:bZ ts i 3 Lp=false) (h2:bZ ts i 3 Fh=false) (h:bZ ts i 4 nX=true):jv T ts i=SG T ts (T (i+1)):=by unfold jv;rw [if_neg (by rw [h1];simp),if_neg (by rw [h2];simp),if_pos h]
theorem Xe {T:Nat->l7} {ts:List Tok} {i:Nat} (h1:bZ ts i 3 Lp=false) (h2:bZ ts i 3 Fh=false) (h:bZ ts i 4 nX=false):jv T ts i=.inr (i,3):=by unfold jv;rw [if_neg (by rw [h1];simp),if_neg (by rw [h2];simp),if_neg (by rw [h];simp)]
theorem aaY (ts : List Tok) (g c i k : Nat) (s : ByteArray) (w : World) (ai : Int) (ea : ai = i) (h : nN w g ts) :
    Calls Tryd.prog 63 #[tks g ts c,.int .i64 ai,.int .i64 k,.string s] w fun e w'=>e=.returned (.bool (bZ ts i k s.data.toList))/\w=w':=by
 subst ea;exact Lm ts g c i k s w h
abbrev Aw:Obj:=.cells #[.int .i64 0,.int .i64 0,.slice none 0 0] 25
theorem O9 (ts:List Tok) (g c:Nat):RdT ts g c 0:=by
 intro i ai lv mo w ea hi ht hf h1 h2 h3 h4;subst ea;have hlt:lv > mo:=by omega
 have hlt':mo < lv:=hlt;clear hf;have HQ:Hid (ah w ((w.alloc Aw).alloc Aw)):=(ah.alloc _ _).trans (ah.alloc _ _);have hb0:((w.alloc Aw).alloc Aw).heap[w.heap.size]?=some (.cells #[.int .i64 0,.int .i64 0,.slice none 0 0] 25 (0,0)):=by
  rw [Below.heap_alloc _ _ _ (by simp)];exact heap_alloc_new w _
 have HB0:=hid hb0;clear hb0 ht;go_enter Tryd.func80,Tryd.ntmps80;go_wp2_with fail;change bodyPost _ _ _ _ _ ((w.alloc Aw).alloc Aw);generalize (w.alloc Aw).alloc Aw=wf at *;obtain ⟨f0,f1,f2,_,_,_⟩:=ay HB0.out;refine bodyPost_ret (by simp [results,Tryd.results80,go_sem,f0,f1,f2];rfl) rfl ?_;exact ⟨rfl,HQ.out⟩
theorem Pg (ts:List Tok) (g c f:Nat) (hsh:Shut ts) (ih:RdT ts g c f):RdT ts g c (f+1):=by
 intro i ai lv mo w ea hi ht hf h1 h2 h3 h4;subst ea;have hfew:=ht.few;have hle:¬ lv > mo:=by omega
 have hle':lv<=mo:=by omega
 have hf2:f=(mo+1-(lv+1)).toNat:=by omega
 have HIH:Hid (∀ (j:Nat) (aj:Int) (W:World),aj=j->j < ts.length->ah w W->Calls Tryd.prog 80 #[tks g ts c,.int .i64 aj,.int .i64 (lv+1),.int .i64 mo] W (GX W (qh ts f j))):=fun j aj W ej hj hq=>ih j aj (lv+1) mo W ej hj (ht.stay hq) hf2 (by omega) (by omega) h3 h4
 have uN:Hid (∀ j,j < ts.length->xG ts.length j (qh ts f j)):=fun j hj=>BN hsh f j hj
 have HIS:Hid (∀ (j k:Nat) (s:ByteArray) (aj:Int) (W:World),aj=j->ah w W->Calls Tryd.prog 63 #[tks g ts c,.int .i64 aj,.int .i64 k,.string s] W fun e w'=>e=.returned (.bool (bZ ts j k s.data.toList))/\W=w'):=fun j k s aj W ej hq=>aaY ts g c j k s W aj ej (ht.stay hq)
 have Es:=hid hsh;have acG:Hid (∀ W,ah w W->Calls Tryd.prog 63 #[tks g ts c,.int .i64 i,.int .i64 3,.string ⟨#[105,110,116]⟩] W fun e w'=>e=.returned (.bool (bZ ts i 3 Lp))/\W=w'):=fun W hq=>HIS.out i 3 _ _ W rfl hq
 have aaZ:Hid (∀ W,ah w W->Calls Tryd.prog 63 #[tks g ts c,.int .i64 i,.int .i64 3,.string ⟨#[98,111,111,108]⟩] W fun e w'=>e=.returned (.bool (bZ ts i 3 Fh))/\W=w'):=fun W hq=>HIS.out i 3 _ _ W rfl hq
 have aa0:Hid (∀ W,ah w W->Calls Tryd.prog 63 #[tks g ts c,.int .i64 i,.int .i64 4,.string ⟨#[40]⟩] W fun e w'=>e=.returned (.bool (bZ ts i 4 nX))/\W=w'):=fun W hq=>HIS.out i 4 _ _ W rfl hq
 have aa1:Hid (∀ (j:Nat) (W:World),ah w W->Calls Tryd.prog 63 #[tks g ts c,.int .i64 j,.int .i64 4,.string ⟨#[42]⟩] W fun e w'=>e=.returned (.bool (bZ ts j 4 BM))/\W=w'):=fun j W hq=>HIS.out j 4 _ _ W rfl hq
 have Zi:Hid (∀ (j:Nat) (W:World),ah w W->Calls Tryd.prog 63 #[tks g ts c,.int .i64 j,.int .i64 4,.string ⟨#[41]⟩] W fun e w'=>e=.returned (.bool (bZ ts j 4 iw))/\W=w'):=fun j W hq=>HIS.out j 4 _ _ W rfl hq
 have acH:Hid (∀ (j:Nat) (W:World),ah w W->Calls Tryd.prog 63 #[tks g ts c,.int .i64 j,.int .i64 4,.string ⟨#[45,62]⟩] W fun e w'=>e=.returned (.bool (bZ ts j 4 BO))/\W=w'):=fun j W hq=>HIS.out j 4 _ _ W rfl hq
 obtain ⟨W0,hW0⟩:∃ W0,W0=((w.alloc Aw).alloc Aw).alloc Aw:=⟨_,rfl⟩;have bD:Hid (ah w W0):=by rw [hW0];exact ((ah.alloc _ _).trans (ah.alloc _ _)).trans (ah.alloc _ _)
 have sK:Hid (Bx W0 w.heap.size 0 0 (.slice none 0 0)):=by
  refine ⟨?_,?_,?_⟩
  ·rw [hW0,Below.heap_alloc _ _ _ (by simp;omega),Below.heap_alloc _ _ _ (by simp)];exact heap_alloc_new w _
  ·rw [hW0,Below.heap_alloc _ _ _ (by simp)];have:=heap_alloc_new (w.alloc Aw) Aw;simpa using this
  ·rw [hW0];have:=heap_alloc_new ((w.alloc Aw).alloc Aw) Aw;simpa using this
 have hz0:w.heap.size+3<=W0.heap.size:=by rw [hW0];simp
 have HZ0:=hid hz0;clear hf hf2 ht ih hsh hz0;go_enter Tryd.func80,Tryd.ntmps80;go_upto_block 0 with (fail)
 change Code.wp _ _ _ _ (((w.alloc Aw).alloc Aw).alloc Aw);rw [<-hW0];clear hW0;generalize hB:w.heap.size=B at *;have bY:=hid hB;clear hB;go_cut [1] (fun t wx=>WZ ts f i w B t wx)
 case first =>
  obtain ⟨t0,t1,t2,y0,y1,y2⟩:=ay sK.out.t;obtain ⟨z0,z1,z2,_,_,_⟩:=ay sK.out.z;obtain ⟨r0,r1,r2,x0,x1,x2⟩:=ay sK.out.r;have hps:=aZ W0 (B+1+1);go_wp2_with fail;refine (acG.out W0 bD.out).mono ?_;rintro e w1 ⟨rfl,rfl⟩;cases c1:bZ ts i 3 Lp
  case true =>
   have hlt:=dN Es.out c1 (by decide);go_wp2_with fail;go_meet;exact ⟨2,0,.nil,i+1,none,0,0,by go_num,sK.out.put,aB.nil _ _ _,SE c1,by omega,bD.out.trans' (hps _ _ _) (fun k hk e=>by have:=bY.out;omega)⟩
  case false =>
  go_wp2_with fail;refine (aaZ.out W0 bD.out).mono ?_;rintro e w1 ⟨rfl,rfl⟩;cases c2:bZ ts i 3 Fh
  case true =>
   have hlt:=dN Es.out c2 (by decide);go_wp2_with fail;go_meet;exact ⟨3,0,.nil,i+1,none,0,0,by go_num,sK.out.put,aB.nil _ _ _,O8 c1 c2,by omega,bD.out.trans' (hps _ _ _) (fun k hk e=>by have:=bY.out;omega)⟩
  case false =>
  go_wp2_with fail;refine (aa0.out W0 bD.out).mono ?_;rintro e w1 ⟨rfl,rfl⟩;cases c3:bZ ts i 4 nX
  case false =>
   clear t0 t1 t2 y0 y1 y2;go_wp2_with fail;have hf:=aZ W0 B (.int .i64 0) (.int .i64 0) (.slice none 0 0);obtain ⟨f0,f1,f2⟩:=aV (a:=.int .i64 0) (b:=.int .i64 0) (c:=.slice none 0 0) (sK.out).r;have dU:ah w (bf W0 B (.int .i64 0) (.int .i64 0) (.slice none 0 0)):=(bD.out).trans' hf (fun k hk e=>by have:=bY.out;omega);change bodyPost _ _ _ _ _ (bf W0 B (.int .i64 0) (.int .i64 0) (.slice none 0 0));generalize bf W0 B (.int .i64 0) (.int .i64 0) (.slice none 0 0)=wf at *;refine bodyPost_ret (by simp [results,Tryd.results80,go_sem,f0,f1,f2];rfl) rfl ?_;rw [show qh ts (f+1) i=.inr (i,3) from by unfold qh;rw [Xe c1 c2 c3];rfl];exact ⟨rfl,dU⟩
  case true =>
  have hlt:=dN Es.out c3 (by decide);have HC:=HIH.out (i+1) ((i:Int)+1) W0 (by omega) hlt bD.out;have HI1:=uN.out (i+1) hlt;cases hr:qh ts f (i+1) with
  | inr x =>
   obtain ⟨j,er⟩:=x;rw [hr] at HC HI1;have hne:er≠0:=HI1.2;have hne2:((er:Int) != 0)=true:=by simp [hne]
   clear t0 t1 t2 y0 y1 y2 z0 z1 z2 r0 r1 r2 x0 x1 x2 HI1 hps;go_wp2_with fail;refine HC.mono ?_;rintro e w1 ⟨rfl,hq1⟩;obtain ⟨W2,hW2⟩:∃ W2,W2=w1.alloc Aw:=⟨_,rfl⟩;have hq2:ah W0 W2:=by rw [hW2];exact hq1.trans (ah.alloc _ _)
   have Zj:=hid (sK.out.stay hq2);have fD:=hid (bD.out.trans hq2);obtain ⟨z0,z1,z2,_,_,_⟩:=ay Zj.out.z;obtain ⟨r0,r1,r2,x0,x1,x2⟩:=ay Zj.out.r;clear HC hq1 hq2;go_upto_region 12 with fail
   change Code.wp _ _ _ _ (w1.alloc Aw);rw [<-hW2];clear hW2;go_wp2_with fail;have hf:=aZ W2 B (.int .i64 0) (.int .i64 0) (.slice none 0 0);obtain ⟨f0,f1,f2⟩:=aV (a:=.int .i64 0) (b:=.int .i64 0) (c:=.slice none 0 0) (Zj.out).r;have dU:ah w (bf W2 B (.int .i64 0) (.int .i64 0) (.slice none 0 0)):=(fD.out).trans' hf (fun k hk e=>by have:=bY.out;omega);change bodyPost _ _ _ _ _ (bf W2 B (.int .i64 0) (.int .i64 0) (.slice none 0 0));generalize bf W2 B (.int .i64 0) (.int .i64 0) (.slice none 0 0)=wf at *;refine bodyPost_ret (by simp [results,Tryd.results80,go_sem,f0,f1,f2];rfl) rfl ?_;rw [show qh ts (f+1) i=.inr (j,er) from by unfold qh;rw [Fj c1 c2 c3,hr];rfl];exact ⟨rfl,dU⟩
  | inl x =>
   obtain ⟨⟨k,m,qs⟩,j⟩:=x;rw [hr] at HC HI1;have hj1:i+1 < j/\j < ts.length:=HI1;clear t0 t1 t2 y0 y1 y2 z0 z1 z2 r0 r1 r2 x0 x1 x2 HI1 hps;go_wp2_with fail;refine HC.mono ?_;rintro e w1 ⟨o1,n1,d1,rfl,hs1,hq1⟩;obtain ⟨W2,hW2⟩:∃ W2,W2=w1.alloc (.cells #[.int .i64 k,.int .i64 m,.slice o1 n1 d1] 25):=⟨_,rfl⟩;obtain ⟨pb,hpb⟩:∃ pb,pb=w1.heap.size:=⟨_,rfl⟩;have HPB:Hid (W2.heap[pb]?=some (.cells #[.int .i64 k,.int .i64 m,.slice o1 n1 d1] 25 (0,0))):=by show _=_;rw [hW2,hpb];exact heap_alloc_new w1 _
   have hqa:ah w1 W2:=by rw [hW2];exact ah.alloc _ _
   have hq2:ah W0 W2:=hq1.trans hqa;have acI:=hid (sK.out.stay hq2);have fC:=hid (bD.out.trans hq2);have hpz:B+3<=pb:=by have:=HZ0.out;have:=hq1.size;omega
   have acJ:W2.heap.size=pb+1:=by rw [hW2,hpb];simp
   have HS2:Hid (aB (fun b=>B+3<=b/\b≠pb) W2 o1 n1 qs):=hs1.fr hqa (fun b hb h=>⟨⟨by have h':W0.heap.size<=b:=h;have:=HZ0.out;omega,by omega⟩,fun h=>h⟩);clear HC hq1 hq2 hs1;go_upto_region 14 with fail
   change Code.wp _ _ _ _ (w1.alloc (.cells #[.int .i64 k,.int .i64 m,.slice o1 n1 d1] 25));rw [<-hW2,<-hpb];clear hW2 hpb hqa;obtain ⟨p0,p1,p2,_,_,_⟩:=ay HPB.out;obtain ⟨W3,hW3⟩:∃ W3,W3=W2.alloc (.cells #[.int .i64 k,.int .i64 m,.slice o1 n1 d1] 25):=⟨_,rfl⟩;have hq3:ah W2 W3:=by rw [hW3];exact ah.alloc _ _
   have hg3:W3.heap[W2.heap.size]?=some (.cells #[.int .i64 k,.int .i64 m,.slice o1 n1 d1] 25 (0,0)):=by rw [hW3];exact heap_alloc_new W2 _
   have Xf:=hid (acI.out.stay hq3);have qI:=hid (fC.out.trans hq3);have aa2:=aC hq3 (fun h=>h) HPB.out;have hs3:=HS2.out.fr (T:=fun b=>B+3<=b/\b≠pb) hq3 (fun b hb h=>⟨h,fun h=>h⟩);have HR3:Hid (lH W3 (fun b=>B+3<=b/\b≠pb) (.slice (some ⟨pb+1,0,none⟩) 1 1) (.cons k m qs .nil) [.int .i64 k,.int .i64 m,.slice o1 n1 d1]):=by
    rw [acJ] at hg3;refine ⟨⟨rfl,.inr ⟨pb+1,1,_,rfl,Nat.zero_le _,hg3,Nat.le_refl _,by decide,rfl,rfl⟩⟩,fun b hb=>?_,⟨o1,n1,d1,[],rfl,HS2.out.fr hq3 (fun b hb h=>⟨⟨h,fun e=>by simp [Value.ownBlock] at e;omega⟩,fun h=>h⟩),rfl⟩⟩;simp [Value.ownBlock] at hb;subst hb;exact ⟨by omega,by omega⟩
   rw [hW3] at Xf;obtain ⟨t0,t1,t2,y0,y1,y2⟩:=ay Xf.out.t;rw [<-hW3] at Xf;go_upto_region 15 with fail
   change Code.wp _ _ _ _ (bf (W2.alloc (.cells #[.int .i64 k,.int .i64 m,.slice o1 n1 d1] 25)) (B+1+1) (.int .i64 5) (.int .i64 0) (.slice (some ⟨pb+1,0,none⟩) 1 1));rw [<-hW3];clear t0 t1 t2 y0 y1 y2 p0 p1 p2 hW3 hg3 hs3;have hfL:=aZ W3 (B+1+1) (.int .i64 5) (.int .i64 0) (.slice (some ⟨pb+1,0,none⟩) 1 1);have acK:Hid (Bx (bf W3 (B+1+1) (.int .i64 5) (.int .i64 0) (.slice (some ⟨pb+1,0,none⟩) 1 1)) B 5 0 (.slice (some ⟨pb+1,0,none⟩) 1 1)):=Xf.out.put;have EH:=hid (HR3.out.fr hfL (fun b h e=>by have:=h.1;omega));have HQL:Hid (ah w (bf W3 (B+1+1) (.int .i64 5) (.int .i64 0) (.slice (some ⟨pb+1,0,none⟩) 1 1))):=qI.out.trans' hfL (fun b hb e=>by have:=bY.out;omega);have HPL:=hid (aC hfL (by omega) aa2);generalize bf W3 (B+1+1) (.int .i64 5) (.int .i64 0) (.slice (some ⟨pb+1,0,none⟩) 1 1)=WL at *;obtain ⟨fin,hfin⟩:∃ fin,gV (qh ts f) ts 8 (.cons k m qs .nil) j=fin:=⟨_,rfl⟩;have Xg:Hid (jv (qh ts f) ts i=oP ts fin):=by show _=_;rw [Fj c1 c2 c3,hr,<-hfin];rfl
   have bF:=hid hfin;clear hfin hr hq3 hfL aa2;go_wp2_with fail;go_loopw [1] (fun t wr=>Xb ts f fin w B pb t wr) (fun t _=>ts.length-(intOf t).toNat)
   case atStart=>exact ⟨.cons k m qs .nil,j,8,pb+1,1,_,rfl,hj1.2,rfl,Nat.le_refl _,by omega,acK.out,⟨_,_,_,HPL.out⟩,EH.out,bF.out,HQL.out⟩
   case round =>
    obtain ⟨ps,j2,n,g2,c2',xs,rfl,hj2,hn9,hp1,hn1,hbx,⟨x9,y9,z9,aa3⟩,hrow,hst,hq⟩:=hrel;have xH:=hid hbx;have Az:=hid hq;have HRR:=hid hrow;have yK:=hid aa3;have HST:=hid hst;clear hbx hrow aa3 hst hq;go_wp2_with fail;refine (aa1.out j2 wr Az.out).mono ?_;rintro e w4 ⟨rfl,rfl⟩;cases cs:bZ ts j2 4 BM
    case false =>
     have SH:fin=.inl (ps,j2):=by rw [<-HST.out,Xc cs]
     go_wp2_with fail;refine (Zi.out j2 wr Az.out).mono ?_;rintro e w4 ⟨rfl,rfl⟩;cases cc:bZ ts j2 4 iw
     case false =>
      obtain ⟨z0,z1,z2,_,_,_⟩:=ay xH.out.z;obtain ⟨r0,r1,r2,x0,x1,x2⟩:=ay xH.out.r;go_wp2_with fail;have hf:=aZ wr B (.int .i64 0) (.int .i64 0) (.slice none 0 0);obtain ⟨f0,f1,f2⟩:=aV (a:=.int .i64 0) (b:=.int .i64 0) (c:=.slice none 0 0) (xH.out).r;have dU:ah w (bf wr B (.int .i64 0) (.int .i64 0) (.slice none 0 0)):=(Az.out).trans' hf (fun k hk e=>by have:=bY.out;omega);change bodyPost _ _ _ _ _ (bf wr B (.int .i64 0) (.int .i64 0) (.slice none 0 0));generalize bf wr B (.int .i64 0) (.int .i64 0) (.slice none 0 0)=wf at *;refine bodyPost_ret (by simp [results,Tryd.results80,go_sem,f0,f1,f2];rfl) rfl ?_;rw [show qh ts (f+1) i=.inr (j2,3) from by unfold qh;rw [Xg.out,SH,Xd cc];rfl];exact ⟨rfl,dU⟩
     case true =>
      have hlt2:=dN Es.out cc (by decide);obtain ⟨t0,t1,t2,y0,y1,y2⟩:=ay xH.out.t
      by_cases hl1:ps.length=1
      ·obtain ⟨k2,m2,qY,hps⟩:=Xa hl1;have hcl:=HRR.out.cells;rw [hps] at hcl;obtain ⟨o2,n2,d2,ys,hxs,hs2,hys⟩:=hcl;have acL:ys=[]:=hys;subst acL;have e0:wr.cell? ⟨g2,0,none⟩=some (.int .i64 k2):=by have:=HRR.out.own.cells (g:=g2) rfl 0 (.int .i64 k2) (by rw [hxs];rfl);simpa [Addr.add_lit] using this
       have e1:wr.cell? ⟨g2,1,none⟩=some (.int .i64 m2):=by have:=HRR.out.own.cells (g:=g2) rfl 1 (.int .i64 m2) (by rw [hxs];rfl);simpa [Addr.add_lit] using this
       have e2:wr.cell? ⟨g2,2,none⟩=some (.slice o2 n2 d2):=by have:=HRR.out.own.cells (g:=g2) rfl 2 (.slice o2 n2 d2) (by rw [hxs];rfl);simpa [Addr.add_lit] using this
       have HS2:=hid hs2;rw [hl1] at t2;clear hs2 hxs hys;go_wp2_with fail;go_meet;have hfp:=aZ wr (B+1+1) (.int .i64 k2) (.int .i64 m2) (.slice o2 n2 d2);refine ⟨k2,m2,qY,j2+1,o2,n2,d2,by go_num,xH.out.put,HS2.out.fr hfp (fun b _ h=>⟨h.1.1,fun e=>by have:=h.1.1;omega⟩),?_,hlt2,Az.out.trans' hfp (fun b hb e=>by have:=bY.out;omega)⟩;rw [Xg.out,SH,hps];exact SC cc
      ·have adM:((ps.length:Int) == 1)=false:=by simp;omega
       go_wp2_with fail;go_meet;refine ⟨5,0,ps,j2+1,some ⟨g2,0,none⟩,ps.length,c2',by go_num,xH.out,?_,?_,hlt2,Az.out⟩
       ·exact (HRR.out.slc rfl (by unfold maxLen;omega)).fr (Fr.refl (fun _=>False) wr) (fun b _ h=>⟨h.1,fun h=>h⟩)
       ·rw [Xg.out,SH];exact O7 cc hl1
    case true =>
     have hlt2:=dN Es.out cs (by decide)
     by_cases h8:8<=ps.length
     ·have h8':(8:Int)<=(ps.length:Int):=by omega
      have Zk:(ps.length:Int)≥8:=h8';obtain ⟨_,_,t2,_,_,_⟩:=ay xH.out.t;obtain ⟨z0,z1,z2,_,_,_⟩:=ay xH.out.z;obtain ⟨r0,r1,r2,x0,x1,x2⟩:=ay xH.out.r;go_wp2_with fail;have hf:=aZ wr B (.int .i64 0) (.int .i64 0) (.slice none 0 0);obtain ⟨f0,f1,f2⟩:=aV (a:=.int .i64 0) (b:=.int .i64 0) (c:=.slice none 0 0) (xH.out).r;have dU:ah w (bf wr B (.int .i64 0) (.int .i64 0) (.slice none 0 0)):=(Az.out).trans' hf (fun k hk e=>by have:=bY.out;omega);change bodyPost _ _ _ _ _ (bf wr B (.int .i64 0) (.int .i64 0) (.slice none 0 0));generalize bf wr B (.int .i64 0) (.int .i64 0) (.slice none 0 0)=wf at *;refine bodyPost_ret (by simp [results,Tryd.results80,go_sem,f0,f1,f2];rfl) rfl ?_;rw [show qh ts (f+1) i=.inr (j2,6) from by unfold qh;rw [Xg.out,<-HST.out,O5 cs h8 hn1];rfl];exact ⟨rfl,dU⟩
     ·have h8':¬ (8:Int)<=(ps.length:Int):=by omega
      have Zk:¬ (ps.length:Int)≥8:=h8';have HC:=HIH.out (j2+1) ((j2:Int)+1) wr (by omega) hlt2 Az.out;have HI2:=uN.out (j2+1) hlt2;cases hr2:qh ts f (j2+1) with
      | inr x =>
       obtain ⟨j3,er⟩:=x;rw [hr2] at HC HI2;have hne:er≠0:=HI2.2;have hne2:((er:Int) != 0)=true:=by simp [hne]
       have HC2:=hid HC;clear HC HI2;obtain ⟨_,_,t2,_,_,_⟩:=ay xH.out.t;go_wp2_with fail;refine HC2.out.mono ?_;rintro e w5 ⟨rfl,hq5⟩;have Ph:=aC hq5 (fun h=>h) yK.out;obtain ⟨_,_,_,v0,v1,v2⟩:=ay Ph;have IL:=aZ w5 pb (.int .i64 0) (.int .i64 0) (.slice none 0 0);have Pj:=hid ((xH.out.stay hq5).fr IL (by omega) (by omega) (by omega));have yV:=hid ((Az.out.trans hq5).trans' IL (fun b hb e=>by have:=bY.out;omega));clear t2;go_upto_region 20 with fail
       change Code.wp _ _ _ _ (bf w5 pb (.int .i64 0) (.int .i64 0) (.slice none 0 0));generalize bf w5 pb (.int .i64 0) (.int .i64 0) (.slice none 0 0)=W6 at *;clear IL hq5 Ph v0 v1 v2;obtain ⟨z0,z1,z2,_,_,_⟩:=ay Pj.out.z;obtain ⟨r0,r1,r2,x0,x1,x2⟩:=ay Pj.out.r;go_wp2_with fail;have hf:=aZ W6 B (.int .i64 0) (.int .i64 0) (.slice none 0 0);obtain ⟨f0,f1,f2⟩:=aV (a:=.int .i64 0) (b:=.int .i64 0) (c:=.slice none 0 0) (Pj.out).r;have dU:ah w (bf W6 B (.int .i64 0) (.int .i64 0) (.slice none 0 0)):=(yV.out).trans' hf (fun k hk e=>by have:=bY.out;omega);change bodyPost _ _ _ _ _ (bf W6 B (.int .i64 0) (.int .i64 0) (.slice none 0 0));generalize bf W6 B (.int .i64 0) (.int .i64 0) (.slice none 0 0)=wf at *;refine bodyPost_ret (by simp [results,Tryd.results80,go_sem,f0,f1,f2];rfl) rfl ?_;rw [show qh ts (f+1) i=.inr (j3,er) from by unfold qh;rw [Xg.out,<-HST.out,SB cs h8 hn1 hr2];rfl];exact ⟨rfl,dU⟩
      | inl x =>
       obtain ⟨⟨k3,m3,qs3⟩,j3⟩:=x;rw [hr2] at HC HI2;have hj3:j2+1 < j3/\j3 < ts.length:=HI2;have HC2:=hid HC;clear HC HI2;obtain ⟨_,_,t2,_,_,_⟩:=ay xH.out.t;go_wp2_with fail;refine HC2.out.mono ?_;rintro e w5 ⟨o5,n5,d5,rfl,hs5,hq5⟩;have Ph:=aC hq5 (fun h=>h) yK.out;obtain ⟨_,_,_,v0,v1,v2⟩:=ay Ph;have IL:=aZ w5 pb (.int .i64 k3) (.int .i64 m3) (.slice o5 n5 d5);have Pj:=hid ((xH.out.stay hq5).fr IL (by omega) (by omega) (by omega));have yV:=hid ((Az.out.trans hq5).trans' IL (fun b hb e=>by have:=bY.out;omega));have HP6:=hid (BL (a:=.int .i64 k3) (b:=.int .i64 m3) (c:=.slice o5 n5 d5) Ph);have HR6:=hid ((HRR.out.stay hq5).fr IL (fun b h e=>h.2 e));have hpw:pb < wr.heap.size:=lt_of_block yK.out;have hgw:g2 < wr.heap.size:=(HRR.out.own.lt g2 rfl).2;have hqz:=hq5.size;have HS6:Hid (aB (fun b=>(B+3<=b/\b≠pb)/\(Value.slice (some ⟨g2,0,none⟩) ps.length c2').ownBlock≠some b) (bf w5 pb (.int .i64 k3) (.int .i64 m3) (.slice o5 n5 d5)) o5 n5 qs3):=hs5.fr IL (fun b hb h=>by
        have h':wr.heap.size<=b:=h;exact ⟨⟨⟨by omega,by omega⟩,fun e=>by simp [Value.ownBlock] at e;omega⟩,by omega⟩)
       have hz6:w5.heap.size<=(bf w5 pb (.int .i64 k3) (.int .i64 m3) (.slice o5 n5 d5)).heap.size:=IL.size;clear t2;go_upto_region 22 with fail
       change Code.wp _ _ _ _ (bf w5 pb (.int .i64 k3) (.int .i64 m3) (.slice o5 n5 d5));generalize bf w5 pb (.int .i64 k3) (.int .i64 m3) (.slice o5 n5 d5)=W6 at *;clear IL hq5 Ph v0 v1 v2 hs5;obtain ⟨_,_,t2,_,_,_⟩:=ay Pj.out.t;obtain ⟨p0,p1,p2,_,_,_⟩:=ay HP6.out;go_wp2_with (at_builtin;refine aX W6 rfl (.tmp 92) (.tmp 94) 23 rfl 25 _ 3 40 elemTy (.slice (some ⟨g2,0,none⟩) ps.length c2') ps.length xs rfl HR6.out.own #[.int .i64 k3,.int .i64 m3,.slice o5 n5 d5] rfl rfl (by simp [Value.oneCell']) (by unfold maxLen;omega) (by omega) ?_;intro g3 c3 w7 ho EI hg;have xI:=hid (Pj.out.fr EI (fun e=>by simp [Value.ownBlock] at e;have:=(HR6.out.low g2 rfl).1;omega) (fun e=>by simp [Value.ownBlock] at e;have:=(HR6.out.low g2 rfl).1;omega) (fun e=>by simp [Value.ownBlock] at e;have:=(HR6.out.low g2 rfl).1;omega));obtain ⟨_,_,_,_,_,u2⟩:=ay xI.out.t;have u2':=(ay xI.out.t).2.2.1;clear t2);go_roundw
       case rel =>
        have hlow:=HR6.out.low g2 rfl;have hfs:=Fr.setCell (fun k=>k=B+1+1) w7 ⟨B+1+1,2,none⟩ (.slice (some ⟨g3,0,none⟩) (ps.length+1) c3) rfl;have hlen:(ps.app (.cons k3 m3 qs3 .nil)).length=ps.length+1:=by rw [Fo.bJ];simp [Fo.length]
        have SI:=(lH.snoc HR6.out HS6.out ho EI hg (fun b hb=>⟨by omega,by omega⟩)).fr hfs (fun b h e=>by have:=h.1;omega);refine ⟨ps.app (.cons k3 m3 qs3 .nil),j3,n-1,g3,c3,xs++[.int .i64 k3,.int .i64 m3,.slice o5 n5 d5],rfl,hj3.2,by omega,by omega,by omega,?_,⟨.int .i64 k3,.int .i64 m3,.slice o5 n5 d5,aC hfs (by omega) (aC EI (fun e=>by simp [Value.ownBlock] at e;exact hlow.2 e) HP6.out)⟩,?_,?_,?_⟩
        ·rw [hlen];exact ⟨aC hfs (by omega) xI.out.r,aC hfs (by omega) xI.out.z,ji xI.out.t⟩
        ·rw [hlen];exact SI
        ·rw [<-O6 cs h8 hn1 hr2];exact HST.out
        ·exact (yV.out.trans' EI (fun b hb e=>by simp [Value.ownBlock] at e;have:=bY.out;omega)).trans' hfs (fun b hb e=>by have:=bY.out;omega)
       case measure=>simp [intOf];omega
 case rest =>
  rename World=>wx
  obtain ⟨k,m,qs,j,o,n,d,rfl,hbx,hsl,hhd,hj,hq⟩:=hcut;have HB:=hid hbx;have HS:=hid hsl;have HH:=hid hhd;have HQ:=hid hq;have hwz:B+3<=wx.heap.size:=by have:=lt_of_block hbx.t;omega
  clear hbx hsl hhd hq;go_wp2_with fail;refine (acH.out j wx HQ.out).mono ?_;rintro e w4 ⟨rfl,rfl⟩;cases ca:bZ ts j 4 BO
  case false =>
   obtain ⟨t0,t1,t2,_,_,_⟩:=ay HB.out.t;obtain ⟨r0,r1,r2,x0,x1,x2⟩:=ay HB.out.r;go_wp2_with fail;have hf:=aZ wx B (.int .i64 k) (.int .i64 m) (.slice o n d);obtain ⟨f0,f1,f2⟩:=aV (a:=.int .i64 k) (b:=.int .i64 m) (c:=.slice o n d) HB.out.r;have dU:ah w (bf wx B (.int .i64 k) (.int .i64 m) (.slice o n d)):=HQ.out.trans' hf (fun k hk e=>by have:=bY.out;omega);have hsf:aB (fun b=>w.heap.size<=b) (bf wx B (.int .i64 k) (.int .i64 m) (.slice o n d)) o n qs:=HS.out.fr hf (fun b _ h=>⟨by have h':B+3<=b:=h;have:=bY.out;omega,fun e=>by have h':B+3<=b:=h;omega⟩);change bodyPost _ _ _ _ _ (bf wx B (.int .i64 k) (.int .i64 m) (.slice o n d));generalize bf wx B (.int .i64 k) (.int .i64 m) (.slice o n d)=wf at *;refine bodyPost_ret (by simp [results,Tryd.results80,go_sem,f0,f1,f2];rfl) rfl ?_;rw [show qh ts (f+1) i=.inl ((k,m,qs),j) from by unfold qh;rw [HH.out];unfold Fp;simp [ca]];exact ⟨o,n,d,rfl,hsf,dU⟩
  case true =>
   have hlt:=dN Es.out ca (by decide);have HC:=HIH.out (j+1) ((j:Int)+1) wx (by omega) hlt HQ.out;have HI1:=uN.out (j+1) hlt;have Xh:Hid (qh ts (f+1) i=BQ k m qs (qh ts f (j+1))):=by show _=_;conv=>lhs;unfold qh;rw [HH.out];unfold Fp;simp only [ca,if_true]
   cases hr:qh ts f (j+1) with
   | inr x =>
    obtain ⟨j3,er⟩:=x;rw [hr] at HC HI1 Xh;have hne:er≠0:=HI1.2;have hne2:((er:Int) != 0)=true:=by simp [hne]
    clear HI1;go_wp2_with fail;refine HC.mono ?_;rintro e w5 ⟨rfl,hq5⟩;obtain ⟨W6,uZ⟩:∃ W6,W6=w5.alloc Aw:=⟨_,rfl⟩;have hq6:ah wx W6:=by rw [uZ];exact hq5.trans (ah.alloc _ _)
    have vS:=hid (HB.out.stay hq6);have yV:=hid (HQ.out.trans hq6);obtain ⟨z0,z1,z2,_,_,_⟩:=ay vS.out.z;obtain ⟨r0,r1,r2,x0,x1,x2⟩:=ay vS.out.r;clear HC hq5 hq6;go_upto_region 32 with fail
    change Code.wp _ _ _ _ (w5.alloc Aw);rw [<-uZ];clear uZ;go_wp2_with fail;have hf:=aZ W6 B (.int .i64 0) (.int .i64 0) (.slice none 0 0);obtain ⟨f0,f1,f2⟩:=aV (a:=.int .i64 0) (b:=.int .i64 0) (c:=.slice none 0 0) (vS.out).r;have dU:ah w (bf W6 B (.int .i64 0) (.int .i64 0) (.slice none 0 0)):=(yV.out).trans' hf (fun k hk e=>by have:=bY.out;omega);change bodyPost _ _ _ _ _ (bf W6 B (.int .i64 0) (.int .i64 0) (.slice none 0 0));generalize bf W6 B (.int .i64 0) (.int .i64 0) (.slice none 0 0)=wf at *;refine bodyPost_ret (by simp [results,Tryd.results80,go_sem,f0,f1,f2];rfl) rfl ?_;rw [Xh.out];exact ⟨rfl,dU⟩
   | inl x =>
    obtain ⟨⟨k2,m2,qY⟩,j3⟩:=x;rw [hr] at HC Xh;clear HI1;go_wp2_with fail;refine HC.mono ?_;rintro e w5 ⟨o5,n5,d5,rfl,hs5,hq5⟩;obtain ⟨W6,uZ⟩:∃ W6,W6=w5.alloc (.cells #[.int .i64 k2,.int .i64 m2,.slice o5 n5 d5] 25):=⟨_,rfl⟩;have hqa:ah w5 W6:=by rw [uZ];exact ah.alloc _ _
    have hq6:ah wx W6:=hq5.trans hqa;have hnew:W6.heap[w5.heap.size]?=some (.cells #[.int .i64 k2,.int .i64 m2,.slice o5 n5 d5] 25 (0,0)):=by rw [uZ];exact heap_alloc_new w5 _
    have vS:=hid (HB.out.stay hq6);have yV:=hid (HQ.out.trans hq6);have HS6:=hid (HS.out.fr (T:=fun b=>B+3<=b) hq6 (fun b _ h=>⟨h,fun h=>h⟩));have hz5:=hq5.size;have HS7:Hid (aB (fun b=>B+3<=b) W6 o5 n5 qY):=hs5.fr hqa (fun b _ h=>⟨by have h':wx.heap.size<=b:=h;show B+3<=b;omega,fun h=>h⟩);have hz6:B+3<=W6.heap.size:=by have:=hqa.size;omega
    go_upto_region 34 with fail
    change Code.wp _ _ _ _ (w5.alloc (.cells #[.int .i64 k2,.int .i64 m2,.slice o5 n5 d5] 25));rw [<-uZ];clear HC hq5 hq6 hs5 uZ hqa;generalize w5.heap.size=b16 at *;obtain ⟨t0,t1,t2,_,_,_⟩:=ay vS.out.t;obtain ⟨p0,p1,p2,_,_,_⟩:=ay hnew;obtain ⟨W7,AA⟩:∃ W7,W7=W6.alloc (.cells #[.int .i64 k,.int .i64 m,.slice o n d,.int .i64 k2,.int .i64 m2,.slice o5 n5 d5] 25):=⟨_,rfl⟩;have hq7:ah W6 W7:=by rw [AA];exact ah.alloc _ _
    have hrow:W7.heap[W6.heap.size]?=some (.cells #[.int .i64 k,.int .i64 m,.slice o n d,.int .i64 k2,.int .i64 m2,.slice o5 n5 d5] 25 (0,0)):=by rw [AA];exact heap_alloc_new W6 _
    have xI:=hid (vS.out.stay hq7);have WB:=hid (yV.out.trans hq7);have hsA:=HS6.out.fr (T:=fun b=>B+3<=b) hq7 (fun b _ h=>⟨h,fun h=>h⟩);have hsB:=HS7.out.fr (T:=fun b=>B+3<=b) hq7 (fun b _ h=>⟨h,fun h=>h⟩);rw [AA] at xI;obtain ⟨r0,r1,r2,x0,x1,x2⟩:=ay xI.out.r;rw [<-AA] at xI;go_wp2_with fail;change bodyPost _ _ _ _ _ (bf (W6.alloc (.cells #[.int .i64 k,.int .i64 m,.slice o n d,.int .i64 k2,.int .i64 m2,.slice o5 n5 d5] 25)) B (.int .i64 4) (.int .i64 0) (.slice (some ⟨W6.heap.size,0,none⟩) 2 2));rw [<-AA];clear r0 r1 r2 x0 x1 x2 t0 t1 t2 p0 p1 p2 AA;have hf:=aZ W7 B (.int .i64 4) (.int .i64 0) (.slice (some ⟨W6.heap.size,0,none⟩) 2 2);obtain ⟨f0,f1,f2⟩:=aV (a:=.int .i64 4) (b:=.int .i64 0) (c:=.slice (some ⟨W6.heap.size,0,none⟩) 2 2) xI.out.r;have dU:ah w (bf W7 B (.int .i64 4) (.int .i64 0) (.slice (some ⟨W6.heap.size,0,none⟩) 2 2)):=WB.out.trans' hf (fun k hk e=>by have:=bY.out;omega);have hrow2:=aC hf (by omega) hrow;have Zl:=hsA.fr (T:=fun b=>w.heap.size<=b) hf (fun b _ h=>⟨by have h':B+3<=b:=h;have:=bY.out;omega,fun e=>by have h':B+3<=b:=h;omega⟩);have Zm:=hsB.fr (T:=fun b=>w.heap.size<=b) hf (fun b _ h=>⟨by have h':B+3<=b:=h;have:=bY.out;omega,fun e=>by have h':B+3<=b:=h;omega⟩);generalize bf W7 B (.int .i64 4) (.int .i64 0) (.slice (some ⟨W6.heap.size,0,none⟩) 2 2)=wf at *;refine bodyPost_ret (by simp [results,Tryd.results80,go_sem,f0,f1,f2];rfl) rfl ?_;rw [Xh.out];have hR:w.heap.size<=W6.heap.size:=by have:=bY.out;omega
    exact ⟨some ⟨W6.heap.size,0,none⟩,2,2,rfl,⟨rfl,by decide,fun _=>⟨W6.heap.size,0,rfl,hR,by rw [cell_of_row _ _ _ _ _ (0,0) hrow2];rfl,by rw [cell_of_row _ _ _ _ _ (0,0) hrow2];rfl,⟨o,n,d,by rw [cell_of_row _ _ _ _ _ (0,0) hrow2];rfl,Zl.1,Zl.2.1,Zl.2.2⟩,
     hR,by rw [cell_of_row _ _ _ _ _ (0,0) hrow2];rfl,by rw [cell_of_row _ _ _ _ _ (0,0) hrow2];rfl,⟨o5,n5,d5,by rw [cell_of_row _ _ _ _ _ (0,0) hrow2];rfl,Zm.1,Zm.2.1,Zm.2.2⟩,trivial⟩⟩,dU⟩
theorem Jd (ts:List Tok) (g c:Nat) (hsh:Shut ts):∀ f,RdT ts g c f
 | 0=>O9 ts g c
 | f+1=>Pg ts g c f hsh (Jd ts g c hsh f)
end Pa
end
end Go.Proofs.YtcninopmelmajaaDoor
