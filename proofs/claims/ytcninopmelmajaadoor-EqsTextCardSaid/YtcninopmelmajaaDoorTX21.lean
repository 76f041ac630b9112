/-
  Texts laid together (PaForm): laws and walks, with their conditions.
-/
import Derived.Test.YtcninopmelmajaaDoorTX16
import Derived.Test.YtcninopmelmajaaDoorTX17
set_option maxHeartbeats 8000000
set_option maxRecDepth 1000000
namespace Go.Proofs.YtcninopmelmajaaDoor
open Go.Lib (hid)
section
namespace Pa
open Go.RowKit Lx
def ZG:Stp->ByteArray
 | .e=>⟨#[101]⟩
 | .n=>⟨#[110]⟩
 | .s t=>dn t
def Xt:List Stp:=[.e,.s YM,.e,.s YN,.e]
def Ho:List Stp:=[.n,.s BO,.e]
def PX:List Stp:=[.n,.s sEq,.e,.s wIn,.e]
theorem LX {E : Nat -> iU} {l : List Tok} {ss : List Stp} {k : Nat} {s : Stp} (h : ss[k]? = some s) (m : Fm) : gW E l (ss.drop k) m = match jS E l m s with
    | .inr e=>.inr e
    | .inl m'=>gW E l (ss.drop (k+1)) m':=by
 obtain ⟨hk,hs⟩:=List.getElem?_eq_some_iff.1 h;rw [List.drop_eq_getElem_cons hk,hs];rfl
def OkS (ss:List Stp):Prop:=∀ t,Stp.s t∈ss->(t == [101])=false/\(t == [110])=false
structure Rz (B tb gs:Nat) (w:World) (kd:Int) (ss:List Stp) (wx:World):Prop where
 b:wx.heap[B]?=some (.cells (z13 0 0) 72 (0,0))
 t:wx.heap[tb]?=some (.cells #[.int .i64 kd,.string ⟨#[]⟩,.int .i64 0,.int .i64 0,.int .i64 0,.slice none 0 0,.slice none 0 0,.int .i64 0,.int .i64 0] 30 (0,0))
 st:∀ j s,ss[j]?=some s->wx.cell? ⟨gs,j,none⟩=some (.string (ZG s))
 lt:gs < wx.heap.size
 gt:tb < gs
 q:ah w wx
theorem Rz.stay {B tb gs:Nat} {w wx wy:World} {kd:Int} {ss:List Stp} (h:Rz B tb gs w kd ss wx) (hq:ah wx wy):Rz B tb gs w kd ss wy :=
 ⟨au hq h.b,au hq h.t,fun j s hs=>hq.at (h.st j s hs),Nat.lt_of_lt_of_le h.lt hq.size,h.gt,h.q.trans hq⟩
theorem Rz.kind {B tb gs:Nat} {w wx:World} {kd kd':Int} {ss:List Stp} (h:Rz B tb gs w kd ss wx) (hB:B < tb) (hw:w.heap.size<=B):Rz B tb gs w kd' ss (wx.setCell ⟨tb,0,none⟩ (.int .i64 kd')):=by
 have hf:=Fr.setCell (fun k=>k=tb) wx ⟨tb,0,none⟩ (.int .i64 kd') rfl;have:=h.gt;refine ⟨aC hf (by omega) h.b,aF (i:=0) (u:=.int .i64 kd') h.t,fun j s hs=>(hf.aY h.lt (by omega)).trans (h.st j s hs),by have:=hf.size;have:=h.lt;omega,h.gt,h.q.trans' hf (fun k hk e=>by omega)⟩
theorem Rz.steps {B tb gs:Nat} {w wx:World} {kd:Int} {ss ss':List Stp} {cs:Array Value} (h:Rz B tb gs w kd ss wx) (hc:∀ (j:Nat) (s:Stp),ss'[j]?=some s->cs[j]?=some (.string (ZG s))):Rz B tb wx.heap.size w kd ss' (wx.alloc (.cells cs 9)):=by
 have hq:=ah.alloc wx (.cells cs 9);have:=lt_of_block h.t;exact ⟨au hq h.b,au hq h.t,fun j s hs=>by rw [cell_of_row _ _ _ _ _ (0,0) (heap_alloc_new wx _)];exact hc j s hs,by simp,this,h.q.trans hq⟩
structure NV (B tb lb gs:Nat) (w:World) (kd:Int) (ss:List Stp) (nm:List UInt8) (vo:Option Addr) (vc:Nat) (ps:To) (xs:List Value) (hl:Nd) (p1:Option Addr) (m1 d1:Nat) (p2:Option Addr) (m2 d2:Nat) (x:Pt) (jl:Int) (wx:World):Prop where
 b:wx.heap[B]?=some (.cells (z13 0 0) 72 (0,0))
 t:wx.heap[tb]?=some (.cells #[.int .i64 kd,.string (dn nm),.int .i64 0,.int .i64 0,.int .i64 0,.slice none 0 0,.slice vo ps.length vc,.int .i64 0,.int .i64 0] 30 (0,0))
 l:wx.heap[lb]?=some (.cells (c13 hl p1 m1 d1 p2 m2 d2 x jl 0) 72 (0,0))
 st:∀ j s,ss[j]?=some s->wx.cell? ⟨gs,j,none⟩=some (.string (ZG s))
 gl:gs < lb
 gt:tb < gs
 row:cO wx (fun b=>lb < b) (.slice vo ps.length vc) ps xs
 q:ah w wx
theorem NV.stay {B tb lb gs : Nat} {w wx wy : World} {kd : Int} {ss : List Stp} {nm : List UInt8} {vo : Option Addr} {vc : Nat} {ps : To} {xs : List Value} {hl : Nd} {p1 : Option Addr} {m1 d1 : Nat} {p2 : Option Addr} {m2 d2 : Nat} {x : Pt} {jl : Int}
    (h:NV B tb lb gs w kd ss nm vo vc ps xs hl p1 m1 d1 p2 m2 d2 x jl wx) (hq:ah wx wy):NV B tb lb gs w kd ss nm vo vc ps xs hl p1 m1 d1 p2 m2 d2 x jl wy :=
 ⟨au hq h.b,au hq h.t,au hq h.l,fun j s hs=>hq.at (h.st j s hs),h.gl,h.gt,h.row.stay hq,h.q.trans hq⟩
theorem NV.name {B tb lb gs : Nat} {w wx : World} {kd : Int} {ss : List Stp} {nm nm' : List UInt8} {vo : Option Addr} {vc : Nat} {ps : To} {xs : List Value} {hl : Nd} {p1 : Option Addr} {m1 d1 : Nat} {p2 : Option Addr} {m2 d2 : Nat} {x : Pt} {jl : Int}
    (h:NV B tb lb gs w kd ss nm vo vc ps xs hl p1 m1 d1 p2 m2 d2 x jl wx) (hB:B < tb) (hw:w.heap.size<=B):NV B tb lb gs w kd ss nm' vo vc ps xs hl p1 m1 d1 p2 m2 d2 x jl (wx.setCell ⟨tb,1,none⟩ (.string (dn nm'))):=by
 have hf:=Fr.setCell (fun k=>k=tb) wx ⟨tb,1,none⟩ (.string (dn nm')) rfl;have h1:=h.gt;have h2:=h.gl;have h3:=lt_of_block h.l;exact ⟨aC hf (by omega) h.b,aF (i:=1) (u:=.string (dn nm')) h.t,aC hf (by omega) h.l,fun j s hs=>(hf.aY (by omega) (by omega)).trans (h.st j s hs),h.gl,h.gt,h.row.fr hf (fun k hk e=>by omega),h.q.trans' hf (fun k hk e=>by omega)⟩
theorem NV.last {B tb lb gs : Nat} {w wx : World} {kd : Int} {ss : List Stp} {nm : List UInt8} {vo : Option Addr} {vc : Nat} {ps : To} {xs : List Value} {hl : Nd} {p1 : Option Addr} {m1 d1 : Nat} {p2 : Option Addr} {m2 d2 : Nat} {x : Pt} {jl : Int} {h2 : Nd} {r1 : Option Addr} {n1 e1 : Nat} {r2 : Option Addr} {n2 e2 : Nat} {x2 : Pt} {j2 : Int}
    (h:NV B tb lb gs w kd ss nm vo vc ps xs hl p1 m1 d1 p2 m2 d2 x jl wx) (hB:B < tb) (hw:w.heap.size<=B):NV B tb lb gs w kd ss nm vo vc ps xs h2 r1 n1 e1 r2 n2 e2 x2 j2 (aN wx lb (.int .i64 h2.k) (.string h2.nm) (.int .i64 h2.n) (.int .i64 h2.tk) (.int .i64 h2.tn) (.slice r1 n1 e1) (.slice r2 n2 e2) (.int .i64 h2.fr) (.int .i64 h2.en) (.int .i64 x2.1) (.int .i64 x2.2) (.int .i64 j2) (.int .i64 0)):=by
 have hf:=bg wx lb (.int .i64 h2.k) (.string h2.nm) (.int .i64 h2.n) (.int .i64 h2.tk) (.int .i64 h2.tn) (.slice r1 n1 e1) (.slice r2 n2 e2) (.int .i64 h2.fr) (.int .i64 h2.en) (.int .i64 x2.1) (.int .i64 x2.2) (.int .i64 j2) (.int .i64 0);have h1:=h.gt;have h2':=h.gl;have h3:=lt_of_block h.l;exact ⟨aC hf (by omega) h.b,aC hf (by omega) h.t,aK h.l,fun j s hs=>(hf.aY (by omega) (by omega)).trans (h.st j s hs),h.gl,h.gt,h.row.fr hf (fun k hk e=>by omega),h.q.trans' hf (fun k hk e=>by omega)⟩
theorem NV.part {B tb lb gs : Nat} {w wx wy : World} {kd : Int} {ss : List Stp} {nm : List UInt8} {vo : Option Addr} {vc : Nat} {ps : To} {xs : List Value} {hl : Nd} {qs : To} {p1 : Option Addr} {m1 d1 : Nat} {p2 : Option Addr} {m2 d2 : Nat} {x : Pt} {jl : Int} {g3 c3 : Nat}
    (h:NV B tb lb gs w kd ss nm vo vc ps xs hl p1 m1 d1 p2 m2 d2 x jl wx) (hB:B < tb) (hw:w.heap.size<=B)
    (hs1:aB (fun b=>lb < b/\(Value.slice vo ps.length vc).ownBlock≠some b) wx p1 m1 hl.tp) (hs2:bC (fun b=>lb < b/\(Value.slice vo ps.length vc).ownBlock≠some b) wx p2 m2 qs)
    (ho:wy.ownsRow 0 30 9 (.slice (some ⟨g3,0,none⟩) (ps.length+1) c3) (ps.length+1) (xs++(cells9 hl p1 m1 d1 p2 m2 d2).toList)) (hf:Fr (fun k=>(Value.slice vo ps.length vc).ownBlock=some k) wx wy) (hg:(Value.slice vo ps.length vc).ownBlock=some g3∨wx.heap.size<=g3) :
    NV B tb lb gs w kd ss nm (some ⟨g3,0,none⟩) c3 (ps.app (.cons hl qs .nil)) (xs++(cells9 hl p1 m1 d1 p2 m2 d2).toList) hl p1 m1 d1 p2 m2 d2 x jl (wy.setCell ⟨tb,6,none⟩ (.slice (some ⟨g3,0,none⟩) (ps.length+1) c3)):=by
 have h1:=h.gt;have h2:=h.gl;have h3:=lt_of_block h.l;have hlow:∀ b,(Value.slice vo ps.length vc).ownBlock=some b->lb < b:=h.row.low;have hfs:=Fr.setCell (fun b=>b=tb) wy ⟨tb,6,none⟩ (.slice (some ⟨g3,0,none⟩) (ps.length+1) c3) rfl;have hlen:(ps.app (.cons hl qs .nil)).length=ps.length+1:=by rw [To.bJ];simp [To.length]
 have ht:=aC hf (fun e=>by have:=hlow _ e;omega) h.t;refine ⟨aC hfs (by omega) (aC hf (fun e=>by have:=hlow _ e;omega) h.b),?_,aC hfs (by omega) (aC hf (fun e=>by have:=hlow _ e;omega) h.l),fun j s hs=>(hfs.aY (by have:=hf.size;omega) (by omega)).trans ((hf.aY (by omega) (fun e=>by have:=hlow _ e;omega)).trans (h.st j s hs)),h.gl,h.gt,?_,(h.q.trans' hf (fun b hb e=>by have:=hlow _ e;omega)).trans' hfs (fun b hb e=>by omega)⟩
 ·rw [hlen];exact aF (i:=6) (u:=.slice (some ⟨g3,0,none⟩) (ps.length+1) c3) ht
 ·rw [hlen];exact (cO.snoc h.row hs1 hs2 ho hf hg (fun b hb=>by omega)).fr hfs (fun b k e=>by omega)
def ZH (ts:List Tok) (i B tb:Nat) (w:World) (v:Value) (wx:World):Prop:=∃ gs,v=.slice (some ⟨gs,0,none⟩) (if bZ ts i 3 sN then Ho else Xt).length (if bZ ts i 3 sN then Ho else Xt).length/\Rz B tb gs w (if bZ ts i 3 sN then 4 else 8) (if bZ ts i 3 sN then Ho else Xt) wx
def Xu (ts:List Tok) (i B tb:Nat) (w:World) (v u:Value) (wx:World):Prop:=∃ gs,v=.slice (some ⟨gs,0,none⟩) (ny ts i).length (ny ts i).length/\u=.int .i64 (kP ts i:Nat)/\Rz B tb gs w (sG ts i) (ny ts i) wx
def abd (E:Nat->iU) (ts:List Tok) (B tb lb gs:Nat) (w:World) (kd:Int) (ss:List Stp) (fin:Sum Fm (Nat × Nat)) (u v:Value) (wx:World):Prop :=
 ∃ (k:Nat) (m:Fm) (vo:Option Addr) (vc:Nat) (xs:List Value) (hl:Nd) (p1:Option Addr) (m1 d1:Nat) (p2:Option Addr) (m2 d2:Nat) (jl:Int),u=.int .i64 (m.i:Nat)/\v=.int .i64 (k:Nat)/\k<=ss.length/\m.i < ts.length/\m.ps.length<=k/\gW E ts (ss.drop k) m=fin/\NV B tb lb gs w kd ss m.nm vo vc m.ps xs hl p1 m1 d1 p2 m2 d2 m.x jl wx
theorem Xv (ts:List Tok) (i:Nat):(ny ts i).length<=5/\OkS (ny ts i):=by
 have h:∀ ss:List Stp,ss=Xt∨ss=Ho∨ss=PX->ss.length<=5/\OkS ss:=by
  rintro ss (rfl | rfl | rfl)
  all_goals
   refine ⟨by decide,fun t ht=>?_⟩;simp [Xt,Ho,PX] at ht
   first
    | (rcases ht with rfl | rfl<;>decide)
    | (subst ht;decide)
 apply h;unfold ny
 by_cases h1:bZ ts i 3 AL=true
 ·rw [if_pos h1];exact .inr (.inr rfl)
 ·rw [if_neg h1]
  by_cases h2:bZ ts i 3 sN=true
  ·rw [if_pos h2];exact .inr (.inl rfl)
  ·rw [if_neg h2];exact .inl rfl
theorem TL (ts : List Tok) (g c : Nat) (E : Nat -> iU) (i : Nat) (lv mo : Int) (w : World) (hsh : Shut ts) (hlt : i + 1 < ts.length) (hin : ∀ j, j < ts.length -> sD ts.length j (E j)) (ht : nN w g ts) (hlv1 : -1000000 <= lv) (hlv2 : lv <= 900000)
    (hE:∀ (j:Nat) (aj:Int) (W:World),aj=j->j < ts.length->ah w W->Calls Tryd.prog 28 #[tks g ts c,.int .i64 aj,.int .i64 (lv+1),.int .i64 mo] W (iy W (E j))) :
    Calls Tryd.prog 48 #[tks g ts c,.int .i64 i,.int .i64 lv,.int .i64 mo] w (iy w (tK E ts i)):=by
 have hfew:=ht.few;obtain ⟨t9,PV⟩:∃ t9,ts[i]?=some t9:=⟨_,List.getElem?_eq_getElem (by omega)⟩;obtain ⟨W0,hW0⟩:∃ W0,W0=((w.alloc AB).alloc (.cells #[.int .i64 8,.string ⟨#[]⟩,.int .i64 0,.int .i64 0,.int .i64 0,.slice none 0 0,.slice none 0 0,.int .i64 0,.int .i64 0] 30)).alloc (.cells #[.string ⟨#[101]⟩,.string ⟨#[116,104,101,110]⟩,.string ⟨#[101]⟩,.string ⟨#[101,108,115,101]⟩,.string ⟨#[101]⟩] 9):=⟨_,rfl⟩;have HD0:Hid (Rz w.heap.size (w.heap.size+1) (w.heap.size+1+1) w 8 Xt W0):=by
  have hq0:ah w W0:=by rw [hW0];exact ((ah.alloc _ _).trans (ah.alloc _ _)).trans (ah.alloc _ _)
  have hz1:(w.alloc AB).heap.size=w.heap.size+1:=by simp
  have hz2:((w.alloc AB).alloc (.cells #[.int .i64 8,.string ⟨#[]⟩,.int .i64 0,.int .i64 0,.int .i64 0,.slice none 0 0,.slice none 0 0,.int .i64 0,.int .i64 0] 30)).heap.size=w.heap.size+1+1:=by simp
  refine ⟨?_,?_,?_,by rw [hW0];simp,by omega,hq0⟩
  ·rw [hW0,Below.heap_alloc _ _ _ (by simp;omega),Below.heap_alloc _ _ _ (by simp)];exact heap_alloc_new w _
  ·rw [hW0,Below.heap_alloc _ _ _ (by simp),<-hz1];exact heap_alloc_new (w.alloc AB) _
  ·intro j s hs;rw [hW0,<-hz2,cell_of_row _ _ _ _ _ (0,0) (heap_alloc_new _ _)]
   match j,hs with
   | 0,hs=>cases hs;rfl
   | 1,hs=>cases hs;rfl
   | 2,hs=>cases hs;rfl
   | 3,hs=>cases hs;rfl
   | 4,hs=>cases hs;rfl
   | j+5,hs=>simp [Xt] at hs
 have HET:=hid hE;have uN:=hid hin;have Es:=hid hsh;have WE:Hid (∀ (j:Nat) (s:ByteArray) (W:World),ah w W->Calls Tryd.prog 65 #[tks g ts c,.int .i64 j,.string s] W fun e w'=>e=.returned (.bool (bZ ts j 4 s.data.toList))/\W=w'):=fun j s W hq=>BJ ts g c j s W (ht.stay hq)
 have HWD:Hid (∀ (j:Nat) (s:ByteArray) (W:World),ah w W->Calls Tryd.prog 47 #[tks g ts c,.int .i64 j,.string s] W fun e w'=>e=.returned (.bool (bZ ts j 3 s.data.toList))/\W=w'):=fun j s W hq=>lG ts g c j s W (ht.stay hq)
 have HNM:Hid (∀ (j:Nat) (W:World),ah w W->Calls Tryd.prog 64 #[tks g ts c,.int .i64 j] W fun e w'=>e=.returned (.bool (oO ts j))/\W=w'):=fun j W hq=>O4 ts g c j W (ht.stay hq)
 have acY:Hid (∀ (W:World),ah w W->Calls Tryd.prog 47 #[tks g ts c,.int .i64 i,.string ⟨#[102,117,110]⟩] W fun e w'=>e=.returned (.bool (bZ ts i 3 sN))/\W=w'):=fun W hq=>HWD.out i _ W hq
 have acZ:Hid (∀ (W:World),ah w W->Calls Tryd.prog 47 #[tks g ts c,.int .i64 i,.string ⟨#[108,101,116]⟩] W fun e w'=>e=.returned (.bool (bZ ts i 3 AL))/\W=w'):=fun W hq=>HWD.out i _ W hq
 have ac0:Hid (∀ (W:World),ah w W->Calls Tryd.prog 47 #[tks g ts c,.int .i64 ((i:Int)+1),.string ⟨#[114,101,99]⟩] W fun e w'=>e=.returned (.bool (bZ ts (i+1) 3 Xw))/\W=w'):=fun W hq=>HWD.out (i+1) _ W hq
 have WG:Hid (∀ (j:Nat) (t:Tok),ts[j]?=some t->∀ W,ah w W->W.cell? ⟨g,j*4,none⟩=some (.int .i64 (t.kind:Nat))/\W.cell? ⟨g,j*4+1,none⟩=some (.string (dn t.text))/\W.cell? ⟨g,j*4+2,none⟩=some (.int .i64 (t.fr:Nat))/\W.cell? ⟨g,j*4+3,none⟩=some (.int .i64 (t.to:Nat))):=fun j t h W hq=>(ht.stay hq).cells j t h
 have ZA:=hid PV;obtain ⟨fin,hfin⟩:∃ fin,gW E ts (ny ts i) ⟨[],.nil,(0,0),kP ts i⟩=fin:=⟨_,rfl⟩;have bF:=hid hfin;have hform:tK E ts i=LY ts i (sG ts i) fin:=by unfold tK;rw [hfin]
 obtain ⟨res,hres⟩:∃ res,LY ts i (sG ts i) fin=res:=⟨_,rfl⟩;have aQ:=hid hres;rw [hform,hres];have hfl:kP ts i < ts.length:=by
  unfold kP
  split
  ·next h=>rw [Bool.and_eq_true] at h;have:=dN hsh h.2 (by decide);omega
  ·omega
 have bK:=hid (Xv ts i);clear ht hE hin hsh PV hfin hform hres;go_enter Tryd.func48,Tryd.ntmps48;go_upto_region 4 with fail
 change Code.wp _ _ _ _ (((w.alloc AB).alloc (.cells #[.int .i64 8,.string ⟨#[]⟩,.int .i64 0,.int .i64 0,.int .i64 0,.slice none 0 0,.slice none 0 0,.int .i64 0,.int .i64 0] 30)).alloc (.cells #[.string ⟨#[101]⟩,.string ⟨#[116,104,101,110]⟩,.string ⟨#[101]⟩,.string ⟨#[101,108,115,101]⟩,.string ⟨#[101]⟩] 9));rw [<-hW0];clear hW0;generalize hB:w.heap.size=B at *;have bY:=hid hB;clear hB;go_wp2_with fail;refine (acY.out W0 HD0.out.q).mono ?_;rintro e w1 ⟨rfl,rfl⟩;go_upto_if 20 with fail
 go_cut [10] (fun v wx=>ZH ts i B (B+1) w v wx)
 case first =>
  cases h1:bZ ts i 3 sN
  case true =>
   have nH:=hid (HD0.out.steps (ss':=Ho) (cs:=#[.string ⟨#[110]⟩,.string ⟨#[45,62]⟩,.string ⟨#[101]⟩]) (by
    intro j s hs
    match j,hs with
    | 0,hs=>cases hs;rfl
    | 1,hs=>cases hs;rfl
    | 2,hs=>cases hs;rfl
    | j+3,hs=>simp [Ho] at hs))
   have HD1:=hid (nH.out.kind (kd':=4) (by omega) (by have:=bY.out;omega));have ht0:=nH.out.t;obtain ⟨⟨t0,t1,t2,t3,t4,t5,t6,t7,t8⟩,u0,u1,u2,u3,u4,u5,u6,u7,u8⟩:=aW ht0;clear ht0;go_wp2_with fail;go_meet;unfold ZH;rw [h1];exact ⟨_,rfl,HD1.out⟩
  case false =>
   go_wp2_with fail;go_meet;unfold ZH;rw [h1];exact ⟨B+1+1,rfl,HD0.out⟩
 case rest =>
  rename World=>wa
  obtain ⟨gs,rfl,hda⟩:=hcut;have HDA:=hid hda;clear hda HD0;have HSA:Hid (bZ ts i 3 AL=false->ny ts i=(if bZ ts i 3 sN then Ho else Xt)/\sG ts i=(if bZ ts i 3 sN then 4 else 8)/\kP ts i=i+1):=by
   intro h;refine ⟨?_,?_,?_⟩
   ·unfold ny;rw [if_neg (by rw [h];simp)];rfl
   ·unfold sG;rw [if_neg (by rw [h];simp)]
   ·unfold kP;rw [if_neg (by rw [h];simp)]
  generalize (if bZ ts i 3 sN then Ho else Xt)=sa at *;generalize (if bZ ts i 3 sN then (4:Int) else 8)=ka at *;go_wp2_with fail;refine (acZ.out wa HDA.out.q).mono ?_;rintro e w1 ⟨rfl,rfl⟩;go_upto_if 25 with fail
  go_cut [10,11] (fun v u wx=>Xu ts i B (B+1) w v u wx)
  case first =>
   cases h2:bZ ts i 3 AL
   case false =>
    go_wp2_with fail;go_meet;obtain ⟨e1,e2,e3⟩:=HSA.out h2;unfold Xu;rw [e1,e2,e3];exact ⟨gs,rfl,by go_num,HDA.out⟩
   case true =>
    have nH:=hid (HDA.out.steps (ss':=PX) (cs:=#[.string ⟨#[110]⟩,.string ⟨#[61]⟩,.string ⟨#[101]⟩,.string ⟨#[105,110]⟩,.string ⟨#[101]⟩]) (by
     intro j s hs
     match j,hs with
     | 0,hs=>cases hs;rfl
     | 1,hs=>cases hs;rfl
     | 2,hs=>cases hs;rfl
     | 3,hs=>cases hs;rfl
     | 4,hs=>cases hs;rfl
     | j+5,hs=>simp [PX] at hs))
    have HD1:=hid (nH.out.kind (kd':=6) (by omega) (by have:=bY.out;omega));have ht0:=nH.out.t;obtain ⟨⟨t0,t1,t2,t3,t4,t5,t6,t7,t8⟩,u0,u1,u2,u3,u4,u5,u6,u7,u8⟩:=aW ht0;clear ht0;go_upto_region 8 with fail
    change Code.wp _ _ _ _ ((wa.alloc (.cells #[.string ⟨#[110]⟩,.string ⟨#[61]⟩,.string ⟨#[101]⟩,.string ⟨#[105,110]⟩,.string ⟨#[101]⟩] 9)).setCell ⟨B+1,0,none⟩ (.int .i64 6));clear t0 t1 t2 t3 t4 t5 t6 t7 t8 u0 u1 u2 u3 u4 u5 u6 u7 u8 nH HSA;generalize wa.heap.size=gs2 at *;generalize (wa.alloc (.cells #[.string ⟨#[110]⟩,.string ⟨#[61]⟩,.string ⟨#[101]⟩,.string ⟨#[105,110]⟩,.string ⟨#[101]⟩] 9)).setCell ⟨B+1,0,none⟩ (.int .i64 6)=W1 at *;go_wp2_with fail;refine (ac0.out W1 HD1.out.q).mono ?_;rintro e w1 ⟨rfl,rfl⟩;cases h3:bZ ts (i+1) 3 Xw
    case false =>
     have HE:Hid (ny ts i=PX/\sG ts i=6/\kP ts i=i+1):=by
      refine ⟨?_,?_,?_⟩
      ·unfold ny;rw [if_pos h2];rfl
      ·unfold sG;rw [if_pos h2,if_neg (by rw [h3];simp)]
      ·unfold kP;rw [if_neg (by rw [h3];simp)]
     go_wp2_with fail;go_meet;unfold Xu;rw [HE.out.1,HE.out.2.1,HE.out.2.2];exact ⟨gs2,rfl,by go_num,HD1.out⟩
    case true =>
     have HE:Hid (ny ts i=PX/\sG ts i=7/\kP ts i=i+2):=by
      refine ⟨?_,?_,?_⟩
      ·unfold ny;rw [if_pos h2];rfl
      ·unfold sG;rw [if_pos h2,if_pos h3]
      ·unfold kP;rw [if_pos (by rw [h2,h3];rfl)]
     have ht0:=HD1.out.t;obtain ⟨⟨t0,t1,t2,t3,t4,t5,t6,t7,t8⟩,u0,u1,u2,u3,u4,u5,u6,u7,u8⟩:=aW ht0;have HD2:=hid (HD1.out.kind (kd':=7) (by omega) (by have:=bY.out;omega));clear ht0;go_wp2_with fail;go_meet;unfold Xu;rw [HE.out.1,HE.out.2.1,HE.out.2.2];exact ⟨gs2,rfl,by go_num,HD2.out⟩
  case rest =>
   rename World=>wb
   clear HDA HSA;obtain ⟨gs,rfl,rfl,hdb⟩:=hcut;obtain ⟨W2,hW2⟩:∃ W2,W2=wb.alloc AB:=⟨_,rfl⟩;have hq2:ah wb W2:=by rw [hW2];exact ah.alloc _ _
   obtain ⟨ss,hss⟩:∃ ss,ny ts i=ss:=⟨_,rfl⟩;obtain ⟨kd,hkd⟩:∃ kd,sG ts i=kd:=⟨_,rfl⟩;rw [hss,hkd] at hdb;rw [hss] at bK bF ⊢;rw [hkd] at aQ;have HF2:Hid (NV B (B+1) wb.heap.size gs w kd ss [] none 0 .nil [] ⟨0,⟨#[]⟩,0,0,0,.nil,0,0⟩ none 0 0 none 0 0 (0,0) 0 W2) :=
    ⟨au hq2 hdb.b,au hq2 hdb.t,by rw [hW2];exact heap_alloc_new wb _,fun j s hs=>hq2.at (hdb.st j s hs),hdb.lt,hdb.gt,cO.nil _ _,hdb.q.trans hq2⟩
   go_upto_block 0 with fail
   change Code.wp _ _ _ _ (wb.alloc AB);rw [<-hW2];clear hW2 hq2 hdb hss hkd;generalize wb.heap.size=lb at *;have hl5:=bK.out.1;generalize hfi:kP ts i=fi at *;clear hfi;go_wp2_with fail;go_loopw [11,13] (fun u v wr=>abd E ts B (B+1) lb gs w kd ss fin u v wr) (fun _ v _=>ss.length-(intOf v).toNat)
   case atStart=>exact ⟨0,⟨[],.nil,(0,0),fi⟩,none,0,[],_,none,0,0,none,0,0,0,rfl,rfl,Nat.zero_le _,hfl,Nat.le_refl _,bF.out,HF2.out⟩
   case round =>
    obtain ⟨k,m,vo,vc,xs,hl,p1,m1,d1,p2,m2,d2,jl,rfl,rfl,hk,LZ,hml,hst,hfm⟩:=hrel;obtain ⟨mn,mp,mx,mi⟩:=m;dsimp only at LZ hml hst hfm;have HST:=hid hst;have tV:=hid hfm;clear hst hfm HF2 bF
    by_cases hlt2:k < ss.length
    ·have TM:(k:Int) < ss.length:=by omega
     have hk0:(0:Int)<=k:=by omega
     obtain ⟨s,hs⟩:∃ s,ss[k]?=some s:=⟨_,List.getElem?_eq_getElem hlt2⟩;have c0:=tV.out.st k s hs;have PY:=hid ((LX hs _).symm.trans HST.out);cases s with
     | e =>
      have e1:((ByteArray.mk #[101]).toList == [101])=true:=by rw [ByteArray.toList_eq];rfl
      change wr.cell? ⟨gs,k,none⟩=some (.string ⟨#[101]⟩) at c0;have HC:=HET.out mi (mi:Int) wr rfl LZ tV.out.q;have HI2:=uN.out mi LZ;cases hr2:E mi with
      | inr y =>
       obtain ⟨j,er⟩:=y;rw [hr2] at HC HI2;have hne:er≠0:=HI2.2;have hne2:((er:Int) != 0)=true:=by simp [hne]
       have rZ:Hid (res=.inr (j,er)):=by
        show _=_
        rw [<-aQ.out,<-PY.out]
        show LY ts i kd (match jS E ts ⟨mn,mp,mx,mi⟩ Stp.e with | .inr e=>.inr e | .inl m'=>_)=_
        rw [show jS E ts ⟨mn,mp,mx,mi⟩ Stp.e=.inr (j,er) from by simp only [jS,hr2]];rfl
       have HC2:=hid HC;clear HC HI2 hr2;go_wp2_with fail;refine HC2.out.mono ?_;rintro e w5 ⟨rfl,hq5⟩;have HF5:=hid (tV.out.stay hq5);have jT:=HF5.out.l;obtain ⟨q0,q1,q2,q3,q4,q5,q6,q7,q8,q9,q10,q11,q12⟩:=aG jT;have v0:=ak jT 0;have v1:=ak jT 1;have v2:=ak jT 2;have v3:=ak jT 3;have v4:=ak jT 4;have v5:=ak jT 5;have v6:=ak jT 6;have v7:=ak jT 7;have v8:=ak jT 8;have v9:=ak jT 9;have v10:=ak jT 10;have v11:=ak jT 11;have v12:=ak jT 12;go_upto_region 21 with fail
       change Code.wp _ _ _ _ (aN w5 lb (.int .i64 0) (.string ⟨#[]⟩) (.int .i64 0) (.int .i64 0) (.int .i64 0) (.slice none 0 0) (.slice none 0 0) (.int .i64 0) (.int .i64 0) (.int .i64 0) (.int .i64 0) (.int .i64 (j:Nat)) (.int .i64 (er:Nat)));have IL:=bg w5 lb (.int .i64 0) (.string ⟨#[]⟩) (.int .i64 0) (.int .i64 0) (.int .i64 0) (.slice none 0 0) (.slice none 0 0) (.int .i64 0) (.int .i64 0) (.int .i64 0) (.int .i64 0) (.int .i64 (j:Nat)) (.int .i64 (er:Nat));have YO:=aK (a0:=.int .i64 0) (a1:=.string ⟨#[]⟩) (a2:=.int .i64 0) (a3:=.int .i64 0) (a4:=.int .i64 0) (a5:=.slice none 0 0) (a6:=.slice none 0 0) (a7:=.int .i64 0) (a8:=.int .i64 0) (a9:=.int .i64 0) (a10:=.int .i64 0) (a11:=.int .i64 (j:Nat)) (a12:=.int .i64 (er:Nat)) jT;have hlb:B+1 < lb:=by have:=tV.out.gt;have:=tV.out.gl;omega
       have hb6:=aC IL (by omega) HF5.out.b;have vS:=hid hb6;have yV:=hid (HF5.out.q.trans' IL (fun b hb e=>by have:=bY.out;omega));clear IL jT hq5 HC2 q0 v0 q1 v1 q2 v2 q3 v3 q4 v4 q5 v5 q6 v6 q7 v7 q8 v8 q9 v9 q10 v10 q11 v11 q12 v12;generalize aN w5 lb (.int .i64 0) (.string ⟨#[]⟩) (.int .i64 0) (.int .i64 0) (.int .i64 0) (.slice none 0 0) (.slice none 0 0) (.int .i64 0) (.int .i64 0) (.int .i64 0) (.int .i64 0) (.int .i64 (j:Nat)) (.int .i64 (er:Nat))=W6 at *;obtain ⟨q0,q1,q2,q3,q4,q5,q6,q7,q8,q9,q10,q11,q12⟩:=aG YO;obtain ⟨x0,x1,x2,x3,x4,x5,x6,x7,x8,x9,x10,x11,x12⟩:=aG hb6;have y0:=ak hb6 0;have y1:=ak hb6 1;have y2:=ak hb6 2;have y3:=ak hb6 3;have y4:=ak hb6 4;have y5:=ak hb6 5;have y6:=ak hb6 6;have y7:=ak hb6 7;have y8:=ak hb6 8;have y9:=ak hb6 9;have yX:=ak hb6 10;have yY:=ak hb6 11;have yZ:=ak hb6 12;clear YO hb6;go_wp2_with fail;have hf:=bg W6 B (.int .i64 0) (.string ⟨#[]⟩) (.int .i64 0) (.int .i64 0) (.int .i64 0) (.slice none 0 0) (.slice none 0 0) (.int .i64 0) (.int .i64 0) (.int .i64 0) (.int .i64 0) (.int .i64 (j:Nat)) (.int .i64 (er:Nat));have dU:ah w (aN W6 B (.int .i64 0) (.string ⟨#[]⟩) (.int .i64 0) (.int .i64 0) (.int .i64 0) (.slice none 0 0) (.slice none 0 0) (.int .i64 0) (.int .i64 0) (.int .i64 0) (.int .i64 0) (.int .i64 (j:Nat)) (.int .i64 (er:Nat))):=(yV.out).trans' hf (fun k hk e=>by have:=bY.out;omega);obtain ⟨f0,f1,f2,f3,f4,f5,f6,f7,f8,f9,f10,f11,f12⟩:=aG (aK (a0:=.int .i64 0) (a1:=.string ⟨#[]⟩) (a2:=.int .i64 0) (a3:=.int .i64 0) (a4:=.int .i64 0) (a5:=.slice none 0 0) (a6:=.slice none 0 0) (a7:=.int .i64 0) (a8:=.int .i64 0) (a9:=.int .i64 0) (a10:=.int .i64 0) (a11:=.int .i64 (j:Nat)) (a12:=.int .i64 (er:Nat)) vS.out)
       change bodyPost _ _ _ _ _ (aN W6 B (.int .i64 0) (.string ⟨#[]⟩) (.int .i64 0) (.int .i64 0) (.int .i64 0) (.slice none 0 0) (.slice none 0 0) (.int .i64 0) (.int .i64 0) (.int .i64 0) (.int .i64 0) (.int .i64 (j:Nat)) (.int .i64 (er:Nat)));generalize aN W6 B (.int .i64 0) (.string ⟨#[]⟩) (.int .i64 0) (.int .i64 0) (.int .i64 0) (.slice none 0 0) (.slice none 0 0) (.int .i64 0) (.int .i64 0) (.int .i64 0) (.int .i64 0) (.int .i64 (j:Nat)) (.int .i64 (er:Nat))=wf at *;refine bodyPost_ret (by simp [results,Tryd.results48,go_sem,f0,f1,f2,f3,f4,f5,f6,f7,f8,f9,f10,f11,f12];rfl) rfl ?_;rw [rZ.out];exact ⟨rfl,dU⟩
      | inl y =>
       obtain ⟨⟨h2,qs⟩,x2,j⟩:=y;rw [hr2] at HC HI2;have hj2:mi < j/\j < ts.length:=HI2;have rZ:Hid (gW E ts (ss.drop (k+1)) ⟨mn,mp.app (.cons h2 qs .nil),x2,j⟩=fin):=by
        show _=_
        rw [<-PY.out];rw [show jS E ts ⟨mn,mp,mx,mi⟩ Stp.e=.inl ⟨mn,mp.app (.cons h2 qs .nil),x2,j⟩ from by simp only [jS,hr2]]
       have HC2:=hid HC;clear HC HI2 hr2;go_wp2_with fail;refine HC2.out.mono ?_;rintro e w5 ⟨r1,n1,e1',r2,n2,e2,rfl,hs5,Xr,hq5⟩;have HF5:=hid (tV.out.stay hq5);have jT:=HF5.out.l;obtain ⟨q0,q1,q2,q3,q4,q5,q6,q7,q8,q9,q10,q11,q12⟩:=aG jT;have v0:=ak jT 0;have v1:=ak jT 1;have v2:=ak jT 2;have v3:=ak jT 3;have v4:=ak jT 4;have v5:=ak jT 5;have v6:=ak jT 6;have v7:=ak jT 7;have v8:=ak jT 8;have v9:=ak jT 9;have v10:=ak jT 10;have v11:=ak jT 11;have v12:=ak jT 12;go_upto_region 21 with fail
       change Code.wp _ _ _ _ (aN w5 lb (.int .i64 h2.k) (.string h2.nm) (.int .i64 h2.n) (.int .i64 h2.tk) (.int .i64 h2.tn) (.slice r1 n1 e1') (.slice r2 n2 e2) (.int .i64 h2.fr) (.int .i64 h2.en) (.int .i64 x2.1) (.int .i64 x2.2) (.int .i64 (j:Nat)) (.int .i64 0));have hlb:B+1 < lb:=by have:=tV.out.gt;have:=tV.out.gl;omega
       have hlw:=lt_of_block tV.out.l;have IL:=bg w5 lb (.int .i64 h2.k) (.string h2.nm) (.int .i64 h2.n) (.int .i64 h2.tk) (.int .i64 h2.tn) (.slice r1 n1 e1') (.slice r2 n2 e2) (.int .i64 h2.fr) (.int .i64 h2.en) (.int .i64 x2.1) (.int .i64 x2.2) (.int .i64 (j:Nat)) (.int .i64 0);have HF6:=hid (HF5.out.last (h2:=h2) (r1:=r1) (n1:=n1) (e1:=e1') (r2:=r2) (n2:=n2) (e2:=e2) (x2:=x2) (j2:=j) (by omega) (by have:=bY.out;omega));have hol:∀ b,(Value.slice vo mp.length vc).ownBlock=some b->b < wr.heap.size:=fun b hb=>(tV.out.row.own.lt b hb).2
       have HS6:Hid (aB (fun b=>lb < b/\(Value.slice vo mp.length vc).ownBlock≠some b) (aN w5 lb (.int .i64 h2.k) (.string h2.nm) (.int .i64 h2.n) (.int .i64 h2.tk) (.int .i64 h2.tn) (.slice r1 n1 e1') (.slice r2 n2 e2) (.int .i64 h2.fr) (.int .i64 h2.en) (.int .i64 x2.1) (.int .i64 x2.2) (.int .i64 (j:Nat)) (.int .i64 0)) r1 n1 h2.tp):=hs5.fr IL (fun b _ k=>by have k':wr.heap.size<=b:=k;exact ⟨⟨by omega,fun e=>by have:=hol b e;omega⟩,by omega⟩);have HT6:Hid (bC (fun b=>lb < b/\(Value.slice vo mp.length vc).ownBlock≠some b) (aN w5 lb (.int .i64 h2.k) (.string h2.nm) (.int .i64 h2.n) (.int .i64 h2.tk) (.int .i64 h2.tn) (.slice r1 n1 e1') (.slice r2 n2 e2) (.int .i64 h2.fr) (.int .i64 h2.en) (.int .i64 x2.1) (.int .i64 x2.2) (.int .i64 (j:Nat)) (.int .i64 0)) r2 n2 qs):=Xr.fr IL (fun b _ k=>by have k':wr.heap.size<=b:=k;exact ⟨⟨by omega,fun e=>by have:=hol b e;omega⟩,by omega⟩);clear IL jT hq5 HC2 hs5 Xr hol q0 v0 q1 v1 q2 v2 q3 v3 q4 v4 q5 v5 q6 v6 q7 v7 q8 v8 q9 v9 q10 v10 q11 v11 q12 v12;generalize aN w5 lb (.int .i64 h2.k) (.string h2.nm) (.int .i64 h2.n) (.int .i64 h2.tk) (.int .i64 h2.tn) (.slice r1 n1 e1') (.slice r2 n2 e2) (.int .i64 h2.fr) (.int .i64 h2.en) (.int .i64 x2.1) (.int .i64 x2.2) (.int .i64 (j:Nat)) (.int .i64 0)=W6 at *;have YO:=HF6.out.l;have ht6:=HF6.out.t;obtain ⟨q0,q1,q2,q3,q4,q5,q6,q7,q8,q9,q10,q11,q12⟩:=aG YO;obtain ⟨⟨t0,t1,t2,t3,t4,t5,t6,t7,t8⟩,u0,u1,u2,u3,u4,u5,u6,u7,u8⟩:=aW ht6;clear YO ht6;have adR:mp.length<=5:=by omega
       go_wp2_with (at_builtin;go_must (refine aX W6 rfl (.tmp 79) (.tmp 82) 26 rfl 30 _ 9 112 sZ (.slice vo mp.length vc) mp.length xs rfl HF6.out.row.own (cells9 h2 r1 n1 e1' r2 n2 e2) rfl rfl (by simp [Value.oneCell']) (by unfold maxLen;omega) (by omega) ?_));intro g3 c3 w7 ho EI hg7;have hlow:∀ b,(Value.slice vo mp.length vc).ownBlock=some b->lb < b:=HF6.out.row.low;have NU:=aC EI (fun e=>by have:=hlow _ e;omega) HF6.out.t;have RD:=hid (HF6.out.part (by omega) (by have:=bY.out;omega) HS6.out HT6.out ho EI hg7);clear t0 t1 t2 t3 t4 t5 t6 t7 t8 u0 u1 u2 u3 u4 u5 u6 u7 u8 q0 q1 q2 q3 q4 q5 q6 q7 q8 q9 q10 q11 q12;obtain ⟨⟨t0,t1,t2,t3,t4,t5,t6,t7,t8⟩,u0,u1,u2,u3,u4,u5,u6,u7,u8⟩:=aW NU;clear NU ho EI hg7 hlow;go_upto_region 24 with fail
       change Code.wp _ _ _ _ (w7.setCell ⟨B+1,6,none⟩ (.slice (some ⟨g3,0,none⟩) (mp.length+1) c3));clear t0 t1 t2 t3 t4 t5 t6 t7 t8 u0 u1 u2 u3 u4 u5 u6 u7 u8;generalize w7.setCell ⟨B+1,6,none⟩ (.slice (some ⟨g3,0,none⟩) (mp.length+1) c3)=W8 at *;have hl8:=RD.out.l;obtain ⟨q0,q1,q2,q3,q4,q5,q6,q7,q8,q9,q10,q11,q12⟩:=aG hl8;clear hl8;go_wp2_with fail;go_roundw
       case rel=>exact ⟨k+1,⟨mn,mp.app (.cons h2 qs .nil),x2,j⟩,some ⟨g3,0,none⟩,c3,_,h2,r1,n1,e1',r2,n2,e2,j,rfl,by go_num,by omega,hj2.2,by show (mp.app _).length<=_;rw [To.bJ];simp [To.length];omega,rZ.out,RD.out⟩
       case measure=>simp [intOf];omega
     | n =>
      have e1:((ByteArray.mk #[110]).toList == [101])=false:=by rw [ByteArray.toList_eq];rfl
      have e2:((ByteArray.mk #[110]).toList == [110])=true:=by rw [ByteArray.toList_eq];rfl
      change wr.cell? ⟨gs,k,none⟩=some (.string ⟨#[110]⟩) at c0;go_wp2_with fail;refine (HNM.out mi wr tV.out.q).mono ?_;rintro e w4 ⟨rfl,rfl⟩;cases hn:oO ts mi
      case false =>
       have rZ:Hid (res=.inr (mi,3)):=by
        show _=_
        rw [<-aQ.out,<-PY.out];rw [show jS E ts ⟨mn,mp,mx,mi⟩ Stp.n=.inr (mi,3) from by show (if oO ts mi=true then _ else _)=_;rw [if_neg (by rw [hn];simp)]];rfl
       have Lr:=hid (kN (mi:Int) 3 wr);go_wp2_with fail;refine Lr.out.mono ?_;rintro e w8 ⟨rfl,hq8⟩;have RD:=hid (tV.out.stay hq8);have hb8:=RD.out.b;clear hq8;obtain ⟨x0,x1,x2,x3,x4,x5,x6,x7,x8,x9,x10,x11,x12⟩:=aG hb8;have y0:=ak hb8 0;have y1:=ak hb8 1;have y2:=ak hb8 2;have y3:=ak hb8 3;have y4:=ak hb8 4;have y5:=ak hb8 5;have y6:=ak hb8 6;have y7:=ak hb8 7;have y8:=ak hb8 8;have y9:=ak hb8 9;have yX:=ak hb8 10;have yY:=ak hb8 11;have yZ:=ak hb8 12;clear hb8;go_wp2_with fail;have hf:=bg w8 B (.int .i64 0) (.string ⟨#[]⟩) (.int .i64 0) (.int .i64 0) (.int .i64 0) (.slice none 0 0) (.slice none 0 0) (.int .i64 0) (.int .i64 0) (.int .i64 0) (.int .i64 0) (.int .i64 (mi:Nat)) (.int .i64 3);have dU:ah w (aN w8 B (.int .i64 0) (.string ⟨#[]⟩) (.int .i64 0) (.int .i64 0) (.int .i64 0) (.slice none 0 0) (.slice none 0 0) (.int .i64 0) (.int .i64 0) (.int .i64 0) (.int .i64 0) (.int .i64 (mi:Nat)) (.int .i64 3)):=(RD.out.q).trans' hf (fun k hk e=>by have:=bY.out;omega);obtain ⟨f0,f1,f2,f3,f4,f5,f6,f7,f8,f9,f10,f11,f12⟩:=aG (aK (a0:=.int .i64 0) (a1:=.string ⟨#[]⟩) (a2:=.int .i64 0) (a3:=.int .i64 0) (a4:=.int .i64 0) (a5:=.slice none 0 0) (a6:=.slice none 0 0) (a7:=.int .i64 0) (a8:=.int .i64 0) (a9:=.int .i64 0) (a10:=.int .i64 0) (a11:=.int .i64 (mi:Nat)) (a12:=.int .i64 3) RD.out.b);change bodyPost _ _ _ _ _ (aN w8 B (.int .i64 0) (.string ⟨#[]⟩) (.int .i64 0) (.int .i64 0) (.int .i64 0) (.slice none 0 0) (.slice none 0 0) (.int .i64 0) (.int .i64 0) (.int .i64 0) (.int .i64 0) (.int .i64 (mi:Nat)) (.int .i64 3))
       generalize aN w8 B (.int .i64 0) (.string ⟨#[]⟩) (.int .i64 0) (.int .i64 0) (.int .i64 0) (.slice none 0 0) (.slice none 0 0) (.int .i64 0) (.int .i64 0) (.int .i64 0) (.int .i64 0) (.int .i64 (mi:Nat)) (.int .i64 3)=wf at *;refine bodyPost_ret (by simp [results,Tryd.results48,go_sem,f0,f1,f2,f3,f4,f5,f6,f7,f8,f9,f10,f11,f12];rfl) rfl ?_;rw [rZ.out];exact ⟨rfl,dU⟩
      case true =>
       have hlt3:=Jk Es.out hn;obtain ⟨ZI,PW⟩:∃ ZI,ts[mi]?=some ZI:=⟨_,List.getElem?_eq_getElem LZ⟩;have rZ:Hid (gW E ts (ss.drop (k+1)) ⟨ZI.text,mp,mx,mi+1⟩=fin):=by
        show _=_
        rw [<-PY.out];rw [show jS E ts ⟨mn,mp,mx,mi⟩ Stp.n=.inl ⟨ZI.text,mp,mx,mi+1⟩ from by show (if oO ts mi=true then Sum.inl (Fm.mk (txt ts mi) mp mx (mi+1)) else _)=_;rw [if_pos hn];unfold txt;rw [PW]]
       obtain ⟨k0,k1,k2,k3⟩:=WG.out mi ZI PW wr tV.out.q;have hi':(mi:Int) < ts.length:=by omega
       have hi0:(0:Int)<=mi:=by omega
       have RD:=hid (tV.out.name (nm':=ZI.text) (by omega) (by have:=bY.out;omega));have Xr:=tV.out.t;obtain ⟨⟨t0,t1,t2,t3,t4,t5,t6,t7,t8⟩,u0,u1,u2,u3,u4,u5,u6,u7,u8⟩:=aW Xr;clear Xr PW;go_wp2_with fail;go_roundw
       case rel=>exact ⟨k+1,⟨ZI.text,mp,mx,mi+1⟩,vo,vc,_,hl,p1,m1,d1,p2,m2,d2,jl,by go_num,by go_num,by omega,hlt3,by show mp.length<=_;omega,rZ.out,RD.out⟩
       case measure=>simp [intOf];omega
     | s t =>
      have hok:=bK.out.2 t (List.mem_of_getElem? hs);have e1:((dn t).toList == [101])=false:=by rw [ByteArray.toList_eq];exact hok.1
      have e2:((dn t).toList == [110])=false:=by rw [ByteArray.toList_eq];exact hok.2
      have HW1:=hid (HWD.out mi (dn t) wr tV.out.q);have Ru:=hid (WE.out mi (dn t) wr tV.out.q);change Hid (Calls _ _ _ _ fun e w'=>e=.returned (.bool (bZ ts mi 3 t))/\wr=w') at HW1;change Hid (Calls _ _ _ _ fun e w'=>e=.returned (.bool (bZ ts mi 4 t))/\wr=w') at Ru;change wr.cell? ⟨gs,k,none⟩=some (.string (dn t)) at c0;have hlt3:bZ ts mi 3 t=true∨bZ ts mi 4 t=true->mi+1 < ts.length:=fun h=>h.elim (fun h=>dN Es.out h (by decide)) (fun h=>dN Es.out h (by decide))
      have rZ:Hid ((bZ ts mi 3 t || bZ ts mi 4 t)=true->gW E ts (ss.drop (k+1)) ⟨mn,mp,mx,mi+1⟩=fin):=fun hh=>by
       rw [<-PY.out];rw [show jS E ts ⟨mn,mp,mx,mi⟩ (Stp.s t)=.inl ⟨mn,mp,mx,mi+1⟩ from by show (if (bZ ts mi 3 t || bZ ts mi 4 t)=true then _ else _)=_;rw [if_pos hh]]
      have HFN:Hid ((bZ ts mi 3 t || bZ ts mi 4 t)=false->res=.inr (mi,3)):=fun hh=>by
       rw [<-aQ.out,<-PY.out];rw [show jS E ts ⟨mn,mp,mx,mi⟩ (Stp.s t)=.inr (mi,3) from by show (if (bZ ts mi 3 t || bZ ts mi 4 t)=true then _ else _)=_;rw [if_neg (by rw [hh];simp)]];rfl
      generalize bZ ts mi 3 t=b3 at *;generalize bZ ts mi 4 t=b4 at *;go_wp2_with fail;refine HW1.out.mono ?_;rintro e w4 ⟨rfl,rfl⟩;cases b3
      case true =>
       have hlt4:=hlt3 (.inl rfl);go_wp2_with fail;go_roundw
       case rel=>exact ⟨k+1,⟨mn,mp,mx,mi+1⟩,vo,vc,_,hl,p1,m1,d1,p2,m2,d2,jl,by go_num,by go_num,by omega,hlt4,by show mp.length<=_;omega,rZ.out rfl,tV.out⟩
       case measure=>simp [intOf];omega
      case false =>
       go_wp2_with fail;refine Ru.out.mono ?_;rintro e w4 ⟨rfl,rfl⟩;cases b4
       case true =>
        have hlt4:=hlt3 (.inr rfl);go_wp2_with fail;go_roundw
        case rel=>exact ⟨k+1,⟨mn,mp,mx,mi+1⟩,vo,vc,_,hl,p1,m1,d1,p2,m2,d2,jl,by go_num,by go_num,by omega,hlt4,by show mp.length<=_;omega,rZ.out rfl,tV.out⟩
        case measure=>simp [intOf];omega
       case false =>
        have Lr:=hid (kN (mi:Int) 3 wr);have ac1:Hid (res=.inr (mi,3)):=HFN.out rfl;go_wp2_with fail;refine Lr.out.mono ?_;rintro e w8 ⟨rfl,hq8⟩;have RD:=hid (tV.out.stay hq8);have hb8:=RD.out.b;clear hq8;obtain ⟨x0,x1,x2,x3,x4,x5,x6,x7,x8,x9,x10,x11,x12⟩:=aG hb8;have y0:=ak hb8 0;have y1:=ak hb8 1;have y2:=ak hb8 2;have y3:=ak hb8 3;have y4:=ak hb8 4;have y5:=ak hb8 5;have y6:=ak hb8 6;have y7:=ak hb8 7;have y8:=ak hb8 8;have y9:=ak hb8 9;have yX:=ak hb8 10;have yY:=ak hb8 11;have yZ:=ak hb8 12;clear hb8;go_wp2_with fail;have hf:=bg w8 B (.int .i64 0) (.string ⟨#[]⟩) (.int .i64 0) (.int .i64 0) (.int .i64 0) (.slice none 0 0) (.slice none 0 0) (.int .i64 0) (.int .i64 0) (.int .i64 0) (.int .i64 0) (.int .i64 (mi:Nat)) (.int .i64 3);have dU:ah w (aN w8 B (.int .i64 0) (.string ⟨#[]⟩) (.int .i64 0) (.int .i64 0) (.int .i64 0) (.slice none 0 0) (.slice none 0 0) (.int .i64 0) (.int .i64 0) (.int .i64 0) (.int .i64 0) (.int .i64 (mi:Nat)) (.int .i64 3)):=(RD.out.q).trans' hf (fun k hk e=>by have:=bY.out;omega);obtain ⟨f0,f1,f2,f3,f4,f5,f6,f7,f8,f9,f10,f11,f12⟩:=aG (aK (a0:=.int .i64 0) (a1:=.string ⟨#[]⟩) (a2:=.int .i64 0) (a3:=.int .i64 0) (a4:=.int .i64 0) (a5:=.slice none 0 0) (a6:=.slice none 0 0) (a7:=.int .i64 0) (a8:=.int .i64 0) (a9:=.int .i64 0) (a10:=.int .i64 0) (a11:=.int .i64 (mi:Nat)) (a12:=.int .i64 3) RD.out.b);change bodyPost _ _ _ _ _ (aN w8 B (.int .i64 0) (.string ⟨#[]⟩) (.int .i64 0) (.int .i64 0) (.int .i64 0) (.slice none 0 0) (.slice none 0 0) (.int .i64 0) (.int .i64 0) (.int .i64 0) (.int .i64 0) (.int .i64 (mi:Nat)) (.int .i64 3))
        generalize aN w8 B (.int .i64 0) (.string ⟨#[]⟩) (.int .i64 0) (.int .i64 0) (.int .i64 0) (.slice none 0 0) (.slice none 0 0) (.int .i64 0) (.int .i64 0) (.int .i64 0) (.int .i64 0) (.int .i64 (mi:Nat)) (.int .i64 3)=wf at *;refine bodyPost_ret (by simp [results,Tryd.results48,go_sem,f0,f1,f2,f3,f4,f5,f6,f7,f8,f9,f10,f11,f12];rfl) rfl ?_;rw [ac1.out];exact ⟨rfl,dU⟩
    ·have TM:¬ (k:Int) < ss.length:=by omega
     have rZ:Hid (res=.inl ((nd kd mn 0 (aT (at' ts i) mx),mp),aT (at' ts i) mx,mi)):=by
      show _=_
      rw [<-aQ.out,<-HST.out,show ss.drop k=[] from List.drop_eq_nil_of_le (by omega)];rfl
     have HJ:Hid (∀ W,Calls Tryd.prog 51 #[.agg #[.int .i64 (t9.fr:Nat),.int .i64 (t9.to:Nat)],.agg #[.int .i64 mx.1,.int .i64 mx.2]] W fun e w'=>e=.returned (.agg #[.int .i64 (aT (at' ts i) mx).1,.int .i64 (aT (at' ts i) mx).2])/\ah W w'):=fun W=>by
      have:=BR (t9.fr:Nat) (t9.to:Nat) mx.1 mx.2 W;rw [show at' ts i=(((t9.fr:Nat):Int),((t9.to:Nat):Int)) from by unfold at';rw [ZA.out]];exact this
     obtain ⟨k0,k1,k2,k3⟩:=WG.out i t9 ZA.out wr tV.out.q;have hi':(i:Int) < ts.length:=by omega
     have hi0:(0:Int)<=i:=by omega
     have hlb:B+1 < lb:=by have:=tV.out.gt;have:=tV.out.gl;omega
     have hl8:=tV.out.l;obtain ⟨q0,q1,q2,q3,q4,q5,q6,q7,q8,q9,q10,q11,q12⟩:=aG hl8;clear hl8;generalize aT (at' ts i) mx=jp at *;have hqc:=ah.refl wr;go_upto_region 30 with fail
     go_region_law (first
      | (go_simp;go_at_call 51;(with_reducible refine Calls.mono (HJ.out _) ?_);rintro e w7 ⟨rfl,hq7⟩;have EO:ah wr w7:=ah.trans (by (repeat with_reducible first | exact hqc | exact ah.refl _ | refine jq ?_ | refine jr ?_)) hq7;have HF7:=hid (tV.out.stay EO);have NU:=HF7.out.t;obtain ⟨⟨t0,t1,t2,t3,t4,t5,t6,t7,t8⟩,u0,u1,u2,u3,u4,u5,u6,u7,u8⟩:=aW NU;clear EO hq7 NU)
      | fail)
     all_goals
      have KT:Fr (fun b=>b=B+1) w7 ((w7.setCell ⟨B+1,7,none⟩ (.int .i64 jp.1)).setCell ⟨B+1,8,none⟩ (.int .i64 jp.2)):=(Fr.setCell (fun b=>b=B+1) w7 ⟨B+1,7,none⟩ (.int .i64 jp.1) rfl).trans (Fr.setCell (fun b=>b=B+1) _ ⟨B+1,8,none⟩ (.int .i64 jp.2) rfl);have HT8:Hid (((w7.setCell ⟨B+1,7,none⟩ (.int .i64 jp.1)).setCell ⟨B+1,8,none⟩ (.int .i64 jp.2)).heap[B+1]?=some (.cells #[.int .i64 kd,.string (dn mn),.int .i64 0,.int .i64 0,.int .i64 0,.slice none 0 0,.slice vo mp.length vc,.int .i64 jp.1,.int .i64 jp.2] 30 (0,0))):=aF (i:=8) (u:=.int .i64 jp.2) (aF (i:=7) (u:=.int .i64 jp.1) HF7.out.t);have Et:=hid (aC KT (by omega) HF7.out.b);have WH:=hid (HF7.out.q.trans' KT (fun b hb e=>by have:=bY.out;omega));have HR8:=hid (HF7.out.row.fr KT (fun b k e=>by have k':lb < b:=k;omega));clear KT t0 t1 t2 t3 t4 t5 t6 t7 t8 u0 u1 u2 u3 u4 u5 u6 u7 u8
      first
       | (with_reducible change Exit.then _ _ _ _ ((w7.setCell ⟨B+1,7,none⟩ (.int .i64 jp.1)).setCell ⟨B+1,8,none⟩ (.int .i64 jp.2));generalize (w7.setCell ⟨B+1,7,none⟩ (.int .i64 jp.1)).setCell ⟨B+1,8,none⟩ (.int .i64 jp.2)=W8 at *)
       | (with_reducible change Exit.then _ _ _ _ ((w7.setCell ⟨B+1,7,none⟩ (.int .i64 jp.1)).setCell ⟨B+1,8,none⟩ (.int .i64 jp.2)).drew;replace HT8:=hid (au (ah.drew _) HT8.out);replace Et:=hid (au (ah.drew _) Et.out);replace WH:=hid (WH.out.trans (ah.drew _));replace HR8:=hid (HR8.out.stay (ah.drew _));generalize ((w7.setCell ⟨B+1,7,none⟩ (.int .i64 jp.1)).setCell ⟨B+1,8,none⟩ (.int .i64 jp.2)).drew=W8 at *)
      have PW:=HT8.out;have hb8:=Et.out;obtain ⟨⟨t0,t1,t2,t3,t4,t5,t6,t7,t8⟩,u0,u1,u2,u3,u4,u5,u6,u7,u8⟩:=aW PW;obtain ⟨x0,x1,x2,x3,x4,x5,x6,x7,x8,x9,x10,x11,x12⟩:=aG hb8;have y0:=ak hb8 0;have y1:=ak hb8 1;have y2:=ak hb8 2;have y3:=ak hb8 3;have y4:=ak hb8 4;have y5:=ak hb8 5;have y6:=ak hb8 6;have y7:=ak hb8 7;have y8:=ak hb8 8;have y9:=ak hb8 9;have yX:=ak hb8 10;have yY:=ak hb8 11;have yZ:=ak hb8 12;clear PW hb8;have Zr:=hid (HR8.out.slc rfl (by unfold maxLen;omega));go_wp2_with fail;have hf:=bg W8 B (.int .i64 kd) (.string (dn mn)) (.int .i64 0) (.int .i64 0) (.int .i64 0) (.slice none 0 0) (.slice vo mp.length vc) (.int .i64 jp.1) (.int .i64 jp.2) (.int .i64 jp.1) (.int .i64 jp.2) (.int .i64 (mi:Nat)) (.int .i64 0);have dU:ah w (aN W8 B (.int .i64 kd) (.string (dn mn)) (.int .i64 0) (.int .i64 0) (.int .i64 0) (.slice none 0 0) (.slice vo mp.length vc) (.int .i64 jp.1) (.int .i64 jp.2) (.int .i64 jp.1) (.int .i64 jp.2) (.int .i64 (mi:Nat)) (.int .i64 0)):=(WH.out).trans' hf (fun k hk e=>by have:=bY.out;omega);obtain ⟨f0,f1,f2,f3,f4,f5,f6,f7,f8,f9,f10,f11,f12⟩:=aG (aK (a0:=.int .i64 kd) (a1:=.string (dn mn)) (a2:=.int .i64 0) (a3:=.int .i64 0) (a4:=.int .i64 0) (a5:=.slice none 0 0) (a6:=.slice vo mp.length vc) (a7:=.int .i64 jp.1) (a8:=.int .i64 jp.2) (a9:=.int .i64 jp.1) (a10:=.int .i64 jp.2) (a11:=.int .i64 (mi:Nat)) (a12:=.int .i64 0) Et.out);change bodyPost _ _ _ _ _ (aN W8 B (.int .i64 kd) (.string (dn mn)) (.int .i64 0) (.int .i64 0) (.int .i64 0) (.slice none 0 0) (.slice vo mp.length vc) (.int .i64 jp.1) (.int .i64 jp.2) (.int .i64 jp.1) (.int .i64 jp.2) (.int .i64 (mi:Nat)) (.int .i64 0))
      generalize aN W8 B (.int .i64 kd) (.string (dn mn)) (.int .i64 0) (.int .i64 0) (.int .i64 0) (.slice none 0 0) (.slice vo mp.length vc) (.int .i64 jp.1) (.int .i64 jp.2) (.int .i64 jp.1) (.int .i64 jp.2) (.int .i64 (mi:Nat)) (.int .i64 0)=wf at *;refine bodyPost_ret (by simp [results,Tryd.results48,go_sem,f0,f1,f2,f3,f4,f5,f6,f7,f8,f9,f10,f11,f12];rfl) rfl ?_;rw [rZ.out];exact ⟨none,0,0,vo,mp.length,vc,rfl,aB.nil _ _ _,Zr.out.fr hf (fun b _ k=>by have k':lb < b:=k;exact ⟨by have:=bY.out;show w.heap.size<=b;omega,by omega⟩),dU⟩
end Pa
end
end Go.Proofs.YtcninopmelmajaaDoor
