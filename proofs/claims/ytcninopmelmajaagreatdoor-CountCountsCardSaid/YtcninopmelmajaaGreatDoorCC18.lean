/-
  Texts laid together (PaForm, PaTok): laws and walks, with their conditions.
-/
import Derived.Deep.RegionLaw
import Derived.IntWalk
import Derived.Test.YtcninopmelmajaaGreatDoorCC6
import Derived.Test.YtcninopmelmajaaGreatDoorCC16
set_option maxHeartbeats 8000000
set_option maxRecDepth 1000000
namespace Go.Proofs.YtcninopmelmajaaGreatDoor
open Go.Lib (hid)
section
namespace Pa
open Go.RowKit Lx
def YW:Stp->ByteArray
 | .e=>⟨#[101]⟩
 | .n=>⟨#[110]⟩
 | .s t=>bW t
def Wq:List Stp:=[.e,.s XH,.e,.s XI,.e]
def Gh:List Stp:=[.n,.s Bl,.e]
def O8:List Stp:=[.n,.s sEq,.e,.s wIn,.e]
theorem KH {E : Nat -> jL} {l : List Tok} {ss : List Stp} {k : Nat} {s : Stp} (h : ss[k]? = some s) (m : Fm) : oG E l (ss.drop k) m = match oD E l m s with
    | .inr e=>.inr e
    | .inl m'=>oG E l (ss.drop (k+1)) m':=by
 obtain ⟨hk,hs⟩:=List.getElem?_eq_some_iff.1 h
 rw [List.drop_eq_getElem_cons hk,hs];rfl
def OkS (ss:List Stp):Prop:=∀ t,Stp.s t∈ss->(t == [101])=false/\(t == [110])=false
structure Ws (B tb gs:Nat) (w:World) (kd:Int) (ss:List Stp) (wx:World):Prop where
 b:wx.heap[B]?=some (.cells (z13 0 0) 129 (0,0))
 t:wx.heap[tb]?=some (.cells #[.int .i64 kd,.string ⟨#[]⟩,.int .i64 0,.int .i64 0,.int .i64 0,.slice none 0 0,.slice none 0 0,.int .i64 0,.int .i64 0] 29 (0,0))
 st:∀ j s,ss[j]?=some s->wx.cell? ⟨gs,j,none⟩=some (.string (YW s))
 lt:gs < wx.heap.size
 gt:tb < gs
 q:ah w wx
theorem Ws.kind {B tb gs:Nat} {w wx:World} {kd kd':Int} {ss:List Stp} (h:Ws B tb gs w kd ss wx) (hB:B < tb) (hw:w.heap.size<=B):Ws B tb gs w kd' ss (wx.setCell ⟨tb,0,none⟩ (.int .i64 kd')):=by
 have hf:=Fr.setCell (fun k=>k=tb) wx ⟨tb,0,none⟩ (.int .i64 kd') rfl
 have:=h.gt
 refine ⟨ay hf (by omega) h.b,aB (i:=0) (u:=.int .i64 kd') h.t,fun j s hs=>(hf.bG h.lt (by omega)).trans (h.st j s hs),by have:=hf.size;have:=h.lt;omega,h.gt,h.q.trans' hf (fun k hk e=>by omega)⟩
theorem Ws.steps {B tb gs:Nat} {w wx:World} {kd:Int} {ss ss':List Stp} {cs:Array Value} (h:Ws B tb gs w kd ss wx) (hc:∀ (j:Nat) (s:Stp),ss'[j]?=some s->cs[j]?=some (.string (YW s))):Ws B tb wx.heap.size w kd ss' (wx.alloc (.cells cs 9)):=by
 have hq:=ah.alloc wx (.cells cs 9)
 have:=lt_of_block h.t
 exact ⟨ak hq h.b,ak hq h.t,fun j s hs=>by rw [cell_of_row _ _ _ _ _ (0,0) (heap_alloc_new wx _)];exact hc j s hs,by simp,this,h.q.trans hq⟩
structure MO (B tb lb gs:Nat) (w:World) (kd:Int) (ss:List Stp) (nm:List UInt8) (vo:Option Addr) (vc:Nat) (ps:To) (xs:List Value) (hl:Nd) (p1:Option Addr) (m1 d1:Nat) (p2:Option Addr) (m2 d2:Nat) (x:Pt) (jl:Int) (wx:World):Prop where
 b:wx.heap[B]?=some (.cells (z13 0 0) 129 (0,0))
 t:wx.heap[tb]?=some (.cells #[.int .i64 kd,.string (bW nm),.int .i64 0,.int .i64 0,.int .i64 0,.slice none 0 0,.slice vo ps.length vc,.int .i64 0,.int .i64 0] 29 (0,0))
 l:wx.heap[lb]?=some (.cells (c13 hl p1 m1 d1 p2 m2 d2 x jl 0) 129 (0,0))
 st:∀ j s,ss[j]?=some s->wx.cell? ⟨gs,j,none⟩=some (.string (YW s))
 gl:gs < lb
 gt:tb < gs
 row:cZ wx (fun b=>lb < b) (.slice vo ps.length vc) ps xs
 q:ah w wx
theorem MO.stay {B tb lb gs : Nat} {w wx wy : World} {kd : Int} {ss : List Stp} {nm : List UInt8} {vo : Option Addr} {vc : Nat} {ps : To} {xs : List Value} {hl : Nd} {p1 : Option Addr} {m1 d1 : Nat} {p2 : Option Addr} {m2 d2 : Nat} {x : Pt} {jl : Int}
    (h:MO B tb lb gs w kd ss nm vo vc ps xs hl p1 m1 d1 p2 m2 d2 x jl wx) (hq:ah wx wy):MO B tb lb gs w kd ss nm vo vc ps xs hl p1 m1 d1 p2 m2 d2 x jl wy :=
 ⟨ak hq h.b,ak hq h.t,ak hq h.l,fun j s hs=>hq.at (h.st j s hs),h.gl,h.gt,h.row.stay hq,h.q.trans hq⟩
theorem MO.name {B tb lb gs : Nat} {w wx : World} {kd : Int} {ss : List Stp} {nm nm' : List UInt8} {vo : Option Addr} {vc : Nat} {ps : To} {xs : List Value} {hl : Nd} {p1 : Option Addr} {m1 d1 : Nat} {p2 : Option Addr} {m2 d2 : Nat} {x : Pt} {jl : Int}
    (h:MO B tb lb gs w kd ss nm vo vc ps xs hl p1 m1 d1 p2 m2 d2 x jl wx) (hB:B < tb) (hw:w.heap.size<=B):MO B tb lb gs w kd ss nm' vo vc ps xs hl p1 m1 d1 p2 m2 d2 x jl (wx.setCell ⟨tb,1,none⟩ (.string (bW nm'))):=by
 have hf:=Fr.setCell (fun k=>k=tb) wx ⟨tb,1,none⟩ (.string (bW nm')) rfl
 have h1:=h.gt
 have h2:=h.gl
 have h3:=lt_of_block h.l
 exact ⟨ay hf (by omega) h.b,aB (i:=1) (u:=.string (bW nm')) h.t,ay hf (by omega) h.l,fun j s hs=>(hf.bG (by omega) (by omega)).trans (h.st j s hs),h.gl,h.gt,h.row.fr hf (fun k hk e=>by omega),h.q.trans' hf (fun k hk e=>by omega)⟩
theorem MO.last {B tb lb gs : Nat} {w wx : World} {kd : Int} {ss : List Stp} {nm : List UInt8} {vo : Option Addr} {vc : Nat} {ps : To} {xs : List Value} {hl : Nd} {p1 : Option Addr} {m1 d1 : Nat} {p2 : Option Addr} {m2 d2 : Nat} {x : Pt} {jl : Int} {h2 : Nd} {r1 : Option Addr} {n1 e1 : Nat} {r2 : Option Addr} {n2 e2 : Nat} {x2 : Pt} {j2 : Int}
    (h:MO B tb lb gs w kd ss nm vo vc ps xs hl p1 m1 d1 p2 m2 d2 x jl wx) (hB:B < tb) (hw:w.heap.size<=B):MO B tb lb gs w kd ss nm vo vc ps xs h2 r1 n1 e1 r2 n2 e2 x2 j2 (aO wx lb (.int .i64 h2.k) (.string h2.nm) (.int .i64 h2.n) (.int .i64 h2.tk) (.int .i64 h2.tn) (.slice r1 n1 e1) (.slice r2 n2 e2) (.int .i64 h2.fr) (.int .i64 h2.en) (.int .i64 x2.1) (.int .i64 x2.2) (.int .i64 j2) (.int .i64 0)):=by
 have hf:=bf wx lb (.int .i64 h2.k) (.string h2.nm) (.int .i64 h2.n) (.int .i64 h2.tk) (.int .i64 h2.tn) (.slice r1 n1 e1) (.slice r2 n2 e2) (.int .i64 h2.fr) (.int .i64 h2.en) (.int .i64 x2.1) (.int .i64 x2.2) (.int .i64 j2) (.int .i64 0)
 have h1:=h.gt
 have h2':=h.gl
 have h3:=lt_of_block h.l
 exact ⟨ay hf (by omega) h.b,ay hf (by omega) h.t,aN h.l,fun j s hs=>(hf.bG (by omega) (by omega)).trans (h.st j s hs),h.gl,h.gt,h.row.fr hf (fun k hk e=>by omega),h.q.trans' hf (fun k hk e=>by omega)⟩
theorem MO.part {B tb lb gs : Nat} {w wx wy : World} {kd : Int} {ss : List Stp} {nm : List UInt8} {vo : Option Addr} {vc : Nat} {ps : To} {xs : List Value} {hl : Nd} {qs : To} {p1 : Option Addr} {m1 d1 : Nat} {p2 : Option Addr} {m2 d2 : Nat} {x : Pt} {jl : Int} {g3 c3 : Nat}
    (h:MO B tb lb gs w kd ss nm vo vc ps xs hl p1 m1 d1 p2 m2 d2 x jl wx) (hB:B < tb) (hw:w.heap.size<=B)
    (hs1:aC (fun b=>lb < b/\(Value.slice vo ps.length vc).ownBlock≠some b) wx p1 m1 hl.tp) (hs2:aY (fun b=>lb < b/\(Value.slice vo ps.length vc).ownBlock≠some b) wx p2 m2 qs)
    (ho:wy.ownsRow 0 29 9 (.slice (some ⟨g3,0,none⟩) (ps.length+1) c3) (ps.length+1) (xs++(cells9 hl p1 m1 d1 p2 m2 d2).toList)) (hf:Fr (fun k=>(Value.slice vo ps.length vc).ownBlock=some k) wx wy) (hg:(Value.slice vo ps.length vc).ownBlock=some g3∨wx.heap.size<=g3) :
    MO B tb lb gs w kd ss nm (some ⟨g3,0,none⟩) c3 (ps.app (.cons hl qs .nil)) (xs++(cells9 hl p1 m1 d1 p2 m2 d2).toList) hl p1 m1 d1 p2 m2 d2 x jl (wy.setCell ⟨tb,6,none⟩ (.slice (some ⟨g3,0,none⟩) (ps.length+1) c3)):=by
 have h1:=h.gt
 have h2:=h.gl
 have h3:=lt_of_block h.l
 have hlow:∀ b,(Value.slice vo ps.length vc).ownBlock=some b->lb < b:=h.row.low
 have hfs:=Fr.setCell (fun b=>b=tb) wy ⟨tb,6,none⟩ (.slice (some ⟨g3,0,none⟩) (ps.length+1) c3) rfl
 have hlen:(ps.app (.cons hl qs .nil)).length=ps.length+1:=by rw [To.bP];simp [To.length]
 have ht:=ay hf (fun e=>by have:=hlow _ e;omega) h.t
 refine ⟨ay hfs (by omega) (ay hf (fun e=>by have:=hlow _ e;omega) h.b),?_,ay hfs (by omega) (ay hf (fun e=>by have:=hlow _ e;omega) h.l),fun j s hs=>(hfs.bG (by have:=hf.size;omega) (by omega)).trans ((hf.bG (by omega) (fun e=>by have:=hlow _ e;omega)).trans (h.st j s hs)),h.gl,h.gt,?_,(h.q.trans' hf (fun b hb e=>by have:=hlow _ e;omega)).trans' hfs (fun b hb e=>by omega)⟩
 ·rw [hlen];exact aB (i:=6) (u:=.slice (some ⟨g3,0,none⟩) (ps.length+1) c3) ht
 ·rw [hlen];exact (cZ.snoc h.row hs1 hs2 ho hf hg (fun b hb=>by omega)).fr hfs (fun b k e=>by omega)
def YX (ts:List Tok) (i B tb:Nat) (w:World) (v:Value) (wx:World):Prop:=∃ gs,v=.slice (some ⟨gs,0,none⟩) (if bY ts i 3 sQ then Gh else Wq).length (if bY ts i 3 sQ then Gh else Wq).length/\Ws B tb gs w (if bY ts i 3 sQ then 4 else 8) (if bY ts i 3 sQ then Gh else Wq) wx
def Wu (ts:List Tok) (i B tb:Nat) (w:World) (v u:Value) (wx:World):Prop:=∃ gs,v=.slice (some ⟨gs,0,none⟩) (nK ts i).length (nK ts i).length/\u=.int .i64 (mX ts i:Nat)/\Ws B tb gs w (sS ts i) (nK ts i) wx
def aaH (E:Nat->jL) (ts:List Tok) (B tb lb gs:Nat) (w:World) (kd:Int) (ss:List Stp) (fin:Sum Fm (Nat × Nat)) (u v:Value) (wx:World):Prop :=
 ∃ (k:Nat) (m:Fm) (vo:Option Addr) (vc:Nat) (xs:List Value) (hl:Nd) (p1:Option Addr) (m1 d1:Nat) (p2:Option Addr) (m2 d2:Nat) (jl:Int),u=.int .i64 (m.i:Nat)/\v=.int .i64 (k:Nat)/\k<=ss.length/\m.i < ts.length/\m.ps.length<=k/\oG E ts (ss.drop k) m=fin/\MO B tb lb gs w kd ss m.nm vo vc m.ps xs hl p1 m1 d1 p2 m2 d2 m.x jl wx
theorem Wv (ts:List Tok) (i:Nat):(nK ts i).length<=5/\OkS (nK ts i):=by
 have h:∀ ss:List Stp,ss=Wq∨ss=Gh∨ss=O8->ss.length<=5/\OkS ss:=by
  rintro ss (rfl | rfl | rfl)
  all_goals
   refine ⟨by decide,fun t ht=>?_⟩
   simp [Wq,Gh,O8] at ht
   first
    | (rcases ht with rfl | rfl<;>decide)
    | (subst ht;decide)
 apply h
 unfold nK
 by_cases h1:bY ts i 3 Bg=true
 ·rw [if_pos h1];exact .inr (.inr rfl)
 ·rw [if_neg h1]
  by_cases h2:bY ts i 3 sQ=true
  ·rw [if_pos h2];exact .inr (.inl rfl)
  ·rw [if_neg h2];exact .inl rfl
theorem Sz (ts : List Tok) (g c : Nat) (E : Nat -> jL) (i : Nat) (lv mo : Int) (w : World) (hsh : Shut ts) (hlt : i + 1 < ts.length) (hin : ∀ j, j < ts.length -> rP ts.length j (E j)) (ht : ny w g ts) (hlv1 : -1000000 <= lv) (hlv2 : lv <= 900000)
    (hE:∀ (j:Nat) (aj:Int) (W:World),aj=j->j < ts.length->ah w W->Calls Tryz.prog 79 #[tks g ts c,.int .i64 aj,.int .i64 (lv+1),.int .i64 mo] W (iJ W (E j))) :
    Calls Tryz.prog 102 #[tks g ts c,.int .i64 i,.int .i64 lv,.int .i64 mo] w (iJ w (wU E ts i)):=by
 have hfew:=ht.few
 obtain ⟨t9,O6⟩:∃ t9,ts[i]?=some t9:=⟨_,List.getElem?_eq_getElem (by omega)⟩
 obtain ⟨W0,hW0⟩:∃ W0,W0=((w.alloc zX).alloc (.cells #[.int .i64 8,.string ⟨#[]⟩,.int .i64 0,.int .i64 0,.int .i64 0,.slice none 0 0,.slice none 0 0,.int .i64 0,.int .i64 0] 29)).alloc (.cells #[.string ⟨#[101]⟩,.string ⟨#[116,104,101,110]⟩,.string ⟨#[101]⟩,.string ⟨#[101,108,115,101]⟩,.string ⟨#[101]⟩] 9):=⟨_,rfl⟩
 have HD0:Hid (Ws w.heap.size (w.heap.size+1) (w.heap.size+1+1) w 8 Wq W0):=by
  have hq0:ah w W0:=by rw [hW0];exact ((ah.alloc _ _).trans (ah.alloc _ _)).trans (ah.alloc _ _)
  have hz1:(w.alloc zX).heap.size=w.heap.size+1:=by simp
  have hz2:((w.alloc zX).alloc (.cells #[.int .i64 8,.string ⟨#[]⟩,.int .i64 0,.int .i64 0,.int .i64 0,.slice none 0 0,.slice none 0 0,.int .i64 0,.int .i64 0] 29)).heap.size=w.heap.size+1+1:=by simp
  refine ⟨?_,?_,?_,by rw [hW0];simp,by omega,hq0⟩
  ·rw [hW0,Below.heap_alloc _ _ _ (by simp;omega),Below.heap_alloc _ _ _ (by simp)];exact heap_alloc_new w _
  ·rw [hW0,Below.heap_alloc _ _ _ (by simp),<-hz1];exact heap_alloc_new (w.alloc zX) _
  ·intro j s hs
   rw [hW0,<-hz2,cell_of_row _ _ _ _ _ (0,0) (heap_alloc_new _ _)]
   match j,hs with
   | 0,hs=>cases hs;rfl
   | 1,hs=>cases hs;rfl
   | 2,hs=>cases hs;rfl
   | 3,hs=>cases hs;rfl
   | 4,hs=>cases hs;rfl
   | j+5,hs=>simp [Wq] at hs
 have HET:=hid hE
 have kR:=hid hin
 have DC:=hid hsh
 have HSG:Hid (∀ (j:Nat) (s:ByteArray) (W:World),ah w W->Calls Tryz.prog 121 #[tks g ts c,.int .i64 j,.string s] W fun e w'=>e=.returned (.bool (bY ts j 4 s.data.toList))/\W=w'):=fun j s W hq=>BH ts g c j s W (ht.stay hq)
 have HWD:Hid (∀ (j:Nat) (s:ByteArray) (W:World),ah w W->Calls Tryz.prog 101 #[tks g ts c,.int .i64 j,.string s] W fun e w'=>e=.returned (.bool (bY ts j 3 s.data.toList))/\W=w'):=fun j s W hq=>lC ts g c j s W (ht.stay hq)
 have yw:Hid (∀ (j:Nat) (W:World),ah w W->Calls Tryz.prog 120 #[tks g ts c,.int .i64 j] W fun e w'=>e=.returned (.bool (rM ts j))/\W=w'):=fun j W hq=>OI ts g c j W (ht.stay hq)
 have acN:Hid (∀ (W:World),ah w W->Calls Tryz.prog 101 #[tks g ts c,.int .i64 i,.string ⟨#[102,117,110]⟩] W fun e w'=>e=.returned (.bool (bY ts i 3 sQ))/\W=w'):=fun W hq=>HWD.out i _ W hq
 have acO:Hid (∀ (W:World),ah w W->Calls Tryz.prog 101 #[tks g ts c,.int .i64 i,.string ⟨#[108,101,116]⟩] W fun e w'=>e=.returned (.bool (bY ts i 3 Bg))/\W=w'):=fun W hq=>HWD.out i _ W hq
 have acP:Hid (∀ (W:World),ah w W->Calls Tryz.prog 101 #[tks g ts c,.int .i64 ((i:Int)+1),.string ⟨#[114,101,99]⟩] W fun e w'=>e=.returned (.bool (bY ts (i+1) 3 VP))/\W=w'):=fun W hq=>HWD.out (i+1) _ W hq
 have Vq:Hid (∀ (j:Nat) (t:Tok),ts[j]?=some t->∀ W,ah w W->W.cell? ⟨g,j * 4,none⟩=some (.int .i64 (t.kind:Nat))/\W.cell? ⟨g,j * 4+1,none⟩=some (.string (bW t.text))/\W.cell? ⟨g,j * 4+2,none⟩=some (.int .i64 (t.fr:Nat))/\W.cell? ⟨g,j * 4+3,none⟩=some (.int .i64 (t.to:Nat))):=fun j t h W hq=>(ht.stay hq).cells j t h
 have YQ:=hid O6
 obtain ⟨fin,hfin⟩:∃ fin,oG E ts (nK ts i) ⟨[],.nil,(0,0),mX ts i⟩=fin:=⟨_,rfl⟩
 have bJ:=hid hfin
 have hform:wU E ts i=Rx ts i (sS ts i) fin:=by unfold wU;rw [hfin]
 obtain ⟨res,hres⟩:∃ res,Rx ts i (sS ts i) fin=res:=⟨_,rfl⟩
 have aW:=hid hres
 rw [hform,hres]
 have hfl:mX ts i < ts.length:=by
  unfold mX
  split
  ·next h=>rw [Bool.and_eq_true] at h;have:=dI hsh h.2 (by decide);omega
  ·omega
 have dL:=hid (Wv ts i)
 clear ht hE hin hsh O6 hfin hform hres
 go_enter Tryz.func102,Tryz.ntmps102
 go_upto_region 4 with fail
 change Code.wp _ _ _ _ (((w.alloc zX).alloc (.cells #[.int .i64 8,.string ⟨#[]⟩,.int .i64 0,.int .i64 0,.int .i64 0,.slice none 0 0,.slice none 0 0,.int .i64 0,.int .i64 0] 29)).alloc (.cells #[.string ⟨#[101]⟩,.string ⟨#[116,104,101,110]⟩,.string ⟨#[101]⟩,.string ⟨#[101,108,115,101]⟩,.string ⟨#[101]⟩] 9))
 rw [<-hW0]
 clear hW0
 generalize hB:w.heap.size=B at *
 have bM:=hid hB
 clear hB
 go_wp2_with fail
 refine (acN.out W0 HD0.out.q).mono ?_;rintro e w1 ⟨rfl,rfl⟩
 go_upto_if 20 with fail
 go_cut [10] (fun v wx=>YX ts i B (B+1) w v wx)
 case first =>
  cases h1:bY ts i 3 sQ
  case true =>
   have nH:=hid (HD0.out.steps (ss':=Gh) (cs:=#[.string ⟨#[110]⟩,.string ⟨#[45,62]⟩,.string ⟨#[101]⟩]) (by
    intro j s hs
    match j,hs with
    | 0,hs=>cases hs;rfl
    | 1,hs=>cases hs;rfl
    | 2,hs=>cases hs;rfl
    | j+3,hs=>simp [Gh] at hs))
   have HD1:=hid (nH.out.kind (kd':=4) (by omega) (by have:=bM.out;omega))
   have ht0:=nH.out.t
   obtain ⟨⟨t0,t1,t2,t3,t4,t5,t6,t7,t8⟩,u0,u1,u2,u3,u4,u5,u6,u7,u8⟩:=aT ht0
   clear ht0
   go_wp2_with fail
   go_meet
   unfold YX
   rw [h1]
   exact ⟨_,rfl,HD1.out⟩
  case false =>
   go_wp2_with fail
   go_meet
   unfold YX
   rw [h1]
   exact ⟨B+1+1,rfl,HD0.out⟩
 case rest =>
  rename World=>wa
  obtain ⟨gs,rfl,hda⟩:=hcut
  have HDA:=hid hda
  clear hda HD0
  have HSA:Hid (bY ts i 3 Bg=false->nK ts i=(if bY ts i 3 sQ then Gh else Wq)/\sS ts i=(if bY ts i 3 sQ then 4 else 8)/\mX ts i=i+1):=by
   intro h
   refine ⟨?_,?_,?_⟩
   ·unfold nK;rw [if_neg (by rw [h];simp)];rfl
   ·unfold sS;rw [if_neg (by rw [h];simp)]
   ·unfold mX;rw [if_neg (by rw [h];simp)]
  generalize (if bY ts i 3 sQ then Gh else Wq)=sa at *
  generalize (if bY ts i 3 sQ then (4:Int) else 8)=ka at *
  go_wp2_with fail
  refine (acO.out wa HDA.out.q).mono ?_;rintro e w1 ⟨rfl,rfl⟩
  go_upto_if 25 with fail
  go_cut [10,11] (fun v u wx=>Wu ts i B (B+1) w v u wx)
  case first =>
   cases h2:bY ts i 3 Bg
   case false =>
    go_wp2_with fail
    go_meet
    obtain ⟨e1,e2,e3⟩:=HSA.out h2
    unfold Wu
    rw [e1,e2,e3]
    exact ⟨gs,rfl,by go_num,HDA.out⟩
   case true =>
    have nH:=hid (HDA.out.steps (ss':=O8) (cs:=#[.string ⟨#[110]⟩,.string ⟨#[61]⟩,.string ⟨#[101]⟩,.string ⟨#[105,110]⟩,.string ⟨#[101]⟩]) (by
     intro j s hs
     match j,hs with
     | 0,hs=>cases hs;rfl
     | 1,hs=>cases hs;rfl
     | 2,hs=>cases hs;rfl
     | 3,hs=>cases hs;rfl
     | 4,hs=>cases hs;rfl
     | j+5,hs=>simp [O8] at hs))
    have HD1:=hid (nH.out.kind (kd':=6) (by omega) (by have:=bM.out;omega))
    have ht0:=nH.out.t
    obtain ⟨⟨t0,t1,t2,t3,t4,t5,t6,t7,t8⟩,u0,u1,u2,u3,u4,u5,u6,u7,u8⟩:=aT ht0
    clear ht0
    go_upto_region 8 with fail
    change Code.wp _ _ _ _ ((wa.alloc (.cells #[.string ⟨#[110]⟩,.string ⟨#[61]⟩,.string ⟨#[101]⟩,.string ⟨#[105,110]⟩,.string ⟨#[101]⟩] 9)).setCell ⟨B+1,0,none⟩ (.int .i64 6))
    clear t0 t1 t2 t3 t4 t5 t6 t7 t8 u0 u1 u2 u3 u4 u5 u6 u7 u8 nH HSA
    generalize wa.heap.size=gs2 at *
    generalize (wa.alloc (.cells #[.string ⟨#[110]⟩,.string ⟨#[61]⟩,.string ⟨#[101]⟩,.string ⟨#[105,110]⟩,.string ⟨#[101]⟩] 9)).setCell ⟨B+1,0,none⟩ (.int .i64 6)=W1 at *
    go_wp2_with fail
    refine (acP.out W1 HD1.out.q).mono ?_;rintro e w1 ⟨rfl,rfl⟩
    cases h3:bY ts (i+1) 3 VP
    case false =>
     have HE:Hid (nK ts i=O8/\sS ts i=6/\mX ts i=i+1):=by
      refine ⟨?_,?_,?_⟩
      ·unfold nK;rw [if_pos h2];rfl
      ·unfold sS;rw [if_pos h2,if_neg (by rw [h3];simp)]
      ·unfold mX;rw [if_neg (by rw [h3];simp)]
     go_wp2_with fail
     go_meet
     unfold Wu
     rw [HE.out.1,HE.out.2.1,HE.out.2.2]
     exact ⟨gs2,rfl,by go_num,HD1.out⟩
    case true =>
     have HE:Hid (nK ts i=O8/\sS ts i=7/\mX ts i=i+2):=by
      refine ⟨?_,?_,?_⟩
      ·unfold nK;rw [if_pos h2];rfl
      ·unfold sS;rw [if_pos h2,if_pos h3]
      ·unfold mX;rw [if_pos (by rw [h2,h3];rfl)]
     have ht0:=HD1.out.t
     obtain ⟨⟨t0,t1,t2,t3,t4,t5,t6,t7,t8⟩,u0,u1,u2,u3,u4,u5,u6,u7,u8⟩:=aT ht0
     have HD2:=hid (HD1.out.kind (kd':=7) (by omega) (by have:=bM.out;omega))
     clear ht0
     go_wp2_with fail
     go_meet
     unfold Wu
     rw [HE.out.1,HE.out.2.1,HE.out.2.2]
     exact ⟨gs2,rfl,by go_num,HD2.out⟩
  case rest =>
   rename World=>wb
   clear HDA HSA
   obtain ⟨gs,rfl,rfl,hdb⟩:=hcut
   obtain ⟨W2,hW2⟩:∃ W2,W2=wb.alloc zX:=⟨_,rfl⟩
   have hq2:ah wb W2:=by rw [hW2];exact ah.alloc _ _
   obtain ⟨ss,hss⟩:∃ ss,nK ts i=ss:=⟨_,rfl⟩
   obtain ⟨kd,hkd⟩:∃ kd,sS ts i=kd:=⟨_,rfl⟩
   rw [hss,hkd] at hdb
   rw [hss] at dL bJ ⊢
   rw [hkd] at aW
   have HF2:Hid (MO B (B+1) wb.heap.size gs w kd ss [] none 0 .nil [] ⟨0,⟨#[]⟩,0,0,0,.nil,0,0⟩ none 0 0 none 0 0 (0,0) 0 W2) :=
    ⟨ak hq2 hdb.b,ak hq2 hdb.t,by rw [hW2];exact heap_alloc_new wb _,fun j s hs=>hq2.at (hdb.st j s hs),hdb.lt,hdb.gt,cZ.nil _ _,hdb.q.trans hq2⟩
   go_upto_block 0 with fail
   change Code.wp _ _ _ _ (wb.alloc zX)
   rw [<-hW2]
   clear hW2 hq2 hdb hss hkd
   generalize wb.heap.size=lb at *
   have hl5:=dL.out.1
   generalize hfi:mX ts i=fi at *
   clear hfi
   go_wp2_with fail
   go_loopw [11,13] (fun u v wr=>aaH E ts B (B+1) lb gs w kd ss fin u v wr) (fun _ v _=>ss.length - (intOf v).toNat)
   case atStart=>exact ⟨0,⟨[],.nil,(0,0),fi⟩,none,0,[],_,none,0,0,none,0,0,0,rfl,rfl,Nat.zero_le _,hfl,Nat.le_refl _,bJ.out,HF2.out⟩
   case round =>
    obtain ⟨k,m,vo,vc,xs,hl,p1,m1,d1,p2,m2,d2,jl,rfl,rfl,hk,hmi,hml,hst,hfm⟩:=hrel
    obtain ⟨mn,mp,mx,mi⟩:=m
    dsimp only at hmi hml hst hfm
    have HST:=hid hst
    have zY:=hid hfm
    clear hst hfm HF2 bJ
    by_cases hlt2:k < ss.length
    ·have aaI:(k:Int) < ss.length:=by omega
     have hk0:(0:Int)<=k:=by omega
     obtain ⟨s,hs⟩:∃ s,ss[k]?=some s:=⟨_,List.getElem?_eq_getElem hlt2⟩
     have c0:=zY.out.st k s hs
     have O9:=hid ((KH hs _).symm.trans HST.out)
     cases s with
     | e =>
      have e1:((ByteArray.mk #[101]).toList == [101])=true:=by rw [ByteArray.toList_eq];rfl
      change wr.cell? ⟨gs,k,none⟩=some (.string ⟨#[101]⟩) at c0
      have HC:=HET.out mi (mi:Int) wr rfl hmi zY.out.q
      have HI2:=kR.out mi hmi
      cases hr2:E mi with
      | inr y =>
       obtain ⟨j,er⟩:=y
       rw [hr2] at HC HI2
       have hne:er≠0:=HI2.2
       have hne2:((er:Int) != 0)=true:=by simp [hne]
       have sN:Hid (res=.inr (j,er)):=by
        show _=_
        rw [<-aW.out,<-O9.out]
        show Rx ts i kd (match oD E ts ⟨mn,mp,mx,mi⟩ Stp.e with | .inr e=>.inr e | .inl m'=>_)=_
        rw [show oD E ts ⟨mn,mp,mx,mi⟩ Stp.e=.inr (j,er) from by simp only [oD,hr2]]
        rfl
       have HC2:=hid HC
       clear HC HI2 hr2
       go_wp2_with fail
       refine HC2.out.mono ?_;rintro e w5 ⟨rfl,hq5⟩
       have XK:=hid (zY.out.stay hq5)
       have jS:=XK.out.l
       obtain ⟨q0,q1,q2,q3,q4,q5,q6,q7,q8,q9,q10,q11,q12⟩:=aG jS
       have v0:=au jS 0
       have v1:=au jS 1
       have v2:=au jS 2
       have v3:=au jS 3
       have v4:=au jS 4
       have v5:=au jS 5
       have v6:=au jS 6
       have v7:=au jS 7
       have v8:=au jS 8
       have v9:=au jS 9
       have v10:=au jS 10
       have v11:=au jS 11
       have v12:=au jS 12
       go_upto_region 21 with fail
       change Code.wp _ _ _ _ (aO w5 lb (.int .i64 0) (.string ⟨#[]⟩) (.int .i64 0) (.int .i64 0) (.int .i64 0) (.slice none 0 0) (.slice none 0 0) (.int .i64 0) (.int .i64 0) (.int .i64 0) (.int .i64 0) (.int .i64 (j:Nat)) (.int .i64 (er:Nat)))
       have GZ:=bf w5 lb (.int .i64 0) (.string ⟨#[]⟩) (.int .i64 0) (.int .i64 0) (.int .i64 0) (.slice none 0 0) (.slice none 0 0) (.int .i64 0) (.int .i64 0) (.int .i64 0) (.int .i64 0) (.int .i64 (j:Nat)) (.int .i64 (er:Nat))
       have YZ:=aN (a0:=.int .i64 0) (a1:=.string ⟨#[]⟩) (a2:=.int .i64 0) (a3:=.int .i64 0) (a4:=.int .i64 0) (a5:=.slice none 0 0) (a6:=.slice none 0 0) (a7:=.int .i64 0) (a8:=.int .i64 0) (a9:=.int .i64 0) (a10:=.int .i64 0) (a11:=.int .i64 (j:Nat)) (a12:=.int .i64 (er:Nat)) jS
       have hlb:B+1 < lb:=by have:=zY.out.gt;have:=zY.out.gl;omega
       have hb6:=ay GZ (by omega) XK.out.b
       have Vm:=hid hb6
       have zG:=hid (XK.out.q.trans' GZ (fun b hb e=>by have:=bM.out;omega))
       clear GZ jS hq5 HC2 q0 v0 q1 v1 q2 v2 q3 v3 q4 v4 q5 v5 q6 v6 q7 v7 q8 v8 q9 v9 q10 v10 q11 v11 q12 v12
       generalize aO w5 lb (.int .i64 0) (.string ⟨#[]⟩) (.int .i64 0) (.int .i64 0) (.int .i64 0) (.slice none 0 0) (.slice none 0 0) (.int .i64 0) (.int .i64 0) (.int .i64 0) (.int .i64 0) (.int .i64 (j:Nat)) (.int .i64 (er:Nat))=W6 at *
       obtain ⟨q0,q1,q2,q3,q4,q5,q6,q7,q8,q9,q10,q11,q12⟩:=aG YZ
       obtain ⟨x0,x1,x2,x3,x4,x5,x6,x7,x8,x9,x10,x11,x12⟩:=aG hb6
       have y0:=au hb6 0
       have y1:=au hb6 1
       have y2:=au hb6 2
       have y3:=au hb6 3
       have y4:=au hb6 4
       have y5:=au hb6 5
       have y6:=au hb6 6
       have y7:=au hb6 7
       have y8:=au hb6 8
       have y9:=au hb6 9
       have yI:=au hb6 10
       have yJ:=au hb6 11
       have yK:=au hb6 12
       clear YZ hb6
       go_wp2_with fail
       have hf:=bf W6 B (.int .i64 0) (.string ⟨#[]⟩) (.int .i64 0) (.int .i64 0) (.int .i64 0) (.slice none 0 0) (.slice none 0 0) (.int .i64 0) (.int .i64 0) (.int .i64 0) (.int .i64 0) (.int .i64 (j:Nat)) (.int .i64 (er:Nat))
       have dN:ah w (aO W6 B (.int .i64 0) (.string ⟨#[]⟩) (.int .i64 0) (.int .i64 0) (.int .i64 0) (.slice none 0 0) (.slice none 0 0) (.int .i64 0) (.int .i64 0) (.int .i64 0) (.int .i64 0) (.int .i64 (j:Nat)) (.int .i64 (er:Nat))):=(zG.out).trans' hf (fun k hk e=>by have:=bM.out;omega)
       obtain ⟨f0,f1,f2,f3,f4,f5,f6,f7,f8,f9,f10,f11,f12⟩:=aG (aN (a0:=.int .i64 0) (a1:=.string ⟨#[]⟩) (a2:=.int .i64 0) (a3:=.int .i64 0) (a4:=.int .i64 0) (a5:=.slice none 0 0) (a6:=.slice none 0 0) (a7:=.int .i64 0) (a8:=.int .i64 0) (a9:=.int .i64 0) (a10:=.int .i64 0) (a11:=.int .i64 (j:Nat)) (a12:=.int .i64 (er:Nat)) Vm.out)
       change bodyPost _ _ _ _ _ (aO W6 B (.int .i64 0) (.string ⟨#[]⟩) (.int .i64 0) (.int .i64 0) (.int .i64 0) (.slice none 0 0) (.slice none 0 0) (.int .i64 0) (.int .i64 0) (.int .i64 0) (.int .i64 0) (.int .i64 (j:Nat)) (.int .i64 (er:Nat)))
       generalize aO W6 B (.int .i64 0) (.string ⟨#[]⟩) (.int .i64 0) (.int .i64 0) (.int .i64 0) (.slice none 0 0) (.slice none 0 0) (.int .i64 0) (.int .i64 0) (.int .i64 0) (.int .i64 0) (.int .i64 (j:Nat)) (.int .i64 (er:Nat))=wf at *
       refine bodyPost_ret (by simp [results,Tryz.results102,go_sem,f0,f1,f2,f3,f4,f5,f6,f7,f8,f9,f10,f11,f12];rfl) rfl ?_
       rw [sN.out]
       exact ⟨rfl,dN⟩
      | inl y =>
       obtain ⟨⟨h2,qs⟩,x2,j⟩:=y
       rw [hr2] at HC HI2
       have hj2:mi < j/\j < ts.length:=HI2
       have sN:Hid (oG E ts (ss.drop (k+1)) ⟨mn,mp.app (.cons h2 qs .nil),x2,j⟩=fin):=by
        show _=_
        rw [<-O9.out]
        rw [show oD E ts ⟨mn,mp,mx,mi⟩ Stp.e=.inl ⟨mn,mp.app (.cons h2 qs .nil),x2,j⟩ from by simp only [oD,hr2]]
       have HC2:=hid HC
       clear HC HI2 hr2
       go_wp2_with fail
       refine HC2.out.mono ?_;rintro e w5 ⟨r1,n1,e1',r2,n2,e2,rfl,hs5,Wp,hq5⟩
       have XK:=hid (zY.out.stay hq5)
       have jS:=XK.out.l
       obtain ⟨q0,q1,q2,q3,q4,q5,q6,q7,q8,q9,q10,q11,q12⟩:=aG jS
       have v0:=au jS 0
       have v1:=au jS 1
       have v2:=au jS 2
       have v3:=au jS 3
       have v4:=au jS 4
       have v5:=au jS 5
       have v6:=au jS 6
       have v7:=au jS 7
       have v8:=au jS 8
       have v9:=au jS 9
       have v10:=au jS 10
       have v11:=au jS 11
       have v12:=au jS 12
       go_upto_region 21 with fail
       change Code.wp _ _ _ _ (aO w5 lb (.int .i64 h2.k) (.string h2.nm) (.int .i64 h2.n) (.int .i64 h2.tk) (.int .i64 h2.tn) (.slice r1 n1 e1') (.slice r2 n2 e2) (.int .i64 h2.fr) (.int .i64 h2.en) (.int .i64 x2.1) (.int .i64 x2.2) (.int .i64 (j:Nat)) (.int .i64 0))
       have hlb:B+1 < lb:=by have:=zY.out.gt;have:=zY.out.gl;omega
       have hlw:=lt_of_block zY.out.l
       have GZ:=bf w5 lb (.int .i64 h2.k) (.string h2.nm) (.int .i64 h2.n) (.int .i64 h2.tk) (.int .i64 h2.tn) (.slice r1 n1 e1') (.slice r2 n2 e2) (.int .i64 h2.fr) (.int .i64 h2.en) (.int .i64 x2.1) (.int .i64 x2.2) (.int .i64 (j:Nat)) (.int .i64 0)
       have HF6:=hid (XK.out.last (h2:=h2) (r1:=r1) (n1:=n1) (e1:=e1') (r2:=r2) (n2:=n2) (e2:=e2) (x2:=x2) (j2:=j) (by omega) (by have:=bM.out;omega))
       have hol:∀ b,(Value.slice vo mp.length vc).ownBlock=some b->b < wr.heap.size:=fun b hb=>(zY.out.row.own.lt b hb).2
       have HS6:Hid (aC (fun b=>lb < b/\(Value.slice vo mp.length vc).ownBlock≠some b) (aO w5 lb (.int .i64 h2.k) (.string h2.nm) (.int .i64 h2.n) (.int .i64 h2.tk) (.int .i64 h2.tn) (.slice r1 n1 e1') (.slice r2 n2 e2) (.int .i64 h2.fr) (.int .i64 h2.en) (.int .i64 x2.1) (.int .i64 x2.2) (.int .i64 (j:Nat)) (.int .i64 0)) r1 n1 h2.tp):=hs5.fr GZ (fun b _ k=>by have k':wr.heap.size<=b:=k;exact ⟨⟨by omega,fun e=>by have:=hol b e;omega⟩,by omega⟩)
       have HT6:Hid (aY (fun b=>lb < b/\(Value.slice vo mp.length vc).ownBlock≠some b) (aO w5 lb (.int .i64 h2.k) (.string h2.nm) (.int .i64 h2.n) (.int .i64 h2.tk) (.int .i64 h2.tn) (.slice r1 n1 e1') (.slice r2 n2 e2) (.int .i64 h2.fr) (.int .i64 h2.en) (.int .i64 x2.1) (.int .i64 x2.2) (.int .i64 (j:Nat)) (.int .i64 0)) r2 n2 qs):=Wp.fr GZ (fun b _ k=>by have k':wr.heap.size<=b:=k;exact ⟨⟨by omega,fun e=>by have:=hol b e;omega⟩,by omega⟩)
       clear GZ jS hq5 HC2 hs5 Wp hol q0 v0 q1 v1 q2 v2 q3 v3 q4 v4 q5 v5 q6 v6 q7 v7 q8 v8 q9 v9 q10 v10 q11 v11 q12 v12
       generalize aO w5 lb (.int .i64 h2.k) (.string h2.nm) (.int .i64 h2.n) (.int .i64 h2.tk) (.int .i64 h2.tn) (.slice r1 n1 e1') (.slice r2 n2 e2) (.int .i64 h2.fr) (.int .i64 h2.en) (.int .i64 x2.1) (.int .i64 x2.2) (.int .i64 (j:Nat)) (.int .i64 0)=W6 at *
       have YZ:=HF6.out.l
       have ht6:=HF6.out.t
       obtain ⟨q0,q1,q2,q3,q4,q5,q6,q7,q8,q9,q10,q11,q12⟩:=aG YZ
       obtain ⟨⟨t0,t1,t2,t3,t4,t5,t6,t7,t8⟩,u0,u1,u2,u3,u4,u5,u6,u7,u8⟩:=aT ht6
       clear YZ ht6
       have adt:mp.length<=5:=by omega
       go_wp2_with (at_builtin;go_must (refine aP W6 rfl (.tmp 79) (.tmp 82) 25 rfl 29 _ 9 112 vU (.slice vo mp.length vc) mp.length xs rfl HF6.out.row.own (cells9 h2 r1 n1 e1' r2 n2 e2) rfl rfl (by simp [Value.oneCell']) (by unfold maxLen;omega) (by omega) ?_))
       intro g3 c3 w7 ho DT hg7
       have hlow:∀ b,(Value.slice vo mp.length vc).ownBlock=some b->lb < b:=HF6.out.row.low
       have MN:=ay DT (fun e=>by have:=hlow _ e;omega) HF6.out.t
       have Qz:=hid (HF6.out.part (by omega) (by have:=bM.out;omega) HS6.out HT6.out ho DT hg7)
       clear t0 t1 t2 t3 t4 t5 t6 t7 t8 u0 u1 u2 u3 u4 u5 u6 u7 u8 q0 q1 q2 q3 q4 q5 q6 q7 q8 q9 q10 q11 q12
       obtain ⟨⟨t0,t1,t2,t3,t4,t5,t6,t7,t8⟩,u0,u1,u2,u3,u4,u5,u6,u7,u8⟩:=aT MN
       clear MN ho DT hg7 hlow
       go_upto_region 24 with fail
       change Code.wp _ _ _ _ (w7.setCell ⟨B+1,6,none⟩ (.slice (some ⟨g3,0,none⟩) (mp.length+1) c3))
       clear t0 t1 t2 t3 t4 t5 t6 t7 t8 u0 u1 u2 u3 u4 u5 u6 u7 u8
       generalize w7.setCell ⟨B+1,6,none⟩ (.slice (some ⟨g3,0,none⟩) (mp.length+1) c3)=W8 at *
       have hl8:=Qz.out.l
       obtain ⟨q0,q1,q2,q3,q4,q5,q6,q7,q8,q9,q10,q11,q12⟩:=aG hl8
       clear hl8
       go_wp2_with fail
       go_roundw
       case rel=>exact ⟨k+1,⟨mn,mp.app (.cons h2 qs .nil),x2,j⟩,some ⟨g3,0,none⟩,c3,_,h2,r1,n1,e1',r2,n2,e2,j,rfl,by go_num,by omega,hj2.2,by show (mp.app _).length<=_;rw [To.bP];simp [To.length];omega,sN.out,Qz.out⟩
       case measure=>simp [intOf];omega
     | n =>
      have e1:((ByteArray.mk #[110]).toList == [101])=false:=by rw [ByteArray.toList_eq];rfl
      have e2:((ByteArray.mk #[110]).toList == [110])=true:=by rw [ByteArray.toList_eq];rfl
      change wr.cell? ⟨gs,k,none⟩=some (.string ⟨#[110]⟩) at c0
      go_wp2_with fail
      refine (yw.out mi wr zY.out.q).mono ?_;rintro e w4 ⟨rfl,rfl⟩
      cases hn:rM ts mi
      case false =>
       have sN:Hid (res=.inr (mi,3)):=by
        show _=_
        rw [<-aW.out,<-O9.out]
        rw [show oD E ts ⟨mn,mp,mx,mi⟩ Stp.n=.inr (mi,3) from by show (if rM ts mi=true then _ else _)=_;rw [if_neg (by rw [hn];simp)]]
        rfl
       have KA:=hid (kM (mi:Int) 3 wr)
       go_wp2_with fail
       refine KA.out.mono ?_;rintro e w8 ⟨rfl,hq8⟩
       have Qz:=hid (zY.out.stay hq8)
       have hb8:=Qz.out.b
       clear hq8
       obtain ⟨x0,x1,x2,x3,x4,x5,x6,x7,x8,x9,x10,x11,x12⟩:=aG hb8
       have y0:=au hb8 0
       have y1:=au hb8 1
       have y2:=au hb8 2
       have y3:=au hb8 3
       have y4:=au hb8 4
       have y5:=au hb8 5
       have y6:=au hb8 6
       have y7:=au hb8 7
       have y8:=au hb8 8
       have y9:=au hb8 9
       have yI:=au hb8 10
       have yJ:=au hb8 11
       have yK:=au hb8 12
       clear hb8
       go_wp2_with fail
       have hf:=bf w8 B (.int .i64 0) (.string ⟨#[]⟩) (.int .i64 0) (.int .i64 0) (.int .i64 0) (.slice none 0 0) (.slice none 0 0) (.int .i64 0) (.int .i64 0) (.int .i64 0) (.int .i64 0) (.int .i64 (mi:Nat)) (.int .i64 3)
       have dN:ah w (aO w8 B (.int .i64 0) (.string ⟨#[]⟩) (.int .i64 0) (.int .i64 0) (.int .i64 0) (.slice none 0 0) (.slice none 0 0) (.int .i64 0) (.int .i64 0) (.int .i64 0) (.int .i64 0) (.int .i64 (mi:Nat)) (.int .i64 3)):=(Qz.out.q).trans' hf (fun k hk e=>by have:=bM.out;omega)
       obtain ⟨f0,f1,f2,f3,f4,f5,f6,f7,f8,f9,f10,f11,f12⟩:=aG (aN (a0:=.int .i64 0) (a1:=.string ⟨#[]⟩) (a2:=.int .i64 0) (a3:=.int .i64 0) (a4:=.int .i64 0) (a5:=.slice none 0 0) (a6:=.slice none 0 0) (a7:=.int .i64 0) (a8:=.int .i64 0) (a9:=.int .i64 0) (a10:=.int .i64 0) (a11:=.int .i64 (mi:Nat)) (a12:=.int .i64 3) Qz.out.b)
       change bodyPost _ _ _ _ _ (aO w8 B (.int .i64 0) (.string ⟨#[]⟩) (.int .i64 0) (.int .i64 0) (.int .i64 0) (.slice none 0 0) (.slice none 0 0) (.int .i64 0) (.int .i64 0) (.int .i64 0) (.int .i64 0) (.int .i64 (mi:Nat)) (.int .i64 3))
       generalize aO w8 B (.int .i64 0) (.string ⟨#[]⟩) (.int .i64 0) (.int .i64 0) (.int .i64 0) (.slice none 0 0) (.slice none 0 0) (.int .i64 0) (.int .i64 0) (.int .i64 0) (.int .i64 0) (.int .i64 (mi:Nat)) (.int .i64 3)=wf at *
       refine bodyPost_ret (by simp [results,Tryz.results102,go_sem,f0,f1,f2,f3,f4,f5,f6,f7,f8,f9,f10,f11,f12];rfl) rfl ?_
       rw [sN.out]
       exact ⟨rfl,dN⟩
      case true =>
       have hlt3:=Ib DC.out hn
       obtain ⟨Y0,O7⟩:∃ Y0,ts[mi]?=some Y0:=⟨_,List.getElem?_eq_getElem hmi⟩
       have sN:Hid (oG E ts (ss.drop (k+1)) ⟨Y0.text,mp,mx,mi+1⟩=fin):=by
        show _=_
        rw [<-O9.out]
        rw [show oD E ts ⟨mn,mp,mx,mi⟩ Stp.n=.inl ⟨Y0.text,mp,mx,mi+1⟩ from by show (if rM ts mi=true then Sum.inl (Fm.mk (txt ts mi) mp mx (mi+1)) else _)=_;rw [if_pos hn];unfold txt;rw [O7]]
       obtain ⟨k0,k1,k2,k3⟩:=Vq.out mi Y0 O7 wr zY.out.q
       have hi':(mi:Int) < ts.length:=by omega
       have hi0:(0:Int)<=mi:=by omega
       have Qz:=hid (zY.out.name (nm':=Y0.text) (by omega) (by have:=bM.out;omega))
       have Wp:=zY.out.t
       obtain ⟨⟨t0,t1,t2,t3,t4,t5,t6,t7,t8⟩,u0,u1,u2,u3,u4,u5,u6,u7,u8⟩:=aT Wp
       clear Wp O7
       go_wp2_with fail
       go_roundw
       case rel=>exact ⟨k+1,⟨Y0.text,mp,mx,mi+1⟩,vo,vc,_,hl,p1,m1,d1,p2,m2,d2,jl,by go_num,by go_num,by omega,hlt3,by show mp.length<=_;omega,sN.out,Qz.out⟩
       case measure=>simp [intOf];omega
     | s t =>
      have hok:=dL.out.2 t (List.mem_of_getElem? hs)
      have e1:((bW t).toList == [101])=false:=by rw [ByteArray.toList_eq];exact hok.1
      have e2:((bW t).toList == [110])=false:=by rw [ByteArray.toList_eq];exact hok.2
      have HW1:=hid (HWD.out mi (bW t) wr zY.out.q)
      have Qv:=hid (HSG.out mi (bW t) wr zY.out.q)
      change Hid (Calls _ _ _ _ fun e w'=>e=.returned (.bool (bY ts mi 3 t))/\wr=w') at HW1
      change Hid (Calls _ _ _ _ fun e w'=>e=.returned (.bool (bY ts mi 4 t))/\wr=w') at Qv
      change wr.cell? ⟨gs,k,none⟩=some (.string (bW t)) at c0
      have hlt3:bY ts mi 3 t=true∨bY ts mi 4 t=true->mi+1 < ts.length:=fun h=>h.elim (fun h=>dI DC.out h (by decide)) (fun h=>dI DC.out h (by decide))
      have sN:Hid ((bY ts mi 3 t || bY ts mi 4 t)=true->oG E ts (ss.drop (k+1)) ⟨mn,mp,mx,mi+1⟩=fin):=fun hh=>by
       rw [<-O9.out]
       rw [show oD E ts ⟨mn,mp,mx,mi⟩ (Stp.s t)=.inl ⟨mn,mp,mx,mi+1⟩ from by show (if (bY ts mi 3 t || bY ts mi 4 t)=true then _ else _)=_;rw [if_pos hh]]
      have HFN:Hid ((bY ts mi 3 t || bY ts mi 4 t)=false->res=.inr (mi,3)):=fun hh=>by
       rw [<-aW.out,<-O9.out]
       rw [show oD E ts ⟨mn,mp,mx,mi⟩ (Stp.s t)=.inr (mi,3) from by show (if (bY ts mi 3 t || bY ts mi 4 t)=true then _ else _)=_;rw [if_neg (by rw [hh];simp)]]
       rfl
      generalize bY ts mi 3 t=b3 at *
      generalize bY ts mi 4 t=b4 at *
      go_wp2_with fail
      refine HW1.out.mono ?_;rintro e w4 ⟨rfl,rfl⟩
      cases b3
      case true =>
       have hlt4:=hlt3 (.inl rfl)
       go_wp2_with fail
       go_roundw
       case rel=>exact ⟨k+1,⟨mn,mp,mx,mi+1⟩,vo,vc,_,hl,p1,m1,d1,p2,m2,d2,jl,by go_num,by go_num,by omega,hlt4,by show mp.length<=_;omega,sN.out rfl,zY.out⟩
       case measure=>simp [intOf];omega
      case false =>
       go_wp2_with fail
       refine Qv.out.mono ?_;rintro e w4 ⟨rfl,rfl⟩
       cases b4
       case true =>
        have hlt4:=hlt3 (.inr rfl)
        go_wp2_with fail
        go_roundw
        case rel=>exact ⟨k+1,⟨mn,mp,mx,mi+1⟩,vo,vc,_,hl,p1,m1,d1,p2,m2,d2,jl,by go_num,by go_num,by omega,hlt4,by show mp.length<=_;omega,sN.out rfl,zY.out⟩
        case measure=>simp [intOf];omega
       case false =>
        have KA:=hid (kM (mi:Int) 3 wr)
        have acQ:Hid (res=.inr (mi,3)):=HFN.out rfl
        go_wp2_with fail
        refine KA.out.mono ?_;rintro e w8 ⟨rfl,hq8⟩
        have Qz:=hid (zY.out.stay hq8)
        have hb8:=Qz.out.b
        clear hq8
        obtain ⟨x0,x1,x2,x3,x4,x5,x6,x7,x8,x9,x10,x11,x12⟩:=aG hb8
        have y0:=au hb8 0
        have y1:=au hb8 1
        have y2:=au hb8 2
        have y3:=au hb8 3
        have y4:=au hb8 4
        have y5:=au hb8 5
        have y6:=au hb8 6
        have y7:=au hb8 7
        have y8:=au hb8 8
        have y9:=au hb8 9
        have yI:=au hb8 10
        have yJ:=au hb8 11
        have yK:=au hb8 12
        clear hb8
        go_wp2_with fail
        have hf:=bf w8 B (.int .i64 0) (.string ⟨#[]⟩) (.int .i64 0) (.int .i64 0) (.int .i64 0) (.slice none 0 0) (.slice none 0 0) (.int .i64 0) (.int .i64 0) (.int .i64 0) (.int .i64 0) (.int .i64 (mi:Nat)) (.int .i64 3)
        have dN:ah w (aO w8 B (.int .i64 0) (.string ⟨#[]⟩) (.int .i64 0) (.int .i64 0) (.int .i64 0) (.slice none 0 0) (.slice none 0 0) (.int .i64 0) (.int .i64 0) (.int .i64 0) (.int .i64 0) (.int .i64 (mi:Nat)) (.int .i64 3)):=(Qz.out.q).trans' hf (fun k hk e=>by have:=bM.out;omega)
        obtain ⟨f0,f1,f2,f3,f4,f5,f6,f7,f8,f9,f10,f11,f12⟩:=aG (aN (a0:=.int .i64 0) (a1:=.string ⟨#[]⟩) (a2:=.int .i64 0) (a3:=.int .i64 0) (a4:=.int .i64 0) (a5:=.slice none 0 0) (a6:=.slice none 0 0) (a7:=.int .i64 0) (a8:=.int .i64 0) (a9:=.int .i64 0) (a10:=.int .i64 0) (a11:=.int .i64 (mi:Nat)) (a12:=.int .i64 3) Qz.out.b)
        change bodyPost _ _ _ _ _ (aO w8 B (.int .i64 0) (.string ⟨#[]⟩) (.int .i64 0) (.int .i64 0) (.int .i64 0) (.slice none 0 0) (.slice none 0 0) (.int .i64 0) (.int .i64 0) (.int .i64 0) (.int .i64 0) (.int .i64 (mi:Nat)) (.int .i64 3))
        generalize aO w8 B (.int .i64 0) (.string ⟨#[]⟩) (.int .i64 0) (.int .i64 0) (.int .i64 0) (.slice none 0 0) (.slice none 0 0) (.int .i64 0) (.int .i64 0) (.int .i64 0) (.int .i64 0) (.int .i64 (mi:Nat)) (.int .i64 3)=wf at *
        refine bodyPost_ret (by simp [results,Tryz.results102,go_sem,f0,f1,f2,f3,f4,f5,f6,f7,f8,f9,f10,f11,f12];rfl) rfl ?_
        rw [acQ.out]
        exact ⟨rfl,dN⟩
    ·have aaI:¬ (k:Int) < ss.length:=by omega
     have sN:Hid (res=.inl ((nd kd mn 0 (aV (at' ts i) mx),mp),aV (at' ts i) mx,mi)):=by
      show _=_
      rw [<-aW.out,<-HST.out,show ss.drop k=[] from List.drop_eq_nil_of_le (by omega)]
      rfl
     have HJ:Hid (∀ W,Calls Tryz.prog 105 #[.agg #[.int .i64 (t9.fr:Nat),.int .i64 (t9.to:Nat)],.agg #[.int .i64 mx.1,.int .i64 mx.2]] W fun e w'=>e=.returned (.agg #[.int .i64 (aV (at' ts i) mx).1,.int .i64 (aV (at' ts i) mx).2])/\ah W w'):=fun W=>by
      have:=BJ (t9.fr:Nat) (t9.to:Nat) mx.1 mx.2 W
      rw [show at' ts i=(((t9.fr:Nat):Int),((t9.to:Nat):Int)) from by unfold at';rw [YQ.out]]
      exact this
     obtain ⟨k0,k1,k2,k3⟩:=Vq.out i t9 YQ.out wr zY.out.q
     have hi':(i:Int) < ts.length:=by omega
     have hi0:(0:Int)<=i:=by omega
     have hlb:B+1 < lb:=by have:=zY.out.gt;have:=zY.out.gl;omega
     have hl8:=zY.out.l
     obtain ⟨q0,q1,q2,q3,q4,q5,q6,q7,q8,q9,q10,q11,q12⟩:=aG hl8
     clear hl8
     generalize aV (at' ts i) mx=jp at *
     have hqc:=ah.refl wr
     go_upto_region 30 with fail
     go_region_law (first
      | (go_simp;go_at_call 105;(with_reducible refine Calls.mono (HJ.out _) ?_);rintro e w7 ⟨rfl,hq7⟩;have hqw:ah wr w7:=ah.trans (by (repeat with_reducible first | exact hqc | exact ah.refl _ | refine jq ?_ | refine jr ?_)) hq7;have HF7:=hid (zY.out.stay hqw);have MN:=HF7.out.t;obtain ⟨⟨t0,t1,t2,t3,t4,t5,t6,t7,t8⟩,u0,u1,u2,u3,u4,u5,u6,u7,u8⟩:=aT MN;clear hqw hq7 MN)
      | fail)
     all_goals
      have JD:Fr (fun b=>b=B+1) w7 ((w7.setCell ⟨B+1,7,none⟩ (.int .i64 jp.1)).setCell ⟨B+1,8,none⟩ (.int .i64 jp.2)):=(Fr.setCell (fun b=>b=B+1) w7 ⟨B+1,7,none⟩ (.int .i64 jp.1) rfl).trans (Fr.setCell (fun b=>b=B+1) _ ⟨B+1,8,none⟩ (.int .i64 jp.2) rfl)
      have HT8:Hid (((w7.setCell ⟨B+1,7,none⟩ (.int .i64 jp.1)).setCell ⟨B+1,8,none⟩ (.int .i64 jp.2)).heap[B+1]?=some (.cells #[.int .i64 kd,.string (bW mn),.int .i64 0,.int .i64 0,.int .i64 0,.slice none 0 0,.slice vo mp.length vc,.int .i64 jp.1,.int .i64 jp.2] 29 (0,0))):=aB (i:=8) (u:=.int .i64 jp.2) (aB (i:=7) (u:=.int .i64 jp.1) HF7.out.t)
      have G5:=hid (ay JD (by omega) HF7.out.b)
      have Pg:=hid (HF7.out.q.trans' JD (fun b hb e=>by have:=bM.out;omega))
      have HR8:=hid (HF7.out.row.fr JD (fun b k e=>by have k':lb < b:=k;omega))
      clear JD t0 t1 t2 t3 t4 t5 t6 t7 t8 u0 u1 u2 u3 u4 u5 u6 u7 u8
      first
       | (with_reducible change Exit.then _ _ _ _ ((w7.setCell ⟨B+1,7,none⟩ (.int .i64 jp.1)).setCell ⟨B+1,8,none⟩ (.int .i64 jp.2));generalize (w7.setCell ⟨B+1,7,none⟩ (.int .i64 jp.1)).setCell ⟨B+1,8,none⟩ (.int .i64 jp.2)=W8 at *)
       | (with_reducible change Exit.then _ _ _ _ ((w7.setCell ⟨B+1,7,none⟩ (.int .i64 jp.1)).setCell ⟨B+1,8,none⟩ (.int .i64 jp.2)).drew;replace HT8:=hid (ak (ah.drew _) HT8.out);replace G5:=hid (ak (ah.drew _) G5.out);replace Pg:=hid (Pg.out.trans (ah.drew _));replace HR8:=hid (HR8.out.stay (ah.drew _));generalize ((w7.setCell ⟨B+1,7,none⟩ (.int .i64 jp.1)).setCell ⟨B+1,8,none⟩ (.int .i64 jp.2)).drew=W8 at *)
      have O7:=HT8.out
      have hb8:=G5.out
      obtain ⟨⟨t0,t1,t2,t3,t4,t5,t6,t7,t8⟩,u0,u1,u2,u3,u4,u5,u6,u7,u8⟩:=aT O7
      obtain ⟨x0,x1,x2,x3,x4,x5,x6,x7,x8,x9,x10,x11,x12⟩:=aG hb8
      have y0:=au hb8 0
      have y1:=au hb8 1
      have y2:=au hb8 2
      have y3:=au hb8 3
      have y4:=au hb8 4
      have y5:=au hb8 5
      have y6:=au hb8 6
      have y7:=au hb8 7
      have y8:=au hb8 8
      have y9:=au hb8 9
      have yI:=au hb8 10
      have yJ:=au hb8 11
      have yK:=au hb8 12
      clear O7 hb8
      have HSP:=hid (HR8.out.slc rfl (by unfold maxLen;omega))
      go_wp2_with fail
      have hf:=bf W8 B (.int .i64 kd) (.string (bW mn)) (.int .i64 0) (.int .i64 0) (.int .i64 0) (.slice none 0 0) (.slice vo mp.length vc) (.int .i64 jp.1) (.int .i64 jp.2) (.int .i64 jp.1) (.int .i64 jp.2) (.int .i64 (mi:Nat)) (.int .i64 0)
      have dN:ah w (aO W8 B (.int .i64 kd) (.string (bW mn)) (.int .i64 0) (.int .i64 0) (.int .i64 0) (.slice none 0 0) (.slice vo mp.length vc) (.int .i64 jp.1) (.int .i64 jp.2) (.int .i64 jp.1) (.int .i64 jp.2) (.int .i64 (mi:Nat)) (.int .i64 0)):=(Pg.out).trans' hf (fun k hk e=>by have:=bM.out;omega)
      obtain ⟨f0,f1,f2,f3,f4,f5,f6,f7,f8,f9,f10,f11,f12⟩:=aG (aN (a0:=.int .i64 kd) (a1:=.string (bW mn)) (a2:=.int .i64 0) (a3:=.int .i64 0) (a4:=.int .i64 0) (a5:=.slice none 0 0) (a6:=.slice vo mp.length vc) (a7:=.int .i64 jp.1) (a8:=.int .i64 jp.2) (a9:=.int .i64 jp.1) (a10:=.int .i64 jp.2) (a11:=.int .i64 (mi:Nat)) (a12:=.int .i64 0) G5.out)
      change bodyPost _ _ _ _ _ (aO W8 B (.int .i64 kd) (.string (bW mn)) (.int .i64 0) (.int .i64 0) (.int .i64 0) (.slice none 0 0) (.slice vo mp.length vc) (.int .i64 jp.1) (.int .i64 jp.2) (.int .i64 jp.1) (.int .i64 jp.2) (.int .i64 (mi:Nat)) (.int .i64 0))
      generalize aO W8 B (.int .i64 kd) (.string (bW mn)) (.int .i64 0) (.int .i64 0) (.int .i64 0) (.slice none 0 0) (.slice vo mp.length vc) (.int .i64 jp.1) (.int .i64 jp.2) (.int .i64 jp.1) (.int .i64 jp.2) (.int .i64 (mi:Nat)) (.int .i64 0)=wf at *
      refine bodyPost_ret (by simp [results,Tryz.results102,go_sem,f0,f1,f2,f3,f4,f5,f6,f7,f8,f9,f10,f11,f12];rfl) rfl ?_
      rw [sN.out]
      exact ⟨none,0,0,vo,mp.length,vc,rfl,aC.nil _ _ _,HSP.out.fr hf (fun b _ k=>by have k':lb < b:=k;exact ⟨by have:=bM.out;show w.heap.size<=b;omega,by omega⟩),dN⟩
end Pa
end
section
namespace Pa
open Lx
theorem MP {p:UInt8->Bool} {c:UInt8} {r:List UInt8} (h:p c=false):bU p (c::r)=0:=by simp [bU,h]
theorem BM {p:UInt8->Bool} {c:UInt8} {r:List UInt8} (h:p c=true):bU p (c::r)=bU p r+1:=by simp [bU,h]
theorem EC (p:UInt8->Bool):∀ l:List UInt8,bU p (l.take (bU p l))=bU p l
 | []=>rfl
 | c::r=>by
  cases h:p c
  ·rw [MP h];rfl
  ·rw [BM h,List.take_succ_cons,BM h,EC p r]
theorem BN (p:UInt8->Bool):∀ l:List UInt8,∀ c∈l.take (bU p l),p c=true
 | [],c,h=>by simp at h
 | d::r,c,h=>by
  cases hd:p d
  ·rw [MP hd] at h;simp at h
  ·rw [BM hd,List.take_succ_cons] at h
   rcases List.mem_cons.1 h with e | e
   ·subst e;exact hd
   ·exact BN p r c e
def Wx (t:Tok):Prop:=(t.kind=1->nameB t.text=true)/\(t.kind=2->t.text.length<=9/\∀ c∈t.text,dJ c=true)
theorem Ph {l:List UInt8} (h:(nextL l).2.2=0) (a:Nat):Wx ⟨(nextL l).1,l.take (nextL l).2.1,a,a+(nextL l).2.1⟩:=by
 cases l with
 | nil=>simp [nextL] at h
 | cons c r =>
  unfold nextL at h ⊢
  simp only at h ⊢
  cases h1:dU c
  ·simp only [h1,Bool.false_eq_true,if_false] at h ⊢
   cases h2:dJ c
   ·simp only [h2,Bool.false_eq_true,if_false] at h ⊢
    cases h3:uY c
    ·simp only [h3,Bool.false_eq_true,if_false] at h ⊢
     split
     ·exact ⟨fun e=>by simp at e,fun e=>by simp at e⟩
     ·exact ⟨fun e=>by simp at e,fun e=>by simp at e⟩
    ·simp only [if_true] at h ⊢
     exact ⟨fun e=>by simp at e,fun e=>by simp at e⟩
   ·simp only [h2,if_true] at h ⊢
    split
    ·exact ⟨fun e=>by simp at e,fun e=>by simp at e⟩
    ·split
     ·exact ⟨fun e=>by simp at e,fun e=>by simp at e⟩
     ·next h4 =>
      refine ⟨fun e=>by simp at e,fun _=>⟨?_,BN dJ (c::r)⟩⟩
      have:=nO dJ (c::r)
      simp only [List.length_take]
      omega
  ·simp only [h1,if_true] at h ⊢
   split
   ·exact ⟨fun e=>by simp at e,fun e=>by simp at e⟩
   ·next h2 =>
    split
    ·exact ⟨fun e=>by simp at e,fun e=>by simp at e⟩
    ·next h3 =>
     refine ⟨fun _=>?_,fun e=>by simp at e⟩
     have hle:=nO bg (c::r)
     have hp:0 < bU bg (c::r):=qA (pU h1)
     have hln:((c::r).take (bU bg (c::r))).length=bU bg (c::r):=by rw [List.length_take];omega
     show nameB ((c::r).take (bU bg (c::r)))=true
     unfold nameB
     rw [EC,hln]
     have hg:eU dU ((c::r).take (bU bg (c::r)))=true:=by
      obtain ⟨k,hk⟩:∃ k,bU bg (c::r)=k+1:=⟨bU bg (c::r) - 1,by omega⟩
      rw [hk,List.take_succ_cons];exact h1
     have hk:JI ((c::r).take (bU bg (c::r)))=false:=by simpa using h2
     rw [hg,hk]
     simp
     omega
def Y1 (s:List UInt8) (t:Tok):Prop:=t.kind≠0->t.fr < t.to/\t.to<=s.length/\t.text=(s.drop t.fr).take (t.to - t.fr)
theorem zI (s:List UInt8):∀ (f a:Nat) (l:List UInt8) (ts:List Tok),s.drop a=l->a<=s.length->iG f a l=.inl ts->∀ t∈ts,Wx t/\Y1 s t
 | 0,a,l,ts,hs,ha,h=>by
  unfold iG at h
  cases h
  intro t ht
  simp at ht
  subst ht
  exact ⟨⟨fun e=>by simp [lg] at e,fun e=>by simp [lg] at e⟩,fun e=>absurd rfl e⟩
 | f+1,a,l,ts,hs,ha,h=>by
  have hend:∀ n,Wx (lg n)/\Y1 s (lg n):=fun n=>⟨⟨fun e=>by simp [lg] at e,fun e=>by simp [lg] at e⟩,fun e=>absurd rfl e⟩
  unfold iG at h
  simp only at h
  split at h
  ·cases h
   intro t ht
   simp at ht
   subst ht
   exact hend _
  ·split at h
   ·cases h
   ·next hn =>
    have hn0:(nextL (l.drop (aQ false l))).2.2=0:=Decidable.not_not.1 hn
    have hlen:=qB hn0
    have hll:l.length=s.length - a:=by rw [<-hs,List.length_drop]
    have hdl:(l.drop (aQ false l)).length=l.length - aQ false l:=List.length_drop
    have hsk:=mP false l
    have hd:s.drop (a+aQ false l)=l.drop (aQ false l):=by rw [<-hs,List.drop_drop]
    split at h
    ·next ts' he =>
     have ih:=zI s f _ _ ts' (by rw [<-List.drop_drop,hd]) (by omega) he
     cases h
     intro t ht
     rcases List.mem_cons.1 ht with e | e
     ·subst e
      refine ⟨Ph hn0 _,fun _=>⟨?_,?_,?_⟩⟩
      ·show a+aQ false l < a+aQ false l+(nextL (l.drop (aQ false l))).2.1;omega
      ·show a+aQ false l+(nextL (l.drop (aQ false l))).2.1<=s.length;omega
      ·show (l.drop (aQ false l)).take _=(s.drop (a+aQ false l)).take (a+aQ false l+(nextL (l.drop (aQ false l))).2.1 - (a+aQ false l))
       rw [hd];congr 1;omega
     ·exact ih t e
    ·cases h
theorem KI {s:List UInt8} {ts:List Tok} (h:jY s=.inl ts):∀ t∈ts,Wx t/\Y1 s t:=zI s _ 0 s ts rfl (Nat.zero_le _) h
end Pa
end
end Go.Proofs.YtcninopmelmajaaGreatDoor
